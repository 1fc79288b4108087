/- Arguments opened: a track, and a service. -/
import Derived.Test.YtnnnpijepdjanaaF1
import Derived.Test.YtnnnpijepdjanaaM1
namespace Go.Proofs.Ytnnnpijepdjanaa
open Go.ChangeShapes Go.WideShapes Go.Deep Go.RowKit Go Go.Joins

section
variable {H : Type} {enc : TypeId × Value → H} {w : World} {base : Nat} {spare : Nat → Bool} {held : Bool}

theorem ofc4 : Try.prog.cellsOf 4 = 1 := by kernel_rfl
theorem ofc110 : Try.prog.cellsOf 110 = 4 := by kernel_rfl
theorem ofc44 : Try.prog.cellsOf 44 = 3 := by kernel_rfl
theorem ofc46 : Try.prog.cellsOf 46 = 5 := by kernel_rfl
theorem ofc30 : Try.prog.cellsOf 30 = 1 := by kernel_rfl
theorem flat_ints : ∀ l : List Int, l.flatMap (fun n : Int => [Value.int .i64 n]) = intCells l
  | [] => rfl
  | a :: l => by rw [List.flatMap_cons, flat_ints l]; rfl
theorem open_ints {fuel : Nat} {cs : List Value} {x : DataW H × List MemPlace} (h : DataW.trod enc Try.prog w base spare held fuel 30 cs = some x) :
    ∃ A n c, ∃ l : List Int, cs = [.slice A n c] ∧ l.length = n ∧ n ≤ maxLen ∧ Rd w w.heap.size A (intCells l) := by
  obtain ⟨A, n, c, l, h1, h2, h3, h4⟩ := open_rows (P := Try.prog) (k := 1) (fun n : Int => [Value.int .i64 n]) Try.underlying30 ofc3 (fun _ => rfl) (fun n cs' y hy => by
    obtain ⟨b, hb, _⟩ := DataW.trod_int Try.underlying3 hy
    exact ⟨b, hb⟩) h
  refine ⟨A, n, c, l, h1, h2, h3, ?_⟩
  rw [← flat_ints]
  exact h4
set_option maxRecDepth 100000 in
theorem open_piece {n : Nat} {cs : List Value} {y : DataW H × List MemPlace} (h : DataW.trod enc Try.prog w base spare held n 110 cs = some y) : ∃ e : Pc, cs = pcVals e := by
  obtain ⟨xs, n, _, _, hl, hlen, hf⟩ := DataW.trod_struct Try.underlying110 h
  match xs, hlen with
  | [y0, y1, y2, y3], _ =>
    rw [ofc110] at hl
    match cs, hl with
    | [a, b, c, d], _ =>
      have h0 : DataW.trod enc Try.prog w base spare held n 3 (([a, b, c, d].drop 0).take (Try.prog.cellsOf 3)) = some y0 := hf 0 _ rfl
      have h1 : DataW.trod enc Try.prog w base spare held n 3 (([a, b, c, d].drop 1).take (Try.prog.cellsOf 3)) = some y1 := hf 1 _ rfl
      have h2 : DataW.trod enc Try.prog w base spare held n 3 (([a, b, c, d].drop 2).take (Try.prog.cellsOf 3)) = some y2 := hf 2 _ rfl
      have h3 : DataW.trod enc Try.prog w base spare held n 4 (([a, b, c, d].drop 3).take (Try.prog.cellsOf 4)) = some y3 := hf 3 _ rfl
      rw [ofc3] at h0 h1 h2
      rw [ofc4] at h3
      simp only [List.drop_zero, List.take_succ_cons, List.take_zero, List.drop_succ_cons] at h0 h1 h2 h3
      obtain ⟨i0, e0, _⟩ := DataW.trod_int Try.underlying3 h0
      obtain ⟨i1, e1, _⟩ := DataW.trod_int Try.underlying3 h1
      obtain ⟨i2, e2, _⟩ := DataW.trod_int Try.underlying3 h2
      obtain ⟨i3, e3, _⟩ := DataW.trod_bool Try.underlying4 h3
      simp only [List.cons.injEq, and_true] at e0 e1 e2 e3
      subst e0 e1 e2 e3
      exact ⟨⟨i0, i1, i2, i3⟩, rfl⟩
theorem open_pieces {fuel : Nat} {cs : List Value} {x : DataW H × List MemPlace} (h : DataW.trod enc Try.prog w base spare held fuel 40 cs = some x) :
    ∃ A n c, ∃ l : List Pc, cs = [.slice A n c] ∧ l.length = n ∧ n ≤ maxLen ∧ Rd w w.heap.size A (pcCells l) :=
  open_rows (P := Try.prog) (k := 4) pcVals Try.underlying40 ofc110 (fun _ => rfl) (fun _ _ _ hy => open_piece hy) h
set_option maxRecDepth 100000 in
theorem open_track {r : Reach} {b0 : Nat} {v : Value} {d : DataW H} {p : List MemPlace} (hv : Value.okWide Try.prog w r b0 42 v) (h : DataW.Trod enc Try.prog w base spare held 42 v d p) :
    ∃ nm Ap np cp, ∃ pcs : List Pc, v = trackV nm Ap np cp ∧ np ≤ cp ∧ (pcs.length = np ∧ Rd w w.heap.size Ap (pcCells pcs)) := by
  obtain ⟨v0, v1, y0, y1, n, rfl, h0, h1⟩ := open_agg2s Try.underlying42 (by kernel_rfl) (by kernel_rfl) hv h
  obtain ⟨nm, e0, _⟩ := DataW.trod_string Try.underlying9 h0
  obtain ⟨Ap, np, cp, pcs, e1, lp, mp, rp⟩ := open_pieces h1
  simp only [List.cons.injEq, and_true] at e0 e1
  subst e0 e1
  exact ⟨nm, Ap, np, cp, pcs, rfl, cap_of Try.underlying40 h1, lp, rp⟩
set_option maxRecDepth 100000 in
theorem open_system {n : Nat} {cs : List Value} {y : DataW H × List MemPlace} (h : DataW.trod enc Try.prog w base spare held n 44 cs = some y) : ∃ s : Sy, cs = [.int .i64 s.brake, .int .i64 s.drag, .int .i64 s.drive] := by
  obtain ⟨xs, n, _, _, hl, hlen, hf⟩ := DataW.trod_struct Try.underlying44 h
  match xs, hlen with
  | [y0, y1, y2], _ =>
    rw [ofc44] at hl
    match cs, hl with
    | [a, b, c], _ =>
      have h0 : DataW.trod enc Try.prog w base spare held n 3 (([a, b, c].drop 0).take (Try.prog.cellsOf 3)) = some y0 := hf 0 _ rfl
      have h1 : DataW.trod enc Try.prog w base spare held n 3 (([a, b, c].drop 1).take (Try.prog.cellsOf 3)) = some y1 := hf 1 _ rfl
      have h2 : DataW.trod enc Try.prog w base spare held n 3 (([a, b, c].drop 2).take (Try.prog.cellsOf 3)) = some y2 := hf 2 _ rfl
      rw [ofc3] at h0 h1 h2
      simp only [List.drop_zero, List.take_succ_cons, List.take_zero, List.drop_succ_cons] at h0 h1 h2
      obtain ⟨i0, e0, _⟩ := DataW.trod_int Try.underlying3 h0
      obtain ⟨i1, e1, _⟩ := DataW.trod_int Try.underlying3 h1
      obtain ⟨i2, e2, _⟩ := DataW.trod_int Try.underlying3 h2
      simp only [List.cons.injEq, and_true] at e0 e1 e2
      subst e0 e1 e2
      exact ⟨⟨i0, i1, i2⟩, rfl⟩
set_option maxRecDepth 100000 in
theorem open_service {r : Reach} {b0 : Nat} {v : Value} {d : DataW H} {p : List MemPlace} (hv : Value.okWide Try.prog w r b0 46 v) (h : DataW.Trod enc Try.prog w base spare held 46 v d p) :
    ∃ (s : Sy) (As : Option Addr) (ns cs : Nat) (T : Int) (l : List Int), v = .agg #[.int .i64 s.brake, .int .i64 s.drag, .int .i64 s.drive, .slice As ns cs, .int .i64 T] ∧ (l.length = ns ∧ Rd w w.heap.size As (intCells l)) := by
  obtain ⟨cs, rfl, hsz⟩ := okWide_struct Try.underlying46 hv
  obtain ⟨cl⟩ := cs
  match cl, hsz.trans ofc46 with
  | [c0, c1, c2, c3, c4], _ =>
    obtain ⟨fuel, hf0⟩ := h
    obtain ⟨xs, n, _, _, hl, hlen, hf⟩ := DataW.trod_struct Try.underlying46 hf0
    match xs, hlen with
    | [y0, y1, y2], _ =>
      have h0 : DataW.trod enc Try.prog w base spare held n 44 (([c0, c1, c2, c3, c4].drop 0).take (Try.prog.cellsOf 44)) = some y0 := hf 0 _ rfl
      have h1 : DataW.trod enc Try.prog w base spare held n 30 (([c0, c1, c2, c3, c4].drop 3).take (Try.prog.cellsOf 30)) = some y1 := hf 1 _ rfl
      have h2 : DataW.trod enc Try.prog w base spare held n 3 (([c0, c1, c2, c3, c4].drop 4).take (Try.prog.cellsOf 3)) = some y2 := hf 2 _ rfl
      rw [ofc44] at h0
      rw [ofc30] at h1
      rw [ofc3] at h2
      simp only [List.drop_zero, List.take_succ_cons, List.take_zero, List.drop_succ_cons] at h0 h1 h2
      obtain ⟨s, e0⟩ := open_system h0
      obtain ⟨As, ns, cc, l, e1, hl1, _, hr⟩ := open_ints h1
      obtain ⟨T, e2, _⟩ := DataW.trod_int Try.underlying3 h2
      simp only [List.cons.injEq, and_true] at e0 e1 e2
      obtain ⟨rfl, rfl, rfl⟩ := e0
      subst e1 e2
      exact ⟨s, As, ns, cc, T, l, rfl, hl1, hr⟩
end
end Go.Proofs.Ytnnnpijepdjanaa
