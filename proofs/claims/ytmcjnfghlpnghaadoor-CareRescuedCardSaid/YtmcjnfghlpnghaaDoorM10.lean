/- Arguments opened: a rescue. Arguments opened: two numbers in an array. -/
import Derived.Test.YtmcjnfghlpnghaaDoorM4
import Derived.Test.YtmcjnfghlpnghaaDoorW1
namespace Go.Proofs.YtmcjnfghlpnghaaDoor
open Go.ChangeShapes Go.WideShapes Go.Deep Go.RowKit Go Go.Joins

section
variable {H : Type} {enc : TypeId × Value → H} {w : World} {base : Nat} {spare : Nat → Bool} {held : Bool}

theorem ofc143 : Tryd.prog.cellsOf 143 = 2 := by kernel_rfl
def depVals (d : Dep) : List Value := [.int .i64 d.1, .int .i64 d.2]
set_option maxRecDepth 100000 in
theorem open_depot {n : Nat} {cs : List Value} {y : DataW H × List MemPlace} (h : DataW.trod enc Tryd.prog w base spare held n 143 cs = some y) : ∃ e : Dep, cs = depVals e := by
  obtain ⟨xs, m, _, hx, hl, hlen, hg⟩ := DataW.trod_struct Tryd.underlying143 h
  rw [ofc143] at hl
  match cs, hl with
  | [a, b], _ =>
    match xs, hlen with
    | [y0, y1], _ =>
      have h0 : DataW.trod enc Tryd.prog w base spare held m 3 (List.take (Tryd.prog.cellsOf 3) (List.drop 0 [a, b])) = some y0 := hg 0 _ rfl
      have h1 : DataW.trod enc Tryd.prog w base spare held m 3 (List.take (Tryd.prog.cellsOf 3) (List.drop 1 [a, b])) = some y1 := hg 1 _ rfl
      rw [ofc3] at h0 h1
      simp only [List.drop_zero, List.take_succ_cons, List.take_zero, List.drop_succ_cons] at h0 h1
      obtain ⟨i, e0, _⟩ := DataW.trod_int Tryd.underlying3 h0
      obtain ⟨j, e1, _⟩ := DataW.trod_int Tryd.underlying3 h1
      simp only [List.cons.injEq, and_true] at e0 e1
      subst e0 e1
      exact ⟨(i, j), rfl⟩
theorem open_depots {fuel : Nat} {cs : List Value} {x : DataW H × List MemPlace} (h : DataW.trod enc Tryd.prog w base spare held fuel 105 cs = some x) :
    ∃ A n c, ∃ l : List Dep, cs = [.slice A n c] ∧ l.length = n ∧ n ≤ maxLen ∧ Rd w w.heap.size A (depCells l) :=
  open_rows (P := Tryd.prog) (k := 2) depVals Tryd.underlying105 ofc143 (fun _ => rfl) (fun _ _ _ hy => open_depot hy) h

set_option maxRecDepth 100000 in
theorem open_rescue {r : Reach} {b0 : Nat} {v : Value} {d : DataW H} {p : List MemPlace} (hv : Value.okWide Tryd.prog w r b0 107 v) (h : DataW.Trod enc Tryd.prog w base spare held 107 v d p) :
    ∃ (L : Int) (A : Option Addr) (n c : Nat) (l : List Dep), v = .agg #[.int .i64 L, .slice A n c] ∧ n ≤ maxLen ∧ (l.length = n ∧ Rd w w.heap.size A (depCells l)) := by
  obtain ⟨v0, v1, y0, y1, n, rfl, h0, h1⟩ := open_agg2s Tryd.underlying107 (by kernel_rfl) (by kernel_rfl) hv h
  obtain ⟨L, e0, _⟩ := DataW.trod_int Tryd.underlying3 h0
  obtain ⟨A, n, c, l, e1, ll, ml, rl⟩ := open_depots h1
  simp only [List.cons.injEq, and_true] at e0 e1
  subst e0 e1
  exact ⟨L, A, n, c, l, rfl, ml, ll, rl⟩
end
end Go.Proofs.YtmcjnfghlpnghaaDoor

namespace Go.Proofs.YtmcjnfghlpnghaaDoor
open Go.ChangeShapes Go.WideShapes Go.Deep Go.RowKit Go Go.Joins

section
variable {H : Type} {enc : TypeId × Value → H} {w : World} {base : Nat} {spare : Nat → Bool} {held : Bool}

theorem trod_array2 {P : Program} {t e : TypeId} {fuel : Nat} {c0 c1 : Value} {x : DataW H × List MemPlace} (ht : P.underlying t = some (.array 2 e)) (hce : P.cellsOf e = 1)
    (h : DataW.trod enc P w base spare held fuel t [c0, c1] = some x) :
    ∃ y0 y1 n, x = (.agg [y0.1, y1.1], y0.2 ++ y1.2) ∧ DataW.trod enc P w base spare held n e [c0] = some y0 ∧ DataW.trod enc P w base spare held n e [c1] = some y1 := by
  cases fuel with
  | zero => simp [DataW.trod] at h
  | succ n =>
    unfold DataW.trod at h
    rw [ht] at h
    have r2 : List.range 2 = [0, 1] := rfl
    simp [r2, hce] at h
    obtain ⟨_, h⟩ := h
    cases h0 : DataW.trod enc P w base spare held n e [c0] with
    | none => simp [h0] at h
    | some y0 =>
      cases h1 : DataW.trod enc P w base spare held n e [c1] with
      | none => simp [h0, h1] at h
      | some y1 =>
        simp [h0, h1] at h
        exact ⟨y0, y1, n, h.symm, h0, h1⟩

set_option maxRecDepth 100000 in
theorem open_arr2 {r : Reach} {b0 : Nat} {v : Value} {d : DataW H} {p : List MemPlace} (hv : Value.okWide Tryd.prog w r b0 108 v) (h : DataW.Trod enc Tryd.prog w base spare held 108 v d p) :
    ∃ a b : Int, v = .agg #[.int .i64 a, .int .i64 b] := by
  have hC : Tryd.prog.cellsOf 108 = 2 := by kernel_rfl
  simp only [Value.okWide, Tryd.underlying108] at hv
  obtain ⟨cs, rfl, hsz, _⟩ := hv
  obtain ⟨l⟩ := cs
  match l, hsz.trans hC with
  | [c0, c1], _ =>
    obtain ⟨fuel, hf⟩ := h
    obtain ⟨y0, y1, n, _, h0, h1⟩ := trod_array2 Tryd.underlying108 ofc3 hf
    obtain ⟨a, e0, _⟩ := DataW.trod_int Tryd.underlying3 h0
    obtain ⟨b, e1, _⟩ := DataW.trod_int Tryd.underlying3 h1
    simp only [List.cons.injEq, and_true] at e0 e1
    subst e0 e1
    exact ⟨a, b, rfl⟩
end
end Go.Proofs.YtmcjnfghlpnghaaDoor
