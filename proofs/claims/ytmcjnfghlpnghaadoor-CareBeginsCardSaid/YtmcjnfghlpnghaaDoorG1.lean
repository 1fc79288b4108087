/- What the row's condition gives: the table of kinds; the end of every law: true, and each argument reads as it did. -/
import Derived.Test.YtmcjnfghlpnghaaDoorE1
import Derived.Test.YtmcjnfghlpnghaaDoorRows
import Derived.ProofKit
import Derived.LaidMore
import Derived.Stop.Joined
import Derived.Lib.SmallJoins
import Derived.OpenShut
import Derived.Carry
namespace Go.Proofs.YtmcjnfghlpnghaaDoor
open Go.ChangeShapes Go.WideShapes Go.ChangeAt Go.RowKit Go

theorem own : ownKnob Tryd.prog.godebug = none := by kernel_rfl
theorem gKinds : Tryd.prog.globalNamed "guideway/care.kinds" = some 0 := by kernel_rfl
theorem tKinds : (Tryd.prog.globals[0]?).map (·.type) = some 197 := by kernel_rfl
theorem cells196 : Tryd.prog.cellsOf 196 = 4 := by kernel_rfl
theorem cells197 : Tryd.prog.cellsOf 197 = 32 := by kernel_rfl
theorem cells9 : Tryd.prog.cellsOf 9 = 1 := by kernel_rfl
theorem cells4 : Tryd.prog.cellsOf 4 = 1 := by kernel_rfl
theorem cells194 : Tryd.prog.cellsOf 194 = 1 := by kernel_rfl
theorem laidOut : laidOutB Tryd.prog = true := by kernel_rfl

theorem list4 {α : Type} {l : List α} (h : l.length = 4) : ∃ c0 c1 c2 c3, l = [c0, c1, c2, c3] := by
  match l, h with
  | [c0, c1, c2, c3], _ => exact ⟨c0, c1, c2, c3, rfl⟩

/-- one row of the table -/
theorem kind_row {W : World} {sp : Nat → Bool} {fuel : Nat} {cs : List Value} {y : DataW (List UInt8) × List MemPlace} {s : List UInt8} {b1 b2 : Bool} {b : UInt8} {r : List UInt8} {f0 : FuncId}
    (h : DataW.trod (funcToken Tryd.prog) Tryd.prog W 0 sp true fuel 196 cs = some y) (hy : y.1 = .agg [.lit (.string s), .lit (.bool b1), .lit (.bool b2), .held (b :: r)])
    (hone : ((List.range Tryd.prog.funcs.size).filter fun f => (Tryd.prog.funcs[f]?).any (·.name.toUTF8.data.toList == b :: r)) = [f0]) :
    cs = [strB s, .bool b1, .bool b2, .func (.func f0) #[] #[]] := by
  obtain ⟨y0, y1, y2, y3, n, rfl, hl, h0, h1, h2, h3⟩ := Joins.trod_struct4 Tryd.underlying196 h
  rw [cells196] at hl
  obtain ⟨c0, c1, c2, c3, rfl⟩ := list4 hl
  · simp only [cells9, cells4, cells194, List.drop_zero, List.take_succ_cons, List.take_zero, List.drop_succ_cons] at h0 h1 h2 h3
    simp only [DataW.agg.injEq, List.cons.injEq, and_true] at hy
    obtain ⟨e0, e1, e2, e3⟩ := hy
    obtain ⟨z0, p0⟩ := y0
    obtain ⟨z1, p1⟩ := y1
    obtain ⟨z2, p2⟩ := y2
    obtain ⟨z3, p3⟩ := y3
    simp only at e0 e1 e2 e3
    subst e0 e1 e2 e3
    have k3 := func_of_trod Tryd.underlying194 hone h3
    have k0 : c0 = strB s := by
      cases n with
      | zero => simp [DataW.trod] at h0
      | succ n =>
        cases c0 <;> simp [DataW.trod, Tryd.underlying9] at h0
        obtain ⟨_, hs, _⟩ := h0
        simp [strB, ← hs]
    have kb : ∀ {c : Value} {bb : Bool} {q : List MemPlace}, DataW.trod (funcToken Tryd.prog) Tryd.prog W 0 sp true n 4 [c] = some (.lit (.bool bb), q) → c = .bool bb := by
      intro c bb q hq
      cases n with
      | zero => simp [DataW.trod] at hq
      | succ n =>
        cases c <;> simp [DataW.trod, Tryd.underlying4] at hq
        rw [hq.1]
    rw [k0, k3, kb h1, kb h2]

theorem kinds_of_laid {W : World} (h : laidMetH Tryd.prog [("guideway/care.kinds", Rows.laid_guideway_care_kinds)] W) : KindsAt W := by
  obtain ⟨g, t, cs, fuel, p, hg, ht, hv, hd⟩ := h.funcs (List.mem_singleton.2 rfl)
  obtain rfl := Option.some.inj (gKinds.symm.trans hg)
  obtain rfl := Option.some.inj (tKinds.symm.trans ht)
  obtain ⟨xs, m, _, hx, hl, hlen, hel⟩ := DataW.trod_array Tryd.underlying197 hd
  rw [cells197] at hl
  simp only [Prod.mk.injEq] at hx
  have hx1 := hx.1
  simp only [DataW.funcsOut, DataW.funcsOutAll, DataW.agg.injEq, if_pos, beq_self_eq_true] at hx1
  rw [cells196] at hel
  have row : ∀ (i : Nat) (s : List UInt8) (b1 b2 : Bool) (b : UInt8) (r : List UInt8) (f0 : FuncId), i < 8 → (xs.map (·.1))[i]? = some (.agg [.lit (.string s), .lit (.bool b1), .lit (.bool b2), .held (b :: r)]) →
      ((List.range Tryd.prog.funcs.size).filter fun f => (Tryd.prog.funcs[f]?).any (·.name.toUTF8.data.toList == b :: r)) = [f0] →
      (cs.toList.drop (i * 4)).take 4 = [strB s, .bool b1, .bool b2, .func (.func f0) #[] #[]] := by
    intro i s b1 b2 b r f0 hi hm hone
    have h1 := hel i hi
    rw [List.getElem?_map] at hm
    cases hy : xs[i]? with
    | none => rw [hy] at hm; simp at hm
    | some y =>
      rw [hy] at hm h1
      exact kind_row h1 (by simpa using hm) hone
  rw [← hx1] at row
  have r0 := row 0 _ _ _ _ _ 223 (by omega) rfl (by kernel_rfl)
  have r1 := row 1 _ _ _ _ _ 224 (by omega) rfl (by kernel_rfl)
  have r2 := row 2 _ _ _ _ _ 225 (by omega) rfl (by kernel_rfl)
  have r3 := row 3 _ _ _ _ _ 226 (by omega) rfl (by kernel_rfl)
  have r4 := row 4 _ _ _ _ _ 227 (by omega) rfl (by kernel_rfl)
  have r5 := row 5 _ _ _ _ _ 228 (by omega) rfl (by kernel_rfl)
  have r6 := row 6 _ _ _ _ _ 229 (by omega) rfl (by kernel_rfl)
  have r7 := row 7 _ _ _ _ _ 230 (by omega) rfl (by kernel_rfl)
  have hall : cs.toList = kindCells := by
    have e : cs.toList = (cs.toList.drop (0 * 4)).take 4 ++ ((cs.toList.drop (1 * 4)).take 4 ++ ((cs.toList.drop (2 * 4)).take 4 ++ ((cs.toList.drop (3 * 4)).take 4 ++ ((cs.toList.drop (4 * 4)).take 4 ++ ((cs.toList.drop (5 * 4)).take 4 ++ ((cs.toList.drop (6 * 4)).take 4 ++ (cs.toList.drop (7 * 4)).take 4)))))) := by
      generalize cs.toList = l at *
      have cut : ∀ (i : Nat) (t : List Value), l.drop ((i + 1) * 4) = t → l.drop (i * 4) = (l.drop (i * 4)).take 4 ++ t := by
        intro i t ht
        rw [← ht, show (i + 1) * 4 = i * 4 + 4 by omega, ← List.drop_drop]
        exact (List.take_append_drop 4 _).symm
      have h7 : l.drop (7 * 4) = (l.drop (7 * 4)).take 4 := by
        rw [List.take_of_length_le]
        simp
        omega
      have := cut 0 _ (cut 1 _ (cut 2 _ (cut 3 _ (cut 4 _ (cut 5 _ (cut 6 _ h7))))))
      simpa using this
    rw [e, r0, r1, r2, r3, r4, r5, r6, r7]
    rfl
  intro k u hk
  rw [World.var?_cell hg hv k, ← hall] at *
  rw [← Array.getElem?_toList]
  exact hk

/-- the arguments read behind the call as ahead of it -/
theorem trodAll_below {P : Program} (hlo : laidOutB P = true) {H : Type} {enc : TypeId × Value → H} {W W' : World} (hb : Below W.heap.size W W') : ∀ (ts : List TypeId) (vs : List Value) (ds : List (DataW H)) (ps : List MemPlace),
    (∀ t ∈ ts, P.readableRec t = true ∧ t < P.types.size) → DataW.TrodAll enc P W 0 (fun _ => true) true ts vs ds ps → (∀ x ∈ ps, x.block < W.heap.size) →
    DataW.TrodAll enc P W' 0 (fun b => decide (b < W.heap.size)) true ts vs ds ps
  | [], [], [], _, _, h, _ => h
  | t :: ts, v :: vs, d :: ds, ps, ht, h, hlt => by
    obtain ⟨p, q, h1, h2, rfl⟩ := h
    have ht0 := ht t (by simp)
    exact ⟨p, q, Below.trod hlo ht0.1 ht0.2 h1 hb (fun x hx => hlt x (by simp [hx])), trodAll_below hlo hb ts vs ds q (fun x hx => ht x (by simp [hx])) h2 (fun x hx => hlt x (by simp [hx])), rfl⟩
  | [], [], _ :: _, _, _, h, _ => h.elim
  | [], _ :: _, _, _, _, h, _ => h.elim
  | _ :: _, [], _, _, _, h, _ => h.elim
  | _ :: _, _ :: _, [], _, _, h, _ => h.elim

theorem law_end {H : Type} {enc : TypeId × Value → H} {f : Func} {s : ChangeSpec} {W W' : World} {args : Array Value} {ds : List (DataW H)} {before : List MemPlace}
    (hvars : s.vars = []) (hW : DataW.Whole enc Tryd.prog f.params.toList s.vars false W args.toList ds [] before) (hfn : s.fn H (ds ++ []) = { results := [.lit (.bool true)], args := ds })
    (hr : f.resultTypes = #[4]) (ht : ∀ t ∈ f.params.toList, Tryd.prog.readableRec t = true ∧ t < Tryd.prog.types.size) (hb : Below W.heap.size W W') :
    s.post enc Tryd.prog f false true false false W args (.bool true) W' := by
  have hW' := hW
  obtain ⟨p, q, hA, hV, rfl, hfz, hnd⟩ := hW
  have hlt : ∀ x ∈ p, x.block < W.heap.size := fun x hx => hW'.lt x (by simp [hx])
  refine ⟨ds, [], _, [], p, [], hW', ?_, ?_, ?_, hb.frame _, fun h => by cases h⟩
  · rw [hfn, hr]
    exact trodAll_mk1 (shut_bool Tryd.underlying4 _)
  · rw [hfn]
    exact trodAll_below laidOut hb _ _ _ _ ht hA hlt
  · rw [hfn, hvars]
    rfl

/-- The door's own heap meets the condition. -/
theorem door_met (os : Os) (args : Array Value) : laidMetH Tryd.prog [("guideway/care.kinds", Rows.laid_guideway_care_kinds)] ((World.doorLaid Tryd.prog 600 os).forCall (fun _ _ => 0) ⟨#[], args, []⟩).memory :=
  laidMetH_of_parts3 (fuel := 8) (laidMet_of_run' 8 (by kernel_rfl) (by kernel_rfl)) (by kernel_rfl) (by kernel_rfl)
end Go.Proofs.YtmcjnfghlpnghaaDoor
