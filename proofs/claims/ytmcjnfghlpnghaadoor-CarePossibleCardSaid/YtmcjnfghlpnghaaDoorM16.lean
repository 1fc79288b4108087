/- What the row's condition gives: the table of kinds; the end of every law: true, and each argument reads as it did. The closed facts of a row, one by one; the card's. Arguments opened: slices of structs, slices of bools, a state. Arguments opened: a state. Arguments opened: what is asked. -/
import Derived.Test.YtmcjnfghlpnghaaDoorE1
import Derived.Test.YtmcjnfghlpnghaaDoorRows
import Derived.ProofKit
import Derived.LaidMore
import Derived.Stop.Joined
import Derived.Lib.SmallJoins
import Derived.OpenShut
import Derived.Carry
import Derived.JoinedOf
import Derived.Test.YtmcjnfghlpnghaaDoorD3
import Derived.Deep.Slices
import Derived.Deep.Strs
import Derived.ChangeSame
namespace Go.Proofs.YtmcjnfghlpnghaaDoor
open Go.ChangeShapes Go.WideShapes Go.ChangeAt Go.RowKit Go

theorem own : ownKnob Tryd.prog.godebug = none := by kernel_rfl
theorem gKinds : Tryd.prog.globalNamed "guideway/care.kinds" = some 0 := by kernel_rfl
theorem tKinds : (Tryd.prog.globals[0]?).map (·.type) = some 197 := by kernel_rfl
theorem cells196 : Tryd.prog.cellsOf 196 = 4 := by kernel_rfl
theorem cells197 : Tryd.prog.cellsOf 197 = 32 := by kernel_rfl
theorem cells9 : Tryd.prog.cellsOf 9 = 1 := by kernel_rfl
theorem cells4 : Tryd.prog.cellsOf 4 = 1 := by kernel_rfl
theorem cells194 : Tryd.prog.cellsOf 194 = 1 := by kernel_rfl
theorem laidOut : laidOutB Tryd.prog = true := by kernel_rfl

theorem list4 {α : Type} {l : List α} (h : l.length = 4) : ∃ c0 c1 c2 c3, l = [c0, c1, c2, c3] := by
  match l, h with
  | [c0, c1, c2, c3], _ => exact ⟨c0, c1, c2, c3, rfl⟩

/-- one row of the table -/
theorem kind_row {W : World} {sp : Nat → Bool} {fuel : Nat} {cs : List Value} {y : DataW (List UInt8) × List MemPlace} {s : List UInt8} {b1 b2 : Bool} {b : UInt8} {r : List UInt8} {f0 : FuncId}
    (h : DataW.trod (funcToken Tryd.prog) Tryd.prog W 0 sp true fuel 196 cs = some y) (hy : y.1 = .agg [.lit (.string s), .lit (.bool b1), .lit (.bool b2), .held (b :: r)])
    (hone : ((List.range Tryd.prog.funcs.size).filter fun f => (Tryd.prog.funcs[f]?).any (·.name.toUTF8.data.toList == b :: r)) = [f0]) :
    cs = [strB s, .bool b1, .bool b2, .func (.func f0) #[] #[]] := by
  obtain ⟨y0, y1, y2, y3, n, rfl, hl, h0, h1, h2, h3⟩ := Joins.trod_struct4 Tryd.underlying196 h
  rw [cells196] at hl
  obtain ⟨c0, c1, c2, c3, rfl⟩ := list4 hl
  · simp only [cells9, cells4, cells194, List.drop_zero, List.take_succ_cons, List.take_zero, List.drop_succ_cons] at h0 h1 h2 h3
    simp only [DataW.agg.injEq, List.cons.injEq, and_true] at hy
    obtain ⟨e0, e1, e2, e3⟩ := hy
    obtain ⟨z0, p0⟩ := y0
    obtain ⟨z1, p1⟩ := y1
    obtain ⟨z2, p2⟩ := y2
    obtain ⟨z3, p3⟩ := y3
    simp only at e0 e1 e2 e3
    subst e0 e1 e2 e3
    have k3 := func_of_trod Tryd.underlying194 hone h3
    have k0 : c0 = strB s := by
      cases n with
      | zero => simp [DataW.trod] at h0
      | succ n =>
        cases c0 <;> simp [DataW.trod, Tryd.underlying9] at h0
        obtain ⟨_, hs, _⟩ := h0
        simp [strB, ← hs]
    have kb : ∀ {c : Value} {bb : Bool} {q : List MemPlace}, DataW.trod (funcToken Tryd.prog) Tryd.prog W 0 sp true n 4 [c] = some (.lit (.bool bb), q) → c = .bool bb := by
      intro c bb q hq
      cases n with
      | zero => simp [DataW.trod] at hq
      | succ n =>
        cases c <;> simp [DataW.trod, Tryd.underlying4] at hq
        rw [hq.1]
    rw [k0, k3, kb h1, kb h2]

theorem kinds_of_laid {W : World} (h : laidMetH Tryd.prog [("guideway/care.kinds", Rows.laid_guideway_care_kinds)] W) : KindsAt W := by
  obtain ⟨g, t, cs, fuel, p, hg, ht, hv, hd⟩ := h.funcs (List.mem_singleton.2 rfl)
  obtain rfl := Option.some.inj (gKinds.symm.trans hg)
  obtain rfl := Option.some.inj (tKinds.symm.trans ht)
  obtain ⟨xs, m, _, hx, hl, hlen, hel⟩ := DataW.trod_array Tryd.underlying197 hd
  rw [cells197] at hl
  simp only [Prod.mk.injEq] at hx
  have hx1 := hx.1
  simp only [DataW.funcsOut, DataW.funcsOutAll, DataW.agg.injEq, if_pos, beq_self_eq_true] at hx1
  rw [cells196] at hel
  have row : ∀ (i : Nat) (s : List UInt8) (b1 b2 : Bool) (b : UInt8) (r : List UInt8) (f0 : FuncId), i < 8 → (xs.map (·.1))[i]? = some (.agg [.lit (.string s), .lit (.bool b1), .lit (.bool b2), .held (b :: r)]) →
      ((List.range Tryd.prog.funcs.size).filter fun f => (Tryd.prog.funcs[f]?).any (·.name.toUTF8.data.toList == b :: r)) = [f0] →
      (cs.toList.drop (i * 4)).take 4 = [strB s, .bool b1, .bool b2, .func (.func f0) #[] #[]] := by
    intro i s b1 b2 b r f0 hi hm hone
    have h1 := hel i hi
    rw [List.getElem?_map] at hm
    cases hy : xs[i]? with
    | none => rw [hy] at hm; simp at hm
    | some y =>
      rw [hy] at hm h1
      exact kind_row h1 (by simpa using hm) hone
  rw [← hx1] at row
  have r0 := row 0 _ _ _ _ _ 223 (by omega) rfl (by kernel_rfl)
  have r1 := row 1 _ _ _ _ _ 224 (by omega) rfl (by kernel_rfl)
  have r2 := row 2 _ _ _ _ _ 225 (by omega) rfl (by kernel_rfl)
  have r3 := row 3 _ _ _ _ _ 226 (by omega) rfl (by kernel_rfl)
  have r4 := row 4 _ _ _ _ _ 227 (by omega) rfl (by kernel_rfl)
  have r5 := row 5 _ _ _ _ _ 228 (by omega) rfl (by kernel_rfl)
  have r6 := row 6 _ _ _ _ _ 229 (by omega) rfl (by kernel_rfl)
  have r7 := row 7 _ _ _ _ _ 230 (by omega) rfl (by kernel_rfl)
  have hall : cs.toList = kindCells := by
    have e : cs.toList = (cs.toList.drop (0 * 4)).take 4 ++ ((cs.toList.drop (1 * 4)).take 4 ++ ((cs.toList.drop (2 * 4)).take 4 ++ ((cs.toList.drop (3 * 4)).take 4 ++ ((cs.toList.drop (4 * 4)).take 4 ++ ((cs.toList.drop (5 * 4)).take 4 ++ ((cs.toList.drop (6 * 4)).take 4 ++ (cs.toList.drop (7 * 4)).take 4)))))) := by
      generalize cs.toList = l at *
      have cut : ∀ (i : Nat) (t : List Value), l.drop ((i + 1) * 4) = t → l.drop (i * 4) = (l.drop (i * 4)).take 4 ++ t := by
        intro i t ht
        rw [← ht, show (i + 1) * 4 = i * 4 + 4 by omega, ← List.drop_drop]
        exact (List.take_append_drop 4 _).symm
      have h7 : l.drop (7 * 4) = (l.drop (7 * 4)).take 4 := by
        rw [List.take_of_length_le]
        simp
        omega
      have := cut 0 _ (cut 1 _ (cut 2 _ (cut 3 _ (cut 4 _ (cut 5 _ (cut 6 _ h7))))))
      simpa using this
    rw [e, r0, r1, r2, r3, r4, r5, r6, r7]
    rfl
  intro k u hk
  rw [World.var?_cell hg hv k, ← hall] at *
  rw [← Array.getElem?_toList]
  exact hk

/-- the arguments read behind the call as ahead of it -/
theorem trodAll_below {P : Program} (hlo : laidOutB P = true) {H : Type} {enc : TypeId × Value → H} {W W' : World} (hb : Below W.heap.size W W') : ∀ (ts : List TypeId) (vs : List Value) (ds : List (DataW H)) (ps : List MemPlace),
    (∀ t ∈ ts, P.readableRec t = true ∧ t < P.types.size) → DataW.TrodAll enc P W 0 (fun _ => true) true ts vs ds ps → (∀ x ∈ ps, x.block < W.heap.size) →
    DataW.TrodAll enc P W' 0 (fun b => decide (b < W.heap.size)) true ts vs ds ps
  | [], [], [], _, _, h, _ => h
  | t :: ts, v :: vs, d :: ds, ps, ht, h, hlt => by
    obtain ⟨p, q, h1, h2, rfl⟩ := h
    have ht0 := ht t (by simp)
    exact ⟨p, q, Below.trod hlo ht0.1 ht0.2 h1 hb (fun x hx => hlt x (by simp [hx])), trodAll_below hlo hb ts vs ds q (fun x hx => ht x (by simp [hx])) h2 (fun x hx => hlt x (by simp [hx])), rfl⟩
  | [], [], _ :: _, _, _, h, _ => h.elim
  | [], _ :: _, _, _, _, h, _ => h.elim
  | _ :: _, [], _, _, _, h, _ => h.elim
  | _ :: _, _ :: _, [], _, _, h, _ => h.elim

theorem law_end {H : Type} {enc : TypeId × Value → H} {f : Func} {s : ChangeSpec} {W W' : World} {args : Array Value} {ds : List (DataW H)} {before : List MemPlace}
    (hvars : s.vars = []) (hW : DataW.Whole enc Tryd.prog f.params.toList s.vars false W args.toList ds [] before) (hfn : s.fn H (ds ++ []) = { results := [.lit (.bool true)], args := ds })
    (hr : f.resultTypes = #[4]) (ht : ∀ t ∈ f.params.toList, Tryd.prog.readableRec t = true ∧ t < Tryd.prog.types.size) (hb : Below W.heap.size W W') :
    s.post enc Tryd.prog f false true false false W args (.bool true) W' := by
  have hW' := hW
  obtain ⟨p, q, hA, hV, rfl, hfz, hnd⟩ := hW
  have hlt : ∀ x ∈ p, x.block < W.heap.size := fun x hx => hW'.lt x (by simp [hx])
  refine ⟨ds, [], _, [], p, [], hW', ?_, ?_, ?_, hb.frame _, fun h => by cases h⟩
  · rw [hfn, hr]
    exact trodAll_mk1 (shut_bool Tryd.underlying4 _)
  · rw [hfn]
    exact trodAll_below laidOut hb _ _ _ _ ht hA hlt
  · rw [hfn, hvars]
    rfl

/-- The door's own heap meets the condition. -/
theorem door_met (os : Os) (args : Array Value) : laidMetH Tryd.prog [("guideway/care.kinds", Rows.laid_guideway_care_kinds)] ((World.doorLaid Tryd.prog 600 os).forCall (fun _ _ => 0) ⟨#[], args, []⟩).memory :=
  laidMetH_of_parts3 (fuel := 8) (laidMet_of_run' 8 (by kernel_rfl) (by kernel_rfl)) (by kernel_rfl) (by kernel_rfl)
end Go.Proofs.YtmcjnfghlpnghaaDoor

namespace Go.Proofs.YtmcjnfghlpnghaaDoor
open Go.ChangeShapes Go.WideShapes Go.ChangeAt Go.RowKit Go

theorem facts_of {P : Program} {f : FuncId} {fn : Func} {s : ChangeSpec} {c : OpenClaim} (h1 : c.wf (OpenSpec.ofChange s) = true) (h2 : laidOutB P = true) (h3 : mapsRowed P = true)
    (h4 : fn.params.all (P.readableRec ·) = true) (h5 : namedTie P c.named s.vars = true) (h6 : (c.stops == []) = true) (h7 : (P.stops == []) = true) (h8 : (c.knobs == []) = true) (h9 : (P.stopKnobs == []) = true)
    (h10 : (c.inPlace == P.inPlace f) = true) (h11 : (c.unfollowed == P.unfollowed f) = true) (h12 : (c.recurses == P.recurses f) = true) (h13 : (c.named == P.varsNamed f) = true)
    (h14 : ((c.maps == (fn.params.toList ++ s.plain.varTypes P).any (P.mapsRec ·)) && (c.ifaces == (fn.params.toList ++ s.plain.varTypes P).any (P.ifacesRec ·)) && (c.mapsOut == P.mapsAmong fn.resultTypes.toList)) = true)
    (h17 : (c.loops == (fn.params.toList ++ s.plain.varTypes P).any (P.loopsFrom ·)) = true) (h18 : (c.wideKeys == (fn.params.toList ++ s.plain.varTypes P ++ fn.resultTypes.toList).any (P.wideKeysFrom ·)) = true)
    (h19 : (s.vars.all (P.varReadable ·) && fn.resultTypes.all (fun t => P.readableRec t && decide (t < P.types.size)) && (c.ifacesOut == fn.resultTypes.toList.any (P.ifacesRec ·)) && (c.loopsOut == fn.resultTypes.toList.any (P.loopsFrom ·))) = true)
    (h23 : (c.plainKeys == P.plainKeys) = true) (h24 : c.shortTexts.isNone = true) (h25 : P.stopsHeard = true) (h26 : P.mayEnter = true) (h27 : (c.lifted == P.liftsFinal) = true) (h28 : (P.make == some c.make) = true)
    (h29 : (c.kinds == (if c.domain.isEmpty then [] else fn.params.toList.map fun t => match P.underlying t with | some (.int k) => some k | _ => none)) = true) (h30 : (c.pinned == c.pinnedBy) = true)
    (h31 : (c.veiled == (fn.params.toList ++ s.plain.varTypes P ++ fn.resultTypes.toList).any (P.veiledRec ·)) = true) (h32 : c.veiledFits P fn.params.toList (fn.params.toList ++ s.plain.varTypes P ++ fn.resultTypes.toList) = true) :
    joinedFacts P f fn s c = true := by
  simp only [Bool.and_eq_true] at h14 h19
  obtain ⟨⟨m1, m2⟩, m3⟩ := h14
  obtain ⟨⟨⟨n1, n2⟩, n3⟩, n4⟩ := h19
  unfold joinedFacts
  simp only [Bool.and_eq_true]
  exact ⟨⟨⟨⟨⟨⟨⟨⟨⟨⟨⟨⟨⟨⟨⟨⟨⟨⟨⟨⟨⟨⟨⟨⟨⟨⟨⟨⟨⟨⟨⟨h1, h2⟩, h3⟩, h4⟩, h5⟩, h6⟩, h7⟩, h8⟩, h9⟩, h10⟩, h11⟩, h12⟩, h13⟩, m1⟩, m2⟩, m3⟩, h17⟩, h18⟩, n1⟩, n2⟩, n3⟩, n4⟩, h23⟩, h24⟩, h25⟩, h26⟩, h27⟩, h28⟩, h29⟩, h30⟩, h31⟩, h32⟩

theorem pf_maps : mapsRowed Tryd.prog = true := by kernel_rfl
theorem pf_stops : (Tryd.prog.stops == []) = true := by kernel_rfl
theorem pf_knobs : (Tryd.prog.stopKnobs == []) = true := by kernel_rfl
theorem pf_heard : Tryd.prog.stopsHeard = true := by kernel_rfl
theorem pf_enter : Tryd.prog.mayEnter = true := by kernel_rfl
end Go.Proofs.YtmcjnfghlpnghaaDoor

namespace Go.Proofs.YtmcjnfghlpnghaaDoor
open Go.ChangeShapes Go.WideShapes Go.Deep Go.RowKit Go Go.Joins

theorem list_of_all {α : Type} {p : Nat → α → Prop} : ∀ (n : Nat), (∀ i, i < n → ∃ a, p i a) → ∃ l : List α, l.length = n ∧ ∀ i a, l[i]? = some a → p i a
  | 0, _ => ⟨[], rfl, fun i a h => by simp at h⟩
  | n + 1, h => by
    obtain ⟨l, hl, hp⟩ := list_of_all (p := p) n fun i hi => h i (by omega)
    obtain ⟨a, ha⟩ := h n (by omega)
    refine ⟨l ++ [a], by simp [hl], fun i b hb => ?_⟩
    rcases Nat.lt_or_ge i n with hi | hi
    · exact hp i b (by rwa [List.getElem?_append_left (by omega)] at hb)
    · rw [List.getElem?_append_right (by omega), hl] at hb
      rcases hm : i - n with _ | m
      · rw [hm] at hb
        obtain rfl : a = b := by simpa using hb
        obtain rfl : i = n := by omega
        exact ha
      · rw [hm] at hb
        simp at hb

theorem flat_at {α : Type} {cells : α → List Value} {k : Nat} (hk : ∀ a, (cells a).length = k) : ∀ (l : List α) (j : Nat) (u : Value), (l.flatMap cells)[j]? = some u → ∃ i r a, l[i]? = some a ∧ (cells a)[r]? = some u ∧ j = i * k + r ∧ r < k
  | [], j, u, h => by simp at h
  | a :: l, j, u, h => by
    rw [List.flatMap_cons] at h
    rcases Nat.lt_or_ge j k with hj | hj
    · rw [List.getElem?_append_left (by rw [hk]; exact hj)] at h
      exact ⟨0, j, a, rfl, h, by omega, hj⟩
    · rw [List.getElem?_append_right (by rw [hk]; exact hj), hk] at h
      obtain ⟨i, r, b, h1, h2, h3, h4⟩ := flat_at hk l (j - k) u h
      exact ⟨i + 1, r, b, by simpa using h1, h2, by rw [Nat.add_mul, Nat.one_mul]; omega, h4⟩

theorem add_none {a : Addr} (h : a.spot = none) (n : Nat) : a.add n = ⟨a.block, a.off + n, none⟩ := by
  unfold Addr.add
  split
  · rename_i h0
    subst h0
    rw [← h]
    rfl
  · rfl

section
variable {H : Type} {enc : TypeId × Value → H} {w : World} {base : Nat} {spare : Nat → Bool} {held : Bool}

/-- a slice of elements of k cells each -/
theorem open_rows {α : Type} {P : Program} (cells : α → List Value) {t e : TypeId} {k fuel : Nat} {cs : List Value} {x : DataW H × List MemPlace} (ht : P.underlying t = some (.slice e)) (hc : P.cellsOf e = k) (hlen : ∀ a, (cells a).length = k)
    (hel : ∀ n cs' y, DataW.trod enc P w base spare held n e cs' = some y → ∃ a, cs' = cells a) (h : DataW.trod enc P w base spare held fuel t cs = some x) :
    ∃ A n c, ∃ l : List α, cs = [.slice A n c] ∧ l.length = n ∧ n ≤ maxLen ∧ Rd w w.heap.size A (l.flatMap cells) := by
  rcases open_slice ht h with ⟨rfl, _⟩ | ⟨a, len, cap, m, n, D, Pl, rfl, hb, hl, hm, hmm, _, hx⟩
  · exact ⟨none, 0, 0, [], rfl, rfl, Nat.zero_le _, fun k u hk => by simp at hk⟩
  · have hlm : len ≤ m := by
      rw [hmm]
      split <;> omega
    obtain ⟨l, hl', hp⟩ := list_of_all (p := fun i z => w.cells? base (a.add (i * k)) k = some (cells z)) len fun i hi => by
      obtain ⟨cs', h1, h2⟩ := hx i (by omega)
      obtain ⟨z, rfl⟩ := hel _ _ _ h2
      rw [hc] at h1
      exact ⟨z, h1⟩
    refine ⟨some a, len, cap, l, rfl, hl', by omega, fun j u hj => ?_⟩
    obtain ⟨i, r, z, h1, h2, rfl, h4⟩ := flat_at hlen l j u hj
    obtain ⟨_, _, hat⟩ := World.cells?_some (hp i z h1)
    have hcell := (hat r h4).trans h2
    rw [add_add] at hcell
    have hspot : a.spot = none := by
      have hs := World.cell?_spot hcell
      unfold Addr.add at hs
      split at hs
      · exact hs
      · rename_i hne
        have h5 := World.cell?_spot ((hat r h4).trans h2)
        by_cases h0 : i = 0 ∧ r = 0
        · obtain ⟨rfl, rfl⟩ := h0
          simp at hne
        · -- the first cell
          obtain ⟨z0, hz0⟩ : ∃ z0, l[0]? = some z0 := by
            have : 0 < l.length := by
              have := (List.getElem?_eq_some_iff.1 h1).1
              omega
            exact ⟨_, List.getElem?_eq_getElem this⟩
          obtain ⟨_, _, hat0⟩ := World.cells?_some (hp 0 z0 hz0)
          have hk0 : 0 < k := by omega
          have h6 := hat0 0 hk0
          have h7 : (cells z0)[0]? = some ((cells z0)[0]'(by rw [hlen]; exact hk0)) := List.getElem?_eq_getElem _
          have h8 := World.cell?_spot (h6.trans h7)
          simpa [Addr.add] using h8
    rw [add_none hspot] at hcell
    obtain ⟨ab, ao, az⟩ := a
    simp only at hspot hcell
    subst hspot
    exact ⟨ab, ao, rfl, lt_of_cell hcell, hcell⟩

theorem len_one {l : List Value} (h : l.length = 1) : ∃ v, l = [v] := by
  match l, h with
  | [v], _ => exact ⟨v, rfl⟩

theorem flat_bools : ∀ l : List Bool, l.flatMap (fun b : Bool => [Value.bool b]) = l.map .bool
  | [] => rfl
  | a :: l => by rw [List.flatMap_cons, flat_bools l]; rfl

theorem open_bools {fuel : Nat} {cs : List Value} {x : DataW H × List MemPlace} (h : DataW.trod enc Tryd.prog w base spare held fuel 26 cs = some x) :
    ∃ A n c, ∃ l : List Bool, cs = [.slice A n c] ∧ l.length = n ∧ n ≤ maxLen ∧ Rd w w.heap.size A (l.map .bool) := by
  obtain ⟨A, n, c, l, h1, h2, h3, h4⟩ := open_rows (P := Tryd.prog) (k := 1) (fun b : Bool => [Value.bool b]) Tryd.underlying26 cells4 (fun _ => rfl) (fun n cs' y hy => by
    obtain ⟨b, hb, _⟩ := DataW.trod_bool Tryd.underlying4 hy
    exact ⟨b, hb⟩) h
  refine ⟨A, n, c, l, h1, h2, h3, ?_⟩
  rw [← flat_bools]
  exact h4

def evVals (e : Ev) : List Value := [.int .i64 e.1, .int .i64 e.2.1, .int .i64 e.2.2]

theorem ofc66 : Tryd.prog.cellsOf 66 = 3 := by kernel_rfl
theorem ofc3 : Tryd.prog.cellsOf 3 = 1 := by kernel_rfl
set_option maxRecDepth 100000 in
theorem open_ev {n : Nat} {cs : List Value} {y : DataW H × List MemPlace} (h : DataW.trod enc Tryd.prog w base spare held n 66 cs = some y) : ∃ e : Ev, cs = evVals e := by
  obtain ⟨y0, y1, y2, n, _, hl, h0, h1, h2⟩ := trod_struct3 Tryd.underlying66 h
  rw [ofc66] at hl
  match cs, hl with
  | [a, b, c], _ =>
    rw [ofc3] at h0 h1 h2
    simp only [List.drop_zero, List.take_succ_cons, List.take_zero, List.drop_succ_cons] at h0 h1 h2
    obtain ⟨i, e0, _⟩ := DataW.trod_int Tryd.underlying3 h0
    obtain ⟨j, e1, _⟩ := DataW.trod_int Tryd.underlying3 h1
    obtain ⟨k, e2, _⟩ := DataW.trod_int Tryd.underlying3 h2
    simp only [List.cons.injEq, and_true] at e0 e1 e2
    subst e0 e1 e2
    exact ⟨(i, j, k), rfl⟩

theorem open_evs {fuel : Nat} {cs : List Value} {x : DataW H × List MemPlace} (h : DataW.trod enc Tryd.prog w base spare held fuel 24 cs = some x) :
    ∃ A n c, ∃ l : List Ev, cs = [.slice A n c] ∧ l.length = n ∧ n ≤ maxLen ∧ Rd w w.heap.size A (evCells l) :=
  open_rows (P := Tryd.prog) (k := 3) evVals Tryd.underlying24 ofc66 (fun _ => rfl) (fun _ _ _ hy => open_ev hy) h
end
end Go.Proofs.YtmcjnfghlpnghaaDoor

namespace Go.Proofs.YtmcjnfghlpnghaaDoor
open Go.ChangeShapes Go.WideShapes Go.Deep Go.RowKit Go Go.Joins

section
variable {H : Type} {enc : TypeId × Value → H} {w : World} {base : Nat} {spare : Nat → Bool} {held : Bool}

theorem open_agg5s {P : Program} {r : Reach} {b0 : Nat} {t : TypeId} {f0 f1 f2 f3 f4 : Field} {v : Value} {d : DataW H} {p : List MemPlace} (hs : P.underlying t = some (.struct #[f0, f1, f2, f3, f4])) (hone : oneCellFields P #[f0, f1, f2, f3, f4] = true) (hC : P.cellsOf t = 5)
    (hv : Value.okWide P w r b0 t v) (h : DataW.Trod enc P w base spare held t v d p) :
    ∃ (v0 v1 v2 v3 v4 : Value) (y0 y1 y2 y3 y4 : DataW H × List MemPlace) (n : Nat), v = .agg #[v0, v1, v2, v3, v4] ∧
      DataW.trod enc P w base spare held n f0.type [v0] = some y0 ∧ DataW.trod enc P w base spare held n f1.type [v1] = some y1 ∧ DataW.trod enc P w base spare held n f2.type [v2] = some y2 ∧ DataW.trod enc P w base spare held n f3.type [v3] = some y3 ∧ DataW.trod enc P w base spare held n f4.type [v4] = some y4 := by
  obtain ⟨cs, rfl, hsz⟩ := okWide_struct hs hv
  obtain ⟨l⟩ := cs
  match l, hsz.trans hC with
  | [c0, c1, c2, c3, c4], _ =>
    obtain ⟨fuel, hf⟩ := h
    obtain ⟨xs, n, _, hx, _, hlen, hg⟩ := DataW.trod_struct hs hf
    obtain ⟨o0, k0⟩ := hone_of hone 0 f0 rfl
    obtain ⟨o1, k1⟩ := hone_of hone 1 f1 rfl
    obtain ⟨o2, k2⟩ := hone_of hone 2 f2 rfl
    obtain ⟨o3, k3⟩ := hone_of hone 3 f3 rfl
    obtain ⟨o4, k4⟩ := hone_of hone 4 f4 rfl
    match xs, hlen with
    | [y0, y1, y2, y3, y4], _ =>
      exact ⟨c0, c1, c2, c3, c4, y0, y1, y2, y3, y4, n, rfl, by simpa [Value.cells, o0, k0] using hg 0 f0 rfl, by simpa [Value.cells, o1, k1] using hg 1 f1 rfl, by simpa [Value.cells, o2, k2] using hg 2 f2 rfl, by simpa [Value.cells, o3, k3] using hg 3 f3 rfl, by simpa [Value.cells, o4, k4] using hg 4 f4 rfl⟩

set_option maxRecDepth 100000 in
theorem open_state {r : Reach} {b0 : Nat} {v : Value} {d : DataW H} {p : List MemPlace} (hv : Value.okWide Tryd.prog w r b0 28 v) (h : DataW.Trod enc Tryd.prog w base spare held 28 v d p) :
    ∃ s Ag Ad ng nd cg cd, v = stV s Ag Ad ng nd cg cd ∧ (ng ≤ maxLen ∧ nd ≤ maxLen) ∧ (s.gates.length = ng ∧ s.doors.length = nd ∧ Rd w w.heap.size Ag (s.gates.map .bool) ∧ Rd w w.heap.size Ad (s.doors.map .bool)) := by
  obtain ⟨v0, v1, v2, v3, v4, y0, y1, y2, y3, y4, n, rfl, h0, h1, h2, h3, h4⟩ := open_agg5s Tryd.underlying28 (by kernel_rfl) (by kernel_rfl) hv h
  obtain ⟨mv, e0, _⟩ := DataW.trod_bool Tryd.underlying4 h0
  obtain ⟨al, e1, _⟩ := DataW.trod_bool Tryd.underlying4 h1
  obtain ⟨pl, e2, _⟩ := DataW.trod_int Tryd.underlying3 h2
  obtain ⟨Ag, ng, cg, gs, e3, lg, mg, rg⟩ := open_bools h3
  obtain ⟨Ad, nd, cd, ds, e4, ld, md, rd⟩ := open_bools h4
  simp only [List.cons.injEq, and_true] at e0 e1 e2 e3 e4
  subst e0 e1 e2 e3 e4
  exact ⟨⟨mv, al, pl, gs, ds⟩, Ag, Ad, ng, nd, cg, cd, rfl, ⟨mg, md⟩, lg, ld, rg, rd⟩
end
end Go.Proofs.YtmcjnfghlpnghaaDoor

namespace Go.Proofs.YtmcjnfghlpnghaaDoor
open Go.ChangeShapes Go.WideShapes Go.Deep Go.RowKit Go Go.Joins

section
variable {H : Type} {enc : TypeId × Value → H} {w : World} {base : Nat} {spare : Nat → Bool} {held : Bool}

theorem ofc122 : Tryd.prog.cellsOf 122 = 4 := by kernel_rfl
set_option maxRecDepth 100000 in
theorem open_asked {r : Reach} {b0 : Nat} {v : Value} {d : DataW H} {p : List MemPlace} (hv : Value.okWide Tryd.prog w r b0 122 v) (h : DataW.Trod enc Tryd.prog w base spare held 122 v d p) :
    ∃ a b c e : Int, v = .agg #[.int .i64 a, .int .i64 b, .int .i64 c, .int .i64 e] := by
  obtain ⟨cs, rfl, hsz⟩ := okWide_struct Tryd.underlying122 hv
  obtain ⟨l⟩ := cs
  match l, hsz.trans ofc122 with
  | [v0, v1, v2, v3], _ =>
    obtain ⟨fuel, hf⟩ := h
    obtain ⟨xs, n, _, hx, _, hlen, hg⟩ := DataW.trod_struct Tryd.underlying122 hf
    match xs, hlen with
    | [y0, y1], _ =>
      have h0 : DataW.trod enc Tryd.prog w base spare held n 3 (([v0, v1, v2, v3].drop 0).take (Tryd.prog.cellsOf 3)) = some y0 := hg 0 _ rfl
      have h1 : DataW.trod enc Tryd.prog w base spare held n 66 (([v0, v1, v2, v3].drop 1).take (Tryd.prog.cellsOf 66)) = some y1 := hg 1 _ rfl
      rw [ofc3] at h0
      rw [ofc66] at h1
      simp only [List.drop_zero, List.take_succ_cons, List.take_zero, List.drop_succ_cons] at h0 h1
      obtain ⟨⟨b, c, e⟩, e1⟩ := open_ev h1
      obtain ⟨a, e0, _⟩ := DataW.trod_int Tryd.underlying3 h0
      simp only [evVals, List.cons.injEq, and_true] at e0 e1
      obtain ⟨e1, e2, e3⟩ := e1
      subst e0 e1 e2 e3
      exact ⟨a, b, c, e, rfl⟩
end
end Go.Proofs.YtmcjnfghlpnghaaDoor
