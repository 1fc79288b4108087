/- Arguments opened: a net; the end of every law; the closed facts of a row. Arguments opened: numbers, delays. -/
import Derived.Test.YtnnnpijepdjanaaGreatE1
import Derived.Test.YtnnnpijepdjanaaGreatRows
import Derived.ProofKit
import Derived.Stop.Joined
import Derived.Lib.SmallJoins
import Derived.OpenShut
import Derived.Carry
import Derived.Deep.Slices
import Derived.Deep.Strs
import Derived.ChangeSame
import Derived.JoinedOf
import Derived.Test.YtnnnpijepdjanaaGreatM1
namespace Go.Proofs.YtnnnpijepdjanaaGreat
open Go.ChangeShapes Go.WideShapes Go.Deep Go.RowKit Go Go.Joins

theorem list_of_all {α : Type} {p : Nat → α → Prop} : ∀ (n : Nat), (∀ i, i < n → ∃ a, p i a) → ∃ l : List α, l.length = n ∧ ∀ i a, l[i]? = some a → p i a
  | 0, _ => ⟨[], rfl, fun i a h => by simp at h⟩
  | n + 1, h => by
    obtain ⟨l, hl, hp⟩ := list_of_all (p := p) n fun i hi => h i (by omega)
    obtain ⟨a, ha⟩ := h n (by omega)
    refine ⟨l ++ [a], by simp [hl], fun i b hb => ?_⟩
    rcases Nat.lt_or_ge i n with hi | hi
    · exact hp i b (by rwa [List.getElem?_append_left (by omega)] at hb)
    · rw [List.getElem?_append_right (by omega), hl] at hb
      rcases hm : i - n with _ | m
      · rw [hm] at hb
        obtain rfl : a = b := by simpa using hb
        obtain rfl : i = n := by omega
        exact ha
      · rw [hm] at hb
        simp at hb

theorem flat_at {α : Type} {cells : α → List Value} {k : Nat} (hk : ∀ a, (cells a).length = k) : ∀ (l : List α) (j : Nat) (u : Value), (l.flatMap cells)[j]? = some u → ∃ i r a, l[i]? = some a ∧ (cells a)[r]? = some u ∧ j = i * k + r ∧ r < k
  | [], j, u, h => by simp at h
  | a :: l, j, u, h => by
    rw [List.flatMap_cons] at h
    rcases Nat.lt_or_ge j k with hj | hj
    · rw [List.getElem?_append_left (by rw [hk]; exact hj)] at h
      exact ⟨0, j, a, rfl, h, by omega, hj⟩
    · rw [List.getElem?_append_right (by rw [hk]; exact hj), hk] at h
      obtain ⟨i, r, b, h1, h2, h3, h4⟩ := flat_at hk l (j - k) u h
      exact ⟨i + 1, r, b, by simpa using h1, h2, by rw [Nat.add_mul, Nat.one_mul]; omega, h4⟩

theorem add_none {a : Addr} (h : a.spot = none) (n : Nat) : a.add n = ⟨a.block, a.off + n, none⟩ := by
  unfold Addr.add
  split
  · rename_i h0
    subst h0
    rw [← h]
    rfl
  · rfl

section
variable {H : Type} {enc : TypeId × Value → H} {w : World} {base : Nat} {spare : Nat → Bool} {held : Bool}

/-- a slice of elements of k cells each -/
theorem open_rows {α : Type} {P : Program} (cells : α → List Value) {t e : TypeId} {k fuel : Nat} {cs : List Value} {x : DataW H × List MemPlace} (ht : P.underlying t = some (.slice e)) (hc : P.cellsOf e = k) (hlen : ∀ a, (cells a).length = k)
    (hel : ∀ n cs' y, DataW.trod enc P w base spare held n e cs' = some y → ∃ a, cs' = cells a) (h : DataW.trod enc P w base spare held fuel t cs = some x) :
    ∃ A n c, ∃ l : List α, cs = [.slice A n c] ∧ l.length = n ∧ n ≤ maxLen ∧ Rd w w.heap.size A (l.flatMap cells) := by
  rcases open_slice ht h with ⟨rfl, _⟩ | ⟨a, len, cap, m, n, D, Pl, rfl, hb, hl, hm, hmm, _, hx⟩
  · exact ⟨none, 0, 0, [], rfl, rfl, Nat.zero_le _, fun k u hk => by simp at hk⟩
  · have hlm : len ≤ m := by
      rw [hmm]
      split <;> omega
    obtain ⟨l, hl', hp⟩ := list_of_all (p := fun i z => w.cells? base (a.add (i * k)) k = some (cells z)) len fun i hi => by
      obtain ⟨cs', h1, h2⟩ := hx i (by omega)
      obtain ⟨z, rfl⟩ := hel _ _ _ h2
      rw [hc] at h1
      exact ⟨z, h1⟩
    refine ⟨some a, len, cap, l, rfl, hl', by omega, fun j u hj => ?_⟩
    obtain ⟨i, r, z, h1, h2, rfl, h4⟩ := flat_at hlen l j u hj
    obtain ⟨_, _, hat⟩ := World.cells?_some (hp i z h1)
    have hcell := (hat r h4).trans h2
    rw [add_add] at hcell
    have hspot : a.spot = none := by
      have hs := World.cell?_spot hcell
      unfold Addr.add at hs
      split at hs
      · exact hs
      · rename_i hne
        have h5 := World.cell?_spot ((hat r h4).trans h2)
        by_cases h0 : i = 0 ∧ r = 0
        · obtain ⟨rfl, rfl⟩ := h0
          simp at hne
        · -- the first cell
          obtain ⟨z0, hz0⟩ : ∃ z0, l[0]? = some z0 := by
            have : 0 < l.length := by
              have := (List.getElem?_eq_some_iff.1 h1).1
              omega
            exact ⟨_, List.getElem?_eq_getElem this⟩
          obtain ⟨_, _, hat0⟩ := World.cells?_some (hp 0 z0 hz0)
          have hk0 : 0 < k := by omega
          have h6 := hat0 0 hk0
          have h7 : (cells z0)[0]? = some ((cells z0)[0]'(by rw [hlen]; exact hk0)) := List.getElem?_eq_getElem _
          have h8 := World.cell?_spot (h6.trans h7)
          simpa [Addr.add] using h8
    rw [add_none hspot] at hcell
    obtain ⟨ab, ao, az⟩ := a
    simp only at hspot hcell
    subst hspot
    exact ⟨ab, ao, rfl, lt_of_cell hcell, hcell⟩

theorem open_agg2s {P : Program} {r : Reach} {b0 : Nat} {t : TypeId} {f0 f1 : Field} {v : Value} {d : DataW H} {p : List MemPlace} (hs : P.underlying t = some (.struct #[f0, f1])) (hone : oneCellFields P #[f0, f1] = true) (hC : P.cellsOf t = 2)
    (hv : Value.okWide P w r b0 t v) (h : DataW.Trod enc P w base spare held t v d p) :
    ∃ (v0 v1 : Value) (y0 y1 : DataW H × List MemPlace) (n : Nat), v = .agg #[v0, v1] ∧ DataW.trod enc P w base spare held n f0.type [v0] = some y0 ∧ DataW.trod enc P w base spare held n f1.type [v1] = some y1 := by
  obtain ⟨cs, rfl, hsz⟩ := okWide_struct hs hv
  obtain ⟨l⟩ := cs
  match l, hsz.trans hC with
  | [c0, c1], _ =>
    obtain ⟨fuel, hf⟩ := h
    obtain ⟨xs, n, _, hx, _, hlen, hg⟩ := DataW.trod_struct hs hf
    obtain ⟨o0, k0⟩ := hone_of hone 0 f0 rfl
    obtain ⟨o1, k1⟩ := hone_of hone 1 f1 rfl
    match xs, hlen with
    | [y0, y1], _ =>
      exact ⟨c0, c1, y0, y1, n, rfl, by simpa [Value.cells, o0, k0] using hg 0 f0 rfl, by simpa [Value.cells, o1, k1] using hg 1 f1 rfl⟩

theorem flat_strs : ∀ l : List ByteArray, l.flatMap (fun s : ByteArray => [Value.string s]) = strCells l
  | [] => rfl
  | a :: l => by rw [List.flatMap_cons, flat_strs l]; rfl
theorem ofc9 : Tryz.prog.cellsOf 9 = 1 := by kernel_rfl
theorem ofc3 : Tryz.prog.cellsOf 3 = 1 := by kernel_rfl
theorem ofc61 : Tryz.prog.cellsOf 43 = 6 := by kernel_rfl
theorem open_strs {fuel : Nat} {cs : List Value} {x : DataW H × List MemPlace} (h : DataW.trod enc Tryz.prog w base spare held fuel 22 cs = some x) :
    ∃ A n c, ∃ l : List ByteArray, cs = [.slice A n c] ∧ l.length = n ∧ n ≤ maxLen ∧ Rd w w.heap.size A (strCells l) := by
  obtain ⟨A, n, c, l, h1, h2, h3, h4⟩ := open_rows (P := Tryz.prog) (k := 1) (fun s : ByteArray => [Value.string s]) Tryz.underlying22 ofc9 (fun _ => rfl) (fun n cs' y hy => by
    obtain ⟨b, hb, _⟩ := DataW.trod_string Tryz.underlying9 hy
    exact ⟨b, hb⟩) h
  refine ⟨A, n, c, l, h1, h2, h3, ?_⟩
  rw [← flat_strs]
  exact h4
set_option maxRecDepth 100000 in
theorem open_act {n : Nat} {cs : List Value} {y : DataW H × List MemPlace} (h : DataW.trod enc Tryz.prog w base spare held n 43 cs = some y) : ∃ e : Act, cs = actVals e := by
  obtain ⟨xs, n, _, _, hl, hlen, hf⟩ := DataW.trod_struct Tryz.underlying43 h
  match xs, hlen with
  | [y0, y1, y2, y3, y4, y5], _ =>
    rw [ofc61] at hl
    match cs, hl with
    | [a, b, c, d, e, f], _ =>
      have h0 : DataW.trod enc Tryz.prog w base spare held n 3 (([a, b, c, d, e, f].drop 0).take (Tryz.prog.cellsOf 3)) = some y0 := hf 0 _ rfl
      have h1 : DataW.trod enc Tryz.prog w base spare held n 3 (([a, b, c, d, e, f].drop 1).take (Tryz.prog.cellsOf 3)) = some y1 := hf 1 _ rfl
      have h2 : DataW.trod enc Tryz.prog w base spare held n 3 (([a, b, c, d, e, f].drop 2).take (Tryz.prog.cellsOf 3)) = some y2 := hf 2 _ rfl
      have h3 : DataW.trod enc Tryz.prog w base spare held n 3 (([a, b, c, d, e, f].drop 3).take (Tryz.prog.cellsOf 3)) = some y3 := hf 3 _ rfl
      have h4 : DataW.trod enc Tryz.prog w base spare held n 3 (([a, b, c, d, e, f].drop 4).take (Tryz.prog.cellsOf 3)) = some y4 := hf 4 _ rfl
      have h5 : DataW.trod enc Tryz.prog w base spare held n 3 (([a, b, c, d, e, f].drop 5).take (Tryz.prog.cellsOf 3)) = some y5 := hf 5 _ rfl
      rw [ofc3] at h0 h1 h2 h3 h4 h5
      simp only [List.drop_zero, List.take_succ_cons, List.take_zero, List.drop_succ_cons] at h0 h1 h2 h3 h4 h5
      obtain ⟨i0, e0, _⟩ := DataW.trod_int Tryz.underlying3 h0
      obtain ⟨i1, e1, _⟩ := DataW.trod_int Tryz.underlying3 h1
      obtain ⟨i2, e2, _⟩ := DataW.trod_int Tryz.underlying3 h2
      obtain ⟨i3, e3, _⟩ := DataW.trod_int Tryz.underlying3 h3
      obtain ⟨i4, e4, _⟩ := DataW.trod_int Tryz.underlying3 h4
      obtain ⟨i5, e5, _⟩ := DataW.trod_int Tryz.underlying3 h5
      simp only [List.cons.injEq, and_true] at e0 e1 e2 e3 e4 e5
      subst e0 e1 e2 e3 e4 e5
      exact ⟨⟨i0, i1, i2, i3, i4, i5⟩, rfl⟩
theorem open_acts {fuel : Nat} {cs : List Value} {x : DataW H × List MemPlace} (h : DataW.trod enc Tryz.prog w base spare held fuel 23 cs = some x) :
    ∃ A n c, ∃ l : List Act, cs = [.slice A n c] ∧ l.length = n ∧ n ≤ maxLen ∧ Rd w w.heap.size A (actCells l) :=
  open_rows (P := Tryz.prog) (k := 6) actVals Tryz.underlying23 ofc61 (fun _ => rfl) (fun _ _ _ hy => open_act hy) h
theorem cap_of {fuel : Nat} {t e : TypeId} {A : Option Addr} {n c : Nat} {x : DataW H × List MemPlace} (ht : Tryz.prog.underlying t = some (.slice e)) (h : DataW.trod enc Tryz.prog w base spare held fuel t [.slice A n c] = some x) : n ≤ c := by
  rcases open_slice ht h with ⟨h1, _⟩ | ⟨a, len, cap, m, n', D, Pl, h1, hb, hl, hm, hmm, _, hx⟩
  · cases h1
    exact Nat.le_refl _
  · simp only [List.cons.injEq, Value.slice.injEq, and_true] at h1
    obtain ⟨-, rfl, rfl⟩ := h1
    exact hl
set_option maxRecDepth 100000 in
theorem open_net {r : Reach} {b0 : Nat} {v : Value} {d : DataW H} {p : List MemPlace} (hv : Value.okWide Tryz.prog w r b0 25 v) (h : DataW.Trod enc Tryz.prog w base spare held 25 v d p) :
    ∃ Ae ne ce Aa na ca, ∃ (evs : List ByteArray) (acts : List Act), v = netV Ae ne ce Aa na ca ∧ ne ≤ ce ∧ (evs.length = ne ∧ acts.length = na ∧ Rd w w.heap.size Ae (strCells evs) ∧ Rd w w.heap.size Aa (actCells acts)) := by
  obtain ⟨v0, v1, y0, y1, n, rfl, h0, h1⟩ := open_agg2s Tryz.underlying25 (by kernel_rfl) (by kernel_rfl) hv h
  obtain ⟨Ae, ne, ce, evs, e0, lp, mp, rp⟩ := open_strs h0
  obtain ⟨Aa, na, ca, acts, e1, lw, mw, rw_⟩ := open_acts h1
  simp only [List.cons.injEq, and_true] at e0 e1
  subst e0 e1
  exact ⟨Ae, ne, ce, Aa, na, ca, evs, acts, rfl, cap_of Tryz.underlying22 h0, lp, lw, rp, rw_⟩
end
theorem own : ownKnob Tryz.prog.godebug = none := by kernel_rfl
theorem laidOut : laidOutB Tryz.prog = true := by kernel_rfl
/-- the arguments read behind the call as ahead of it -/
theorem trodAll_below {P : Program} (hlo : laidOutB P = true) {H : Type} {enc : TypeId × Value → H} {W W' : World} (hb : Below W.heap.size W W') : ∀ (ts : List TypeId) (vs : List Value) (ds : List (DataW H)) (ps : List MemPlace),
    (∀ t ∈ ts, P.readableRec t = true ∧ t < P.types.size) → DataW.TrodAll enc P W 0 (fun _ => true) true ts vs ds ps → (∀ x ∈ ps, x.block < W.heap.size) →
    DataW.TrodAll enc P W' 0 (fun b => decide (b < W.heap.size)) true ts vs ds ps
  | [], [], [], _, _, h, _ => h
  | t :: ts, v :: vs, d :: ds, ps, ht, h, hlt => by
    obtain ⟨p, q, h1, h2, rfl⟩ := h
    have ht0 := ht t (by simp)
    exact ⟨p, q, Below.trod hlo ht0.1 ht0.2 h1 hb (fun x hx => hlt x (by simp [hx])), trodAll_below hlo hb ts vs ds q (fun x hx => ht x (by simp [hx])) h2 (fun x hx => hlt x (by simp [hx])), rfl⟩
  | [], [], _ :: _, _, _, h, _ => h.elim
  | [], _ :: _, _, _, _, h, _ => h.elim
  | _ :: _, [], _, _, _, h, _ => h.elim
  | _ :: _, _ :: _, [], _, _, h, _ => h.elim

theorem law_end {H : Type} {enc : TypeId × Value → H} {f : Func} {s : ChangeSpec} {W W' : World} {args : Array Value} {ds : List (DataW H)} {before : List MemPlace}
    (hvars : s.vars = []) (hW : DataW.Whole enc Tryz.prog f.params.toList s.vars false W args.toList ds [] before) (hfn : s.fn H (ds ++ []) = { results := [.lit (.bool true)], args := ds })
    (hr : f.resultTypes = #[4]) (ht : ∀ t ∈ f.params.toList, Tryz.prog.readableRec t = true ∧ t < Tryz.prog.types.size) (hb : Below W.heap.size W W') :
    s.post enc Tryz.prog f false true false false W args (.bool true) W' := by
  have hW' := hW
  obtain ⟨p, q, hA, hV, rfl, hfz, hnd⟩ := hW
  have hlt : ∀ x ∈ p, x.block < W.heap.size := fun x hx => hW'.lt x (by simp [hx])
  refine ⟨ds, [], _, [], p, [], hW', ?_, ?_, ?_, hb.frame _, fun h => by cases h⟩
  · rw [hfn, hr]
    exact trodAll_mk1 (shut_bool Tryz.underlying4 _)
  · rw [hfn]
    exact trodAll_below laidOut hb _ _ _ _ ht hA hlt
  · rw [hfn, hvars]
    rfl

theorem facts_of {P : Program} {f : FuncId} {fn : Func} {s : ChangeSpec} {c : OpenClaim} (h1 : c.wf (OpenSpec.ofChange s) = true) (h2 : laidOutB P = true) (h3 : mapsRowed P = true)
    (h4 : fn.params.all (P.readableRec ·) = true) (h5 : namedTie P c.named s.vars = true) (h6 : (c.stops == []) = true) (h7 : (P.stops == []) = true) (h8 : (c.knobs == []) = true) (h9 : (P.stopKnobs == []) = true)
    (h10 : (c.inPlace == P.inPlace f) = true) (h11 : (c.unfollowed == P.unfollowed f) = true) (h12 : (c.recurses == P.recurses f) = true) (h13 : (c.named == P.varsNamed f) = true)
    (h14 : ((c.maps == (fn.params.toList ++ s.plain.varTypes P).any (P.mapsRec ·)) && (c.ifaces == (fn.params.toList ++ s.plain.varTypes P).any (P.ifacesRec ·)) && (c.mapsOut == P.mapsAmong fn.resultTypes.toList)) = true)
    (h17 : (c.loops == (fn.params.toList ++ s.plain.varTypes P).any (P.loopsFrom ·)) = true) (h18 : (c.wideKeys == (fn.params.toList ++ s.plain.varTypes P ++ fn.resultTypes.toList).any (P.wideKeysFrom ·)) = true)
    (h19 : (s.vars.all (P.varReadable ·) && fn.resultTypes.all (fun t => P.readableRec t && decide (t < P.types.size)) && (c.ifacesOut == fn.resultTypes.toList.any (P.ifacesRec ·)) && (c.loopsOut == fn.resultTypes.toList.any (P.loopsFrom ·))) = true)
    (h23 : (c.plainKeys == P.plainKeys) = true) (h24 : c.shortTexts.isNone = true) (h25 : P.stopsHeard = true) (h26 : P.mayEnter = true) (h27 : (c.lifted == P.liftsFinal) = true) (h28 : (P.make == some c.make) = true)
    (h29 : (c.kinds == (if c.domain.isEmpty then [] else fn.params.toList.map fun t => match P.underlying t with | some (.int k) => some k | _ => none)) = true) (h30 : (c.pinned == c.pinnedBy) = true)
    (h31 : (c.veiled == (fn.params.toList ++ s.plain.varTypes P ++ fn.resultTypes.toList).any (P.veiledRec ·)) = true) (h32 : c.veiledFits P fn.params.toList (fn.params.toList ++ s.plain.varTypes P ++ fn.resultTypes.toList) = true) :
    joinedFacts P f fn s c = true := by
  simp only [Bool.and_eq_true] at h14 h19
  obtain ⟨⟨m1, m2⟩, m3⟩ := h14
  obtain ⟨⟨⟨n1, n2⟩, n3⟩, n4⟩ := h19
  unfold joinedFacts
  simp only [Bool.and_eq_true]
  exact ⟨⟨⟨⟨⟨⟨⟨⟨⟨⟨⟨⟨⟨⟨⟨⟨⟨⟨⟨⟨⟨⟨⟨⟨⟨⟨⟨⟨⟨⟨⟨h1, h2⟩, h3⟩, h4⟩, h5⟩, h6⟩, h7⟩, h8⟩, h9⟩, h10⟩, h11⟩, h12⟩, h13⟩, m1⟩, m2⟩, m3⟩, h17⟩, h18⟩, n1⟩, n2⟩, n3⟩, n4⟩, h23⟩, h24⟩, h25⟩, h26⟩, h27⟩, h28⟩, h29⟩, h30⟩, h31⟩, h32⟩

theorem pf_maps : mapsRowed Tryz.prog = true := by kernel_rfl
theorem pf_stops : (Tryz.prog.stops == []) = true := by kernel_rfl
theorem pf_knobs : (Tryz.prog.stopKnobs == []) = true := by kernel_rfl
theorem pf_heard : Tryz.prog.stopsHeard = true := by kernel_rfl
theorem pf_enter : Tryz.prog.mayEnter = true := by kernel_rfl
end Go.Proofs.YtnnnpijepdjanaaGreat

namespace Go.Proofs.YtnnnpijepdjanaaGreat
open Go.ChangeShapes Go.WideShapes Go.Deep Go.RowKit Go Go.Joins

section
variable {H : Type} {enc : TypeId × Value → H} {w : World} {base : Nat} {spare : Nat → Bool} {held : Bool}
theorem ofc46 : Tryz.prog.cellsOf 46 = 2 := by kernel_rfl
theorem flat_ints : ∀ l : List Int, l.flatMap (fun n : Int => [Value.int .i64 n]) = intCells l
  | [] => rfl
  | a :: l => by rw [List.flatMap_cons, flat_ints l]; rfl
theorem open_ints {fuel : Nat} {cs : List Value} {x : DataW H × List MemPlace} (h : DataW.trod enc Tryz.prog w base spare held fuel 26 cs = some x) :
    ∃ A n c, ∃ l : List Int, cs = [.slice A n c] ∧ l.length = n ∧ n ≤ maxLen ∧ Rd w w.heap.size A (intCells l) := by
  obtain ⟨A, n, c, l, h1, h2, h3, h4⟩ := open_rows (P := Tryz.prog) (k := 1) (fun n : Int => [Value.int .i64 n]) Tryz.underlying26 ofc3 (fun _ => rfl) (fun n cs' y hy => by
    obtain ⟨b, hb, _⟩ := DataW.trod_int Tryz.underlying3 hy
    exact ⟨b, hb⟩) h
  refine ⟨A, n, c, l, h1, h2, h3, ?_⟩
  rw [← flat_ints]
  exact h4
set_option maxRecDepth 100000 in
theorem open_delay {n : Nat} {cs : List Value} {y : DataW H × List MemPlace} (h : DataW.trod enc Tryz.prog w base spare held n 46 cs = some y) : ∃ e : Dl, cs = dlVals e := by
  obtain ⟨xs, n, _, _, hl, hlen, hf⟩ := DataW.trod_struct Tryz.underlying46 h
  match xs, hlen with
  | [y0, y1], _ =>
    rw [ofc46] at hl
    match cs, hl with
    | [a, b], _ =>
      have h0 : DataW.trod enc Tryz.prog w base spare held n 3 (([a, b].drop 0).take (Tryz.prog.cellsOf 3)) = some y0 := hf 0 _ rfl
      have h1 : DataW.trod enc Tryz.prog w base spare held n 3 (([a, b].drop 1).take (Tryz.prog.cellsOf 3)) = some y1 := hf 1 _ rfl
      rw [ofc3] at h0 h1
      simp only [List.drop_zero, List.take_succ_cons, List.take_zero, List.drop_succ_cons] at h0 h1
      obtain ⟨i0, e0, _⟩ := DataW.trod_int Tryz.underlying3 h0
      obtain ⟨i1, e1, _⟩ := DataW.trod_int Tryz.underlying3 h1
      simp only [List.cons.injEq, and_true] at e0 e1
      subst e0 e1
      exact ⟨⟨i0, i1⟩, rfl⟩
theorem open_delays {fuel : Nat} {cs : List Value} {x : DataW H × List MemPlace} (h : DataW.trod enc Tryz.prog w base spare held fuel 27 cs = some x) :
    ∃ A n c, ∃ l : List Dl, cs = [.slice A n c] ∧ l.length = n ∧ n ≤ maxLen ∧ Rd w w.heap.size A (dlCells l) :=
  open_rows (P := Tryz.prog) (k := 2) dlVals Tryz.underlying27 ofc46 (fun _ => rfl) (fun _ _ _ hy => open_delay hy) h
end
end Go.Proofs.YtnnnpijepdjanaaGreat
