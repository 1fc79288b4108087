/- The open findings, plainly: the code's set and the reference's list. -/
import Derived.Test.YtlbgocgocanloaaGreatDoorf5W5
import Derived.Test.YtlbgocgocanloaaGreatDoorf5H4
import Derived.Maps.RangeWalk
namespace Go.Proofs.YtlbgocgocanloaaGreatDoor
/-- the last offset of a beam -/
def lastOff : List Fnd → Int → Option Int
  | [], _ => none
  | f :: l, b => (lastOff l b).or (if f.1 = b then some f.2 else none)
def openB (l : List Fnd) (lim x : Int) : Prop := ∃ o, lastOff l x = some o ∧ lim < sizeI o
/-- the reference's insertion -/
def insI (b : Int) : List Int → List Int
  | [] => [b]
  | a :: l => if a < b then a :: insI b l else b :: a :: l
def openGo (lim : Int) : List Int → List Fnd → List Int
  | acc, [] => acc
  | acc, f :: l => openGo lim (if (l.any fun g => g.1 == f.1) = true ∨ sizeI f.2 ≤ lim then acc else insI f.1 acc) l
theorem lastOff_none {l : List Fnd} {b : Int} : lastOff l b = none ↔ ∀ f ∈ l, f.1 ≠ b := by
  induction l with
  | nil => simp [lastOff]
  | cons f l ih =>
    rw [lastOff, Option.or_eq_none_iff, ih]
    simp only [List.mem_cons, forall_eq_or_imp]
    constructor
    · rintro ⟨h1, h2⟩
      refine ⟨fun h => ?_, h1⟩
      rw [if_pos h] at h2
      cases h2
    · rintro ⟨h1, h2⟩
      exact ⟨h2, if_neg h1⟩
theorem insI_mem {b x : Int} {l : List Int} : x ∈ insI b l ↔ x = b ∨ x ∈ l := by
  induction l with
  | nil => simp [insI]
  | cons a l ih =>
    rw [insI]
    split
    · rw [List.mem_cons, ih, List.mem_cons]
      constructor
      · rintro (h | h | h) <;> simp [h]
      · rintro (h | h | h) <;> simp [h]
    · rw [List.mem_cons]
theorem insI_sorted {b : Int} : ∀ {l : List Int}, l.Pairwise (· < ·) → b ∉ l → (insI b l).Pairwise (· < ·)
  | [], _, _ => by simp [insI]
  | a :: l, h, hb => by
    rw [List.pairwise_cons] at h
    simp only [List.mem_cons, not_or] at hb
    rw [insI]
    split
    · rename_i hab
      rw [List.pairwise_cons]
      refine ⟨fun x hx => ?_, insI_sorted h.2 hb.2⟩
      rcases insI_mem.1 hx with rfl | hx
      · exact hab
      · exact h.1 x hx
    · rename_i hab
      rw [List.pairwise_cons]
      refine ⟨fun x hx => ?_, List.pairwise_cons.2 h⟩
      rcases List.mem_cons.1 hx with rfl | hx
      · omega
      · have := h.1 x hx
        omega
theorem openGo_spec (lim : Int) : ∀ (l : List Fnd) (acc : List Int), acc.Pairwise (· < ·) → (∀ x ∈ acc, ∀ f ∈ l, f.1 ≠ x) →
    (openGo lim acc l).Pairwise (· < ·) ∧ ∀ x, x ∈ openGo lim acc l ↔ x ∈ acc ∨ openB l lim x
  | [], acc, h, _ => ⟨h, fun x => by simp [openGo, openB, lastOff]⟩
  | f :: l, acc, h, hd => by
    rw [openGo]
    have hacc : ∀ x ∈ acc, ∀ g ∈ l, g.1 ≠ x := fun x hx g hg => hd x hx g (by simp [hg])
    by_cases hc : (l.any fun g => g.1 == f.1) = true ∨ sizeI f.2 ≤ lim
    · rw [if_pos hc]
      obtain ⟨h1, h2⟩ := openGo_spec lim l acc h hacc
      refine ⟨h1, fun x => ?_⟩
      rw [h2 x]
      have : openB l lim x ↔ openB (f :: l) lim x := by
        unfold openB
        rw [lastOff]
        cases hl : lastOff l x with
        | some o => simp
        | none =>
          simp only [Option.none_or]
          constructor
          · rintro ⟨o, h, _⟩
            cases h
          · rintro ⟨o, h, ho⟩
            split at h
            · rename_i hx
              cases h
              rcases hc with hc | hc
              · obtain ⟨g, hg, he⟩ := List.any_eq_true.1 hc
                exact absurd ((beq_iff_eq.1 he).trans hx) (lastOff_none.1 hl g hg)
              · omega
            · cases h
      rw [this]
    · rw [if_neg hc]
      rw [not_or] at hc
      obtain ⟨hc1, hc2⟩ := hc
      have hno : ∀ g ∈ l, g.1 ≠ f.1 := fun g hg he => hc1 (List.any_eq_true.2 ⟨g, hg, beq_iff_eq.2 he⟩)
      have hfa : f.1 ∉ acc := fun hx => hd f.1 hx f (by simp) rfl
      obtain ⟨h1, h2⟩ := openGo_spec lim l (insI f.1 acc) (insI_sorted h hfa) (fun x hx g hg => by
        rcases insI_mem.1 hx with rfl | hx
        · exact hno g hg
        · exact hacc x hx g hg)
      refine ⟨h1, fun x => ?_⟩
      rw [h2 x, insI_mem]
      by_cases hx : f.1 = x
      · subst hx
        have : openB (f :: l) lim f.1 := ⟨f.2, by rw [lastOff, lastOff_none.2 hno]; simp, by omega⟩
        simp [this]
      · have : openB l lim x ↔ openB (f :: l) lim x := by
          unfold openB
          rw [lastOff, if_neg hx, Option.or_none]
        rw [this]
        constructor
        · rintro ((h | h) | h)
          · exact absurd h.symm hx
          · exact .inl h
          · exact .inr h
        · rintro (h | h)
          · exact .inl (.inr h)
          · exact .inr h
def openM (l : List Fnd) (lim : Int) : List Int := openGo lim [] l
theorem openM_sorted (l : List Fnd) (lim : Int) : (openM l lim).Pairwise (· < ·) := (openGo_spec lim l [] .nil fun _ h => by simp at h).1
theorem openM_mem {l : List Fnd} {lim x : Int} : x ∈ openM l lim ↔ openB l lim x := by
  have := (openGo_spec lim l [] .nil fun _ h => by simp at h).2 x
  simpa [openM] using this
theorem sorted_ext : ∀ {a b : List Int}, a.Pairwise (· < ·) → b.Pairwise (· < ·) → (∀ x, x ∈ a ↔ x ∈ b) → a = b
  | [], [], _, _, _ => rfl
  | [], y :: b, _, _, h => absurd ((h y).2 (by simp)) (by simp)
  | x :: a, [], _, _, h => absurd ((h x).1 (by simp)) (by simp)
  | x :: a, y :: b, ha, hb, h => by
    rw [List.pairwise_cons] at ha hb
    have hxy : x = y := by
      rcases List.mem_cons.1 ((h x).1 (by simp)) with e | e
      · exact e
      · rcases List.mem_cons.1 ((h y).2 (by simp)) with e' | e'
        · exact e'.symm
        · have := hb.1 x e
          have := ha.1 y e'
          omega
    subst hxy
    rw [sorted_ext ha.2 hb.2 fun z => ?_]
    constructor
    · intro hz
      rcases List.mem_cons.1 ((h z).1 (by simp [hz])) with e | e
      · have := ha.1 z hz
        omega
      · exact e
    · intro hz
      rcases List.mem_cons.1 ((h z).2 (by simp [hz])) with e | e
      · have := hb.1 z hz
        omega
      · exact e
/-- a list of just the open beams, each once, is the reference's when it is sorted -/
theorem open_eq {l : List Fnd} {lim : Int} {o s : List Int} (hn : o.Nodup) (hm : ∀ x, x ∈ o ↔ openB l lim x) (hp : s.Perm o) (hs : s.Pairwise (· ≤ ·)) : s = openM l lim := by
  have hns : s.Nodup := hp.nodup_iff.2 hn
  have hss : s.Pairwise (· < ·) := by
    refine (hs.and hns).imp ?_
    rintro a b ⟨h1, h2⟩
    omega
  refine sorted_ext hss (openM_sorted l lim) fun x => ?_
  rw [hp.mem_iff, hm, openM_mem]
theorem open_sort {l : List Fnd} {lim : Int} {o : List Int} (hn : o.Nodup) (hm : ∀ x, x ∈ o ↔ openB l lim x) : sortI o = openM l lim := by
  have := List.pairwise_mergeSort (le := fun a b : Int => decide (a ≤ b)) (fun a b c h1 h2 => by simp at *; omega) (fun a b => by simp; omega) o
  exact open_eq hn hm (List.mergeSort_perm _ _) (by simpa [sortI] using this)
end Go.Proofs.YtlbgocgocanloaaGreatDoor

/- OpenOf: the beams that the code finds. -/
namespace Go.Proofs.YtlbgocgocanloaaGreatDoor
open Go.RowKit Go.Maps
def putF (m : DataW Unit) (f : Fnd) : DataW Unit := m.put (.int .i64 f.1) (.lit (.int .i64 f.2))
def mapD (l : List Fnd) : DataW Unit := l.foldl putF (.map [])
theorem key_ne {a b : Int} (h : a ≠ b) : Lit.int .i64 a ≠ Lit.int .i64 b := fun e => h (by cases e; rfl)
theorem mapGo_at (b : Int) : ∀ (l : List Fnd) (m : DataW Unit), IsMap m →
    has (l.foldl putF m) (.int .i64 b) = ((lastOff l b).isSome || has m (.int .i64 b)) ∧ ∀ z, (l.foldl putF m).atKey (.int .i64 b) z = match lastOff l b with
      | some o => .lit (.int .i64 o)
      | none => m.atKey (.int .i64 b) z
  | [], m, _ => ⟨rfl, fun _ => rfl⟩
  | f :: l, m, hm => by
    obtain ⟨h1, h2⟩ := mapGo_at b l (putF m f) (hm.put _ _)
    rw [List.foldl_cons]
    refine ⟨?_, fun z => ?_⟩
    · rw [h1, lastOff]
      cases hl : lastOff l b with
      | some o => rfl
      | none =>
        by_cases hb : f.1 = b
        · rw [if_pos hb, putF, hb, has_put_same (k := .int .i64 b) hm (by simp [WideAt.IsKeyLit])]
          rfl
        · rw [if_neg hb, putF, has_put_other (key_ne (fun e => hb e.symm))]
          rfl
    · rw [h2 z, lastOff]
      cases hl : lastOff l b with
      | some o => rfl
      | none =>
        by_cases hb : f.1 = b
        · rw [if_pos hb]
          show (putF m f).atKey _ z = _
          rw [putF, hb, atKey_put_same (k := .int .i64 b) hm (by simp [WideAt.IsKeyLit])]
          rfl
        · rw [if_neg hb]
          show (putF m f).atKey _ z = _
          rw [putF, atKey_put_other (key_ne (fun e => hb e.symm))]
          rfl
theorem mapD_snoc (l : List Fnd) (f : Fnd) : mapD (l ++ [f]) = (mapD l).put (.int .i64 f.1) (.lit (.int .i64 f.2)) := by simp [mapD, putF]
theorem mapD_has {l : List Fnd} {b : Int} : has (mapD l) (.int .i64 b) = (lastOff l b).isSome := by
  rw [mapD, (mapGo_at b l _ isMap_empty).1]
  cases lastOff l b <;> rfl
theorem mapD_at {l : List Fnd} {b o : Int} (h : lastOff l b = some o) (z : DataW Unit) : (mapD l).atKey (.int .i64 b) z = .lit (.int .i64 o) := by
  rw [mapD, (mapGo_at b l _ isMap_empty).2, h]
/-- what has been put out: the open ones among those that have come -/
def Outs (l : List Fnd) (lim : Int) (left : Lit → Bool) (out : List Int) : Prop := out.Nodup ∧ ∀ x, x ∈ out ↔ left (.int .i64 x) = false ∧ openB l lim x
theorem outs_start (l : List Fnd) (lim : Int) : Outs l lim (has (mapD l)) [] := ⟨List.nodup_nil, fun x => by
  simp only [List.not_mem_nil, false_iff, not_and]
  rintro h ⟨o, ho, _⟩
  rw [mapD_has, ho] at h
  cases h⟩
theorem outs_end {l : List Fnd} {lim : Int} {left : Lit → Bool} {out : List Int} (h : Outs l lim left out) (hl : ∀ k, left k = false) : sortI out = openM l lim := open_sort h.1 fun x => by
  rw [h.2 x]
  exact ⟨fun g => g.2, fun g => ⟨hl _, g⟩⟩
theorem same_key {a b : Int} : (Lit.int .i64 a).sameKey (Lit.int .i64 b) = decide (a = b) := by
  simp [Lit.sameKey]
theorem outs_last {l : List Fnd} {x c : Int} (hat : ∀ zd : DataW Unit, (mapD l).atKey (.int .i64 x) zd = .lit (.int .i64 c)) : lastOff l x = some c := by
  cases h : lastOff l x with
  | none =>
    have h1 := has_true_of_atKey hat
    rw [mapD_has, h] at h1
    cases h1
  | some o =>
    have h1 := hat (.lit (.int .i64 0))
    rw [mapD_at h] at h1
    cases h1
    rfl
theorem outs_yes {l : List Fnd} {lim : Int} {left : Lit → Bool} {out : List Int} {x c : Int} (h : Outs l lim left out) (hx : left (.int .i64 x) = true) (hc : lastOff l x = some c) (hlim : lim < sizeI c) :
    Outs l lim (fun z => left z && !z.sameKey (.int .i64 x)) (out ++ [x]) := by
  obtain ⟨h1, h2⟩ := h
  refine ⟨?_, fun y => ?_⟩
  · rw [List.nodup_append]
    refine ⟨h1, by simp, fun a ha b hb => ?_⟩
    obtain rfl : b = x := by simpa using hb
    rintro rfl
    rw [((h2 a).1 ha).1] at hx
    cases hx
  · rw [List.mem_append, h2 y]
    simp only [List.mem_singleton, same_key]
    by_cases hy : y = x
    · subst hy
      simp only [or_true, decide_true, Bool.not_true, Bool.and_false, true_and, true_iff]
      exact ⟨c, hc, hlim⟩
    · simp [hy]
theorem outs_no {l : List Fnd} {lim : Int} {left : Lit → Bool} {out : List Int} {x c : Int} (h : Outs l lim left out) (hx : left (.int .i64 x) = true) (hc : lastOff l x = some c) (hlim : ¬ lim < sizeI c) :
    Outs l lim (fun z => left z && !z.sameKey (.int .i64 x)) out := by
  obtain ⟨h1, h2⟩ := h
  refine ⟨h1, fun y => ?_⟩
  rw [h2 y]
  simp only [same_key]
  by_cases hy : y = x
  · subst hy
    rw [hx]
    simp only [Bool.true_eq_false, false_and, decide_true, Bool.not_true, Bool.and_false, true_and, false_iff]
    rintro ⟨o, ho, g⟩
    rw [hc] at ho
    cases ho
    exact hlim g
  · simp [hy]
/-- the error of open findings -/
def openErr (l : List Fd) (lim : Int) : Int := if fdM l = 0 then (if withinB lim 0 10000 = true then 0 else 2) else fdM l
def openO (l : List Fd) (lim E : Int) : Option (List Int) := if E = 0 then some (openM (l.map fdF) lim) else none
theorem openO_no {l : List Fd} {lim E : Int} (h : E ≠ 0) : openO l lim E = none := if_neg h
theorem openO_yes {l : List Fd} {lim : Int} : openO l lim 0 = some (openM (l.map fdF) lim) := if_pos rfl
def OutAt (w : World) : Option (List Int) → Value → Prop
  | none, v => v = .slice none 0 0
  | some T, v => ∃ A cap, v = .slice A T.length cap ∧ Rd w w.heap.size A (intCells T)
def OpenPost (w : World) (o : Option (List Int)) (e : Int) (x : Ending) (w' : World) : Prop :=
  ∃ v, x = .returned (.tuple #[v, .int .i64 e]) ∧ OutAt w' o v ∧ Below w.heap.size w w'
theorem own_map_keep {H : Type} {w w' : World} {P : Program} {k : TypeId} {R : Value → Option (DataW H × List MemPlace)} {b n : Nat} {D : DataW H} (h : w.ownsMap P k R b n D) (hb : Below w.heap.size w w') : w'.ownsMap P k R b n D := by
  have hlt := h.lt
  obtain ⟨es, clock, hbk, r⟩ := h
  exact ⟨es, clock, (hb.block b hlt).trans hbk, r⟩
def MapRel (w0 : World) (l : List Fd) (n : Nat) (V : Int) (bm : Nat) (u : Value) (wr : World) : Prop :=
  ∃ k : Nat, k ≤ n ∧ u = .int .i64 k ∧ fdGo (l.drop k) = V ∧ wr.ownsMap (H := Unit) Tryz.prog 3 (plainElem Tryz.prog 3) bm k (mapD ((l.take k).map fdF)) ∧ Below w0.heap.size w0 wr
def OutRel (w0 : World) (l : List Fnd) (lim : Int) (n bm r : Nat) (u : Value) (wr : World) : Prop :=
  ∃ (left : Lit → Bool) (cnt : Nat) (out : List Int), wr.ranges (H := Unit) Tryz.prog 3 (plainElem Tryz.prog 3) bm r n (mapD l) left cnt ∧ out.length + cnt ≤ 1000 ∧ Outs l lim left out ∧ wr.ownsRow w0.heap.size 3 1 u out.length (intCells out) ∧ Below w0.heap.size w0 wr
theorem lastOff_in {l : List Fnd} {x c : Int} (h : ∀ f ∈ l, -10000 ≤ f.2 ∧ f.2 ≤ 10000) (hx : lastOff l x = some c) : -10000 ≤ c ∧ c ≤ 10000 := by
  induction l with
  | nil => simp [lastOff] at hx
  | cons f l ih =>
    rw [lastOff] at hx
    cases hl : lastOff l x with
    | some o =>
      rw [hl] at hx
      exact ih (fun g hg => h g (by simp [hg])) (hl.trans hx)
    | none =>
      rw [hl] at hx
      simp only [Option.none_or] at hx
      split at hx
      · cases hx
        exact h f (by simp)
      · cases hx
theorem own_keep2 {w w' : World} {B e size : Nat} {v : Value} {n : Nat} {xs : List Value} (h : w.ownsRow B e size v n xs) (hk : ∀ (k : Nat) (cur : Array Value), w.heap[k]? = some (Obj.cells cur e (0, 0)) → w'.heap[k]? = w.heap[k]?) : w'.ownsRow B e size v n xs := by
  refine ⟨h.1, ?_⟩
  rcases h.2 with h2 | ⟨g, cap, cur, h1, h2, h3, h4⟩
  · exact .inl h2
  · exact .inr ⟨g, cap, cur, h1, h2, (hk g cur h3).trans h3, h4⟩
theorem own_not_map {w : World} {B e size n bm : Nat} {v : Value} {xs : List Value} (h : w.ownsRow B e size v n xs) (hm : ∃ es clock, w.heap[bm]? = some (.map es clock)) : some bm ≠ v.ownBlock := fun he => by
  obtain ⟨_, _, cur, hcur⟩ := ownBlk h he.symm
  obtain ⟨es, clock, hb⟩ := hm
  rw [hb] at hcur
  simp at hcur
theorem own_not_iter {w : World} {B e size n bm r k cnt : Nat} {P : Program} {R : Value → Option (DataW Unit × List MemPlace)} {D : DataW Unit} {kt : TypeId} {left : Lit → Bool} {v : Value} {xs : List Value} (h : w.ownsRow B e size v n xs) (hm : w.ranges P kt R bm r k D left cnt) : some r ≠ v.ownBlock := fun he => by
  obtain ⟨_, _, cur, hcur⟩ := ownBlk h he.symm
  obtain ⟨es, clock, since, seen, c0, _, _, _, _, hr, _⟩ := hm
  rw [hr] at hcur
  simp at hcur
theorem fdGo_in : ∀ {l : List Fd}, fdGo l = 0 → ∀ x ∈ l, fdE x = 0
  | [], _, _, h => by simp at h
  | a :: l, h, x, hx => by
    rw [fdGo] at h
    split at h
    · rename_i h0
      rcases List.mem_cons.1 hx with rfl | hx
      · exact h0
      · exact fdGo_in h x hx
    · rename_i h0
      exact absurd h h0
theorem fdE_in {x : Fd} (h : fdE x = 0) : 0 ≤ x.2.2.1 ∧ x.2.2.1 ≤ 100000 ∧ -10000 ≤ x.2.2.2 ∧ x.2.2.2 ≤ 10000 := by
  unfold fdE at h
  split at h
  · split at h
    · rename_i h2
      simp [rightB, withinB] at h2
      omega
    · cases h
  · cases h
set_option maxRecDepth 100000 in
set_option maxHeartbeats 16000000 in
theorem OpenOf_any (w : World) (B : Nat) (A : Option Addr) (n c : Nat) (l : List Fd) (lim : Int) (hl : l.length = n) (h : Rd w B A (fdCells l)) (hB : B ≤ w.heap.size) (hn : n ≤ 1000000000) (hz : n ≤ 100 → ∀ x ∈ l, x.1.size ≤ 1000000000) (E : Int) (hE : openErr l lim = E) :
    Calls Tryz.prog 33 #[.slice A n c, .int .i64 lim] w (OpenPost w (openO l lim E) E) := by
  obtain ⟨i1, hi1, hy0, hy1, hy2⟩ := info_parts info3
  by_cases h100 : n ≤ 100
  · have HM : Hid (fdM l = fdGo l) := by rw [Hid, fdM, if_pos (by rw [hl]; exact h100)]
    have h100i : ¬ (100 : Int) < (n : Int) := by omega
    have HZ := Lib.hid (hz h100)
    obtain ⟨V, hV⟩ : ∃ V, fdGo l = V := ⟨_, rfl⟩
    rw [hV] at HM
    have HVV := Lib.hid hV
    have HL := Lib.hid hl
    have HE1 : Hid (V ≠ 0 → E = V) := fun h0 => by rw [← hE, openErr, HM.out, if_neg h0]
    have HE2 : Hid (V = 0 → E = if withinB lim 0 10000 = true then 0 else 2) := fun h0 => by rw [← hE, openErr, HM.out, if_pos h0]
    have hmm := @run_makeMap Tryz.prog
    clear hV hl hz hE
    go_enter Tryz.func33, Tryz.ntmps33
    go_wp2
    have HREL : Hid (MapRel w l n V w.heap.size (.int .i64 0) (w.alloc (.map #[] 0))) := ⟨0, Nat.zero_le _, rfl, by rw [List.drop_zero]; exact HVV.out, World.ownsMap_made _ _ _ _, (Below.refl _ _).alloc (Nat.le_refl _) _⟩
    have HBW : Hid (Below w.heap.size w (w.alloc (.map #[] 0))) := (Below.refl _ _).alloc (Nat.le_refl _) _
    generalize hbm : w.heap.size = bm at *
    have HBM := Lib.hid hbm
    clear hbm
    go_loopw [19] (fun u wr => MapRel w l n V bm u wr) (fun u _ => n - (intOf u).toNat)
    case atStart => exact HREL.out
    case round =>
      clear HREL hmm
      obtain ⟨k, hk, rfl, hgo, hmap, hb⟩ := hrel
      have HGO := Lib.hid hgo
      have HBK := Lib.hid hb
      have HMAP := Lib.hid hmap
      have hsk := hb.size
      have hr := h.below (hb.mono (HBM.out ▸ hB))
      clear hgo hb hmap HBW
      rw [HBM.out] at hsk
      by_cases hlt : k < n
      · have hkl : k < l.length := by rw [HL.out]; exact hlt
        obtain ⟨ev, hev⟩ : ∃ ev, l[k]? = some ev := ⟨_, List.getElem?_eq_getElem hkl⟩
        have hes := HZ.out ev (List.mem_of_getElem? hev)
        obtain ⟨z0, z1, z2, z3⟩ := fdCells_at l k ev hev
        obtain ⟨bb, off, rfl, hbB, e0, e1, e2, e3⟩ := hr.at4 z0 z1 z2 z3
        have HS := Lib.hid (drop_consF hev)
        have HTK : Hid (l.take (k + 1) = l.take k ++ [ev]) := by rw [Hid, List.take_add_one, hev]; rfl
        obtain ⟨s, d, b, o⟩ := ev
        simp only at e0 e1 e2 e3 hes
        have HG : Hid ((if fdE (s, d, b, o) = 0 then fdGo (l.drop (k + 1)) else fdE (s, d, b, o)) = V) := by
          have := HGO.out
          rw [HS.out, fdGo] at this
          exact this
        have hba : Below wr.heap.size wr (wr.alloc (.cells #[.string s, .int .i64 d, .int .i64 b, .int .i64 o] 25)) := (Below.refl _ _).alloc (Nat.le_refl _) _
        have kb : (wr.alloc (.cells #[.string s, .int .i64 d, .int .i64 b, .int .i64 o] 25)).heap[wr.heap.size]? = some (.cells #[.string s, .int .i64 d, .int .i64 b, .int .i64 o] 25 (0, 0)) := by rw [heapq_alloc, if_pos rfl]
        have m0 := (cell_of_row _ _ 0 _ _ _ kb).trans (by rfl : _ = some (.string s))
        have m1 := (cell_of_row _ _ 1 _ _ _ kb).trans (by rfl : _ = some (.int .i64 d))
        have m2 := (cell_of_row _ _ 2 _ _ _ kb).trans (by rfl : _ = some (.int .i64 b))
        have m3 := (cell_of_row _ _ 3 _ _ _ kb).trans (by rfl : _ = some (.int .i64 o))
        have HMA := Lib.hid (own_map_keep HMAP.out hba)
        have HBA := Lib.hid (HBK.out.trans (hba.mono (HBM.out ▸ hsk)))
        have hsa := Nat.le_trans hsk hba.size
        clear hba kb z0 z1 z2 z3 hev hkl hr HGO HMAP HBK
        go_upto_region 7 with (fail)
        generalize wr.alloc (.cells #[.string s, .int .i64 d, .int .i64 b, .int .i64 o] 25) = wa at *
        clear e0 e1 e2 e3
        generalize wr.heap.size = zb at *
        have FE := findingErr_any s d b o hes wa
        unfold ErrVal at FE
        have HIN : Hid (fdE (s, d, b, o) = 0 → 0 ≤ b ∧ b ≤ 100000 ∧ -10000 ≤ o ∧ o ≤ 10000) := fun h0 => fdE_in h0
        generalize fdE (s, d, b, o) = er at *
        by_cases her : er = 0
        · have hin := HIN.out her
          subst her
          have HN : Hid (fdGo (l.drop (k + 1)) = V) := by
            have := HG.out
            rw [if_pos rfl] at this
            exact this
          go_upto_region 10 with (go_at_call 49; refine FE.mono ?_; rintro e w1 ⟨rfl, hb1⟩)
          replace m2 := kept hb1 m2
          replace m3 := kept hb1 m3
          have hmap := own_map_keep HMA.out hb1
          have HB1 := Lib.hid (HBA.out.trans (hb1.mono (HBM.out ▸ hsa)))
          replace hsa := Nat.le_trans hsa hb1.size
          clear hb1 HMA HBA m0 m1 FE
          go_wp2_with (at_mapUpdate; refine stp ?_)
          unfold Stp
          refine wpList_mapUpdate_own _ rfl _ _ _ 155 rfl 3 3 (Maps.int_keyed Tryz.underlying3) Tryz.underlying155 (plainElem Tryz.prog 3) bm k _ rfl hmap (by unfold maxLen; omega) _ _ _ rfl rfl (Maps.keyOf_int_mk Tryz.underlying3 (WalkArith.wf_i64 (by omega))) _ [] (plainElem_int Tryz.underlying3 (WalkArith.wf_i64 (by omega))) ?_
          intro w6 hmap6 hgrow6
          have MAP6 : Hid (w6.ownsMap (H := Unit) Tryz.prog 3 (plainElem Tryz.prog 3) bm (k + 1) (mapD ((l.take (k + 1)).map fdF))) := by
            rw [Hid, HTK.out, List.map_append, List.map_cons, List.map_nil, mapD_snoc]
            exact hmap6
          have HB6 := Lib.hid (HB1.out.grown hgrow6 (HBM.out ▸ hsa) (fun j hj => by rw [← Option.some.inj hj, HBM.out]; exact Nat.le_refl _))
          clear hmap hmap6 hgrow6
          go_wp2
          go_roundw
          case rel => exact ⟨k + 1, by omega, by go_num, HN.out, MAP6.out, HB6.out⟩
          case measure => simp [intOf]; omega
        · have e9 : (er != 0) = true := bne_iff_ne.2 her
          have HN : Hid (V = er) := by
            have := HG.out
            rw [if_neg her] at this
            exact this.symm
          have HE : Hid (E = er) := by rw [Hid, HE1.out (by rw [HN.out]; exact her), HN.out]
          go_wp2_with (go_at_call 49; refine FE.mono ?_; rintro e w1 ⟨rfl, hb1⟩)
          go_ret2
          exact ⟨.slice none 0 0, by rw [HE.out]; rfl, by rw [HE.out, openO_no her]; rfl, HBM.out.symm ▸ HBA.out.trans (hb1.mono (HBM.out ▸ hsa))⟩
      · obtain rfl : k = n := by omega
        have HN : Hid (V = 0) := by
          have := HGO.out
          rw [List.drop_eq_nil_iff.2 (by rw [HL.out]; omega), fdGo] at this
          exact this.symm
        have HTK : Hid (l.take k = l) := List.take_of_length_le (by rw [HL.out]; exact Nat.le_refl _)
        have hmap := HMAP.out
        rw [HTK.out] at hmap
        cases ql : withinB lim 0 10000 with
        | false =>
          have HE : Hid (E = 2) := by rw [Hid, HE2.out HN.out, ql, if_neg (by decide)]
          have V9 := fun W => within_val lim 0 10000 false ql W
          clear ql
          go_wp2_with (go_at_call 41; refine (V9 _).mono ?_; rintro e w1 ⟨rfl, rfl⟩)
          go_ret2
          exact ⟨.slice none 0 0, by rw [HE.out]; rfl, by rw [HE.out, openO_no (by decide)]; rfl, HBM.out.symm ▸ HBK.out⟩
        | true =>
          have HE : Hid (E = 0) := by rw [Hid, HE2.out HN.out, ql, if_pos rfl]
          have hlim : 0 ≤ lim ∧ lim ≤ 10000 := by simpa [withinB] using ql
          have V9 := fun W => within_val lim 0 10000 true ql W
          obtain ⟨L, hL⟩ : ∃ L, l.map fdF = L := ⟨_, rfl⟩
          rw [hL] at hmap
          have hcn := hmap.size_le
          have HLF := Lib.hid hL
          clear ql HMAP hL
          have HIN : Hid (∀ f ∈ L, -10000 ≤ f.2 ∧ f.2 ≤ 10000) := by
            intro f hf
            rw [← HLF.out] at hf
            obtain ⟨y, hy, rfl⟩ := List.mem_map.1 hf
            have := fdE_in (fdGo_in (HVV.out.trans HN.out) y hy)
            exact ⟨this.2.2.1, this.2.2.2⟩
          have HSW : Hid (w.heap.size ≤ wr.heap.size) := HBM.out ▸ hsk
          go_wp2_with (first | (go_at_call 41; refine (V9 _).mono ?_; rintro e w1 ⟨rfl, rfl⟩) | (at_range; refine wpList_range_own _ rfl _ 155 rfl 3 3 (Maps.int_keyed Tryz.underlying3) Tryz.underlying155 _ bm k _ rfl hmap ?_; intro wi hrg0 hg0 hs0))
          go_frame
          have hbq : Below wr.heap.size wr wi := (Below.refl _ _).grown hg0 (Nat.le_refl _) (fun j hj => by cases hj)
          have hbmr : bm < wr.heap.size := hmap.lt
          generalize wr = wq at *
          have HREL : Hid (OutRel wq L lim k bm wq.heap.size (.slice none 0 0) wi) := ⟨_, _, [], hrg0, by simp; omega, outs_start L lim, ⟨rfl, .inl ⟨rfl, rfl⟩⟩, hbq⟩
          have HBQ : Hid (∃ es clock, wi.heap[bm]? = some (.map es clock)) := by
            obtain ⟨es, clock, hb, _⟩ := hrg0.owns
            exact ⟨es, clock, hb⟩
          clear hrg0 hg0 hbq hmap V9
          go_loopw [10] (fun u wr => OutRel wq L lim k bm wq.heap.size u wr) (fun _ wr => wr.rangeLeft bm wq.heap.size)
          case atStart => exact HREL.out
          case round =>
            clear HREL
            obtain ⟨left, cnt, out, hrg, hcs, hout, hown, hb⟩ := hrel
            obtain ⟨Ao, co, rfl⟩ := rowForm hown
            have HOWN := Lib.hid hown
            have HBR := Lib.hid hb
            have hsr := hb.size
            clear hown hb
            go_wp2_with (at_next; refine stp ?_)
            unfold Stp
            refine wpList_next_ranges_ii _ rfl _ rfl 3 3 .i64 .i64 (Maps.int_keyed Tryz.underlying3) Tryz.underlying3 Tryz.underlying3 bm wq.heap.size k _ _ _ rfl hrg ?_ ?_
            · intro hc0 hl0
              have HSO := Lib.hid (outs_end hout hl0)
              by_cases ho0 : out = []
              · subst ho0
                have HO0 : Hid (openM L lim = []) := by rw [Hid, ← HSO.out]; simp [sortI]
                have SN := Tryz.slices_Sort_int_none Ao co wr
                go_wp2_with (go_at_call 82; refine SN.mono ?_; rintro e w1 ⟨rfl, rfl⟩)
                go_ret2
                exact ⟨.slice Ao 0 co, by rw [HE.out]; rfl, by rw [HE.out, openO_yes, HLF.out, HO0.out]; exact ⟨Ao, co, rfl, fun k u hk => by simp [intCells] at hk⟩, HBM.out.symm ▸ HBK.out.trans (HBR.out.mono HSW.out)⟩
              · obtain ⟨g, rfl⟩ : ∃ g, Ao = some ⟨g, 0, none⟩ := by
                  rcases HOWN.out.2 with ⟨_, h0⟩ | ⟨g, cap, cur, he, _⟩
                  · exact absurd (List.eq_nil_of_length_eq_zero h0) ho0
                  · simp only [Value.slice.injEq] at he
                    exact ⟨g, he.1⟩
                have SO := Sort_own wr wq.heap.size g co out HOWN.out (by omega)
                have hg1 := (ownBlk HOWN.out rfl).1
                have hg2 := (ownBlk HOWN.out rfl).2.1
                go_wp2_with (go_at_call 82; refine SO.mono ?_; rintro e w1 ⟨rfl, hs1, hs2, hb1⟩)
                go_ret2
                have hSL : (openM L lim).length = out.length := by rw [← HSO.out, sortI_len]
                exact ⟨.slice (some ⟨g, 0, none⟩) out.length co, by rw [HE.out]; rfl, by
                  rw [HE.out, openO_yes, HLF.out]
                  exact ⟨some ⟨g, 0, none⟩, co, by rw [hSL], fun j u hj => ⟨g, 0, rfl, Nat.lt_of_lt_of_le hg2 hb1.size, by
                    rw [Nat.zero_add]
                    rw [← HSO.out] at hj
                    exact hs1 j u hj⟩⟩, HBM.out.symm ▸ HBK.out.trans ((HBR.out.trans (hb1.mono hg1)).mono HSW.out)⟩
            · intro x c w1 cnt1 hwx hwc hlx hat hrg1 hlt9 hg1 hs1 hen
              have hlast := outs_last hat
              have hc10 := lastOff_in HIN.out hlast
              have OWN1 : Hid (w1.ownsRow wq.heap.size 3 1 (.slice Ao out.length co) out.length (intCells out)) := own_keep2 HOWN.out (fun j cur hj => hg1.block j (Array.getElem?_eq_some_iff.1 hj).1 (fun he => by
                obtain ⟨es, clock, since, seen, c0, _, _, _, _, hri, _⟩ := hrg
                rw [Option.some.inj he, hri] at hj
                simp at hj))
              have HB1 := Lib.hid (HBR.out.grown hg1 hsr (fun j hj => by rw [← Option.some.inj hj]; exact Nat.le_refl _))
              have hs1' : wq.heap.size ≤ w1.heap.size := by omega
              have HBQ : Hid (∃ es clock, w1.heap[bm]? = some (.map es clock)) := by
                obtain ⟨es, clock, hb, _⟩ := hrg1.owns
                exact ⟨es, clock, hb⟩
              clear HOWN HBR hg1 hs1
              by_cases hq : lim < sizeI c
              · rcases Int.lt_or_le c 0 with hsg | hsg
                · have hsg2 : c < -c := by omega
                  have hsg3 : ¬ -c < c := by omega
                  have hmx : sizeI c = -c := by rw [sizeI]; omega
                  have hlt2 : lim < -c := by rw [← hmx]; exact hq
                  have HO := Lib.hid (outs_yes hout hlx hlast hq)
                  clear hq hmx
                  go_upto_region 19 with fail
                  go_wp2_with (at_builtin; refine stp ?_)
                  unfold Stp
                  refine wpList_append_lies _ rfl _ _ 44 rfl wq.heap.size 3 i1 _ 1 8 Tryz.underlying44 hi1 hy0 hy1 hy2 rfl (by omega) (.slice Ao out.length co) out.length (intCells out) rfl (OWN1.out.alloc _) ⟨w1.heap.size, 0, none⟩ 1 1 [.int .i64 x] rfl rfl (news1 (by simp)) (by simp [Value.oneCell']) (by omega) (by simp only [maxLen]; omega) (by omega) (by simp; omega) _ rfl ?_
                  intro gg cap w6 hown6 hgrow6 hat6 hlt6
                  have hrg2 := (hrg1.alloc (.cells #[.int .i64 x] 3)).kept hgrow6 (own_not_map OWN1.out HBQ.out) (own_not_iter OWN1.out hrg1)
                  have HB6 := Lib.hid ((HB1.out.alloc hs1' _).grown hgrow6 (by simp; omega) (fun j hj => (ownBlk OWN1.out hj).1))
                  have HOWN6 := Lib.hid hown6
                  clear hown6 hgrow6 hat6 hlt6
                  go_wp2
                  go_roundw
                  case rel => exact ⟨_, cnt1, out ++ [x], hrg2, by simp; omega, HO.out, by simpa [intCells] using HOWN6.out, HB6.out⟩
                  case measure => rw [hrg2.left_eq, hrg.left_eq]; exact hlt9
                · have hsg2 : ¬ c < -c := by omega
                  have hsg3 : -c ≤ c := by omega
                  have hmx : sizeI c = c := by rw [sizeI]; omega
                  have hlt2 : lim < c := by rw [← hmx]; exact hq
                  have HO := Lib.hid (outs_yes hout hlx hlast hq)
                  clear hq hmx
                  go_upto_region 19 with fail
                  go_wp2_with (at_builtin; refine stp ?_)
                  unfold Stp
                  refine wpList_append_lies _ rfl _ _ 44 rfl wq.heap.size 3 i1 _ 1 8 Tryz.underlying44 hi1 hy0 hy1 hy2 rfl (by omega) (.slice Ao out.length co) out.length (intCells out) rfl (OWN1.out.alloc _) ⟨w1.heap.size, 0, none⟩ 1 1 [.int .i64 x] rfl rfl (news1 (by simp)) (by simp [Value.oneCell']) (by omega) (by simp only [maxLen]; omega) (by omega) (by simp; omega) _ rfl ?_
                  intro gg cap w6 hown6 hgrow6 hat6 hlt6
                  have hrg2 := (hrg1.alloc (.cells #[.int .i64 x] 3)).kept hgrow6 (own_not_map OWN1.out HBQ.out) (own_not_iter OWN1.out hrg1)
                  have HB6 := Lib.hid ((HB1.out.alloc hs1' _).grown hgrow6 (by simp; omega) (fun j hj => (ownBlk OWN1.out hj).1))
                  have HOWN6 := Lib.hid hown6
                  clear hown6 hgrow6 hat6 hlt6
                  go_wp2
                  go_roundw
                  case rel => exact ⟨_, cnt1, out ++ [x], hrg2, by simp; omega, HO.out, by simpa [intCells] using HOWN6.out, HB6.out⟩
                  case measure => rw [hrg2.left_eq, hrg.left_eq]; exact hlt9
              · rcases Int.lt_or_le c 0 with hsg | hsg
                · have hsg2 : c < -c := by omega
                  have hsg3 : ¬ -c < c := by omega
                  have hmx : sizeI c = -c := by rw [sizeI]; omega
                  have hlt2 : ¬ lim < -c := by rw [← hmx]; exact hq
                  have HO := Lib.hid (outs_no hout hlx hlast hq)
                  clear hq hmx
                  go_wp2
                  go_roundw
                  case rel => exact ⟨_, cnt1, out, hrg1, by omega, HO.out, OWN1.out, HB1.out⟩
                  case measure => rw [hrg1.left_eq, hrg.left_eq]; exact hlt9
                · have hsg2 : ¬ c < -c := by omega
                  have hsg3 : -c ≤ c := by omega
                  have hmx : sizeI c = c := by rw [sizeI]; omega
                  have hlt2 : ¬ lim < c := by rw [← hmx]; exact hq
                  have HO := Lib.hid (outs_no hout hlx hlast hq)
                  clear hq hmx
                  go_wp2
                  go_roundw
                  case rel => exact ⟨_, cnt1, out, hrg1, by omega, HO.out, OWN1.out, HB1.out⟩
                  case measure => rw [hrg1.left_eq, hrg.left_eq]; exact hlt9
  · have HV : Hid (fdM l = 8) := by rw [Hid, fdM, if_neg (by rw [hl]; exact h100)]
    have h100i : (100 : Int) < (n : Int) := by omega
    have HE : Hid (E = 8) := by rw [Hid, ← hE, openErr, HV.out, if_neg (by decide)]
    clear h hl hz hE
    go_enter Tryz.func33, Tryz.ntmps33
    go_wp2
    go_ret2
    exact ⟨.slice none 0 0, by rw [HE.out]; rfl, by rw [HE.out, openO_no (by decide)]; rfl, Below.refl _ _⟩
end Go.Proofs.YtlbgocgocanloaaGreatDoor
