/- A region that draws its order: operations that read cells of a class of worlds first; then operations that make memory, order by order, each keeping the class; then a tail whose order is forced, which may leave the class. -/
import Derived.Test.YtlbgocgocanloaaGreatDoorf4R1
import Derived.OrdersHeld
namespace Go.Proofs.YtlbgocgocanloaaGreatDoor
open Go
section
variable {P : Program} {ops : Array Oper} {md : Region.Mode} {S : World → Prop} {ts : List Nat} {Q : Exit → Act → World → Prop}
def wpAnyL (P : Program) (md : Region.Mode) (ops : Array Oper) (Q : Exit → Act → World → Prop) (S : World → Prop) (ts : List Nat) : Nat → Array Bool → Act → World → Prop
  | 0, listed, a, w => Region.ready md ops listed = [] ∧ Q .normal a w
  | fuel + 1, listed, a, w =>
    (Region.ready md ops listed = [] → Q .normal a w) ∧
    ∀ i ∈ Region.ready md ops listed, wpOp P ops Q i (fun a' w' => (ts.contains i = false → S w') ∧ wpAnyL P md ops Q S ts fuel (listed.setIfInBounds i true) a' w') a w
theorem wpAny_of_L : ∀ (fuel : Nat) (listed : Array Bool) (a : Act) (w : World), wpAnyL P md ops Q S ts fuel listed a w → wpAny P md ops Q fuel listed a w
  | 0, _, _, _, h => h
  | fuel + 1, _, _, _, h => ⟨h.1, fun i hi => wpOp_mono (fun a' w' h' => wpAny_of_L fuel _ a' w' h'.2) (h.2 i hi)⟩
theorem wpAnyL_first {i : Nat} {oi : Oper} {v : Value} (hi : ops[i]? = some oi) (hsel : ∀ (j : Nat) (o : Oper) cs b, ops[j]? = some o → o.op ≠ .select cs b)
    (hQ : ∀ c a w, Q (.panic c) (a.put oi.dst v) w → Q (.panic c) a w) (hT : ∀ t, ts.contains t = true → waitsB md ops t [i] = true) :
    ∀ (fuel : Nat) (listed : Array Bool) (a : Act) (w : World), ClosedL md ops listed →
      (∀ j oj, ops[j]? = some oj → j ≠ i → listed.getD j true = false → (∀ e ∈ oj.after, Region.binds md e = true → e.on ≠ i) → oi.apart ops oj = true) →
      i ∈ Region.ready md ops listed → YieldsIf P ops S oi v a → S w →
      wpAnyL P md ops Q S ts fuel (listed.setIfInBounds i true) (a.put oi.dst v) w → wpAnyL P md ops Q S ts (fuel + 1) listed a w := by
  intro fuel
  induction fuel with
  | zero =>
    intro listed a w _ _ hr hy hS H
    refine ⟨fun h => (by rw [h] at hr; cases hr), fun j hj => ?_⟩
    by_cases hji : j = i
    · subst hji; exact hy.wpOp hi hS ⟨fun _ => hS, H⟩
    · have := ready_mono hj hji
      rw [H.1] at this
      cases this
  | succ fuel ih =>
    intro listed a w inv hfree hr hy hS H
    have hun := (mem_ready.1 hr).1
    refine ⟨fun h => (by rw [h] at hr; cases hr), fun j hj => ?_⟩
    by_cases hji : j = i
    · subst hji; exact hy.wpOp hi hS ⟨fun _ => hS, H⟩
    · have h1 := H.2 j (ready_mono hj hji)
      obtain ⟨hjun, oj, hoj, hall⟩ := mem_ready.1 hj
      have hnot : ∀ e ∈ oj.after, Region.binds md e = true → e.on ≠ i := fun e he hb heq => by
        have h1 := hall e he hb
        rw [heq, getD_false_of_true hun] at h1
        cases h1
      have h2 := wpOp_putIf hoj (hfree j oj hoj hji hjun hnot) (fun cs b => hsel i oi cs b hi) (fun cs b => hsel j oj cs b hoj) hQ hy h1
      have hTj : ts.contains j = false := by
        cases ht : ts.contains j with
        | false => rfl
        | true => exact (waitsB_ready inv (hT j ht) (i := i) (by simp) hj hun).elim
      have hfree' : ∀ k ok, ops[k]? = some ok → k ≠ i → (listed.setIfInBounds j true).getD k true = false →
          (∀ e ∈ ok.after, Region.binds md e = true → e.on ≠ i) → oi.apart ops ok = true := fun k ok hk hki hun hno => by
        refine hfree k ok hk hki ?_ hno
        by_cases hjk : j = k
        · subst hjk; exact hjun
        · rw [getD_set_ne true hjk] at hun; exact hun
      refine wpOp_mono (fun a' w' h3 => ⟨h3.2.1, ih (listed.setIfInBounds j true) a' w' (inv.set hj) hfree' (ready_mono hr (Ne.symm hji)) h3.1 (h3.2.1 hTj) ?_⟩) h2
      rw [Array.setIfInBounds_comm _ _ hji]
      exact h3.2.2
/-- operations that yield the same in every world of the class, one behind the other -/
def wpIf (P : Program) (ops : Array Oper) (S : World → Prop) (K : Act → Prop) : List Oper → Act → Prop
  | [], a => K a
  | o :: rest, a => ∃ v, YieldsIf P ops S o v a ∧ wpIf P ops S K rest (a.put o.dst v)
theorem wpAnyL_hoist {g : Nat} {w : World} {K : Act → Prop} (hsel : Region.noSelect ops = true) (hS : S w) :
    ∀ (is : List Nat) (listed : Array Bool) (a : Act), ClosedL md ops listed → hoistB md ops is listed = true → (∀ t, ts.contains t = true → ∀ i ∈ is, waitsB md ops t [i] = true) →
      (∀ a', K a' → wpAnyL P md ops (onlyNormal Q) S ts g (listAll is listed) a' w) → wpIf P ops S K (opsAt ops is) a → wpAnyL P md ops (onlyNormal Q) S ts (is.length + g) listed a w
  | [], listed, a, _, _, _, hL, h => by rw [List.length_nil, Nat.zero_add]; exact hL a h
  | i :: is, listed, a, inv, hB, hT, hL, h => by
    simp only [hoistB, Bool.and_eq_true] at hB
    obtain ⟨⟨hr, hf⟩, hB'⟩ := hB
    have hr' : i ∈ Region.ready md ops listed := by simpa using hr
    obtain ⟨_, oi, hoi, _⟩ := mem_ready.1 hr'
    have hop : opsAt ops (i :: is) = oi :: opsAt ops is := by simp [opsAt, hoi, consOpt]
    rw [hop] at h
    obtain ⟨v, hy, hK⟩ := h
    rw [show (i :: is).length + g = (is.length + g) + 1 by simp; omega]
    exact wpAnyL_first hoi (Region.noSelect_spec hsel) (fun _ _ _ h => h) (fun t ht => hT t ht i (by simp)) _ listed a w inv (Region.free_spec hoi hf) hr' hy hS
      (wpAnyL_hoist hsel hS is _ _ (inv.set hr') hB' (fun t ht k hk => hT t ht k (by simp [hk])) hL hK)
theorem Oper_wp_swap {o : Oper} {Q1 Q2 : Exit → Act → World → Prop} {a : Act} {w : World} {K : Act → World → Prop}
    (hh : o.wp P a w K (onlyNormal Q1)) : o.wp P a w K (onlyNormal Q2) := by
  unfold Oper.wp at *
  generalize (execOp a.eval o).run P w = r at *
  cases r with
  | ok n w' =>
    cases n <;> simp only [Oper.upon] at hh ⊢ <;>
      first
        | exact hh
        | exact Calls.mono hh (fun e w'' he => by
            cases e
            · exact he
            · exact absurd he (by simp [onlyNormal])
            · obtain ⟨_, _, h⟩ := he; exact absurd h (by simp [onlyNormal]))
  | halt x w' => cases x <;> simp only [Oper.upon] at hh ⊢ <;> first | exact hh | exact absurd hh (by simp [onlyNormal])
/-- one operation of the middle: it is walked alone, and the class is shown anew -/
def wpMid (P : Program) (ops : Array Oper) (K : Act → World → Prop) (i : Nat) (a : Act) (w : World) : Prop :=
  wpList P ops (onlyNormal fun _ a' w' => K a' w') (opsAt ops [i]) a w
theorem wpOp_of_mid {i : Nat} {K : Act → World → Prop} {a : Act} {w : World} {oi : Oper} (hoi : ops[i]? = some oi) (h : wpMid P ops K i a w) : wpOp P ops (onlyNormal Q) i K a w := by
  unfold wpMid at h
  have hop : opsAt ops [i] = [oi] := by simp [opsAt, hoi, consOpt]
  rw [hop] at h
  unfold wpOp
  simp only [hoi]
  unfold wpList at h
  split
  · rename_i hw
    rw [if_pos hw] at h
    rcases h with h | ⟨_, _, _, h⟩
    · exact .inl (Oper_wp_swap (Oper.wp_mono (fun a w h => h) h))
    · exact absurd h (by simp [onlyNormal])
  · rename_i hw
    rw [if_neg hw] at h
    exact h
/-- the middle: every order, the class shown anew behind each operation; then the tail -/
def wpOrders (P : Program) (md : Region.Mode) (ops : Array Oper) (S : World → Prop) (K : Act → World → Prop) : Nat → Array Bool → Act → World → Prop
  | 0, _, a, w => K a w
  | n + 1, listed, a, w => ∀ i ∈ Region.ready md ops listed, wpMid P ops (fun a' w' => S w' ∧ wpOrders P md ops S K n (listed.setIfInBounds i true) a' w') i a w
theorem wpOrders_zero {listed : Array Bool} {K : Act → World → Prop} {a : Act} {w : World} (h : K a w) : wpOrders P md ops S K 0 listed a w := h
theorem wpOrders_one {n i : Nat} {listed : Array Bool} {K : Act → World → Prop} {a : Act} {w : World} (hr : Region.ready md ops listed = [i])
    (h : wpMid P ops (fun a' w' => S w' ∧ wpOrders P md ops S K n (listed.setIfInBounds i true) a' w') i a w) : wpOrders P md ops S K (n + 1) listed a w := fun j hj => by
  rw [hr] at hj
  have : j = i := by simpa using hj
  subst this
  exact h
theorem wpOrders_two {n i k : Nat} {listed : Array Bool} {K : Act → World → Prop} {a : Act} {w : World} (hr : Region.ready md ops listed = [i, k])
    (h : wpMid P ops (fun a' w' => S w' ∧ wpOrders P md ops S K n (listed.setIfInBounds i true) a' w') i a w)
    (h' : wpMid P ops (fun a' w' => S w' ∧ wpOrders P md ops S K n (listed.setIfInBounds k true) a' w') k a w) : wpOrders P md ops S K (n + 1) listed a w := fun j hj => by
  rw [hr] at hj
  have : j = i ∨ j = k := by simpa using hj
  rcases this with rfl | rfl
  · exact h
  · exact h'
/-- in every order of the middle the tail comes behind it -/
def midB (md : Region.Mode) (ops : Array Oper) (ts : List Nat) : Nat → Array Bool → Bool
  | 0, listed => seqL md ops ts listed
  | n + 1, listed => !(Region.ready md ops listed).isEmpty && (Region.ready md ops listed).all fun i => !ts.contains i && midB md ops ts n (listed.setIfInBounds i true)
theorem wpList_L : ∀ (us : List Nat) (listed : Array Bool) (a : Act) (w : World), (∀ u ∈ us, ts.contains u = true) →
    seqL md ops us listed = true → wpList P ops (onlyNormal Q) (opsAt ops us) a w → wpAnyL P md ops (onlyNormal Q) S ts us.length listed a w
  | [], _, _, _, _, hB, h => ⟨by simpa [seqL] using hB, h⟩
  | t :: us, listed, a, w, hu, hB, h => by
    simp only [seqL, Bool.and_eq_true, decide_eq_true_eq] at hB
    refine ⟨fun h1 => (by rw [hB.1] at h1; cases h1), fun i hi => ?_⟩
    have hi' := hi
    rw [hB.1] at hi
    have hit : i = t := by simpa using hi
    subst hit
    obtain ⟨_, oi, hoi, _⟩ := mem_ready.1 hi'
    have hop : opsAt ops (i :: us) = oi :: opsAt ops us := by simp [opsAt, hoi, consOpt]
    rw [hop] at h
    have hw : wpOp P ops (onlyNormal Q) i (wpList P ops (onlyNormal Q) (opsAt ops us)) a w := by unfold wpOp; simp only [hoi]; exact h
    refine wpOp_mono (fun a' w' h' => ⟨fun hf => ?_, wpList_L us _ a' w' (fun u hu' => hu u (by simp [hu'])) hB.2 h'⟩) hw
    rw [hu i (by simp)] at hf
    cases hf
theorem wpAnyL_orders : ∀ (n : Nat) (listed : Array Bool) (a : Act) (w : World), midB md ops ts n listed = true →
    wpOrders P md ops S (fun a' w' => wpList P ops (onlyNormal Q) (opsAt ops ts) a' w') n listed a w → wpAnyL P md ops (onlyNormal Q) S ts (n + ts.length) listed a w
  | 0, listed, a, w, hB, h => by
    rw [Nat.zero_add]
    exact wpList_L ts listed a w (fun u hu => by simpa using hu) hB h
  | n + 1, listed, a, w, hB, h => by
    simp only [midB, Bool.and_eq_true, Bool.not_eq_true', List.all_eq_true] at hB
    rw [show n + 1 + ts.length = (n + ts.length) + 1 by omega]
    refine ⟨fun h0 => ?_, fun i hi => ?_⟩
    · rw [h0] at hB
      simp at hB
    · obtain ⟨_, oi, hoi, _⟩ := mem_ready.1 hi
      refine wpOp_of_mid hoi ?_
      have h1 := h i hi
      unfold wpMid at h1 ⊢
      have hm : ∀ (l : List Oper) (a : Act) (w : World) (K K' : Act → World → Prop), (∀ a w, K a w → K' a w) → wpList P ops (onlyNormal fun _ a' w' => K a' w') l a w → wpList P ops (onlyNormal fun _ a' w' => K' a' w') l a w := by
        intro l
        induction l with
        | nil => intro a w K K' hK h; exact hK _ _ h
        | cons o l ih =>
          intro a w K K' hK h
          unfold wpList at h ⊢
          split
          · rename_i hw
            rw [if_pos hw] at h
            rcases h with h | ⟨_, _, _, h⟩
            · exact .inl (Oper_wp_swap (Oper.wp_mono (fun a w h => ih a w K K' hK h) h))
            · exact absurd h (by simp [onlyNormal])
          · rename_i hw
            rw [if_neg hw] at h
            exact ih _ _ K K' hK h
      exact hm _ a w _ _ (fun a' w' h2 => ⟨fun _ => h2.1, wpAnyL_orders n _ a' w' (hB.2 i hi).2 h2.2⟩) h1
/-- operations that hand back a value, call nothing and change nothing; loads too -/
def readKind (o : Oper) : Bool :=
  match o.op with
  | .load .. | .indexAddr .. => true
  | _ => pureKind o
theorem wpIf_of_quiet {K : Act → Prop} : ∀ (l : List Oper) (a : Act), l.all readKind = true → wpQuiet P ops S K l a → wpIf P ops S K l a
  | [], _, _, h => h
  | o :: rest, a, hk, h => by
    simp only [List.all_cons, Bool.and_eq_true] at hk
    unfold wpQuiet at h
    by_cases hw : Region.wanted o (yielded ops a.tmps) = true
    · rw [if_pos hw] at h
      obtain ⟨v, h1, h2⟩ := h
      refine ⟨v, .inl ⟨hw, fun w hS => ?_⟩, wpIf_of_quiet rest _ hk.2 h2⟩
      have h3 := h1 w hS
      unfold Oper.quietAt at h3
      have hno : (∀ w', (execOp a.eval o).run P w ≠ .ok .skip w') ∧ ∀ f args w', (execOp a.eval o).run P w ≠ .ok (.enter f args) w' := by
        have hk1 := hk.1
        unfold readKind at hk1
        obtain ⟨dst, op, type, pos, after, guard⟩ := o
        cases op
        case load => exact ⟨fun _ h => Sem_value_skip h, fun _ _ _ h => Sem_value_enter h⟩
        case indexAddr => exact ⟨fun _ h => Sem_value_skip h, fun _ _ _ h => Sem_value_enter h⟩
        all_goals exact ⟨fun _ h => pureKind_skip hk1 h, fun _ _ _ h => pureKind_enter hk1 h⟩
      generalize hr : (execOp a.eval o).run P w = r at h3 hno
      cases r with
      | ok n w' =>
        cases n <;> simp only [Oper.quietUpon] at h3
        case value u => obtain ⟨e1, e2⟩ := h3; rw [e1, e2]
        case skip => exact (hno.1 w' rfl).elim
        case enter f args => exact (hno.2 f args w' rfl).elim
      | halt x w' => simp only [Oper.quietUpon] at h3
    · rw [if_neg hw] at h
      exact ⟨undef, .inr ⟨by simpa using hw, rfl⟩, wpIf_of_quiet rest _ hk.2 h⟩
/-- **What yields in whatever world first (ps), reads next (hs), then what makes memory, then the tail.** -/
theorem wp_region_mid {id : Nat} {a : Act} {w : World} {l : List Oper} (ps hs : List Nat) (n : Nat) (ts : List Nat) (S : World → Prop)
    (hm : P.follows .mixedOrders = true)
    (hB : (Region.noSelect l.toArray && decide (ps.length + (hs.length + (n + ts.length)) = l.toArray.size) && hoistB .any l.toArray ps (Array.replicate l.toArray.size false) &&
      hoistB .any l.toArray hs (listAll ps (Array.replicate l.toArray.size false)) && (ts.all fun t => waitsB .any l.toArray t hs) &&
      midB .any l.toArray ts n (listAll hs (listAll ps (Array.replicate l.toArray.size false))) && (opsAt l.toArray hs).all readKind && (opsAt l.toArray ps).all pureKind) = true)
    (hS : S { w with drawn := w.drawn + 1 })
    (h : wpQuiet P l.toArray (fun _ => True) (fun a1 => wpQuiet P l.toArray S (fun a' => wpOrders P .any l.toArray S (fun a' w' => wpList P l.toArray (onlyNormal Q) (opsAt l.toArray ts) a' w') n
      (listAll hs (listAll ps (Array.replicate l.toArray.size false))) a' { w with drawn := w.drawn + 1 }) (opsAt l.toArray hs) a1) (opsAt l.toArray ps) a) :
    (Code.region id l.toArray true).wp P Q a w := by
  simp only [Bool.and_eq_true, decide_eq_true_eq] at hB
  obtain ⟨⟨⟨⟨⟨⟨⟨hsel, hn⟩, h0⟩, h1⟩, h2⟩, h3⟩, h4⟩, h5⟩ := hB
  have inv0 : ClosedL .any l.toArray (Array.replicate l.toArray.size false) := closed_replicate _ rfl
  have inv1 := closed_listAll ps _ inv0 h0
  refine wp_region_any hm (wpAny_only _ _ _ _ ?_)
  rw [← hn]
  refine wpAny_pure (g := hs.length + (n + ts.length)) hsel ps _ a _ (by rw [hn]; exact h0) (fun a1 ha1 => ?_) (wpPure_of_quiet _ _ h5 h)
  rw [hn]
  refine wpAny_of_L (S := S) (ts := ts) _ _ _ _ ?_
  refine wpAnyL_hoist hsel hS hs _ a1 inv1 h1 (fun t ht i hi => ?_) (fun a' ha' => ?_) (wpIf_of_quiet _ _ h4 ha1)
  · have h6 := List.all_eq_true.1 h2 t (by simpa using ht)
    simp only [waitsB, List.all_eq_true] at h6 ⊢
    intro j hj
    have : j = i := by simpa using hj
    subst this
    exact h6 j hi
  · exact wpAnyL_orders n _ a' _ h3 ha'
end
end Go.Proofs.YtlbgocgocanloaaGreatDoor
