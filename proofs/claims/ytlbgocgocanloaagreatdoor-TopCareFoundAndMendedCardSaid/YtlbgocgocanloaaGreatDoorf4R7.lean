/- A region that draws its order, walked state by state: what only reads or moves is taken as soon as it is ready; what makes memory in every order; then a tail whose order is forced. -/
import Derived.Test.YtlbgocgocanloaaGreatDoorf4R2
namespace Go.Proofs.YtlbgocgocanloaaGreatDoor
open Go
section
variable {P : Program} {ops : Array Oper} {md : Region.Mode} {S : World → Prop} {ts : List Nat} {Q : Exit → Act → World → Prop}
def wpE (P : Program) (md : Region.Mode) (ops : Array Oper) (Q : Exit → Act → World → Prop) (S : World → Prop) (ts : List Nat) (n : Nat) (listed : Array Bool) (a : Act) (w : World) : Prop :=
  ClosedL md ops listed → S w → wpAnyL P md ops (onlyNormal Q) S ts n listed a w
theorem wp_region_eager {id : Nat} {a : Act} {w : World} {l : List Oper} (ts : List Nat) (S : World → Prop) (hm : P.follows .mixedOrders = true) (hS : S { w with drawn := w.drawn + 1 })
    (h : wpE P .any l.toArray Q S ts l.toArray.size (Array.replicate l.toArray.size false) a { w with drawn := w.drawn + 1 }) : (Code.region id l.toArray true).wp P Q a w :=
  wp_region_any hm (wpAny_only _ _ _ _ (wpAny_of_L _ _ _ _ (h (closed_replicate _ rfl) hS)))
theorem wpE_reads {m : Nat} {listed : Array Bool} {a : Act} {w : World} (is : List Nat) (g : Nat) (hn : m = is.length + g)
    (hB : (Region.noSelect ops && hoistB md ops is listed && (ts.all fun t => waitsB md ops t is) && (opsAt ops is).all readKind) = true)
    (h : wpQuiet P ops S (fun a' => wpE P md ops Q S ts g (listAll is listed) a' w) (opsAt ops is) a) : wpE P md ops Q S ts m listed a w := by
  intro inv hS
  simp only [Bool.and_eq_true] at hB
  obtain ⟨⟨⟨hsel, h1⟩, h2⟩, h4⟩ := hB
  rw [hn]
  refine wpAnyL_hoist hsel hS is _ a inv h1 (fun t ht i hi => ?_) (fun a' ha' => ha' (closed_listAll is _ inv h1) hS) (wpIf_of_quiet _ _ h4 h)
  have h6 := List.all_eq_true.1 h2 t (by simpa using ht)
  simp only [waitsB, List.all_eq_true] at h6 ⊢
  intro j hj
  have : j = i := by simpa using hj
  subst this
  exact h6 j hi
theorem wpMid_mono {i : Nat} {K K' : Act → World → Prop} {a : Act} {w : World} (hK : ∀ a w, K a w → K' a w) (h : wpMid P ops K i a w) : wpMid P ops K' i a w := by
  have hm : ∀ (l : List Oper) (a : Act) (w : World), wpList P ops (onlyNormal fun _ a' w' => K a' w') l a w → wpList P ops (onlyNormal fun _ a' w' => K' a' w') l a w := by
    intro l
    induction l with
    | nil => intro a w h; exact hK _ _ h
    | cons o l ih =>
      intro a w h
      unfold wpList at h ⊢
      split
      · rename_i hw
        rw [if_pos hw] at h
        rcases h with h | ⟨_, _, _, h⟩
        · exact .inl (Oper_wp_swap (Oper.wp_mono (fun a w h => ih a w h) h))
        · exact absurd h (by simp [onlyNormal])
      · rename_i hw
        rw [if_neg hw] at h
        exact ih _ _ h
  exact hm _ a w h
theorem wpE_step {n : Nat} {listed : Array Bool} {a : Act} {w : World} (hB : (!(Region.ready md ops listed).isEmpty && (Region.ready md ops listed).all fun i => !ts.contains i) = true)
    (h : ∀ i ∈ Region.ready md ops listed, wpMid P ops (fun a' w' => S w' ∧ wpE P md ops Q S ts n (listed.setIfInBounds i true) a' w') i a w) : wpE P md ops Q S ts (n + 1) listed a w := by
  intro inv hS
  simp only [Bool.and_eq_true, Bool.not_eq_true', List.all_eq_true] at hB
  refine ⟨fun h0 => ?_, fun i hi => ?_⟩
  · rw [h0] at hB
    simp at hB
  · obtain ⟨_, oi, hoi, _⟩ := mem_ready.1 hi
    exact wpOp_of_mid hoi (wpMid_mono (fun a' w' h2 => ⟨fun _ => h2.1, h2.2 (inv.set hi) h2.1⟩) (h i hi))
theorem wpE_one {m n i : Nat} {listed : Array Bool} {a : Act} {w : World} (hn : m = n + 1) (hr : Region.ready md ops listed = [i]) (ht : ts.contains i = false)
    (h : wpMid P ops (fun a' w' => S w' ∧ wpE P md ops Q S ts n (listed.setIfInBounds i true) a' w') i a w) : wpE P md ops Q S ts m listed a w := by
  subst hn
  refine wpE_step (by rw [hr]; simp only [List.isEmpty_cons, List.all_cons, List.all_nil, ht]; rfl) (fun j hj => ?_)
  rw [hr] at hj
  have : j = i := by simpa using hj
  subst this
  exact h
theorem wpE_two {m n i k : Nat} {listed : Array Bool} {a : Act} {w : World} (hn : m = n + 1) (hr : Region.ready md ops listed = [i, k]) (ht : ts.contains i = false) (ht' : ts.contains k = false)
    (h : wpMid P ops (fun a' w' => S w' ∧ wpE P md ops Q S ts n (listed.setIfInBounds i true) a' w') i a w)
    (h' : wpMid P ops (fun a' w' => S w' ∧ wpE P md ops Q S ts n (listed.setIfInBounds k true) a' w') k a w) : wpE P md ops Q S ts m listed a w := by
  subst hn
  refine wpE_step (by rw [hr]; simp only [List.isEmpty_cons, List.all_cons, List.all_nil, ht, ht']; rfl) (fun j hj => ?_)
  rw [hr] at hj
  have : j = i ∨ j = k := by simpa using hj
  rcases this with rfl | rfl
  · exact h
  · exact h'
theorem wpE_tail {m : Nat} {listed : Array Bool} {a : Act} {w : World} (hn : m = ts.length) (hB : seqL md ops ts listed = true) (h : wpList P ops (onlyNormal Q) (opsAt ops ts) a w) : wpE P md ops Q S ts m listed a w := by
  intro _ _
  rw [hn]
  exact wpList_L ts listed a w (fun u hu => by simpa using hu) hB h
end
end Go.Proofs.YtlbgocgocanloaaGreatDoor
namespace Go.Proofs.YtlbgocgocanloaaGreatDoor
open Go
section
variable {P : Program} {ops : Array Oper} {md : Region.Mode} {S : World → Prop} {ts : List Nat} {Q : Exit → Act → World → Prop}
def readKind2 (o : Oper) : Bool :=
  match o.op with
  | .pick .. => true
  | _ => readKind o
theorem wpIf_of_quiet2 {K : Act → Prop} : ∀ (l : List Oper) (a : Act), l.all readKind2 = true → wpQuiet P ops S K l a → wpIf P ops S K l a
  | [], _, _, h => h
  | o :: rest, a, hk, h => by
    simp only [List.all_cons, Bool.and_eq_true] at hk
    by_cases hr : readKind o = true
    · have h1 : wpQuiet P ops S (fun a' => wpIf P ops S K rest a') [o] a := by
        unfold wpQuiet at h ⊢
        split
        · rename_i hw
          rw [if_pos hw] at h
          obtain ⟨v, h1, h2⟩ := h
          exact ⟨v, h1, by unfold wpQuiet; exact wpIf_of_quiet2 rest _ hk.2 h2⟩
        · rename_i hw
          rw [if_neg hw] at h
          unfold wpQuiet
          exact wpIf_of_quiet2 rest _ hk.2 h
      exact wpIf_of_quiet [o] a (by simp [hr]) h1
    · have hp : ∃ c x y, o.op = .pick c x y := by
        have hk1 := hk.1
        unfold readKind2 at hk1
        split at hk1
        · rename_i c x y hop
          exact ⟨c, x, y, hop⟩
        · exact absurd hk1 hr
      obtain ⟨c, x, y, hop⟩ := hp
      unfold wpQuiet at h
      by_cases hw : Region.wanted o (yielded ops a.tmps) = true
      · rw [if_pos hw] at h
        obtain ⟨v, h1, h2⟩ := h
        refine ⟨v, .inl ⟨hw, fun w hS => ?_⟩, wpIf_of_quiet2 rest _ hk.2 h2⟩
        have h3 := h1 w hS
        unfold Oper.quietAt at h3
        have hno : (∀ w', (execOp a.eval o).run P w ≠ .ok .skip w') ∧ ∀ f args w', (execOp a.eval o).run P w ≠ .ok (.enter f args) w' := by
          obtain ⟨dst, op, type, pos, after, guard⟩ := o
          obtain rfl : op = .pick c x y := hop
          have key : ∀ n w', (execOp a.eval ⟨dst, .pick c x y, type, pos, after, guard⟩).run P w = .ok n w' → ∃ v, n = .value v := by
            intro n w' h
            simp only [execOp] at h
            rw [Sem.run_bind] at h
            cases hb : (asBool (a.eval c)).run P w with
            | halt z w1 => rw [hb] at h; simp [Result.andThen] at h
            | ok b w1 =>
              rw [hb] at h
              simp [Result.andThen] at h
              exact ⟨_, h.1.symm⟩
          exact ⟨fun w' h => (by obtain ⟨v, hv⟩ := key _ _ h; cases hv), fun f args w' h => (by obtain ⟨v, hv⟩ := key _ _ h; cases hv)⟩
        generalize hr : (execOp a.eval o).run P w = r at h3 hno
        cases r with
        | ok n w' =>
          cases n <;> simp only [Oper.quietUpon] at h3
          case value u => obtain ⟨e1, e2⟩ := h3; rw [e1, e2]
          case skip => exact (hno.1 w' rfl).elim
          case enter f args => exact (hno.2 f args w' rfl).elim
        | halt x w' => simp only [Oper.quietUpon] at h3
      · rw [if_neg hw] at h
        exact ⟨undef, .inr ⟨by simpa using hw, rfl⟩, wpIf_of_quiet2 rest _ hk.2 h⟩
end
end Go.Proofs.YtlbgocgocanloaaGreatDoor
namespace Go.Proofs.YtlbgocgocanloaaGreatDoor
open Go
section
variable {P : Program} {ops : Array Oper} {md : Region.Mode} {S : World → Prop} {ts : List Nat} {Q : Exit → Act → World → Prop}
def readKind3 (o : Oper) : Bool :=
  match o.op with
  | .call ⟨.builtin .len, _, _⟩ => true
  | _ => readKind2 o
theorem wpIf_of_quiet3 {K : Act → Prop} : ∀ (l : List Oper) (a : Act), l.all readKind3 = true → wpQuiet P ops S K l a → wpIf P ops S K l a
  | [], _, _, h => h
  | o :: rest, a, hk, h => by
    simp only [List.all_cons, Bool.and_eq_true] at hk
    by_cases hr : readKind2 o = true
    · have h1 : wpQuiet P ops S (fun a' => wpIf P ops S K rest a') [o] a := by
        unfold wpQuiet at h ⊢
        split
        · rename_i hw
          rw [if_pos hw] at h
          obtain ⟨v, h1, h2⟩ := h
          exact ⟨v, h1, by unfold wpQuiet; exact wpIf_of_quiet3 rest _ hk.2 h2⟩
        · rename_i hw
          rw [if_neg hw] at h
          unfold wpQuiet
          exact wpIf_of_quiet3 rest _ hk.2 h
      exact wpIf_of_quiet2 [o] a (by simp [hr]) h1
    · have hp : ∃ x y, o.op = .call ⟨.builtin .len, x, y⟩ := by
        have hk1 := hk.1
        unfold readKind3 at hk1
        split at hk1
        · rename_i x y hop
          exact ⟨x, y, hop⟩
        · exact absurd hk1 hr
      obtain ⟨x, y, hop⟩ := hp
      unfold wpQuiet at h
      by_cases hw : Region.wanted o (yielded ops a.tmps) = true
      · rw [if_pos hw] at h
        obtain ⟨v, h1, h2⟩ := h
        refine ⟨v, .inl ⟨hw, fun w hS => ?_⟩, wpIf_of_quiet3 rest _ hk.2 h2⟩
        have h3 := h1 w hS
        unfold Oper.quietAt at h3
        have hno : (∀ w', (execOp a.eval o).run P w ≠ .ok .skip w') ∧ ∀ f args w', (execOp a.eval o).run P w ≠ .ok (.enter f args) w' := by
          obtain ⟨dst, op, type, pos, after, guard⟩ := o
          obtain rfl : op = .call ⟨.builtin .len, x, y⟩ := hop
          have key : ∀ n w', (execOp a.eval ⟨dst, .call ⟨.builtin .len, x, y⟩, type, pos, after, guard⟩).run P w = .ok n w' → ∃ v, n = .value v := by
            intro n w' h
            simp only [execOp, resolve, invoke, builtin] at h
            simp only [Sem.run_bind, Sem.run_pure, Result.andThen] at h
            split at h
            · simp at h
              exact ⟨_, h.1.symm⟩
            · simp at h
          exact ⟨fun w' h => (by obtain ⟨v, hv⟩ := key _ _ h; cases hv), fun f args w' h => (by obtain ⟨v, hv⟩ := key _ _ h; cases hv)⟩
        generalize hr : (execOp a.eval o).run P w = r at h3 hno
        cases r with
        | ok n w' =>
          cases n <;> simp only [Oper.quietUpon] at h3
          case value u => obtain ⟨e1, e2⟩ := h3; rw [e1, e2]
          case skip => exact (hno.1 w' rfl).elim
          case enter f args => exact (hno.2 f args w' rfl).elim
        | halt x w' => simp only [Oper.quietUpon] at h3
      · rw [if_neg hw] at h
        exact ⟨undef, .inr ⟨by simpa using hw, rfl⟩, wpIf_of_quiet3 rest _ hk.2 h⟩
end
end Go.Proofs.YtlbgocgocanloaaGreatDoor
namespace Go.Proofs.YtlbgocgocanloaaGreatDoor
open Go
section
variable {P : Program} {ops : Array Oper} {md : Region.Mode} {S : World → Prop} {ts : List Nat} {Q : Exit → Act → World → Prop}
def readKind4 (o : Oper) : Bool :=
  match o.op with
  | .slice .. => true
  | _ => readKind3 o
theorem wpIf_of_quiet4 {K : Act → Prop} : ∀ (l : List Oper) (a : Act), l.all readKind4 = true → wpQuiet P ops S K l a → wpIf P ops S K l a
  | [], _, _, h => h
  | o :: rest, a, hk, h => by
    simp only [List.all_cons, Bool.and_eq_true] at hk
    by_cases hr : readKind3 o = true
    · have h1 : wpQuiet P ops S (fun a' => wpIf P ops S K rest a') [o] a := by
        unfold wpQuiet at h ⊢
        split
        · rename_i hw
          rw [if_pos hw] at h
          obtain ⟨v, h1, h2⟩ := h
          exact ⟨v, h1, by unfold wpQuiet; exact wpIf_of_quiet4 rest _ hk.2 h2⟩
        · rename_i hw
          rw [if_neg hw] at h
          unfold wpQuiet
          exact wpIf_of_quiet4 rest _ hk.2 h
      exact wpIf_of_quiet3 [o] a (by simp [hr]) h1
    · have hk1 := hk.1
      unfold wpQuiet at h
      by_cases hw : Region.wanted o (yielded ops a.tmps) = true
      · rw [if_pos hw] at h
        obtain ⟨v, h1, h2⟩ := h
        refine ⟨v, .inl ⟨hw, fun w hS => ?_⟩, wpIf_of_quiet4 rest _ hk.2 h2⟩
        have h3 := h1 w hS
        unfold Oper.quietAt at h3
        have hno : (∀ w', (execOp a.eval o).run P w ≠ .ok .skip w') ∧ ∀ f args w', (execOp a.eval o).run P w ≠ .ok (.enter f args) w' := by
          unfold readKind4 at hk1
          obtain ⟨dst, op, type, pos, after, guard⟩ := o
          cases op
          case slice => exact ⟨fun _ h => Sem_value_skip h, fun _ _ _ h => Sem_value_enter h⟩
          all_goals exact absurd hk1 hr
        generalize hr : (execOp a.eval o).run P w = r at h3 hno
        cases r with
        | ok n w' =>
          cases n <;> simp only [Oper.quietUpon] at h3
          case value u => obtain ⟨e1, e2⟩ := h3; rw [e1, e2]
          case skip => exact (hno.1 w' rfl).elim
          case enter f args => exact (hno.2 f args w' rfl).elim
        | halt x w' => simp only [Oper.quietUpon] at h3
      · rw [if_neg hw] at h
        exact ⟨undef, .inr ⟨by simpa using hw, rfl⟩, wpIf_of_quiet4 rest _ hk.2 h⟩
end
end Go.Proofs.YtlbgocgocanloaaGreatDoor
namespace Go.Proofs.YtlbgocgocanloaaGreatDoor
open Go
section
variable {P : Program} {ops : Array Oper} {md : Region.Mode} {S : World → Prop} {ts : List Nat} {Q : Exit → Act → World → Prop}
def readKind5 (o : Oper) : Bool :=
  match o.op with
  | .build .. => true
  | _ => readKind4 o
theorem wpIf_of_quiet5 {K : Act → Prop} : ∀ (l : List Oper) (a : Act), l.all readKind5 = true → wpQuiet P ops S K l a → wpIf P ops S K l a
  | [], _, _, h => h
  | o :: rest, a, hk, h => by
    simp only [List.all_cons, Bool.and_eq_true] at hk
    by_cases hr : readKind4 o = true
    · have h1 : wpQuiet P ops S (fun a' => wpIf P ops S K rest a') [o] a := by
        unfold wpQuiet at h ⊢
        split
        · rename_i hw
          rw [if_pos hw] at h
          obtain ⟨v, h1, h2⟩ := h
          exact ⟨v, h1, by unfold wpQuiet; exact wpIf_of_quiet5 rest _ hk.2 h2⟩
        · rename_i hw
          rw [if_neg hw] at h
          unfold wpQuiet
          exact wpIf_of_quiet5 rest _ hk.2 h
      exact wpIf_of_quiet4 [o] a (by simp [hr]) h1
    · have hk1 := hk.1
      unfold wpQuiet at h
      by_cases hw : Region.wanted o (yielded ops a.tmps) = true
      · rw [if_pos hw] at h
        obtain ⟨v, h1, h2⟩ := h
        refine ⟨v, .inl ⟨hw, fun w hS => ?_⟩, wpIf_of_quiet5 rest _ hk.2 h2⟩
        have h3 := h1 w hS
        unfold Oper.quietAt at h3
        have hno : (∀ w', (execOp a.eval o).run P w ≠ .ok .skip w') ∧ ∀ f args w', (execOp a.eval o).run P w ≠ .ok (.enter f args) w' := by
          unfold readKind5 at hk1
          obtain ⟨dst, op, type, pos, after, guard⟩ := o
          cases op
          case build => exact ⟨fun _ h => Sem_value_skip h, fun _ _ _ h => Sem_value_enter h⟩
          all_goals exact absurd hk1 hr
        generalize hr : (execOp a.eval o).run P w = r at h3 hno
        cases r with
        | ok n w' =>
          cases n <;> simp only [Oper.quietUpon] at h3
          case value u => obtain ⟨e1, e2⟩ := h3; rw [e1, e2]
          case skip => exact (hno.1 w' rfl).elim
          case enter f args => exact (hno.2 f args w' rfl).elim
        | halt x w' => simp only [Oper.quietUpon] at h3
      · rw [if_neg hw] at h
        exact ⟨undef, .inr ⟨by simpa using hw, rfl⟩, wpIf_of_quiet5 rest _ hk.2 h⟩
theorem wpE_reads5 {m : Nat} {listed : Array Bool} {a : Act} {w : World} (is : List Nat) (g : Nat) (hn : m = is.length + g)
    (hB : (Region.noSelect ops && hoistB md ops is listed && (ts.all fun t => waitsB md ops t is) && (opsAt ops is).all readKind5) = true)
    (h : wpQuiet P ops S (fun a' => wpE P md ops Q S ts g (listAll is listed) a' w) (opsAt ops is) a) : wpE P md ops Q S ts m listed a w := by
  intro inv hS
  simp only [Bool.and_eq_true] at hB
  obtain ⟨⟨⟨hsel, h1⟩, h2⟩, h4⟩ := hB
  rw [hn]
  refine wpAnyL_hoist hsel hS is _ a inv h1 (fun t ht i hi => ?_) (fun a' ha' => ha' (closed_listAll is _ inv h1) hS) (wpIf_of_quiet5 _ _ h4 h)
  have h6 := List.all_eq_true.1 h2 t (by simpa using ht)
  simp only [waitsB, List.all_eq_true] at h6 ⊢
  intro j hj
  have : j = i := by simpa using hj
  subst this
  exact h6 j hi
end
end Go.Proofs.YtlbgocgocanloaaGreatDoor
