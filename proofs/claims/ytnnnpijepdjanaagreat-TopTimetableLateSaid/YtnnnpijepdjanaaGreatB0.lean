/- Reads of a drawing region that build a struct. -/
import Derived.Test.YtnnnpijepdjanaaGreatA0
namespace Go.Proofs.YtnnnpijepdjanaaGreat
open Go
section
variable {P : Program} {ops : Array Oper} {md : Region.Mode} {S : World → Prop} {ts : List Nat} {Q : Exit → Act → World → Prop}
def readKind5 (o : Oper) : Bool :=
  match o.op with
  | .build .. => true
  | _ => readKind4 o
theorem wpIf_of_quiet5 {K : Act → Prop} : ∀ (l : List Oper) (a : Act), l.all readKind5 = true → wpQuiet P ops S K l a → wpIf P ops S K l a
  | [], _, _, h => h
  | o :: rest, a, hk, h => by
    simp only [List.all_cons, Bool.and_eq_true] at hk
    by_cases hr : readKind4 o = true
    · have h1 : wpQuiet P ops S (fun a' => wpIf P ops S K rest a') [o] a := by
        unfold wpQuiet at h ⊢
        split
        · rename_i hw
          rw [if_pos hw] at h
          obtain ⟨v, h1, h2⟩ := h
          exact ⟨v, h1, by unfold wpQuiet; exact wpIf_of_quiet5 rest _ hk.2 h2⟩
        · rename_i hw
          rw [if_neg hw] at h
          unfold wpQuiet
          exact wpIf_of_quiet5 rest _ hk.2 h
      exact wpIf_of_quiet4 [o] a (by simp [hr]) h1
    · have hk1 := hk.1
      unfold wpQuiet at h
      by_cases hw : Region.wanted o (yielded ops a.tmps) = true
      · rw [if_pos hw] at h
        obtain ⟨v, h1, h2⟩ := h
        refine ⟨v, .inl ⟨hw, fun w hS => ?_⟩, wpIf_of_quiet5 rest _ hk.2 h2⟩
        have h3 := h1 w hS
        unfold Oper.quietAt at h3
        have hno : (∀ w', (execOp a.eval o).run P w ≠ .ok .skip w') ∧ ∀ f args w', (execOp a.eval o).run P w ≠ .ok (.enter f args) w' := by
          unfold readKind5 at hk1
          obtain ⟨dst, op, type, pos, after, guard⟩ := o
          cases op
          case build => exact ⟨fun _ h => Sem_value_skip h, fun _ _ _ h => Sem_value_enter h⟩
          all_goals exact absurd hk1 hr
        generalize hr : (execOp a.eval o).run P w = r at h3 hno
        cases r with
        | ok n w' =>
          cases n <;> simp only [Oper.quietUpon] at h3
          case value u => obtain ⟨e1, e2⟩ := h3; rw [e1, e2]
          case skip => exact (hno.1 w' rfl).elim
          case enter f args => exact (hno.2 f args w' rfl).elim
        | halt x w' => simp only [Oper.quietUpon] at h3
      · rw [if_neg hw] at h
        exact ⟨undef, .inr ⟨by simpa using hw, rfl⟩, wpIf_of_quiet5 rest _ hk.2 h⟩
theorem wpE_reads5 {m : Nat} {listed : Array Bool} {a : Act} {w : World} (is : List Nat) (g : Nat) (hn : m = is.length + g)
    (hB : (Region.noSelect ops && hoistB md ops is listed && (ts.all fun t => waitsB md ops t is) && (opsAt ops is).all readKind5) = true)
    (h : wpQuiet P ops S (fun a' => wpE P md ops Q S ts g (listAll is listed) a' w) (opsAt ops is) a) : wpE P md ops Q S ts m listed a w := by
  intro inv hS
  simp only [Bool.and_eq_true] at hB
  obtain ⟨⟨⟨hsel, h1⟩, h2⟩, h4⟩ := hB
  rw [hn]
  refine wpAnyL_hoist hsel hS is _ a inv h1 (fun t ht i hi => ?_) (fun a' ha' => ha' (closed_listAll is _ inv h1) hS) (wpIf_of_quiet5 _ _ h4 h)
  have h6 := List.all_eq_true.1 h2 t (by simpa using ht)
  simp only [waitsB, List.all_eq_true] at h6 ⊢
  intro j hj
  have : j = i := by simpa using hj
  subst this
  exact h6 j hi
end
end Go.Proofs.YtnnnpijepdjanaaGreat
