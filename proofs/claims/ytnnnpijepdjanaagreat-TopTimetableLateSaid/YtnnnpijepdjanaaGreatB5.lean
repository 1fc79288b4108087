/- A range over a method value whose rounds all go on: the element's number is the whole state. -/
import Derived.RangeFuncNested
import Derived.RangeFuncBound
import Derived.RangeFuncCalls
import Derived.RangeFuncLeaves
import Derived.Shelf.Abstract
import Derived.Shelf.RegionOpen
import Derived.WalkKit
import Derived.OwnWalkIn
import Derived.TacticsInMore
import Derived.LoopNIn
import Derived.LoopIn
import Derived.Deep.MidRow
import Derived.Maps.AppendAt
import Derived.Test.YtnnnpijepdjanaaGreatB4
namespace Go.Proofs.YtnnnpijepdjanaaGreat
open Go Go.RowKit Go.Shelf

/-- an iterator with bound arguments that hands on just these elements, in this order -/
def SeqAll {α : Type} (F : Fence) (n : Nat) (P : Program) (gf : Nat) (fb : Array Value) (encs : α → Array Value) (xs : List α) (Kp : World → World → Prop) (w : World) : Prop :=
  ∀ (l : Nat) (J : Nat → World → Prop) (W : World), Below w.heap.size w W → (∀ k X Y, J k X → X.grownBy Y none → J k Y) →
    (∀ k x X, xs[k]? = some x → J k X → YieldAt F (n - 1) P l (encs x) X fun e Y => e = .returned (.bool true) ∧ J (k + 1) Y ∧ Kp X Y) →
    J 0 W → CallsIn F n P gf (fb ++ #[.func (.yield l) #[] #[]]) W fun e Y => (∃ v, e = .returned v) ∧ J xs.length Y
theorem put_cells {W : World} {l b : Nat} {o o' : Obj} {cur : Array Value} {t : TypeId} {q : Nat × Nat} (hl : W.heap[l]? = some o) (hc : o.isCells = false) (h : W.heap[b]? = some (.cells cur t q)) : (W.putObj l o').heap[b]? = some (.cells cur t q) := by
  refine (World.putObj_heap_other fun e => ?_).trans h
  subst e
  rw [hl] at h
  cases h
  simp [Obj.isCells] at hc

theorem wpIn_range_all {α : Type} {F : Fence} {n : Nat} {P : Program} {g : Operand} {ps : Array Tmp} {assign body : Code} {Q : Exit → Go.Act → World → Prop} {a : Go.Act} {w : World}
    (hro : F.round = none) (h1 : 1 ≤ n) {gf : Nat} {fb : Array Value} (hg : a.eval g = .func (.func gf) fb #[]) (hFg : F.fn gf) (eg : ∀ args w, (callFunc gf args).run P w = .ok (.enter gf args) w)
    {encs : α → Array Value} {xs : List α} {Kp : World → World → Prop} {w0 : World} (hseq : SeqAll F (n - 1) P gf fb encs xs Kp w0) (hb0 : Below w0.heap.size w0 w) (hps : ∀ x, (encs x).size = ps.size)
    (hKt : ∀ {A B C : World}, Kp A B → Kp B C → Kp A C) (hKb : ∀ (W : World) (l : Nat) (o o' : Obj), w.heap.size ≤ l → W.heap[l]? = some o → o.isCells = false → Kp W (W.putObj l o'))
    (I : Nat → World → Prop) (hI : OwnFrom w.heap.size I) (h0 : I 0 w)
    (hround : ∀ (l k : Nat) (x : α) (W : World), w.heap.size ≤ l → xs[k]? = some x → I k W → assign.wpIn (F.inRound l) (n - 1 - 1) P (Exit.then (fun a1 W1 => KeepsFrom w.heap.size W W1 ∧ Kp W W1 ∧
      ∀ (o o' : Obj), W1.heap[l]? = some o → o.isCells = false → body.wpIn (F.inRound l) (n - 1 - 1) P (fun e _ W3 => e = .normal ∧ KeepsFrom w.heap.size (W1.putObj l o') W3 ∧ Kp (W1.putObj l o') W3 ∧ I (k + 1) W3) a1 (W1.putObj l o')) (fun _ _ _ => False))
      { tmps := (ps.zip (encs x)).foldl (fun t (p, v) => t.setIfInBounds p v) a.tmps, defers := [] } W)
    (hdone : ∀ (D : Nat) (W : World), w.heap.size ≤ D → I xs.length W → W.heap[D]? = some (.deferred (some [])) → Q .normal { a with defers := { target := .collected D, args := #[] } :: a.defers } W) :
    (Code.rangeFunc g ps assign body).wpIn F n P Q a w := by
  refine wpIn_rangeFunc fun fn hfn => ?_
  rw [hro]
  -- the loop's record, and the world in which the iterator begins
  obtain ⟨rc, hrc⟩ : ∃ rc : LoopState → Option Code → Loop, rc = fun st pe => ⟨st, pe, fn, a.tmps, ps, assign, body, w.heap.size⟩ := ⟨_, rfl⟩
  obtain ⟨X, hX⟩ : ∃ X, (w.alloc (.deferred (some []))).alloc (.loop (rc .ready none)) = X := ⟨_, rfl⟩
  have xl : X.heap[w.heap.size + 1]? = some (.loop (rc .ready none)) := by rw [← hX, heapq_alloc, if_pos (by simp)]
  have xd : X.heap[w.heap.size]? = some (.deferred (some [])) := by rw [← hX, heapq_alloc, if_neg (by simp), heapq_alloc, if_pos rfl]
  have hbX : Below w0.heap.size w0 X := by rw [← hX]; exact (hb0.alloc hb0.size _).alloc (Nat.le_trans hb0.size (by simp)) _
  have hIX : I 0 X := by rw [← hX]; exact hI.alloc _ (hI.alloc _ h0)
  refine ⟨w.heap.size + 1, [{ target := .collected w.heap.size, args := #[] }], X, { target := .fn (.func gf) #[], args := fb ++ #[.func (.yield (w.heap.size + 1)) #[] #[]] }, X, gf, fb ++ #[.func (.yield (w.heap.size + 1)) #[] #[]], X, ?_, ?_, ?_, ?_, fun _ => h1, ?_⟩
  · rw [← hX, hrc]
    exact run_enterLoop_outer fn a.tmps ps assign body
  · simp only [resolve, hg]
    simp [go_sem, Deferred.ofValue]
  · intro f' hf'
    simp [Target.leads] at hf'
    subst hf'
    exact hFg
  · simp [invoke, go_sem, eg]
  have one : ∀ (k : Nat) (A B : World), (I k A ∧ A.heap[w.heap.size + 1]? = some (.loop (rc .ready none)) ∧ A.heap[w.heap.size]? = some (.deferred (some []))) → A.grownBy B none → (I k B ∧ B.heap[w.heap.size + 1]? = some (.loop (rc .ready none)) ∧ B.heap[w.heap.size]? = some (.deferred (some []))) := by
    rintro k A B ⟨i1, i2, i3⟩ hAB
    have same : ∀ {j : Nat} {o : Obj}, A.heap[j]? = some o → B.heap[j]? = some o := fun hj => (hAB.block _ (Array.getElem?_eq_some_iff.1 hj).1 (fun e => by cases e)).trans hj
    exact ⟨hI k A B none i1 hAB (fun r e => by cases e), same i2, same i3⟩
  refine (hseq (w.heap.size + 1) (fun k A => I k A ∧ A.heap[w.heap.size + 1]? = some (.loop (rc .ready none)) ∧ A.heap[w.heap.size]? = some (.deferred (some []))) X hbX one ?_ ⟨hIX, xl, xd⟩).mono ?_
  · rintro k x A hx ⟨i1, i2, i3⟩
    have hy := run_yield (P := P) (args := encs x) i2 (by rw [hrc]; exact hps x)
    rw [hrc] at hy
    refine ⟨fn, _, assign, body, hy, roundIn_of_wpIn hfn (wpIn_mono (hround (w.heap.size + 1) k x A (by omega) hx i1) ?_)⟩
    intro e a1 A1 he
    cases e with
    | normal =>
      obtain ⟨p1, p2, p3⟩ := he
      have j2 := p1.same _ _ (by omega) i2 rfl
      have j3 := p1.same _ _ (Nat.le_refl _) i3 rfl
      refine ⟨_, run_beginRound j2 (by rw [hrc]), wpIn_mono (p3 _ _ j2 rfl) ?_⟩
      rintro e2 a2 A2 ⟨rfl, q1, q2, q3⟩
      have lt2 := (Array.getElem?_eq_some_iff.1 j2).1
      have m2 := q1.same _ _ (by omega) (World.putObj_heap_same lt2) rfl
      have m3 := q1.same _ _ (Nat.le_refl _) ((World.putObj_heap_other (by omega)).trans j3) rfl
      have hr := run_endRound (P := P) none m2
      refine ⟨_, _, hr, rfl, ⟨hI.putObj _ q3 (by omega) m2 rfl, ?_, (World.putObj_heap_other (by omega)).trans m3⟩, hKt p2 (hKt (hKb _ _ _ _ (by omega) j2 rfl) (hKt q2 (hKb _ _ _ _ (by omega) m2 rfl)))⟩
      rw [World.putObj_heap_same (Array.getElem?_eq_some_iff.1 m2).1, hrc]
      rfl
    | _ => exact he.elim
  · rintro e A ⟨⟨v, rfl⟩, i1, i2, i3⟩
    refine ⟨none, _, by have := run_endLoop (P := P) i2 (by rw [hrc]; simp); rw [hrc] at this; exact this, hdone _ _ (Nat.le_refl _) (hI.putObj _ i1 (by omega) i2 rfl) ((World.putObj_heap_other (by omega)).trans i3)⟩
end Go.Proofs.YtnnnpijepdjanaaGreat
