/- Regions that draw their order, within a round of a range over a function: the laws of a plain walk serve there, too. -/
import Derived.Test.YtnnnpijepdjanaaGreatB6
namespace Go.Proofs.YtnnnpijepdjanaaGreat
open Go Go.RowKit Go.Shelf

def noDefer (o : Oper) : Bool := match o.op with
  | .defer _ => false
  | _ => true
theorem rows_round {P : Program} {row : String} {args : Array Value} {w : World} {R : Value → World → Prop} (r n : Nat) (h : Rows P row args w R) : RowsIn (Fence.wide.inRound r) n P row args w R := fun c cs _ => by
  obtain ⟨v, w', h1, h2⟩ := h c cs
  exact ⟨v, w', h1, stepsIn_wide.2 h2⟩
theorem oper_round {P : Program} {o : Oper} {a : Go.Act} {w : World} {K : Go.Act → World → Prop} {Q : Exit → Go.Act → World → Prop} (r n : Nat) (hd : noDefer o = true) (h : o.wp P a w K Q) : o.wpIn (Fence.wide.inRound r) n P a w K Q := by
  refine ⟨fun _ _ => trivial, ?_⟩
  rw [Oper.semAt_eq _ _ _ (fun c hc => by simp [noDefer, hc] at hd)]
  unfold Oper.wp at h
  generalize (execOp a.eval o).run P w = q at h ⊢
  cases q with
  | ok x w' =>
    cases x with
    | enter f args => exact ⟨(fun hh => by cases hh), CallsIn.inRound r (callsIn_wide.2 h)⟩
    | row s args => exact ⟨(fun hh => by cases hh), rows_round r _ h⟩
    | value v => exact h
    | skip => exact h
    | defer d => exact h
    | _ => exact absurd h (by simp [Oper.upon])
  | halt x w' =>
    cases x with
    | panic v => exact h
    | _ => exact absurd h (by simp [Oper.upon])
section
variable {P : Program} {ops : Array Oper} {md : Region.Mode} {S C : World → Prop} {ts : List Nat} {Q : Exit → Go.Act → World → Prop}
theorem op_round (r n : Nat) (hd : ops.all noDefer = true) {i : Nat} {K K' : Go.Act → World → Prop} {a : Go.Act} {w : World} (hK : ∀ a w, K a w → K' a w) (h : wpOp P ops (onlyNormal Q) i K a w) : wpOpIn (Fence.wide.inRound r) n P ops (onlyNormal Q) i K' a w := by
  unfold wpOp at h
  unfold wpOpIn
  cases ho : ops[i]? with
  | none =>
    rw [ho] at h
    exact hK _ _ h
  | some o =>
    rw [ho] at h
    have hdo : noDefer o = true := by
      obtain ⟨hi, e⟩ := Array.getElem?_eq_some_iff.1 ho
      rw [← e]
      exact (Array.all_eq_true.1 hd) i hi
    simp only at h ⊢
    split at h
    · rename_i hw
      rw [if_pos hw]
      rcases h with h | ⟨_, ⟨_, _, h⟩⟩
      · exact oper_round r n hdo (Oper.wp_mono hK h)
      · exact h.elim
    · rename_i hw
      rw [if_neg hw]
      exact ⟨fun _ _ => trivial, hK _ _ h⟩
theorem any_round (r n : Nat) (hd : ops.all noDefer = true) : ∀ (fuel : Nat) (listed : Array Bool) (a : Go.Act) (w : World), wpAny P md ops (onlyNormal Q) fuel listed a w → wpAnyIn (Fence.wide.inRound r) n P md ops (onlyNormal Q) fuel listed a w
  | 0, _, _, _, h => h
  | fuel + 1, _, _, _, h => ⟨h.1, fun i hi => op_round r n hd (fun a' w' h' => any_round r n hd fuel _ a' w' h') (h.2 i hi)⟩
theorem region_round {id : Nat} {a : Go.Act} {w : World} {l : List Oper} (r n : Nat) (hm : P.follows .mixedOrders = true) (hd : l.toArray.all noDefer = true)
    (h : wpAny P .any l.toArray (onlyNormal Q) l.toArray.size (Array.replicate l.toArray.size false) a { w with drawn := w.drawn + 1 }) : (Code.region id l.toArray true).wpIn (Fence.wide.inRound r) n P Q a w := by
  refine wpIn_mono (wpIn_region_any hm (any_round r n hd _ _ _ _ h)) ?_
  intro e a' w' he
  cases e with
  | normal => exact he
  | _ => exact he.elim
/-- reads alone, over the worlds in which all of w lies -/
theorem wpIn_region_xt {id : Nat} {a : Go.Act} {w : World} {l : List Oper} {r n : Nat} (hm : P.follows .mixedOrders = true) (hd : l.toArray.all noDefer = true) (hB : Region.lexB .any l.toArray = true)
    (h : wpQuiet P l.toArray (fun w' => ∃ x : Xt w, w' = x.1) (fun a' => ∀ w', (∃ x : Xt w, w' = x.1) → Q .normal a' w') l a) : (Code.region id l.toArray true).wpIn (Fence.wide.inRound r) n P Q a w := by
  simp only [Region.lexB, Bool.and_eq_true] at hB
  refine region_round r n hm hd (wpAny_of_quiet (Q' := onlyNormal Q) (C := fun w' => ∃ x : Xt w, w' = x.1) (Q := fun a' => ∀ w', (∃ x : Xt w, w' = x.1) → Q .normal a' w') (fun _ w' hw' h => h w' hw') _ _ _ _ ⟨⟨w.drew, (Below.refl _ _).drew⟩, rfl⟩ ?_)
  have := wpAnyQ_lex (C := fun w' => ∃ x : Xt w, w' = x.1) (md := .any) hB.1 l 0 (Array.replicate l.toArray.size false) a (by simp) (by simpa using hB.2) (by simpa using h)
  simpa using this
theorem wpIn_region_eager {id : Nat} {a : Go.Act} {w : World} {l : List Oper} (ts : List Nat) (S : World → Prop) {r n : Nat} (hm : P.follows .mixedOrders = true) (hd : l.toArray.all noDefer = true) (hS : S { w with drawn := w.drawn + 1 })
    (h : wpE P .any l.toArray Q S ts l.toArray.size (Array.replicate l.toArray.size false) a { w with drawn := w.drawn + 1 }) : (Code.region id l.toArray true).wpIn (Fence.wide.inRound r) n P Q a w :=
  region_round r n hm hd (wpAny_of_L _ _ _ _ (h (closed_replicate _ rfl) hS))
end
end Go.Proofs.YtnnnpijepdjanaaGreat
