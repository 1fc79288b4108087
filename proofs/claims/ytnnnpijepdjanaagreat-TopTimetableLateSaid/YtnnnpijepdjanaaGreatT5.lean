/- One round of the labels, way by way: plain. -/
import Derived.Test.YtnnnpijepdjanaaGreatT4
namespace Go.Proofs.YtnnnpijepdjanaaGreat

/-- does a way make its end greater -/
def grows (l acc : Far) (w : Wy) : Bool := match farAt l w.1 with
  | none => false
  | some u => beats (farAt acc w.2.1) (u + w.2.2)
theorem relaxGo_snoc {l : Far} {w : Wy} : ∀ {ws : List Wy} {acc : Far}, relaxGo l acc (ws ++ [w]) = relax l (relaxGo l acc ws) w
  | [], _ => rfl
  | x :: ws, acc => by rw [List.cons_append, relaxGo, relaxGo, relaxGo_snoc]
theorem moreGo_snoc {l : Far} {w : Wy} : ∀ {ws : List Wy} {acc : Far}, moreGo l acc (ws ++ [w]) = (moreGo l acc ws || grows l (relaxGo l acc ws) w)
  | [], acc => by
    rw [List.nil_append, moreGo, moreGo, moreGo, relaxGo, grows, Bool.or_false, Bool.false_or]
    cases farAt l w.1 <;> rfl
  | x :: ws, acc => by
    rw [List.cons_append, moreGo, moreGo, relaxGo, moreGo_snoc, Bool.or_assoc]
theorem relax_no {l acc : Far} {w : Wy} (h : grows l acc w = false) : relax l acc w = acc := by
  unfold grows at h
  unfold relax
  cases hf : farAt l w.1 with
  | none => rfl
  | some u =>
    rw [hf] at h
    simp only at h ⊢
    rw [if_neg (by rw [h]; decide)]
theorem relax_yes {l acc : Far} {w : Wy} {u : Int} (hu : farAt l w.1 = some u) (h : grows l acc w = true) : relax l acc w = acc.set w.2.1 (some (u + w.2.2)) := by
  unfold grows at h
  unfold relax
  rw [hu] at h ⊢
  simp only at h ⊢
  rw [if_pos h]
theorem take_snoc {α : Type} {xs : List α} {k : Nat} {x : α} (h : xs[k]? = some x) : xs.take (k + 1) = xs.take k ++ [x] := by
  rw [List.take_add_one, h]
  rfl
/-- not below: in every place that has one -/
theorem pre_ge {ws : List Wy} {l : Far} (h : WaysIn l.length ws) (k : Nat) : leF l (relaxGo l l (ws.take k)) := go_ge fun w hw => h w (List.mem_of_mem_take hw)
theorem far_get {l : Far} {i : Nat} {o : Option Int} (h : l[i]? = some o) : farAt l i = o := by
  unfold farAt
  rw [h]
  rfl
/-- how far new labels are -/
theorem pre_bound {ws : List Wy} {l : Far} {lo hi c : Int} (hc : ∀ w ∈ ws, -c ≤ w.2.2 ∧ w.2.2 ≤ c) (h : ∀ i u, farAt l i = some u → lo ≤ u ∧ u ≤ hi) (h0 : 0 ≤ c) (hw : WaysIn l.length ws) : ∀ k i u, farAt (relaxGo l l (ws.take k)) i = some u → lo - c ≤ u ∧ u ≤ hi + c := by
  intro k i u hu
  have hwk : WaysIn l.length (ws.take k) := fun w hw' => hw w (List.mem_of_mem_take hw')
  rcases go_from hwk hu with h1 | ⟨w, hm, _, v, hv, rfl⟩
  · have := h i u h1
    omega
  · have h2 := h _ v hv
    have h3 := hc w (List.mem_of_mem_take hm)
    omega
end Go.Proofs.YtnnnpijepdjanaaGreat
