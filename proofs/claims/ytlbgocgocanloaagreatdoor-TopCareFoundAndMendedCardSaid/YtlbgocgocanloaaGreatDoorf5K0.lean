/- Sets of numbers in their order: plain. -/
import Derived.Test.YtlbgocgocanloaaGreatDoorf4C1
namespace Go.Proofs.YtlbgocgocanloaaGreatDoor
theorem sub_of_sorted : ∀ (S T : List Int), S.Pairwise (· < ·) → T.Pairwise (· < ·) → (∀ t ∈ T, t ∈ S) → T.Sublist S
  | [], T, _, _, h => by
    cases T with
    | nil => exact .slnil
    | cons t T => exact absurd (h t (by simp)) (by simp)
  | s :: S, [], _, _, _ => List.nil_sublist _
  | s :: S, t :: T, hS, hT, h => by
    rw [List.pairwise_cons] at hS hT
    by_cases hst : t = s
    · subst hst
      refine (sub_of_sorted S T hS.2 hT.2 fun x hx => ?_).cons_cons _
      have h1 := hT.1 x hx
      rcases List.mem_cons.1 (h x (by simp [hx])) with rfl | h2
      · omega
      · exact h2
    · have hts : t ∈ S := by
        rcases List.mem_cons.1 (h t (by simp)) with h1 | h1
        · exact absurd h1 hst
        · exact h1
      have hlt := hS.1 t hts
      refine (sub_of_sorted S (t :: T) hS.2 (List.pairwise_cons.2 hT) fun x hx => ?_).cons _
      rcases List.mem_cons.1 hx with rfl | hx'
      · exact hts
      · have h1 := hT.1 x hx'
        rcases List.mem_cons.1 (h x hx) with rfl | h2
        · omega
        · exact h2
/-- all sets of so many of some beams, in their order -/
def setsZ : List Int → Nat → List (List Int)
  | _, 0 => [[]]
  | [], _ + 1 => []
  | x :: l, k + 1 => (setsZ l k).map (x :: ·) ++ setsZ l (k + 1)
theorem setsZ_mem : ∀ (l : List Int) (k : Nat) (T : List Int), T ∈ setsZ l k ↔ T.Sublist l ∧ T.length = k
  | l, 0, T => by
    have hz : setsZ l 0 = [[]] := by cases l <;> rfl
    rw [hz, List.mem_singleton]
    constructor
    · rintro rfl
      exact ⟨List.nil_sublist _, rfl⟩
    · rintro ⟨_, h⟩
      exact List.eq_nil_of_length_eq_zero h
  | [], k + 1, T => by
    simp only [setsZ, List.not_mem_nil, false_iff]
    rintro ⟨h1, h2⟩
    rw [List.sublist_nil.1 h1] at h2
    simp at h2
  | x :: l, k + 1, T => by
    rw [setsZ, List.mem_append, List.mem_map, setsZ_mem l (k + 1) T]
    constructor
    · rintro (⟨U, hU, rfl⟩ | ⟨h1, h2⟩)
      · obtain ⟨h1, h2⟩ := (setsZ_mem l k U).1 hU
        exact ⟨h1.cons_cons _, by simp [h2]⟩
      · exact ⟨h1.cons _, h2⟩
    · rintro ⟨h1, h2⟩
      cases h1 with
      | cons _ h => exact .inr ⟨h, h2⟩
      | @cons_cons U _ _ h =>
        refine .inl ⟨U, (setsZ_mem l k U).2 ⟨h, by simpa using h2⟩, rfl⟩
end Go.Proofs.YtlbgocgocanloaaGreatDoor
