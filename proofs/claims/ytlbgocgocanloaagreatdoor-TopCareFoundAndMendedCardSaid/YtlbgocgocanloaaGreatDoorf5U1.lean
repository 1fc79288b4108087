/- In whatever order readings with the same end come, as few beams explain them: plain. -/
import Derived.Test.YtlbgocgocanloaaGreatDoorf5K1
import Derived.Test.YtlbgocgocanloaaGreatDoorf5Sort
import Derived.Test.YtlbgocgocanloaaGreatDoorf5N3
namespace Go.Proofs.YtlbgocgocanloaaGreatDoor
theorem few_some_in {S : List Int} (hS : S.Pairwise (· < ·)) (h0 : ∀ s ∈ S, 0 ≤ s) {l m : List Rg} (hm : ∀ r, r ∈ m ↔ r ∈ l) (hs : m.Pairwise (fun a b => a.2.1 ≤ b.2.1)) (hl : ∀ r ∈ l, 0 ≤ r.1 ∧ r.1 ≤ r.2.1) {k : Nat} (h : fewGo S 0 (-1) m = some k) : MinK S (exB l) k := by
  obtain ⟨T, h1, h2, h3, h4⟩ := few_upper hS m 0 k (-1) hs (fun r hr => by
    have := hl r ((hm r).1 hr)
    omega) h
  refine ⟨⟨T, sub_of_sorted S T hS h1 fun t ht => (h2 t ht).1, exB_iff.2 fun r hr => missB_of fun hw => ?_, by omega⟩, fun U hU hx => ?_⟩
  · rcases h4 r ((hm r).2 hr) hw with g | g
    · have := hl r hr
      omega
    · exact g
  · obtain ⟨k', g1, g2⟩ := few_lower hS h0 (T := U) (fun t ht => hU.subset ht) m 0 (-1) (fun r hr => exB_iff.1 hx r ((hm r).1 hr))
    rw [h] at g1
    cases g1
    have := List.countP_le_length (p := fun t => decide ((-1 : Int) < t)) (l := U)
    omega
theorem few_none_in {S : List Int} (hS : S.Pairwise (· < ·)) (h0 : ∀ s ∈ S, 0 ≤ s) {l m : List Rg} (hm : ∀ r, r ∈ m ↔ r ∈ l) (h : fewGo S 0 (-1) m = none) : ∀ U : List Int, (∀ t ∈ U, t ∈ S) → exB l U = false := by
  intro U hU
  cases hx : exB l U with
  | false => rfl
  | true =>
    exfalso
    obtain ⟨k', g1, _⟩ := few_lower hS h0 (T := U) hU m 0 (-1) (fun r hr => exB_iff.1 hx r ((hm r).1 hr))
    rw [h] at g1
    cases g1
/-- **The order of readings with the same end is of no account.** -/
theorem few_order {S : List Int} (hS : S.Pairwise (· < ·)) (h0 : ∀ s ∈ S, 0 ≤ s) {l m : List Rg} (hm : ∀ r, r ∈ m ↔ r ∈ l) (hs : m.Pairwise (fun a b => a.2.1 ≤ b.2.1)) (hl : ∀ r ∈ l, 0 ≤ r.1 ∧ r.1 ≤ r.2.1) : fewGo S 0 (-1) m = fewM S l := by
  cases h : fewGo S 0 (-1) m with
  | none =>
    have hn := few_none_in hS h0 hm h
    cases h' : fewM S l with
    | none => rfl
    | some k =>
      obtain ⟨⟨T, t1, t2, _⟩, _⟩ := few_some hS h0 hl h'
      rw [hn T fun t ht => t1.subset ht] at t2
      cases t2
  | some k =>
    have hk := few_some_in hS h0 hm hs hl h
    cases h' : fewM S l with
    | none =>
      obtain ⟨⟨T, t1, t2, _⟩, _⟩ := hk
      rw [few_none hS h0 h' T fun t ht => t1.subset ht] at t2
      cases t2
    | some k' => rw [hk.uniq (few_some hS h0 hl h')]
end Go.Proofs.YtlbgocgocanloaaGreatDoor

/- slices.SortFunc at readings, by their ends; slices.Clone at readings. -/
namespace Go.Proofs.YtlbgocgocanloaaGreatDoor
open Go.RowKit Go.Shelf Go.Sort
theorem byEnd_any (x y : Rg) (W : World) : Calls Tryz.prog 111 #[.agg #[.int .i64 x.1, .int .i64 x.2.1, .bool x.2.2], .agg #[.int .i64 y.1, .int .i64 y.2.1, .bool y.2.2]] W fun e w' => e = .returned (.int .i64 (cmpI x.2.1 y.2.1)) ∧ ∃ q os', w' = grow (W.drewN q) os' := by
  have hcon := fun W' => Compare_any x.2.1 y.2.1 W'
  generalize cmpI x.2.1 y.2.1 = r at hcon ⊢
  go_enter Tryz.func111, Tryz.ntmps111
  go_wp2_with (go_at_call 112; refine (hcon _).mono ?_; rintro e w' ⟨rfl, rfl⟩)
  go_ret
  exact ⟨rfl, 0, _, by rw [alloc_eq_grow, alloc_eq_grow, grow_grow]; rfl⟩
theorem byEnd_lays (blk off size : Nat) (w : World) : CmpLays Tryz.prog 111 #[] rgVals 3 (fun x y => cmpI x.2.1 y.2.1) blk off size w :=
  fun _ _ _ _ x y => byEnd_any x y _
theorem bits_small (n : Nat) (W : World) (h : n ≤ 12) : Calls Tryz.prog 118 #[.int .u64 n] W fun e w' => (∃ l : Int, e = .returned (.int .i64 l)) ∧ w' = W :=
  (Tryz.bits_Len n W (by omega) (by omega)).mono fun _ _ ⟨he, hw⟩ => ⟨⟨_, he⟩, hw⟩
theorem SortRg_small (blk off cap : Nat) (d : Array Rg) (w : World) (hH : HoldsK rgVals 3 w blk off d) (hblk : blk < w.heap.size) (h12 : d.size ≤ 12) :
    Calls Tryz.prog 110 #[.slice (some ⟨blk, off, none⟩) d.size cap, .func (.func 111) #[] #[]] w fun e w' => e = .returned (.tuple #[]) ∧ ∃ n os, w' = sortWorldK rgVals 3 w blk off n (Sort.insertionSort (ltOf fun x y => cmpI x.2.1 y.2.1) d 0 d.size) os := by
  have eg : ∀ args w, (callFunc 111 args).run Tryz.prog w = .ok (.enter 111 args) w := enters_of Tryz.func111 (by kernel_rfl) rfl
  exact AnyQ.slices_SortFunc_small Tryz.laysSort110 3 Tryz.isAgg148 Tryz.sizeOf148 rgVals (fun _ => rfl) (fun x v hv => by simp [rgVals] at hv; rcases hv with rfl | rfl | rfl <;> rfl) (fun x y => cmpI x.2.1 y.2.1) 111 #[] blk off cap d w eg (byEnd_lays blk off d.size w) hH hblk h12 bits_small
end Go.Proofs.YtlbgocgocanloaaGreatDoor
