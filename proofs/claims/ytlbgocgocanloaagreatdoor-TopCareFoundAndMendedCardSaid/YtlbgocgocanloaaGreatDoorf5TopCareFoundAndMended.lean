/- For every input the law TopCareFoundAndMended answers true, and its arguments read behind the call as ahead of it: under no condition beyond the row's own cells (the listed variables are tied by the card). -/
import Derived.Test.YtlbgocgocanloaaGreatDoorf5M3
import Derived.Test.YtlbgocgocanloaaGreatDoorf5FC
import Derived.Test.YtlbgocgocanloaaGreatDoorTie
import Derived.Test.YtlbgocgocanloaaGreatDoorCards
import Derived.SevenTiedAt
namespace Go.Proofs.YtlbgocgocanloaaGreatDoor
open Go.ChangeShapes Go.WideShapes Go.ChangeAt Go.RowKit Go Go.Joins
set_option maxRecDepth 100000 in
theorem topCareFoundAndMended_lifted (os : Os) (started : os.Started) (H : Type) (enc : TypeId × Value → H) :
    ReturnsInHanded {} Tryz.checked os 5 .any (fun w args => (Rows.topCareFoundAndMendedSpec.pre enc Tryz.prog Tryz.f5 [] false w args ∧ laidMetH Tryz.prog Rows.topCareFoundAndMendedRow.laid w) ∧ sizedMet enc Tryz.prog Tryz.f5 (OpenSpec.ofChange Rows.topCareFoundAndMendedSpec) false w args)
      (Rows.topCareFoundAndMendedSpec.post enc Tryz.prog Tryz.f5 false true false false) := by
  refine handed_and_shaped (C := Tryz.checked) (X := fun w _ => laidMetH Tryz.prog Rows.topCareFoundAndMendedRow.laid w) (fun _ _ _ hh h => h.of_heap hh) own started (by kernel_rfl) Tryz.func5
    (ChangeSpec.witness_shaped (enc := enc) (C := Tryz.checked) (os := os) (X := fun w _ => laidMetH Tryz.prog Rows.topCareFoundAndMendedRow.laid w) false (worldT os) #[.agg #[.int .i64 0, .slice none 0 0], .int .i64 0, .int .i64 0] 8 (World.layVars_os _ _ _) (World.shaped_of_ZipB (by kernel_rfl) (by kernel_rfl)) (by kernel_rfl) (by kernel_rfl) (by kernel_rfl) (by rw [laidB_eq]; exact worldT_met os _)) ?_
  intro W base args ds gs before hval0 hW _ _ hL hsh _
  have hval : ∀ (j : Nat) t v, Tryz.f5.params[j]? = some t → args[j]? = some v → Value.okWide Tryz.prog W .any base t v := hval0
  have hW' := hW
  obtain ⟨p, q, hA0, hV, rfl, hfz, hnd⟩ := hW
  have hA : DataW.TrodAll enc Tryz.prog W 0 (fun _ => true) true Tryz.f5.params.toList args.toList ds p := hA0
  rw [Tryz.params5] at hA hval
  obtain ⟨v0, v1, v2, d0, d1, d2, p0, p1, p2, rfl, rfl, rfl, h0, h1, h2⟩ := trodAll_three hA
  obtain ⟨rfl, rfl⟩ := trodVars_none hV
  obtain ⟨bm, A, n, k, l, rfl, hn, hl, hr⟩ := open_record (hval 0 70 v0 rfl rfl) h0
  obtain ⟨off, rfl, rfl, rfl, _⟩ := open_int Tryz.underlying3 (hval 1 3 v1 rfl rfl) h1
  obtain ⟨hours, rfl, rfl, rfl, _⟩ := open_int Tryz.underlying3 (hval 2 3 v2 rfl rfl) h2
  have ht := txtT (by rw [← laidB_eq]; exact hL) hsh
  refine (Mended_all bm off hours A n k l W ht hl hr (by unfold maxLen at hn; omega)).mono fun e W' ⟨he, hb⟩ => ⟨_, he, ?_⟩
  exact law_end rfl hW' rfl (by kernel_rfl) (by rw [Tryz.params5]; intro t ht; simp at ht; rcases ht with rfl | rfl | rfl <;> exact ⟨by kernel_rfl, of_decide_eq_true (by kernel_rfl)⟩) hb
set_option maxHeartbeats 8000000 in
set_option maxRecDepth 100000 in
theorem topCareFoundAndMended_facts : joinedFacts Tryz.prog 5 Tryz.f5 Rows.topCareFoundAndMendedSpec Rows.topCareFoundAndMendedRow = true :=
  facts_of (by as_aux_lemma => kernel_rfl) laidOut pf_maps (by as_aux_lemma => kernel_rfl) (by as_aux_lemma => kernel_rfl) (by as_aux_lemma => kernel_rfl) pf_stops (by as_aux_lemma => kernel_rfl) pf_knobs (by as_aux_lemma => kernel_rfl) (by as_aux_lemma => kernel_rfl) (by as_aux_lemma => kernel_rfl) (by as_aux_lemma => kernel_rfl) (by as_aux_lemma => kernel_rfl) (by as_aux_lemma => kernel_rfl) (by as_aux_lemma => kernel_rfl) (by as_aux_lemma => kernel_rfl) (by as_aux_lemma => kernel_rfl) (by as_aux_lemma => kernel_rfl) pf_heard pf_enter (by as_aux_lemma => kernel_rfl) (by as_aux_lemma => kernel_rfl) (by as_aux_lemma => kernel_rfl) (by as_aux_lemma => kernel_rfl) (by as_aux_lemma => kernel_rfl) (by as_aux_lemma => kernel_rfl)
set_option maxHeartbeats 8000000 in
set_option maxRecDepth 100000 in
theorem topCareFoundAndMended_holds : Rows.TopCareFoundAndMendedSaid :=
  OpenClaim.holds_of_wide 5 Tryz.f5 rfl rfl rfl rfl rfl rfl rfl ⟨rfl, rfl, rfl, rfl, rfl⟩ rfl rfl rfl rfl rfl (by as_aux_lemma => kernel_rfl) Tryz.func5 topCareFoundAndMended_facts
    (of_decide_eq_true (by as_aux_lemma => kernel_rfl)) (by unfold Func.isWrapper; first | (rw [if_pos (by decide +kernel)]; kernel_rfl) | (rw [if_neg (by decide +kernel)]; exact ⟨rfl, rfl⟩))
    (fun os started H enc _ => topCareFoundAndMended_lifted os started H enc)
set_option maxHeartbeats 8000000 in
set_option maxRecDepth 100000 in
theorem topCareFoundAndMended_card : Rows.TopCareFoundAndMendedCardSaid :=
  Claim7.holds_tied_plain_at .later [] [.data, .data, .data, .data, .sentinel, .sentinel, .funcsDeep, .pinned] true (true, "f130f76d7a4a0ae103bc763a4345af078c15e88c53910533a47303efde295308") true
    topCareFoundAndMended_holds (fun _ h => by cases h) (by as_aux_lemma => kernel_rfl) (fun _ h => by cases h) topCareFoundAndMended_row_tie rfl ⟨rfl, rfl⟩ (by as_aux_lemma => kernel_rfl) rfl
    (fun f fn hf hfn => by
      obtain rfl : f = 5 := Option.some.inj ((show Tryz.prog.funcNamed "guideway/guidewaytop.TopCareFoundAndMended" = some 5 by as_aux_lemma => kernel_rfl).symm.trans hf) |>.symm
      obtain rfl : fn = Tryz.f5 := (Option.some.inj (Tryz.func5.symm.trans hfn)).symm
      exact ⟨by as_aux_lemma => kernel_rfl, fun j t ht => by
        rw [Tryz.params5] at ht
        have h3 : t = 70 ∨ t = 3 ∨ t = 3 := by
          rcases j with _ | _ | _ | j
          · left; simpa using ht.symm
          · right; left; simpa using ht.symm
          · right; right; simpa using ht.symm
          · simp at ht
        rcases h3 with rfl | rfl | rfl
        · exact (show Tryz.prog.wantsStandIn 70 = false by as_aux_lemma => kernel_rfl)
        · exact (show Tryz.prog.wantsStandIn 3 = false by as_aux_lemma => kernel_rfl)
        · exact (show Tryz.prog.wantsStandIn 3 = false by as_aux_lemma => kernel_rfl)⟩)
    (by as_aux_lemma => kernel_rfl)
#print axioms topCareFoundAndMended_card
end Go.Proofs.YtlbgocgocanloaaGreatDoor
