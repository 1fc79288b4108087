/- For every input the law CareExplained answers true, and its arguments read behind the call as ahead of it: under no condition beyond the row's own cells (the listed variable is tied by the card). -/
import Derived.Test.YtmcjnfghlpnghaaDoorM11
import Derived.Test.YtmcjnfghlpnghaaDoorM8
import Derived.Test.YtmcjnfghlpnghaaDoorTie
import Derived.Test.YtmcjnfghlpnghaaDoorCards
import Derived.SevenTiedAt
namespace Go.Proofs.YtmcjnfghlpnghaaDoor
open Go.ChangeShapes Go.WideShapes Go.ChangeAt Go.RowKit Go Go.Joins

set_option maxRecDepth 100000 in
theorem careExplained_lifted (os : Os) (started : os.Started) (H : Type) (enc : TypeId × Value → H) :
    ReturnsInHanded {} Tryd.checked os 18 .any (fun w args => (Rows.careExplainedSpec.pre enc Tryd.prog Tryd.f18 [] false w args ∧ laidMetH Tryd.prog [("guideway/care.kinds", Rows.laid_guideway_care_kinds)] w) ∧ sizedMet enc Tryd.prog Tryd.f18 (OpenSpec.ofChange Rows.careExplainedSpec) false w args)
      (Rows.careExplainedSpec.post enc Tryd.prog Tryd.f18 false true false false) := by
  refine returnsInHanded_of_change_and (C := Tryd.checked) (X := fun w _ => laidMetH Tryd.prog [("guideway/care.kinds", Rows.laid_guideway_care_kinds)] w) (fun _ _ _ hh h => h.of_heap hh) own started (by kernel_rfl) Tryd.func18
    (ChangeSpec.witness_shaped (enc := enc) (C := Tryd.checked) (os := os) (X := fun w _ => laidMetH Tryd.prog [("guideway/care.kinds", Rows.laid_guideway_care_kinds)] w) false (World.doorLaid Tryd.prog 600 os) #[.agg #[.int .i64 0, .slice none 0 0], .slice none 0 0] 8 rfl (World.shaped_of_RefB (by kernel_rfl) (by kernel_rfl)) (by kernel_rfl) (by kernel_rfl) (by kernel_rfl) (door_met os _)) ?_
  intro W base args ds gs before hval0 hW _ _ hL _
  have hval : ∀ (j : Nat) t v, Tryd.f18.params[j]? = some t → args[j]? = some v → Value.okWide Tryd.prog W .any base t v := hval0
  have hW' := hW
  obtain ⟨p, q, hA0, hV, rfl, hfz, hnd⟩ := hW
  have hA : DataW.TrodAll enc Tryd.prog W 0 (fun _ => true) true Tryd.f18.params.toList args.toList ds p := hA0
  rw [Tryd.params18] at hA hval
  obtain ⟨v0, v1, d0, d1, p0, p1, rfl, rfl, rfl, h0, h1⟩ := trodAll_two hA
  obtain ⟨rfl, rfl⟩ := trodVars_none hV
  obtain ⟨bm, A, n, c, l, rfl, _, hr0⟩ := open_record (hval 0 96 v0 rfl rfl) h0
  obtain ⟨a1, len1, cap1, rfl⟩ := okWide_slice Tryd.underlying39 (hval 1 39 v1 rfl rfl)
  obtain ⟨fuel1, hf1⟩ := h1
  obtain ⟨A2, n2, c2, bs, hcs1, hl1, hn1, hr1⟩ := open_ints hf1
  simp only [Value.cells, List.cons.injEq, Value.slice.injEq, and_true] at hcs1
  obtain ⟨rfl, rfl, rfl⟩ := hcs1
  have hk := kinds_of_laid hL
  refine (CareExplained_all W bm A _ n c _ _ l bs hk hr0.1 hl1 hr0.2 hr1).mono fun e W' ⟨he, hb⟩ => ⟨_, he, ?_⟩
  exact law_end rfl hW' rfl (by kernel_rfl) (by rw [Tryd.params18]; intro t ht; simp at ht; rcases ht with rfl | rfl <;> exact ⟨by kernel_rfl, of_decide_eq_true (by kernel_rfl)⟩) hb

set_option maxHeartbeats 8000000 in
theorem careExplained_facts : joinedFacts Tryd.prog 18 Tryd.f18 Rows.careExplainedSpec Rows.careExplainedRow = true :=
  facts_of (by as_aux_lemma => kernel_rfl) laidOut pf_maps (by as_aux_lemma => kernel_rfl) (by as_aux_lemma => kernel_rfl) (by as_aux_lemma => kernel_rfl) pf_stops (by as_aux_lemma => kernel_rfl) pf_knobs (by as_aux_lemma => kernel_rfl) (by as_aux_lemma => kernel_rfl) (by as_aux_lemma => kernel_rfl) (by as_aux_lemma => kernel_rfl) (by as_aux_lemma => kernel_rfl) (by as_aux_lemma => kernel_rfl) (by as_aux_lemma => kernel_rfl) (by as_aux_lemma => kernel_rfl) (by as_aux_lemma => kernel_rfl) (by as_aux_lemma => kernel_rfl) pf_heard pf_enter (by as_aux_lemma => kernel_rfl) (by as_aux_lemma => kernel_rfl) (by as_aux_lemma => kernel_rfl) (by as_aux_lemma => kernel_rfl) (by as_aux_lemma => kernel_rfl) (by as_aux_lemma => kernel_rfl)

set_option maxHeartbeats 8000000 in
theorem careExplained_holds : Rows.CareExplainedSaid :=
  OpenClaim.holds_of_wide 18 Tryd.f18 rfl rfl rfl rfl rfl rfl rfl ⟨rfl, rfl, rfl, rfl, rfl⟩ rfl rfl rfl rfl rfl (by as_aux_lemma => kernel_rfl) Tryd.func18 careExplained_facts
    (of_decide_eq_true (by as_aux_lemma => kernel_rfl)) (by unfold Func.isWrapper; first | (rw [if_pos (by decide +kernel)]; kernel_rfl) | (rw [if_neg (by decide +kernel)]; exact ⟨rfl, rfl⟩))
    (fun os started H enc _ => careExplained_lifted os started H enc)

set_option maxHeartbeats 8000000 in
theorem careExplained_card : Rows.CareExplainedCardSaid :=
  Claim7.holds_tied_plain_at .later [] [.funcsDeep] true (true, "adb9950258db83ff3a961aa9cf429f0c65cc01a0aafab3c3b963d81985d5d605") false
    careExplained_holds (fun _ h => by cases h) (by as_aux_lemma => kernel_rfl) (fun _ h => by cases h) careExplained_row_tie rfl ⟨rfl, rfl⟩ (by as_aux_lemma => kernel_rfl) rfl
    (fun f fn hf hfn => by
      obtain rfl : f = 18 := Option.some.inj ((show Tryd.prog.funcNamed "guideway/guidewaylaw09.CareExplained" = some 18 by as_aux_lemma => kernel_rfl).symm.trans hf) |>.symm
      obtain rfl : fn = Tryd.f18 := (Option.some.inj (Tryd.func18.symm.trans hfn)).symm
      exact ⟨by as_aux_lemma => kernel_rfl, fun j t ht => by
        rw [Tryd.params18] at ht
        have h3 : t = 96 ∨ t = 39 := by
          rcases j with _ | _ | j
          · left; simpa using ht.symm
          · right; simpa using ht.symm
          · simp at ht
        rcases h3 with rfl | rfl
        · exact (show Tryd.prog.wantsStandIn 96 = false by as_aux_lemma => kernel_rfl)
        · exact (show Tryd.prog.wantsStandIn 39 = false by as_aux_lemma => kernel_rfl)⟩)
    (by as_aux_lemma => kernel_rfl)
#print axioms careExplained_card
end Go.Proofs.YtmcjnfghlpnghaaDoor
