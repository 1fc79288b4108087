/- For every input the law CareWorks answers true, and its arguments read behind the call as ahead of it: under no condition beyond the row's own cells (the listed variable is tied by the card). -/
import Derived.Test.YtmcjnfghlpnghaaDoorM12
import Derived.Test.YtmcjnfghlpnghaaDoorTie
import Derived.Test.YtmcjnfghlpnghaaDoorCards
import Derived.SevenTiedAt
namespace Go.Proofs.YtmcjnfghlpnghaaDoor
open Go.ChangeShapes Go.WideShapes Go.ChangeAt Go.RowKit Go Go.Joins

set_option maxRecDepth 100000 in
theorem careWorks_lifted (os : Os) (started : os.Started) (H : Type) (enc : TypeId × Value → H) :
    ReturnsInHanded {} Tryd.checked os 16 .any (fun w args => (Rows.careWorksSpec.pre enc Tryd.prog Tryd.f16 [] false w args ∧ laidMetH Tryd.prog [("guideway/care.kinds", Rows.laid_guideway_care_kinds)] w) ∧ sizedMet enc Tryd.prog Tryd.f16 (OpenSpec.ofChange Rows.careWorksSpec) false w args)
      (Rows.careWorksSpec.post enc Tryd.prog Tryd.f16 false true false false) := by
  refine returnsInHanded_of_change_and (C := Tryd.checked) (X := fun w _ => laidMetH Tryd.prog [("guideway/care.kinds", Rows.laid_guideway_care_kinds)] w) (fun _ _ _ hh h => h.of_heap hh) own started (by kernel_rfl) Tryd.func16
    (ChangeSpec.witness_shaped (enc := enc) (C := Tryd.checked) (os := os) (X := fun w _ => laidMetH Tryd.prog [("guideway/care.kinds", Rows.laid_guideway_care_kinds)] w) false (World.doorLaid Tryd.prog 600 os) #[.agg #[.slice none 0 0, .slice none 0 0], .slice none 0 0, .int .i64 0] 8 rfl (World.shaped_of_RefB (by kernel_rfl) (by kernel_rfl)) (by kernel_rfl) (by kernel_rfl) (by kernel_rfl) (door_met os _)) ?_
  intro W base args ds gs before hval0 hW _ _ hL _
  have hval : ∀ (j : Nat) t v, Tryd.f16.params[j]? = some t → args[j]? = some v → Value.okWide Tryd.prog W .any base t v := hval0
  have hW' := hW
  obtain ⟨p, q, hA0, hV, rfl, hfz, hnd⟩ := hW
  have hA : DataW.TrodAll enc Tryd.prog W 0 (fun _ => true) true Tryd.f16.params.toList args.toList ds p := hA0
  rw [Tryd.params16] at hA hval
  obtain ⟨v0, v1, v2, d0, d1, d2, p0, p1, p2, rfl, rfl, rfl, h0, h1, h2⟩ := trodAll_three hA
  obtain ⟨rfl, rfl⟩ := trodVars_none hV
  obtain ⟨Aw, Aj, nw, cw, nj, cj, Wd, J, rfl, _, hr0⟩ := open_work (hval 0 130 v0 rfl rfl) h0
  obtain ⟨a1, len1, cap1, rfl⟩ := okWide_slice Tryd.underlying39 (hval 1 39 v1 rfl rfl)
  obtain ⟨fuel1, hf1⟩ := h1
  obtain ⟨A2, n2, c2, ws, hcs1, hl1, hn1, hr1⟩ := open_ints hf1
  simp only [Value.cells, List.cons.injEq, Value.slice.injEq, and_true] at hcs1
  obtain ⟨rfl, rfl, rfl⟩ := hcs1
  obtain ⟨more, rfl, rfl, rfl, _⟩ := open_int Tryd.underlying3 (hval 2 3 v2 rfl rfl) h2
  have hk := kinds_of_laid hL
  refine (CareWorks_all W Aw Aj _ nw cw nj cj _ _ Wd J ws more hk hr0.1 hr0.2.1 hl1 hr0.2.2.1 hr0.2.2.2 hr1).mono fun e W' ⟨he, hb⟩ => ⟨_, he, ?_⟩
  exact law_end rfl hW' rfl (by kernel_rfl) (by rw [Tryd.params16]; intro t ht; simp at ht; rcases ht with rfl | rfl | rfl <;> exact ⟨by kernel_rfl, of_decide_eq_true (by kernel_rfl)⟩) hb

set_option maxHeartbeats 8000000 in
theorem careWorks_facts : joinedFacts Tryd.prog 16 Tryd.f16 Rows.careWorksSpec Rows.careWorksRow = true :=
  facts_of (by as_aux_lemma => kernel_rfl) laidOut pf_maps (by as_aux_lemma => kernel_rfl) (by as_aux_lemma => kernel_rfl) (by as_aux_lemma => kernel_rfl) pf_stops (by as_aux_lemma => kernel_rfl) pf_knobs (by as_aux_lemma => kernel_rfl) (by as_aux_lemma => kernel_rfl) (by as_aux_lemma => kernel_rfl) (by as_aux_lemma => kernel_rfl) (by as_aux_lemma => kernel_rfl) (by as_aux_lemma => kernel_rfl) (by as_aux_lemma => kernel_rfl) (by as_aux_lemma => kernel_rfl) (by as_aux_lemma => kernel_rfl) (by as_aux_lemma => kernel_rfl) pf_heard pf_enter (by as_aux_lemma => kernel_rfl) (by as_aux_lemma => kernel_rfl) (by as_aux_lemma => kernel_rfl) (by as_aux_lemma => kernel_rfl) (by as_aux_lemma => kernel_rfl) (by as_aux_lemma => kernel_rfl)

set_option maxHeartbeats 8000000 in
theorem careWorks_holds : Rows.CareWorksSaid :=
  OpenClaim.holds_of_wide 16 Tryd.f16 rfl rfl rfl rfl rfl rfl rfl ⟨rfl, rfl, rfl, rfl, rfl⟩ rfl rfl rfl rfl rfl (by as_aux_lemma => kernel_rfl) Tryd.func16 careWorks_facts
    (of_decide_eq_true (by as_aux_lemma => kernel_rfl)) (by unfold Func.isWrapper; first | (rw [if_pos (by decide +kernel)]; kernel_rfl) | (rw [if_neg (by decide +kernel)]; exact ⟨rfl, rfl⟩))
    (fun os started H enc _ => careWorks_lifted os started H enc)

set_option maxHeartbeats 8000000 in
theorem careWorks_card : Rows.CareWorksCardSaid :=
  Claim7.holds_tied_plain_at .later [] [.funcsDeep] true (true, "adb9950258db83ff3a961aa9cf429f0c65cc01a0aafab3c3b963d81985d5d605") false
    careWorks_holds (fun _ h => by cases h) (by as_aux_lemma => kernel_rfl) (fun _ h => by cases h) careWorks_row_tie rfl ⟨rfl, rfl⟩ (by as_aux_lemma => kernel_rfl) rfl
    (fun f fn hf hfn => by
      obtain rfl : f = 16 := Option.some.inj ((show Tryd.prog.funcNamed "guideway/guidewaylaw09.CareWorks" = some 16 by as_aux_lemma => kernel_rfl).symm.trans hf) |>.symm
      obtain rfl : fn = Tryd.f16 := (Option.some.inj (Tryd.func16.symm.trans hfn)).symm
      exact ⟨by as_aux_lemma => kernel_rfl, fun j t ht => by
        rw [Tryd.params16] at ht
        have h3 : t = 130 ∨ t = 39 ∨ t = 3 := by
          rcases j with _ | _ | _ | j
          · left; simpa using ht.symm
          · right; left; simpa using ht.symm
          · right; right; simpa using ht.symm
          · simp at ht
        rcases h3 with rfl | rfl | rfl
        · exact (show Tryd.prog.wantsStandIn 130 = false by as_aux_lemma => kernel_rfl)
        · exact (show Tryd.prog.wantsStandIn 39 = false by as_aux_lemma => kernel_rfl)
        · exact (show Tryd.prog.wantsStandIn 3 = false by as_aux_lemma => kernel_rfl)⟩)
    (by as_aux_lemma => kernel_rfl)
#print axioms careWorks_card
end Go.Proofs.YtmcjnfghlpnghaaDoor
