/- For every input the law CarePossible answers true, and its arguments read behind the call as ahead of it: under no condition beyond the row's own cells (the listed variable is tied by the card). -/
import Derived.Test.YtmcjnfghlpnghaaDoorM14
import Derived.Test.YtmcjnfghlpnghaaDoorM16
import Derived.Test.YtmcjnfghlpnghaaDoorTie
import Derived.Test.YtmcjnfghlpnghaaDoorCards
import Derived.SevenTiedAt
namespace Go.Proofs.YtmcjnfghlpnghaaDoor
open Go.ChangeShapes Go.WideShapes Go.ChangeAt Go.RowKit Go Go.Joins

set_option maxRecDepth 100000 in
theorem carePossible_lifted (os : Os) (started : os.Started) (H : Type) (enc : TypeId × Value → H) :
    ReturnsInHanded {} Tryd.checked os 15 .any (fun w args => (Rows.carePossibleSpec.pre enc Tryd.prog Tryd.f15 [] false w args ∧ laidMetH Tryd.prog [("guideway/care.kinds", Rows.laid_guideway_care_kinds)] w) ∧ sizedMet enc Tryd.prog Tryd.f15 (OpenSpec.ofChange Rows.carePossibleSpec) false w args)
      (Rows.carePossibleSpec.post enc Tryd.prog Tryd.f15 false true false false) := by
  refine returnsInHanded_of_change_and (C := Tryd.checked) (X := fun w _ => laidMetH Tryd.prog [("guideway/care.kinds", Rows.laid_guideway_care_kinds)] w) (fun _ _ _ hh h => h.of_heap hh) own started (by kernel_rfl) Tryd.func15
    (ChangeSpec.witness_shaped (enc := enc) (C := Tryd.checked) (os := os) (X := fun w _ => laidMetH Tryd.prog [("guideway/care.kinds", Rows.laid_guideway_care_kinds)] w) false (World.doorLaid Tryd.prog 600 os) #[.agg #[.int .i64 0, .int .i64 0, .int .i64 0], .agg #[.bool false, .bool false, .int .i64 0, .slice none 0 0, .slice none 0 0], .agg #[.int .i64 0, .int .i64 0, .int .i64 0, .int .i64 0]] 8 rfl (World.shaped_of_RefB (by kernel_rfl) (by kernel_rfl)) (by kernel_rfl) (by kernel_rfl) (by kernel_rfl) (door_met os _)) ?_
  intro W base args ds gs before hval0 hW _ _ hL _
  have hval : ∀ (j : Nat) t v, Tryd.f15.params[j]? = some t → args[j]? = some v → Value.okWide Tryd.prog W .any base t v := hval0
  have hW' := hW
  obtain ⟨p, q, hA0, hV, rfl, hfz, hnd⟩ := hW
  have hA : DataW.TrodAll enc Tryd.prog W 0 (fun _ => true) true Tryd.f15.params.toList args.toList ds p := hA0
  rw [Tryd.params15] at hA hval
  obtain ⟨v0, v1, v2, d0, d1, d2, p0, p1, p2, rfl, rfl, rfl, h0, h1, h2⟩ := trodAll_three hA
  obtain ⟨rfl, rfl⟩ := trodVars_none hV
  obtain ⟨c00, c01, c02, y00, y01, y02, m0, rfl, rfl, rfl, hy00, hy01, hy02⟩ := open_agg3 Tryd.underlying23 (by kernel_rfl) (by kernel_rfl) (hval 0 23 v0 rfl rfl) h0
  obtain ⟨D, e00, rfl, _⟩ := DataW.trod_int Tryd.underlying3 hy00
  obtain ⟨T, e01, rfl, _⟩ := DataW.trod_int Tryd.underlying3 hy01
  obtain ⟨S, e02, rfl, _⟩ := DataW.trod_int Tryd.underlying3 hy02
  simp at e00 e01 e02
  subst e00 e01 e02
  obtain ⟨s, Ag, Ad, ng, nd, cg, cd, rfl, _, hst1⟩ := open_state (hval 1 28 v1 rfl rfl) h1
  obtain ⟨pl, ek, ep, ed, rfl⟩ := open_asked (hval 2 122 v2 rfl rfl) h2
  have hk := kinds_of_laid hL
  refine (CarePossible_all W D T S Ag Ad ng nd cg cd s pl ek ep ed hk hst1).mono fun e W' ⟨he, hb⟩ => ⟨_, he, ?_⟩
  exact law_end rfl hW' rfl (by kernel_rfl) (by rw [Tryd.params15]; intro t ht; simp at ht; rcases ht with rfl | rfl | rfl <;> exact ⟨by kernel_rfl, of_decide_eq_true (by kernel_rfl)⟩) hb

set_option maxHeartbeats 8000000 in
theorem carePossible_facts : joinedFacts Tryd.prog 15 Tryd.f15 Rows.carePossibleSpec Rows.carePossibleRow = true :=
  facts_of (by as_aux_lemma => kernel_rfl) laidOut pf_maps (by as_aux_lemma => kernel_rfl) (by as_aux_lemma => kernel_rfl) (by as_aux_lemma => kernel_rfl) pf_stops (by as_aux_lemma => kernel_rfl) pf_knobs (by as_aux_lemma => kernel_rfl) (by as_aux_lemma => kernel_rfl) (by as_aux_lemma => kernel_rfl) (by as_aux_lemma => kernel_rfl) (by as_aux_lemma => kernel_rfl) (by as_aux_lemma => kernel_rfl) (by as_aux_lemma => kernel_rfl) (by as_aux_lemma => kernel_rfl) (by as_aux_lemma => kernel_rfl) (by as_aux_lemma => kernel_rfl) pf_heard pf_enter (by as_aux_lemma => kernel_rfl) (by as_aux_lemma => kernel_rfl) (by as_aux_lemma => kernel_rfl) (by as_aux_lemma => kernel_rfl) (by as_aux_lemma => kernel_rfl) (by as_aux_lemma => kernel_rfl)

set_option maxHeartbeats 8000000 in
theorem carePossible_holds : Rows.CarePossibleSaid :=
  OpenClaim.holds_of_wide 15 Tryd.f15 rfl rfl rfl rfl rfl rfl rfl ⟨rfl, rfl, rfl, rfl, rfl⟩ rfl rfl rfl rfl rfl (by as_aux_lemma => kernel_rfl) Tryd.func15 carePossible_facts
    (of_decide_eq_true (by as_aux_lemma => kernel_rfl)) (by unfold Func.isWrapper; first | (rw [if_pos (by decide +kernel)]; kernel_rfl) | (rw [if_neg (by decide +kernel)]; exact ⟨rfl, rfl⟩))
    (fun os started H enc _ => carePossible_lifted os started H enc)

set_option maxHeartbeats 8000000 in
theorem carePossible_card : Rows.CarePossibleCardSaid :=
  Claim7.holds_tied_plain_at .later [] [.funcsDeep] true (true, "adb9950258db83ff3a961aa9cf429f0c65cc01a0aafab3c3b963d81985d5d605") false
    carePossible_holds (fun _ h => by cases h) (by as_aux_lemma => kernel_rfl) (fun _ h => by cases h) carePossible_row_tie rfl ⟨rfl, rfl⟩ (by as_aux_lemma => kernel_rfl) rfl
    (fun f fn hf hfn => by
      obtain rfl : f = 15 := Option.some.inj ((show Tryd.prog.funcNamed "guideway/guidewaylaw09.CarePossible" = some 15 by as_aux_lemma => kernel_rfl).symm.trans hf) |>.symm
      obtain rfl : fn = Tryd.f15 := (Option.some.inj (Tryd.func15.symm.trans hfn)).symm
      exact ⟨by as_aux_lemma => kernel_rfl, fun j t ht => by
        rw [Tryd.params15] at ht
        have h3 : t = 23 ∨ t = 28 ∨ t = 122 := by
          rcases j with _ | _ | _ | j
          · left; simpa using ht.symm
          · right; left; simpa using ht.symm
          · right; right; simpa using ht.symm
          · simp at ht
        rcases h3 with rfl | rfl | rfl
        · exact (show Tryd.prog.wantsStandIn 23 = false by as_aux_lemma => kernel_rfl)
        · exact (show Tryd.prog.wantsStandIn 28 = false by as_aux_lemma => kernel_rfl)
        · exact (show Tryd.prog.wantsStandIn 122 = false by as_aux_lemma => kernel_rfl)⟩)
    (by as_aux_lemma => kernel_rfl)
#print axioms carePossible_card
end Go.Proofs.YtmcjnfghlpnghaaDoor
