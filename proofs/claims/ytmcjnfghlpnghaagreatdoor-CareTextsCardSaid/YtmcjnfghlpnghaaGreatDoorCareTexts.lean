/- For every input the law CareTexts answers true, and its arguments read behind the call as ahead of it: under no condition beyond the row's own cells (the listed variables are tied by the card). -/
import Derived.Test.YtmcjnfghlpnghaaGreatDoorT12
import Derived.Test.YtmcjnfghlpnghaaGreatDoorFT
import Derived.Test.YtmcjnfghlpnghaaGreatDoorTie
import Derived.Test.YtmcjnfghlpnghaaGreatDoorCards
import Derived.SevenTiedAt
import Derived.ChangeMaps5
namespace Go.Proofs.YtmcjnfghlpnghaaGreatDoor
open Go.ChangeShapes Go.WideShapes Go.ChangeAt Go.RowKit Go Go.Joins

theorem i64_of {n : Int} (h : (Lit.int .i64 n).wf = true) : I64 n := by
  have : -9223372036854775808 ≤ n ∧ n ≤ 9223372036854775807 := by simpa [Lit.wf, IntKind.min, IntKind.max, IntKind.signed, IntKind.bits] using h
  exact this
set_option maxRecDepth 100000 in
theorem careTexts_lifted (os : Os) (started : os.Started) (H : Type) (enc : TypeId × Value → H) :
    ReturnsInHanded {} Tryz.checked os 3 .any (fun w args => (Rows.careTextsSpec.pre enc Tryz.prog Tryz.f3 [] false w args ∧ laidMetH Tryz.prog Rows.careTextsRow.laid w) ∧ sizedMet enc Tryz.prog Tryz.f3 (OpenSpec.ofChange Rows.careTextsSpec) false w args)
      (Rows.careTextsSpec.post enc Tryz.prog Tryz.f3 false true false false) := by
  refine handed_and_shaped (C := Tryz.checked) (X := fun w _ => laidMetH Tryz.prog Rows.careTextsRow.laid w) (fun _ _ _ hh h => h.of_heap hh) own started (by kernel_rfl) Tryz.func3
    (ChangeSpec.witness_shaped (enc := enc) (C := Tryz.checked) (os := os) (X := fun w _ => laidMetH Tryz.prog Rows.careTextsRow.laid w) false (worldT os) #[.agg #[.int .i64 0, .int .i64 0, .int .i64 0], .agg #[.string ⟨#[]⟩, .int .i64 0, .int .i64 0, .int .i64 0], .string ⟨#[]⟩] 8 (World.layVars_os _ _ _) (World.shaped_of_ZipB (by kernel_rfl) (by kernel_rfl)) (by kernel_rfl) (by kernel_rfl) (by kernel_rfl) (worldT_met os _)) ?_
  intro W base args ds gs before hval0 hW _ _ hL hsh _
  have hval : ∀ (j : Nat) t v, Tryz.f3.params[j]? = some t → args[j]? = some v → Value.okWide Tryz.prog W .any base t v := hval0
  have hW' := hW
  obtain ⟨p, q, hA0, hV, rfl, hfz, hnd⟩ := hW
  have hA : DataW.TrodAll enc Tryz.prog W 0 (fun _ => true) true Tryz.f3.params.toList args.toList ds p := hA0
  rw [Tryz.params3] at hA hval
  obtain ⟨v0, v1, v2, d0, d1, d2, p0, p1, p2, rfl, rfl, rfl, h0, h1, h2⟩ := trodAll_three hA
  obtain ⟨rfl, rfl⟩ := trodVars_none hV
  obtain ⟨c0, c1, c2, y0, y1, y2, m, rfl, rfl, rfl, hy0, hy1, hy2⟩ := open_agg3 Tryz.underlying23 (by kernel_rfl) (by kernel_rfl) (hval 0 23 v0 rfl rfl) h0
  obtain ⟨k, e0, rfl, w0⟩ := DataW.trod_int Tryz.underlying3 hy0
  obtain ⟨pl, e1, rfl, w1⟩ := DataW.trod_int Tryz.underlying3 hy1
  obtain ⟨dr, e2, rfl, w2⟩ := DataW.trod_int Tryz.underlying3 hy2
  simp at e0 e1 e2
  subst e0 e1 e2
  obtain ⟨g0, g1, g2, g3, z0, z1, z2, z3, m2, rfl, rfl, rfl, hz0, hz1, hz2, hz3⟩ := open_agg4 Tryz.underlying25 (by kernel_rfl) (by kernel_rfl) (hval 1 25 v1 rfl rfl) h1
  obtain ⟨nm, f0, rfl, _⟩ := DataW.trod_string Tryz.underlying9 hz0
  obtain ⟨d, f1, rfl, u1⟩ := DataW.trod_int Tryz.underlying3 hz1
  obtain ⟨b, f2, rfl, u2⟩ := DataW.trod_int Tryz.underlying3 hz2
  obtain ⟨o, f3, rfl, u3⟩ := DataW.trod_int Tryz.underlying3 hz3
  simp at f0 f1 f2 f3
  subst f0 f1 f2 f3
  obtain ⟨s, rfl, rfl, rfl, _⟩ := Go.ChangeMaps.open_string Tryz.underlying9 (hval 2 9 v2 rfl rfl) h2
  have ht := txtT hL hsh
  refine (Texts_all k pl dr (i64_of w1) (i64_of w2) nm d b o (i64_of u1) (i64_of u2) (i64_of u3) s W ht).mono fun e W' ⟨he, hb⟩ => ⟨_, he, ?_⟩
  exact law_end rfl hW' rfl (by kernel_rfl) (by rw [Tryz.params3]; intro t ht; simp at ht; rcases ht with rfl | rfl | rfl <;> exact ⟨by kernel_rfl, of_decide_eq_true (by kernel_rfl)⟩) hb

set_option maxHeartbeats 8000000 in
set_option maxRecDepth 100000 in
theorem careTexts_facts : joinedFacts Tryz.prog 3 Tryz.f3 Rows.careTextsSpec Rows.careTextsRow = true :=
  facts_of (by as_aux_lemma => kernel_rfl) laidOut pf_maps (by as_aux_lemma => kernel_rfl) (by as_aux_lemma => kernel_rfl) (by as_aux_lemma => kernel_rfl) pf_stops (by as_aux_lemma => kernel_rfl) pf_knobs (by as_aux_lemma => kernel_rfl) (by as_aux_lemma => kernel_rfl) (by as_aux_lemma => kernel_rfl) (by as_aux_lemma => kernel_rfl) (by as_aux_lemma => kernel_rfl) (by as_aux_lemma => kernel_rfl) (by as_aux_lemma => kernel_rfl) (by as_aux_lemma => kernel_rfl) (by as_aux_lemma => kernel_rfl) (by as_aux_lemma => kernel_rfl) pf_heard pf_enter (by as_aux_lemma => kernel_rfl) (by as_aux_lemma => kernel_rfl) (by as_aux_lemma => kernel_rfl) (by as_aux_lemma => kernel_rfl) (by as_aux_lemma => kernel_rfl) (by as_aux_lemma => kernel_rfl)

set_option maxHeartbeats 8000000 in
set_option maxRecDepth 100000 in
theorem careTexts_holds : Rows.CareTextsSaid :=
  OpenClaim.holds_of_wide 3 Tryz.f3 rfl rfl rfl rfl rfl rfl rfl ⟨rfl, rfl, rfl, rfl, rfl⟩ rfl rfl rfl rfl rfl (by as_aux_lemma => kernel_rfl) Tryz.func3 careTexts_facts
    (of_decide_eq_true (by as_aux_lemma => kernel_rfl)) (by unfold Func.isWrapper; first | (rw [if_pos (by decide +kernel)]; kernel_rfl) | (rw [if_neg (by decide +kernel)]; exact ⟨rfl, rfl⟩))
    (fun os started H enc _ => careTexts_lifted os started H enc)

set_option maxHeartbeats 8000000 in
set_option maxRecDepth 100000 in
theorem careTexts_card : Rows.CareTextsCardSaid :=
  Claim7.holds_tied_plain_at .later [] [.data, .data, .data, .data, .sentinel, .sentinel, .funcsDeep, .pinned] true (true, "f130f76d7a4a0ae103bc763a4345af078c15e88c53910533a47303efde295308") true
    careTexts_holds (fun _ h => by cases h) (by as_aux_lemma => kernel_rfl) (fun _ h => by cases h) careTexts_row_tie rfl ⟨rfl, rfl⟩ (by as_aux_lemma => kernel_rfl) rfl
    (fun f fn hf hfn => by
      obtain rfl : f = 3 := Option.some.inj ((show Tryz.prog.funcNamed "guideway/guidewaylaw09.CareTexts" = some 3 by as_aux_lemma => kernel_rfl).symm.trans hf) |>.symm
      obtain rfl : fn = Tryz.f3 := (Option.some.inj (Tryz.func3.symm.trans hfn)).symm
      exact ⟨by as_aux_lemma => kernel_rfl, fun j t ht => by
        rw [Tryz.params3] at ht
        have h3 : t = 23 ∨ t = 25 ∨ t = 9 := by
          rcases j with _ | _ | _ | j
          · left; simpa using ht.symm
          · right; left; simpa using ht.symm
          · right; right; simpa using ht.symm
          · simp at ht
        rcases h3 with rfl | rfl | rfl
        · exact (show Tryz.prog.wantsStandIn 23 = false by as_aux_lemma => kernel_rfl)
        · exact (show Tryz.prog.wantsStandIn 25 = false by as_aux_lemma => kernel_rfl)
        · exact (show Tryz.prog.wantsStandIn 9 = false by as_aux_lemma => kernel_rfl)⟩)
    (by as_aux_lemma => kernel_rfl)
#print axioms careTexts_card
end Go.Proofs.YtmcjnfghlpnghaaGreatDoor
