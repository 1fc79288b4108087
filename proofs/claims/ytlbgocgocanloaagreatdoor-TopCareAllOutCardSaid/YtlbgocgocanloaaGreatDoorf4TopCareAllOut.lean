/- For every input the law TopCareAllOut answers true, and its arguments read behind the call as ahead of it: under no condition beyond the row's own cells (the listed variables are tied by the card). -/
import Derived.Test.YtlbgocgocanloaaGreatDoorf4G6
import Derived.Test.YtlbgocgocanloaaGreatDoorf4FB
import Derived.Test.YtlbgocgocanloaaGreatDoorTie
import Derived.Test.YtlbgocgocanloaaGreatDoorCards
import Derived.SevenTiedAt
namespace Go.Proofs.YtlbgocgocanloaaGreatDoor
open Go.ChangeShapes Go.WideShapes Go.ChangeAt Go.RowKit Go Go.Joins
set_option maxRecDepth 100000 in
theorem topCareAllOut_lifted (os : Os) (started : os.Started) (H : Type) (enc : TypeId × Value → H) :
    ReturnsInHanded {} Tryz.checked os 4 .any (fun w args => (Rows.topCareAllOutSpec.pre enc Tryz.prog Tryz.f4 [] false w args ∧ laidMetH Tryz.prog Rows.topCareAllOutRow.laid w) ∧ sizedMet enc Tryz.prog Tryz.f4 (OpenSpec.ofChange Rows.topCareAllOutSpec) false w args)
      (Rows.topCareAllOutSpec.post enc Tryz.prog Tryz.f4 false true false false) := by
  refine handed_and_shaped (C := Tryz.checked) (X := fun w _ => laidMetH Tryz.prog Rows.topCareAllOutRow.laid w) (fun _ _ _ hh h => h.of_heap hh) own started (by kernel_rfl) Tryz.func4
    (ChangeSpec.witness_shaped (enc := enc) (C := Tryz.checked) (os := os) (X := fun w _ => laidMetH Tryz.prog Rows.topCareAllOutRow.laid w) false (worldA os) #[.agg #[.int .i64 0, .int .i64 0, .int .i64 0], .slice none 0 0, .agg #[.slice none 0 0, .int .i64 0, .int .i64 0]] 8 (World.layVars_os _ _ _) (World.shaped_of_ZipB (by kernel_rfl) (by kernel_rfl)) (by kernel_rfl) (by kernel_rfl) (by kernel_rfl) (worldA_met os _)) ?_
  intro W base args ds gs before hval0 hW _ _ hL hsh _
  have hval : ∀ (j : Nat) t v, Tryz.f4.params[j]? = some t → args[j]? = some v → Value.okWide Tryz.prog W .any base t v := hval0
  have hW' := hW
  obtain ⟨p, q, hA0, hV, rfl, hfz, hnd⟩ := hW
  have hA : DataW.TrodAll enc Tryz.prog W 0 (fun _ => true) true Tryz.f4.params.toList args.toList ds p := hA0
  rw [Tryz.params4] at hA hval
  obtain ⟨v0, v1, v2, d0, d1, d2, p0, p1, p2, rfl, rfl, rfl, h0, h1, h2⟩ := trodAll_three hA
  obtain ⟨rfl, rfl⟩ := trodVars_none hV
  obtain ⟨c0, c1, c2, y0, y1, y2, m, rfl, rfl, rfl, hy0, hy1, hy2⟩ := open_agg3 Tryz.underlying40 (by kernel_rfl) (by kernel_rfl) (hval 0 40 v0 rfl rfl) h0
  obtain ⟨D, e0, rfl, _⟩ := DataW.trod_int Tryz.underlying3 hy0
  obtain ⟨T, e1, rfl, _⟩ := DataW.trod_int Tryz.underlying3 hy1
  obtain ⟨S, e2, rfl, _⟩ := DataW.trod_int Tryz.underlying3 hy2
  simp at e0 e1 e2
  subst e0 e1 e2
  obtain ⟨a2, len2, cap2, rfl⟩ := okWide_slice Tryz.underlying43 (hval 1 43 v1 rfl rfl)
  obtain ⟨fuel2, hf2⟩ := h1
  obtain ⟨A1, n1, k1, l, hcs2, hl, hn1, hr1, hI⟩ := open_evs hf2
  simp only [Value.cells, List.cons.injEq, Value.slice.injEq, and_true] at hcs2
  obtain ⟨rfl, rfl, rfl⟩ := hcs2
  obtain ⟨g0, g1, g2, z0, z1, z2, m2, rfl, rfl, rfl, hz0, hz1, hz2⟩ := open_agg3 Tryz.underlying46 (by kernel_rfl) (by kernel_rfl) (hval 2 46 v2 rfl rfl) h2
  obtain ⟨A2, n2, k2, pp, hcs3, hp, hn2, hr2⟩ := open_ints hz0
  obtain ⟨b, f1, rfl, _⟩ := DataW.trod_int Tryz.underlying3 hz1
  obtain ⟨dd, f2, rfl, _⟩ := DataW.trod_int Tryz.underlying3 hz2
  simp at hcs3 f1 f2
  subst hcs3 f1 f2
  have ht := txtA hL hsh
  refine (AllOut_all D T S b dd _ _ _ _ _ _ l pp W ht hl hp hr1 hr2 hI (by unfold maxLen at hn1; omega) (by unfold maxLen at hn2; omega)).mono fun e W' ⟨he, hb⟩ => ⟨_, he, ?_⟩
  exact law_end rfl hW' rfl (by kernel_rfl) (by rw [Tryz.params4]; intro t ht; simp at ht; rcases ht with rfl | rfl | rfl <;> exact ⟨by kernel_rfl, of_decide_eq_true (by kernel_rfl)⟩) hb
set_option maxHeartbeats 8000000 in
set_option maxRecDepth 100000 in
theorem topCareAllOut_facts : joinedFacts Tryz.prog 4 Tryz.f4 Rows.topCareAllOutSpec Rows.topCareAllOutRow = true :=
  facts_of (by as_aux_lemma => kernel_rfl) laidOut pf_maps (by as_aux_lemma => kernel_rfl) (by as_aux_lemma => kernel_rfl) (by as_aux_lemma => kernel_rfl) pf_stops (by as_aux_lemma => kernel_rfl) pf_knobs (by as_aux_lemma => kernel_rfl) (by as_aux_lemma => kernel_rfl) (by as_aux_lemma => kernel_rfl) (by as_aux_lemma => kernel_rfl) (by as_aux_lemma => kernel_rfl) (by as_aux_lemma => kernel_rfl) (by as_aux_lemma => kernel_rfl) (by as_aux_lemma => kernel_rfl) (by as_aux_lemma => kernel_rfl) (by as_aux_lemma => kernel_rfl) pf_heard pf_enter (by as_aux_lemma => kernel_rfl) (by as_aux_lemma => kernel_rfl) (by as_aux_lemma => kernel_rfl) (by as_aux_lemma => kernel_rfl) (by as_aux_lemma => kernel_rfl) (by as_aux_lemma => kernel_rfl)
set_option maxHeartbeats 8000000 in
set_option maxRecDepth 100000 in
theorem topCareAllOut_holds : Rows.TopCareAllOutSaid :=
  OpenClaim.holds_of_wide 4 Tryz.f4 rfl rfl rfl rfl rfl rfl rfl ⟨rfl, rfl, rfl, rfl, rfl⟩ rfl rfl rfl rfl rfl (by as_aux_lemma => kernel_rfl) Tryz.func4 topCareAllOut_facts
    (of_decide_eq_true (by as_aux_lemma => kernel_rfl)) (by unfold Func.isWrapper; first | (rw [if_pos (by decide +kernel)]; kernel_rfl) | (rw [if_neg (by decide +kernel)]; exact ⟨rfl, rfl⟩))
    (fun os started H enc _ => topCareAllOut_lifted os started H enc)
set_option maxHeartbeats 8000000 in
set_option maxRecDepth 100000 in
theorem topCareAllOut_card : Rows.TopCareAllOutCardSaid :=
  Claim7.holds_tied_plain_at .later [] [.data, .data, .data, .sentinel, .sentinel, .funcsDeep] true (true, "f130f76d7a4a0ae103bc763a4345af078c15e88c53910533a47303efde295308") true
    topCareAllOut_holds (fun _ h => by cases h) (by as_aux_lemma => kernel_rfl) (fun _ h => by cases h) topCareAllOut_row_tie rfl ⟨rfl, rfl⟩ (by as_aux_lemma => kernel_rfl) rfl
    (fun f fn hf hfn => by
      obtain rfl : f = 4 := Option.some.inj ((show Tryz.prog.funcNamed "guideway/guidewaytop.TopCareAllOut" = some 4 by as_aux_lemma => kernel_rfl).symm.trans hf) |>.symm
      obtain rfl : fn = Tryz.f4 := (Option.some.inj (Tryz.func4.symm.trans hfn)).symm
      exact ⟨by as_aux_lemma => kernel_rfl, fun j t ht => by
        rw [Tryz.params4] at ht
        have h3 : t = 40 ∨ t = 43 ∨ t = 46 := by
          rcases j with _ | _ | _ | j
          · left; simpa using ht.symm
          · right; left; simpa using ht.symm
          · right; right; simpa using ht.symm
          · simp at ht
        rcases h3 with rfl | rfl | rfl
        · exact (show Tryz.prog.wantsStandIn 40 = false by as_aux_lemma => kernel_rfl)
        · exact (show Tryz.prog.wantsStandIn 43 = false by as_aux_lemma => kernel_rfl)
        · exact (show Tryz.prog.wantsStandIn 46 = false by as_aux_lemma => kernel_rfl)⟩)
    (by as_aux_lemma => kernel_rfl)
#print axioms topCareAllOut_card
end Go.Proofs.YtlbgocgocanloaaGreatDoor
