/- For every input the law TopTimetableLate answers true, and its arguments read behind the call as ahead of it: under no condition beyond the row's own cells. -/
import Derived.Test.YtnnnpijepdjanaaGreatL16
import Derived.Test.YtnnnpijepdjanaaGreatM5
namespace Go.Proofs.YtnnnpijepdjanaaGreat
open Go.ChangeShapes Go.WideShapes Go.ChangeAt Go.RowKit Go Go.Joins

set_option maxRecDepth 100000 in
theorem topTimetableLate_lifted (os : Os) (started : os.Started) (H : Type) (enc : TypeId × Value → H) :
    ReturnsInHanded {} Tryz.checked os 3 .any (Rows.topTimetableLateSpec.pre6 enc Tryz.prog Tryz.f3 Rows.topTimetableLateRow.domain false) (Rows.topTimetableLateSpec.post enc Tryz.prog Tryz.f3 false true false false) := by
  refine returnsInHanded_of_change (C := Tryz.checked) own started (by kernel_rfl) Tryz.func3
    (ChangeSpec.witness6 (enc := enc) (C := Tryz.checked) false ⟨#[], #[.agg #[.slice none 0 0, .slice none 0 0], .slice none 0 0, .slice none 0 0], []⟩ 8 (by kernel_rfl) (by kernel_rfl) (by kernel_rfl) (by kernel_rfl)) ?_
  intro W base args ds gs before hval0 hW _ _
  have hval : ∀ (j : Nat) t v, Tryz.f3.params[j]? = some t → args[j]? = some v → Value.okWide Tryz.prog W .any base t v := hval0
  have hW' := hW
  obtain ⟨p, q, hA0, hV, rfl, hfz, hnd⟩ := hW
  have hA : DataW.TrodAll enc Tryz.prog W 0 (fun _ => true) true Tryz.f3.params.toList args.toList ds p := hA0
  rw [Tryz.params3] at hA hval
  obtain ⟨v0, v1, v2, d0, d1, d2, p0, p1, p2, rfl, rfl, rfl, h0, h1, h2⟩ := trodAll_three hA
  obtain ⟨rfl, rfl⟩ := trodVars_none hV
  obtain ⟨Ae, ne, ce, Aa, na, ca, evs, acts, rfl, hc, hl, hla, hre, hra⟩ := open_net (hval 0 25 v0 rfl rfl) h0
  obtain ⟨a1, len1, cap1, rfl⟩ := okWide_slice Tryz.underlying26 (hval 1 26 v1 rfl rfl)
  obtain ⟨fuel1, hf1⟩ := h1
  obtain ⟨At, nt, ct, times, hcs1, hlt, _, hrt⟩ := open_ints hf1
  obtain ⟨a2, len2, cap2, rfl⟩ := okWide_slice Tryz.underlying27 (hval 2 27 v2 rfl rfl)
  obtain ⟨fuel2, hf2⟩ := h2
  obtain ⟨Ad, nd, cd, ds, hcs2, hld, _, hrd⟩ := open_delays hf2
  obtain ⟨rfl, rfl, rfl⟩ : a1 = At ∧ len1 = nt ∧ cap1 = ct := by simpa [Value.cells] using hcs1
  obtain ⟨rfl, rfl, rfl⟩ : a2 = Ad ∧ len2 = nd ∧ cap2 = cd := by simpa [Value.cells] using hcs2
  refine (Late_all W Ae Aa ne ce na ca evs acts a1 len1 cap1 times a2 len2 cap2 ds hl hla hre hra hc hlt hrt hld hrd).mono fun e W' ⟨he, hb⟩ => ⟨_, he, ?_⟩
  exact law_end rfl hW' rfl (by kernel_rfl) (by rw [Tryz.params3]; intro t ht; simp at ht; rcases ht with rfl | rfl | rfl <;> exact ⟨by kernel_rfl, of_decide_eq_true (by kernel_rfl)⟩) hb

set_option maxHeartbeats 8000000 in
theorem topTimetableLate_facts : joinedFacts Tryz.prog 3 Tryz.f3 Rows.topTimetableLateSpec Rows.topTimetableLateRow = true :=
  facts_of (by as_aux_lemma => kernel_rfl) laidOut pf_maps (by as_aux_lemma => kernel_rfl) (by as_aux_lemma => kernel_rfl) (by as_aux_lemma => kernel_rfl) pf_stops (by as_aux_lemma => kernel_rfl) pf_knobs (by as_aux_lemma => kernel_rfl) (by as_aux_lemma => kernel_rfl) (by as_aux_lemma => kernel_rfl) (by as_aux_lemma => kernel_rfl) (by as_aux_lemma => kernel_rfl) (by as_aux_lemma => kernel_rfl) (by as_aux_lemma => kernel_rfl) (by as_aux_lemma => kernel_rfl) (by as_aux_lemma => kernel_rfl) (by as_aux_lemma => kernel_rfl) pf_heard pf_enter (by as_aux_lemma => kernel_rfl) (by as_aux_lemma => kernel_rfl) (by as_aux_lemma => kernel_rfl) (by as_aux_lemma => kernel_rfl) (by as_aux_lemma => kernel_rfl) (by as_aux_lemma => kernel_rfl)

set_option maxHeartbeats 8000000 in
theorem topTimetableLate_holds : Rows.TopTimetableLateSaid :=
  OpenClaim.holds_of_wide 3 Tryz.f3 rfl rfl rfl rfl rfl rfl rfl ⟨rfl, rfl, rfl, rfl, rfl⟩ rfl rfl rfl rfl rfl (by as_aux_lemma => kernel_rfl) Tryz.func3 topTimetableLate_facts
    (of_decide_eq_true (by as_aux_lemma => kernel_rfl)) (by unfold Func.isWrapper; first | (rw [if_pos (by decide +kernel)]; kernel_rfl) | (rw [if_neg (by decide +kernel)]; exact ⟨rfl, rfl⟩))
    (fun os started H enc _ => topTimetableLate_lifted os started H enc)
#print axioms topTimetableLate_holds
end Go.Proofs.YtnnnpijepdjanaaGreat
