/- slices.Repeat of one number. -/
import Derived.Test.YtmcjnfghlpnghaaDoorC1
import Derived.Test.YtmcjnfghlpnghaaDoorShelf
import Derived.Laws.CopyOwn
import Derived.Deep.OwnRows
namespace Go.Proofs.YtmcjnfghlpnghaaDoor
open Go.RowKit

def repL (a : Int) (k V : Nat) : List Value := List.replicate k (.int .i64 a) ++ List.replicate (V - k) (.int .i64 0)
theorem repL_len (a : Int) (k V : Nat) (h : k ≤ V) : (repL a k V).length = V := by simp [repL]; omega
theorem repL_get (a : Int) (k V j : Nat) (h : j < k) : (repL a k V)[j]? = some (.int .i64 a) := by
  rw [repL, List.getElem?_append_left (by simpa using h)]
  simp [h]
theorem repL_full (a : Int) (V : Nat) : repL a V V = List.replicate V (.int .i64 a) := by simp [repL]
theorem repL_splice (a : Int) (k m V : Nat) (h : k + m ≤ V) : splice (repL a k V) k (List.replicate m (.int .i64 a)) = repL a (k + m) V := by
  unfold splice repL
  rw [List.take_append_of_le_length (by simp), List.take_of_length_le (by simp), List.drop_append, List.drop_of_length_le (by simp)]
  simp only [List.length_replicate, List.nil_append, List.drop_replicate]
  rw [← List.append_assoc, List.replicate_append_replicate]
  congr 2
  omega

theorem stp_copy {P : Program} {ops : Array Oper} {Q : Exit → Act → World → Prop} {rest : List Oper} {a : Act} {w : World} {d : Option Tmp} {x : Array Operand} {y : Array TypeId} {ty : TypeId} {pos : String} {af : Array Edge}
    (h : Stp (wpList P ops Q (⟨d, .call { callee := .builtin .copy, args := x, argTypes := y }, ty, pos, af, none⟩ :: rest) a w)) :
    wpList P ops Q (⟨d, .call { callee := .builtin .copy, args := x, argTypes := y }, ty, pos, af, none⟩ :: rest) a w := h

def RepeatPost (w : World) (a : Int) (V : Nat) (e : Ending) (w' : World) : Prop :=
  ∃ g, e = .returned (.slice (some ⟨g, 0, none⟩) V V) ∧ w'.heap[g]? = some (.cells (List.replicate V (Value.int .i64 a)).toArray 3 (0, 0)) ∧ w.heap.size ≤ g ∧ Below w.heap.size w w'

def RepRel (w : World) (a : Int) (V g : Nat) (i : Value) (wr : World) : Prop :=
  ∃ k : Nat, 1 ≤ k ∧ k ≤ V ∧ i = .int .i64 k ∧ wr.heap[g]? = some (.cells (repL a k V).toArray 3 (0, 0)) ∧ Below w.heap.size w wr

set_option maxHeartbeats 8000000 in
set_option maxRecDepth 100000 in
theorem Repeat_any (w : World) (b V : Nat) (a : Int) (h1 : 1 ≤ V) (hV : V ≤ 1000000) (hc : w.cell? ⟨b, 0, none⟩ = some (.int .i64 a)) :
    Calls Tryd.prog 182 #[.slice (some ⟨b, 0, none⟩) 1 1, .int .i64 V] w (RepeatPost w a V) := by
  have hmk := run_make_row' (P := Tryd.prog) 39 3 (.int .i64 0) 8 Tryd.underlying39 info3 rfl .i64 .i64 V (by omega) (by omega)
  have i1 : ¬ (V : Int) < 0 := by omega
  have M := Tryd.bits_Mul 1 V (by decide) (by omega)
  rw [show (1 * V / 18446744073709551616 : Nat) = 0 by omega, show (1 * V % 18446744073709551616 : Nat) = V by omega] at M
  go_enter Tryd.func182, Tryd.ntmps182
  go_upto_region 6 with (go_at_call 191; refine (M _).mono ?_; rintro e w' ⟨rfl, hw⟩; replace hw := hw.symm; subst hw)
  go_upto_region 7 with (fail)
  have hg : (w.alloc (.cells (madeCells #[.int .i64 0] V) 3)).heap[w.heap.size]? = some (.cells (repL a 0 V).toArray 3 (0, 0)) := by
    rw [heapq_alloc, if_pos rfl]
    congr 2
    apply Array.ext'
    rw [toList_madeCells_one]
    simp [repL]
  have hb : Below w.heap.size w (w.alloc (.cells (madeCells #[.int .i64 0] V) 3)) := (Below.refl _ _).alloc (Nat.le_refl _) _
  have hc' := cell_alloc_old (.cells (madeCells #[.int .i64 0] V) 3) hc
  clear hmk M hc
  generalize w.alloc (.cells (madeCells #[.int .i64 0] V) 3) = w0 at *
  have hBg : w.heap.size ≤ w.heap.size := Nat.le_refl _
  generalize hgg : w.heap.size = g at *
  have HGG := Lib.hid hgg
  clear hgg
  have hs3 : (Tryd.prog.info? 3).map (·.size) = some 1 := by kernel_rfl
  go_wp2_with (with_reducible refine stp_copy ?_)
  unfold Stp
  refine wpList_copy_splice rfl (.tmp 31) (.tmp 32) 39 39 rfl 3 Tryd.underlying39 hs3 (some ⟨g, 0, none⟩) (some ⟨b, 0, none⟩) V V 1 1 ?d1 ?d2 g 0 (repL a 0 V) 3 hg [.int .i64 a] ?p1 ?p2 ?p3 ?p4 g w hb hBg ?_
  case d1 => rfl
  case d2 => rfl
  case p1 => exact (Nat.min_eq_left h1).symm
  case p2 =>
    intro _
    refine ⟨rfl, ⟨b, 0, none⟩, rfl, news1 hc'⟩
  case p3 => simp [repL_len]; omega
  case p4 => simp [Value.oneCell']
  intro w1 hg1 hb1
  replace hg1 := hg1.out
  rw [show splice (repL a 0 V) 0 [.int .i64 a] = repL a 1 V by simpa using repL_splice a 0 1 V (by omega)] at hg1
  clear hg hb hc'
  go_wp2
  go_loopw [8] (fun i wr => RepRel w a V g i wr) (fun i _ => V - (intOf i).toNat)
  case atStart => exact ⟨1, Nat.le_refl _, h1, rfl, hg1, HGG.out ▸ hb1⟩
  case round =>
    obtain ⟨k, hk1, hk2, rfl, hgr, hbr⟩ := hrel
    clear hg1 hb1
    have hk0 : (0 : Int) ≤ (k : Int) := by omega
    have hk3 : (k : Int) ≤ (V : Int) := by omega
    by_cases hlt : k < V
    · go_wp2
      refine wp_region_cut [0] [1, 2, 3, 4, 5, 6] 7 [8, 9] (fun w' => ∃ x : Xt wr, w' = x.1) (by kernel_rfl) (by kernel_rfl) ⟨⟨wr.drew, (Below.refl _ _).drew⟩, rfl⟩ ?_
      simp only [opsAt_nil, opsAt_cons, consOpt_some, List.getElem?_toArray, List.getElem?_cons_zero, List.getElem?_cons_succ]
      go_big_quiet_step (fail)
      refine wpQuiet_nil ?_
      show wpQuiet _ _ _ _ _ _
      repeat (go_big_quiet_step (fail))
      refine wpQuiet_nil ?_
      intro w2 hx
      have hb2 := Xt.below hx
      clear hx
      have hgl := lt_of_block hgr
      have hg2 : w2.heap[g]? = some (.cells (repL a k V).toArray 3 (0, 0)) := (hb2.block g hgl).trans hgr
      have hb3 : Below w.heap.size w w2 := hbr.trans (hb2.mono hbr.size)
      have hgw : w.heap.size ≤ g := by rw [HGG.out]; exact Nat.le_refl _
      refine wpList_copy_splice rfl (.tmp 41) (.tmp 44) 39 39 rfl 3 Tryd.underlying39 hs3 (some ⟨g, k, none⟩) (some ⟨g, 0, none⟩) (V - k) (V - k) k V rfl rfl g k (repL a k V) 3 hg2 (List.replicate (min k (V - k)) (.int .i64 a)) ?p1 ?p2 ?p3 ?p4 w.heap.size w hb3 hgw ?_
      case p1 => simp
      case p2 =>
        intro _
        refine ⟨rfl, ⟨g, 0, none⟩, rfl, fun j v hj => ?_⟩
        have hjl : j < min k (V - k) := by
          have := (List.getElem?_eq_some_iff.1 hj).1
          simpa using this
        have hv : v = .int .i64 a := List.eq_of_mem_replicate (List.mem_of_getElem? hj)
        subst hv
        have hadd : (⟨g, 0, none⟩ : Addr).add j = ⟨g, j, none⟩ := by unfold Addr.add; split <;> simp_all
        rw [hadd, cell_of_row w2 g j _ _ _ hg2]
        simpa using repL_get a k V j (by omega)
      case p3 => rw [repL_len a k V (by omega)]; simp; omega
      case p4 => exact fun v hv => by rw [List.eq_of_mem_replicate hv]; rfl
      intro w3 hg3 hb4
      replace hg3 := hg3.out
      rw [repL_splice a k _ V (by omega)] at hg3
      simp only [List.length_replicate]
      have hmin : 1 ≤ min k (V - k) ∧ k + min k (V - k) ≤ V := by omega
      generalize min k (V - k) = m at *
      clear hg2 hb3 hgr hbr hb2
      go_wp2
      refine onlyNormal_mk ?_
      go_roundw
      case rel =>
        exact ⟨_, _, _, _, _, _, _, _, _, _, _, _, _, _, ⟨k + m, by omega, by omega, rfl, hg3, hb4⟩, rfl⟩
      case measure => simp [intOf]; omega
    · go_wp2
      go_ret
      have hkV : k = V := by omega
      subst hkV
      exact ⟨g, rfl, by rw [← repL_full]; exact hgr, by rw [HGG.out]; exact Nat.le_refl _, hbr⟩
end Go.Proofs.YtmcjnfghlpnghaaDoor
