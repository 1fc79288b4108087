/- What a text of an event tells: the reference's walk. -/
import Derived.Test.YtmcjnfghlpnghaaGreatDoorT8
namespace Go.Proofs.YtmcjnfghlpnghaaGreatDoor
open Go.RowKit

def useN (k : Nat) : Nat := if useB k then 1 else 0
theorem evOf_len {k : Nat} {r : List (List UInt8)} (h : r.length ≠ useN k) : evOf k r = none := by
  unfold useN at h
  match r, h with
  | [], h =>
    cases hu : useB k
    · rw [hu] at h; simp at h
    · simp [evOf, hu]
  | [x], h =>
    cases hu : useB k
    · simp [evOf, hu]
    · rw [hu] at h; simp at h
  | _ :: _ :: _, _ => rfl
theorem parE_all {l w : List UInt8} {r : List (List UInt8)} (hs : spl l = w :: r) (h : ∀ j, j < 8 → ¬ (wordL j = w ∧ r.length + 1 = 1 + useN j)) : parE l = none := by
  unfold parE
  rw [hs]
  simp only
  cases hf : findK w with
  | none => rfl
  | some k =>
    obtain ⟨h1, h2⟩ := findK_some hf
    have := h k h1
    exact evOf_len fun e => this ⟨h2, by omega⟩
theorem parE_at {l w : List UInt8} {r : List (List UInt8)} (hs : spl l = w :: r) {k : Nat} (hk : k < 8) (hw : wordL k = w) : parE l = evOf k r := by
  unfold parE
  rw [hs]
  simp only
  rw [← hw, findK_word k hk]
theorem refCut_any (s : ByteArray) (hs : s.size ≤ 1000000) (w : World) : Calls Tryz.prog 50 #[.string s, .int .u8 32] w (TextsPost w (splB s) (splB s).length) := by
  rw [← cutF_spl]
  exact Cut_any s 32 hs w
def RefPRel (w1 : World) (n : Nat) (w0 : List UInt8) (u : Value) (wr : World) : Prop := ∃ k : Nat, k ≤ 8 ∧ u = .int .i64 k ∧ (∀ j, j < k → ¬ (wordL j = w0 ∧ n = 1 + useN j)) ∧ Below w1.heap.size w1 wr
theorem beq_ba (a b : List UInt8) : ((ba a).toList == (ba b).toList) = decide (a = b) := by
  rw [Lib.toList_data, Lib.toList_data, ba_data, ba_data]
  by_cases h : a = b
  · rw [decide_eq_true h, h]; exact beq_self_eq_true _
  · rw [decide_eq_false h]; exact beq_eq_false_iff_ne.2 h

set_option maxRecDepth 100000 in
set_option maxHeartbeats 8000000 in
theorem refParseEvent_any (s : ByteArray) (hs : s.size ≤ 1000000) (w : World) : Calls Tryz.prog 11 #[.string s] w (EvTPost w (parE s.data.toList)) := by
  have CC := fun W => refCut_any s hs W
  obtain ⟨w0, r, hsp⟩ : ∃ w0 r, spl s.data.toList = w0 :: r := by
    cases h : spl s.data.toList with
    | nil => exact absurd h (spl_ne _)
    | cons a b => exact ⟨a, b, rfl⟩
  have hall := fun h => parE_all hsp h
  have hat := fun k hk hw => parE_at hsp (k := k) hk hw
  have hpart := splB_part s
  have hspB : splB s = ba w0 :: r.map ba := by rw [splB, hsp]; rfl
  have hlenB := splB_len s
  rw [hspB] at CC hpart hlenB
  simp only [List.length_cons, List.length_map] at CC hlenB
  generalize parE s.data.toList = R at *
  have HALL := Lib.hid hall
  have HAT := Lib.hid hat
  have HPART := Lib.hid hpart
  obtain ⟨n, hn⟩ : ∃ n, r.length + 1 = n := ⟨_, rfl⟩
  have HN := Lib.hid hn
  rw [hn] at CC hlenB
  have hnb : n ≤ 1000001 := by omega
  have hn1 : 1 ≤ n := by omega
  have hb0 : Below w.heap.size w (w.alloc (.cells #[.int .i64 0, .int .i64 0, .int .i64 0] 23)) := (Below.refl _ _).alloc (Nat.le_refl _) _
  have hr0 : (w.alloc (.cells #[.int .i64 0, .int .i64 0, .int .i64 0] 23)).heap[w.heap.size]? = some (.cells #[.int .i64 0, .int .i64 0, .int .i64 0] 23 (0, 0)) := by rw [heapq_alloc, if_pos rfl]
  have hz0 : w.heap.size < (w.alloc (.cells #[.int .i64 0, .int .i64 0, .int .i64 0] 23)).heap.size := by simp
  clear hall hat hpart hspB hsp hn hlenB
  go_enter Tryz.func11, Tryz.ntmps11
  go_upto_region 1 with (fail)
  generalize (w.alloc (.cells #[.int .i64 0, .int .i64 0, .int .i64 0] 23)) = wa at *
  generalize hx : w.heap.size = x at *
  have HX := Lib.hid hx
  clear hx
  replace CC := CC wa
  go_upto_region 2 with (go_at_call 50; refine CC.mono ?_; rintro e w1 ⟨A, c, rfl, hnc, hrd, hb1⟩)
  have hr1 := (hb1.block x hz0).trans hr0
  have hx1 : x < w1.heap.size := Nat.lt_of_lt_of_le hz0 hb1.size
  have HB1 : Hid (Below x w w1) := hb0.trans (hb1.mono (by omega))
  have HRD := Lib.hid hrd
  clear CC hb0 hr0 hz0 hb1 hrd
  go_wp2_with fail
  go_loopw [5] (fun u wr => RefPRel w1 n w0 u wr) (fun u _ => 8 - (intOf u).toNat)
  case atStart => exact ⟨0, Nat.zero_le _, rfl, fun j h => absurd h (by omega), Below.refl _ _⟩
  case round =>
    obtain ⟨k, hk8, rfl, hno, hb⟩ := hrel
    have HBR := Lib.hid hb
    have hszr := hb.size
    have HNO := Lib.hid hno
    clear hno
    by_cases hlt : k < 8
    · have hki : (k : Int) < 8 := by omega
      obtain ⟨b, off, rfl, hbB, hc0⟩ := (HRD.out.below (hb.mono (Nat.le_refl _))).at_ (k := 0) (u := .string (ba w0)) rfl
      have hrr := (hb.block x hx1).trans hr1
      rw [Nat.add_zero] at hc0
      have WD := word_any k hlt
      have US := uses_any k
      have hU : useN k = (usesS k).size := (usesS_size k).symm
      have hbeq := beq_ba w0 (wordL k)
      have HWL := Lib.hid (rfl : wordL k = wordL k)
      clear hb
      generalize hw0 : ba w0 = bw0 at *
      generalize hnm : ba (wordL k) = nm at *
      have x0 := fun y : Xt wr => y.cell hc0
      have hcase : (k = 1 ∧ usesS k = ⟨#[112]⟩ ∧ useB k = true) ∨ (k ≠ 1 ∧ usesS k = ⟨#[100]⟩ ∧ useB k = true) ∨ (k ≠ 1 ∧ usesS k = ⟨#[]⟩ ∧ useB k = false) := by
        by_cases h1 : k = 1
        · left; subst h1; exact ⟨rfl, rfl, rfl⟩
        · by_cases h2 : 2 ≤ k ∧ k ≤ 5
          · right; left
            exact ⟨h1, by unfold usesS; rw [if_neg h1, if_pos h2], by unfold useB; simp; omega⟩
          · right; right
            exact ⟨h1, by unfold usesS; rw [if_neg h1, if_neg h2], by unfold useB; rw [Bool.eq_false_iff]; simp; omega⟩
      rcases hcase with ⟨h1, hS, hUB⟩ | ⟨h1, hS, hUB⟩ | ⟨h1, hS, hUB⟩
      · rw [hS] at US
        have H1 := Lib.hid h1
        clear h1
        have HUN : Hid (useN k = 1) := by rw [Hid, useN, hUB]; rfl
        clear hU hS
        by_cases hw : w0 = wordL k
        · have hq : (bw0.toList == nm.toList) = true := hbeq.trans (decide_eq_true hw)
          by_cases hl : n = 2
          · have e2 : ((n : Int) != 2) = false := by rw [hl]; rfl
            have e3 : ((n : Int) == 2) = true := by rw [hl]; rfl
            obtain ⟨q, hq1⟩ : ∃ q, r = [q] := by
              match r, HN.out with
              | [q], _ => exact ⟨q, rfl⟩
              | [], h => simp at h; omega
              | _ :: _ :: _, h => simp at h; omega
            subst hq1
            have hP := HAT.out k hlt hw.symm
            simp only [evOf] at hP
            rw [if_pos hUB] at hP
            obtain ⟨b1, off1, hA, _, hc1⟩ := (HRD.out.below (HBR.out.mono (Nat.le_refl _))).at_ (k := 1) (u := .string (ba q)) rfl
            simp only [Option.some.injEq, Addr.mk.injEq, and_true] at hA
            obtain ⟨rfl, rfl⟩ := hA
            have hqs : (ba q).size ≤ 1000000 := by
              have := HPART.out (ba q) (by simp)
              omega
            have NUM := Number_any (ba q) 10 (by omega) hqs
            rw [ba_data] at NUM
            have e3' : ((n : Int) == 1) = false := beq_eq_false_iff_ne.2 (by omega)
            have hn2 : (1 : Int) < (n : Int) := by omega
            clear hbeq hw HAT
            go_upto_region 5 with (fail)
            refine wp_region_xt (by kernel_rfl) (by kernel_rfl) ?_
            repeat (go_big_quiet_step (first | (go_at_call 51; exact Xt.calls_same (WD _)) | (go_at_call 52; exact Xt.calls_same (US _))))
            refine wpQuiet_nil ?_
            intro w2 hx2
            have hb2 := Xt.below hx2
            clear hx2 x0
            have HB2 : Hid (Below x w w2) := (HB1.out.trans (HBR.out.mono (by omega))).trans (hb2.mono (by omega))
            have hr2 := (hb2.block x (by omega)).trans hrr
            have hx2 : x < w2.heap.size := by have := hb2.size; omega
            have hc1' := kept hb2 hc1
            generalize ba q = bq at *
            go_upto_region 7 with (fail)
            have hb4 : Below w2.heap.size w2 (w2.alloc (.cells #[.int .i64 (k : Int), .int .i64 0, .int .i64 0] 23)) := (Below.refl _ _).alloc (Nat.le_refl _) _
            have hr4 : (w2.alloc (.cells #[.int .i64 (k : Int), .int .i64 0, .int .i64 0] 23)).heap[w2.heap.size]? = some (.cells #[.int .i64 (k : Int), .int .i64 0, .int .i64 0] 23 (0, 0)) := by rw [heapq_alloc, if_pos rfl]
            have hR4 := (hb4.block x hx2).trans hr2
            have hc4 := kept hb4 hc1'
            generalize w2.alloc (.cells #[.int .i64 (k : Int), .int .i64 0, .int .i64 0] 23) = w4 at *
            have HB4 : Hid (Below x w w4) := HB2.out.trans (hb4.mono (by omega))
            have hxy : x ≤ w2.heap.size := by omega
            clear hb4 hr2 hb2 hrr hc1 hc1'
            generalize w2.heap.size = y at *
            obtain ⟨t0, t1, t2, q0, q1, q2⟩ := res3 hR4
            obtain ⟨u0, u1, u2, r0, r1, r2⟩ := res3 hr4
            clear hR4 hr4
            cases hN : numL q 10 with
            | none =>
              have HR : Hid (R = none) := by rw [Hid, hP, numE, hN]
              have NUM2 : ∀ W, Calls Tryz.prog 53 #[.string bq, .int .i64 ((10 : Nat) : Int)] W fun e w' => e = .returned (.tuple #[.int .i64 0, .bool false]) ∧ W = w' := fun W => by
                have := NUM W
                rw [numP, hN] at this
                exact this
              clear hN hP NUM
              go_wp2_with (first | (go_at_call 53; refine (NUM2 _).mono ?_; rintro e w' ⟨rfl, rfl⟩) | (go_at_call 52; refine (US _).mono ?_; rintro e w' ⟨rfl, rfl⟩))
              refine bodyPost_ret (v := evP R) (by simp [results, Tryz.results11, go_sem, HR.out, evP, t0, t1, t2]) rfl ⟨rfl, ?_⟩
              rw [HX.out]
              exact (((HB4.out.setCell (by simp) _).setCell (by simp) _).setCell (by simp) _)
            | some v =>
              have NUM2 : ∀ W, Calls Tryz.prog 53 #[.string bq, .int .i64 ((10 : Nat) : Int)] W fun e w' => e = .returned (.tuple #[.int .i64 v, .bool true]) ∧ W = w' := fun W => by
                have := NUM W
                rw [numP, hN] at this
                exact this
              by_cases hneg : v < 0
              · have HR : Hid (R = none) := by rw [Hid, hP, numE, hN]; simp only; rw [if_pos hneg]
                clear hN hP NUM
                go_wp2_with (first | (go_at_call 53; refine (NUM2 _).mono ?_; rintro e w' ⟨rfl, rfl⟩) | (go_at_call 52; refine (US _).mono ?_; rintro e w' ⟨rfl, rfl⟩))
                refine bodyPost_ret (v := evP R) (by simp [results, Tryz.results11, go_sem, HR.out, evP, t0, t1, t2]) rfl ⟨rfl, ?_⟩
                rw [HX.out]
                exact (((HB4.out.setCell (by simp) _).setCell (by simp) _).setCell (by simp) _)
              · have HR : Hid (R = some ((k : Int), v, 0)) := by rw [Hid, hP, numE, hN]; simp only; rw [if_neg hneg, if_pos H1.out]
                clear hN hP NUM
                go_wp2_with (first | (go_at_call 53; refine (NUM2 _).mono ?_; rintro e w' ⟨rfl, rfl⟩) | (go_at_call 52; refine (US _).mono ?_; rintro e w' ⟨rfl, rfl⟩))
                refine bodyPost_ret (v := evP R) (by simp [results, Tryz.results11, go_sem, HR.out, evP, t0, t1, t2]) rfl ⟨rfl, ?_⟩
                rw [HX.out]
                exact ((((HB4.out.setCell (by simpa using hxy) _).setCell (by simp) _).setCell (by simp) _).setCell (by simp) _)
          · have e2 : ((n : Int) != 2) = true := bne_iff_ne.2 (by omega)
            have HL := Lib.hid hl
            clear hl hbeq hw HAT
            have HNO2 : Hid (∀ j, j < k + 1 → ¬ (wordL j = w0 ∧ n = 1 + useN j)) := fun j hj => by
              rcases Nat.lt_or_ge j k with h | h
              · exact HNO.out j h
              · obtain rfl : j = k := by omega
                exact fun h => HL.out (by rw [h.2, HUN.out])
            go_upto_region 5 with (fail)
            refine wp_region_xt (by kernel_rfl) (by kernel_rfl) ?_
            repeat (go_big_quiet_step (first | (go_at_call 51; exact Xt.calls_same (WD _)) | (go_at_call 52; exact Xt.calls_same (US _))))
            refine wpQuiet_nil ?_
            intro w2 hx2
            have hb2 := Xt.below hx2
            clear hx2 x0
            go_wp2
            go_roundw
            case rel => exact ⟨k + 1, by omega, by go_num, HNO2.out, HBR.out.trans (hb2.mono hszr)⟩
            case measure => simp [intOf]; omega
        · have hq : (bw0.toList == nm.toList) = false := hbeq.trans (decide_eq_false hw)
          have HW := Lib.hid hw
          clear hbeq hw HAT
          have HNO2 : Hid (∀ j, j < k + 1 → ¬ (wordL j = w0 ∧ n = 1 + useN j)) := fun j hj => by
            rcases Nat.lt_or_ge j k with h | h
            · exact HNO.out j h
            · obtain rfl : j = k := by omega
              exact fun h => HW.out h.1.symm
          go_upto_region 5 with (fail)
          refine wp_region_xt (by kernel_rfl) (by kernel_rfl) ?_
          repeat (go_big_quiet_step (first | (go_at_call 51; exact Xt.calls_same (WD _)) | (go_at_call 52; exact Xt.calls_same (US _))))
          refine wpQuiet_nil ?_
          intro w2 hx2
          have hb2 := Xt.below hx2
          clear hx2 x0
          go_wp2
          go_roundw
          case rel => exact ⟨k + 1, by omega, by go_num, HNO2.out, HBR.out.trans (hb2.mono hszr)⟩
          case measure => simp [intOf]; omega
      · rw [hS] at US
        have H1 := Lib.hid h1
        clear h1
        have HUN : Hid (useN k = 1) := by rw [Hid, useN, hUB]; rfl
        clear hU hS
        by_cases hw : w0 = wordL k
        · have hq : (bw0.toList == nm.toList) = true := hbeq.trans (decide_eq_true hw)
          by_cases hl : n = 2
          · have e2 : ((n : Int) != 2) = false := by rw [hl]; rfl
            have e3 : ((n : Int) == 2) = true := by rw [hl]; rfl
            obtain ⟨q, hq1⟩ : ∃ q, r = [q] := by
              match r, HN.out with
              | [q], _ => exact ⟨q, rfl⟩
              | [], h => simp at h; omega
              | _ :: _ :: _, h => simp at h; omega
            subst hq1
            have hP := HAT.out k hlt hw.symm
            simp only [evOf] at hP
            rw [if_pos hUB] at hP
            obtain ⟨b1, off1, hA, _, hc1⟩ := (HRD.out.below (HBR.out.mono (Nat.le_refl _))).at_ (k := 1) (u := .string (ba q)) rfl
            simp only [Option.some.injEq, Addr.mk.injEq, and_true] at hA
            obtain ⟨rfl, rfl⟩ := hA
            have hqs : (ba q).size ≤ 1000000 := by
              have := HPART.out (ba q) (by simp)
              omega
            have NUM := Number_any (ba q) 10 (by omega) hqs
            rw [ba_data] at NUM
            have e3' : ((n : Int) == 1) = false := beq_eq_false_iff_ne.2 (by omega)
            have hn2 : (1 : Int) < (n : Int) := by omega
            clear hbeq hw HAT
            go_upto_region 5 with (fail)
            refine wp_region_xt (by kernel_rfl) (by kernel_rfl) ?_
            repeat (go_big_quiet_step (first | (go_at_call 51; exact Xt.calls_same (WD _)) | (go_at_call 52; exact Xt.calls_same (US _))))
            refine wpQuiet_nil ?_
            intro w2 hx2
            have hb2 := Xt.below hx2
            clear hx2 x0
            have HB2 : Hid (Below x w w2) := (HB1.out.trans (HBR.out.mono (by omega))).trans (hb2.mono (by omega))
            have hr2 := (hb2.block x (by omega)).trans hrr
            have hx2 : x < w2.heap.size := by have := hb2.size; omega
            have hc1' := kept hb2 hc1
            generalize ba q = bq at *
            go_upto_region 7 with (fail)
            have hb4 : Below w2.heap.size w2 (w2.alloc (.cells #[.int .i64 (k : Int), .int .i64 0, .int .i64 0] 23)) := (Below.refl _ _).alloc (Nat.le_refl _) _
            have hr4 : (w2.alloc (.cells #[.int .i64 (k : Int), .int .i64 0, .int .i64 0] 23)).heap[w2.heap.size]? = some (.cells #[.int .i64 (k : Int), .int .i64 0, .int .i64 0] 23 (0, 0)) := by rw [heapq_alloc, if_pos rfl]
            have hR4 := (hb4.block x hx2).trans hr2
            have hc4 := kept hb4 hc1'
            generalize w2.alloc (.cells #[.int .i64 (k : Int), .int .i64 0, .int .i64 0] 23) = w4 at *
            have HB4 : Hid (Below x w w4) := HB2.out.trans (hb4.mono (by omega))
            have hxy : x ≤ w2.heap.size := by omega
            clear hb4 hr2 hb2 hrr hc1 hc1'
            generalize w2.heap.size = y at *
            obtain ⟨t0, t1, t2, q0, q1, q2⟩ := res3 hR4
            obtain ⟨u0, u1, u2, r0, r1, r2⟩ := res3 hr4
            clear hR4 hr4
            cases hN : numL q 10 with
            | none =>
              have HR : Hid (R = none) := by rw [Hid, hP, numE, hN]
              have NUM2 : ∀ W, Calls Tryz.prog 53 #[.string bq, .int .i64 ((10 : Nat) : Int)] W fun e w' => e = .returned (.tuple #[.int .i64 0, .bool false]) ∧ W = w' := fun W => by
                have := NUM W
                rw [numP, hN] at this
                exact this
              clear hN hP NUM
              go_wp2_with (first | (go_at_call 53; refine (NUM2 _).mono ?_; rintro e w' ⟨rfl, rfl⟩) | (go_at_call 52; refine (US _).mono ?_; rintro e w' ⟨rfl, rfl⟩))
              refine bodyPost_ret (v := evP R) (by simp [results, Tryz.results11, go_sem, HR.out, evP, t0, t1, t2]) rfl ⟨rfl, ?_⟩
              rw [HX.out]
              exact (((HB4.out.setCell (by simp) _).setCell (by simp) _).setCell (by simp) _)
            | some v =>
              have NUM2 : ∀ W, Calls Tryz.prog 53 #[.string bq, .int .i64 ((10 : Nat) : Int)] W fun e w' => e = .returned (.tuple #[.int .i64 v, .bool true]) ∧ W = w' := fun W => by
                have := NUM W
                rw [numP, hN] at this
                exact this
              by_cases hneg : v < 0
              · have HR : Hid (R = none) := by rw [Hid, hP, numE, hN]; simp only; rw [if_pos hneg]
                clear hN hP NUM
                go_wp2_with (first | (go_at_call 53; refine (NUM2 _).mono ?_; rintro e w' ⟨rfl, rfl⟩) | (go_at_call 52; refine (US _).mono ?_; rintro e w' ⟨rfl, rfl⟩))
                refine bodyPost_ret (v := evP R) (by simp [results, Tryz.results11, go_sem, HR.out, evP, t0, t1, t2]) rfl ⟨rfl, ?_⟩
                rw [HX.out]
                exact (((HB4.out.setCell (by simp) _).setCell (by simp) _).setCell (by simp) _)
              · have HR : Hid (R = some ((k : Int), 0, v)) := by rw [Hid, hP, numE, hN]; simp only; rw [if_neg hneg, if_neg H1.out]
                clear hN hP NUM
                go_wp2_with (first | (go_at_call 53; refine (NUM2 _).mono ?_; rintro e w' ⟨rfl, rfl⟩) | (go_at_call 52; refine (US _).mono ?_; rintro e w' ⟨rfl, rfl⟩))
                refine bodyPost_ret (v := evP R) (by simp [results, Tryz.results11, go_sem, HR.out, evP, t0, t1, t2]) rfl ⟨rfl, ?_⟩
                rw [HX.out]
                exact ((((HB4.out.setCell (by simpa using hxy) _).setCell (by simp) _).setCell (by simp) _).setCell (by simp) _)
          · have e2 : ((n : Int) != 2) = true := bne_iff_ne.2 (by omega)
            have HL := Lib.hid hl
            clear hl hbeq hw HAT
            have HNO2 : Hid (∀ j, j < k + 1 → ¬ (wordL j = w0 ∧ n = 1 + useN j)) := fun j hj => by
              rcases Nat.lt_or_ge j k with h | h
              · exact HNO.out j h
              · obtain rfl : j = k := by omega
                exact fun h => HL.out (by rw [h.2, HUN.out])
            go_upto_region 5 with (fail)
            refine wp_region_xt (by kernel_rfl) (by kernel_rfl) ?_
            repeat (go_big_quiet_step (first | (go_at_call 51; exact Xt.calls_same (WD _)) | (go_at_call 52; exact Xt.calls_same (US _))))
            refine wpQuiet_nil ?_
            intro w2 hx2
            have hb2 := Xt.below hx2
            clear hx2 x0
            go_wp2
            go_roundw
            case rel => exact ⟨k + 1, by omega, by go_num, HNO2.out, HBR.out.trans (hb2.mono hszr)⟩
            case measure => simp [intOf]; omega
        · have hq : (bw0.toList == nm.toList) = false := hbeq.trans (decide_eq_false hw)
          have HW := Lib.hid hw
          clear hbeq hw HAT
          have HNO2 : Hid (∀ j, j < k + 1 → ¬ (wordL j = w0 ∧ n = 1 + useN j)) := fun j hj => by
            rcases Nat.lt_or_ge j k with h | h
            · exact HNO.out j h
            · obtain rfl : j = k := by omega
              exact fun h => HW.out h.1.symm
          go_upto_region 5 with (fail)
          refine wp_region_xt (by kernel_rfl) (by kernel_rfl) ?_
          repeat (go_big_quiet_step (first | (go_at_call 51; exact Xt.calls_same (WD _)) | (go_at_call 52; exact Xt.calls_same (US _))))
          refine wpQuiet_nil ?_
          intro w2 hx2
          have hb2 := Xt.below hx2
          clear hx2 x0
          go_wp2
          go_roundw
          case rel => exact ⟨k + 1, by omega, by go_num, HNO2.out, HBR.out.trans (hb2.mono hszr)⟩
          case measure => simp [intOf]; omega
      · rw [hS] at US
        have H1 := Lib.hid h1
        clear h1
        have HUN : Hid (useN k = 0) := by rw [Hid, useN, hUB]; rfl
        clear hU hS
        by_cases hw : w0 = wordL k
        · have hq : (bw0.toList == nm.toList) = true := hbeq.trans (decide_eq_true hw)
          by_cases hl : n = 1
          · have e2 : ((n : Int) != 1) = false := by rw [hl]; rfl
            have e3 : ((n : Int) == 1) = true := by rw [hl]; rfl
            have HR : Hid (R = some ((k : Int), 0, 0)) := by
              rw [Hid, HAT.out k hlt hw.symm, List.length_eq_zero_iff.1 (show r.length = 0 by have := HN.out; omega)]
              simp [evOf, hUB]
            clear hbeq hw HAT hl
            go_upto_region 5 with (fail)
            refine wp_region_xt (by kernel_rfl) (by kernel_rfl) ?_
            repeat (go_big_quiet_step (first | (go_at_call 51; exact Xt.calls_same (WD _)) | (go_at_call 52; exact Xt.calls_same (US _))))
            refine wpQuiet_nil ?_
            intro w2 hx2
            have hb2 := Xt.below hx2
            clear hx2 x0
            have HB2 : Hid (Below x w w2) := (HB1.out.trans (HBR.out.mono (by omega))).trans (hb2.mono (by omega))
            have hr2 := (hb2.block x (by omega)).trans hrr
            have hx2 : x < w2.heap.size := by have := hb2.size; omega
            go_upto_region 7 with (fail)
            have hb4 : Below w2.heap.size w2 (w2.alloc (.cells #[.int .i64 (k : Int), .int .i64 0, .int .i64 0] 23)) := (Below.refl _ _).alloc (Nat.le_refl _) _
            have hr4 : (w2.alloc (.cells #[.int .i64 (k : Int), .int .i64 0, .int .i64 0] 23)).heap[w2.heap.size]? = some (.cells #[.int .i64 (k : Int), .int .i64 0, .int .i64 0] 23 (0, 0)) := by rw [heapq_alloc, if_pos rfl]
            have hR4 := (hb4.block x hx2).trans hr2
            generalize w2.alloc (.cells #[.int .i64 (k : Int), .int .i64 0, .int .i64 0] 23) = w4 at *
            have HB4 : Hid (Below x w w4) := HB2.out.trans (hb4.mono (by omega))
            clear hb4 hr2 hb2 hrr
            generalize w2.heap.size = y at *
            obtain ⟨t0, t1, t2, q0, q1, q2⟩ := res3 hR4
            obtain ⟨u0, u1, u2, r0, r1, r2⟩ := res3 hr4
            clear hR4 hr4
            go_wp2
            refine bodyPost_ret (v := evP R) (by simp [results, Tryz.results11, go_sem, HR.out, evP, t0, t1, t2]) rfl ⟨rfl, ?_⟩
            rw [HX.out]
            exact (((HB4.out.setCell (by simp) _).setCell (by simp) _).setCell (by simp) _)
          · have e2 : ((n : Int) != 1) = true := bne_iff_ne.2 (by omega)
            have HL := Lib.hid hl
            clear hl hbeq hw HAT
            have HNO2 : Hid (∀ j, j < k + 1 → ¬ (wordL j = w0 ∧ n = 1 + useN j)) := fun j hj => by
              rcases Nat.lt_or_ge j k with h | h
              · exact HNO.out j h
              · obtain rfl : j = k := by omega
                exact fun h => HL.out (by rw [h.2, HUN.out])
            go_upto_region 5 with (fail)
            refine wp_region_xt (by kernel_rfl) (by kernel_rfl) ?_
            repeat (go_big_quiet_step (first | (go_at_call 51; exact Xt.calls_same (WD _)) | (go_at_call 52; exact Xt.calls_same (US _))))
            refine wpQuiet_nil ?_
            intro w2 hx2
            have hb2 := Xt.below hx2
            clear hx2 x0
            go_wp2
            go_roundw
            case rel => exact ⟨k + 1, by omega, by go_num, HNO2.out, HBR.out.trans (hb2.mono hszr)⟩
            case measure => simp [intOf]; omega
        · have hq : (bw0.toList == nm.toList) = false := hbeq.trans (decide_eq_false hw)
          have HW := Lib.hid hw
          clear hbeq hw HAT
          have HNO2 : Hid (∀ j, j < k + 1 → ¬ (wordL j = w0 ∧ n = 1 + useN j)) := fun j hj => by
            rcases Nat.lt_or_ge j k with h | h
            · exact HNO.out j h
            · obtain rfl : j = k := by omega
              exact fun h => HW.out h.1.symm
          go_upto_region 5 with (fail)
          refine wp_region_xt (by kernel_rfl) (by kernel_rfl) ?_
          repeat (go_big_quiet_step (first | (go_at_call 51; exact Xt.calls_same (WD _)) | (go_at_call 52; exact Xt.calls_same (US _))))
          refine wpQuiet_nil ?_
          intro w2 hx2
          have hb2 := Xt.below hx2
          clear hx2 x0
          go_wp2
          go_roundw
          case rel => exact ⟨k + 1, by omega, by go_num, HNO2.out, HBR.out.trans (hb2.mono hszr)⟩
          case measure => simp [intOf]; omega
    · have HR : Hid (R = none) := HALL.out fun j hj => by
        rw [HN.out]
        exact HNO.out j (by omega)
      have hki : ¬ (k : Int) < 8 := by omega
      obtain ⟨t0, t1, t2, q0, q1, q2⟩ := res3 ((hb.block x hx1).trans hr1)
      clear hb
      go_wp2
      refine bodyPost_ret (v := evP R) (by simp [results, Tryz.results11, go_sem, HR.out, evP, t0, t1, t2]) rfl ⟨rfl, ?_⟩
      rw [HX.out]
      exact ((((HB1.out.trans (HBR.out.mono (by omega))).setCell (by simp) _).setCell (by simp) _).setCell (by simp) _)
end Go.Proofs.YtmcjnfghlpnghaaGreatDoor
