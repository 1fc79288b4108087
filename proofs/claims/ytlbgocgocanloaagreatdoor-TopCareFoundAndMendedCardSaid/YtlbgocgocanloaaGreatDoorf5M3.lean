/- Found, written down, mended: the walk. -/
import Derived.Test.YtlbgocgocanloaaGreatDoorf5M2
import Derived.Test.YtlbgocgocanloaaGreatDoorf5U8
import Derived.Test.YtlbgocgocanloaaGreatDoorf5Z8
import Derived.Test.YtlbgocgocanloaaGreatDoorf5J11
import Derived.Test.YtlbgocgocanloaaGreatDoorf5T12
import Derived.Test.YtlbgocgocanloaaGreatDoorf5G1
import Derived.Deep.CutRange
namespace Go.Proofs.YtlbgocgocanloaaGreatDoor
open Go.RowKit
set_option maxRecDepth 100000 in
set_option maxHeartbeats 8000000 in
theorem Mended_all (bm off hours : Int) (A : Option Addr) (n c : Nat) (l : List Rg) (w : World) (ht : TxtAt w) (hl : l.length = n) (h : Rd w w.heap.size A (rgCells l)) (hn : n ≤ 9223372036854775807) :
    Calls Tryz.prog 5 #[.agg #[.int .i64 bm, .slice A n c], .int .i64 off, .int .i64 hours] w (AwakePost w) := by
  have hb0 : Below w.heap.size w (w.alloc (.cells #[.int .i64 bm, .slice A n c] 70)) := (Below.refl _ _).alloc (Nat.le_refl _) _
  have k0 : (w.alloc (.cells #[.int .i64 bm, .slice A n c] 70)).heap[w.heap.size]? = some (.cells #[.int .i64 bm, .slice A n c] 70 (0, 0)) := by rw [heapq_alloc, if_pos rfl]
  have T0 := ht.below hb0
  have r0 := h.below hb0
  have hs0 : w.heap.size ≤ (w.alloc (.cells #[.int .i64 bm, .slice A n c] 70)).heap.size := by simp
  have HL := Lib.hid hl
  clear ht h hl
  go_enter Tryz.func5, Tryz.ntmps5
  go_upto_region 1 with (fail)
  generalize (w.alloc (.cells #[.int .i64 bm, .slice A n c] 70)) = w0 at *
  generalize hx : w.heap.size = x at *
  have HX := Lib.hid hx
  clear hx
  go_wp2_with fail
  refine (careAwake_any w0 T0.kinds).mono ?_
  rintro e w1 ⟨rfl, hb1⟩
  have T1 := Lib.hid (T0.below hb1)
  have K1 := Lib.hid ((hb1.block x (lt_of_block k0)).trans k0)
  have R1 := Lib.hid (r0.below (hb1.mono (Nat.le_of_lt (lt_of_block k0))))
  have HB := Lib.hid (hb0.trans (hb1.mono hs0))
  have hsx := Nat.le_trans hs0 hb1.size
  clear T0 k0 r0 hb0 hb1 hs0
  obtain ⟨p0, p1, _, _⟩ := cells2 K1.out
  by_cases g1 : n ≤ 8
  · by_cases g2 : bm ≤ 9
    · have RE := RecordErr_any w1 x bm A n c l HL.out R1.out hsx
      by_cases g3 : recM bm l = 0
      · rw [g3] at RE
        cases g4 : withinB off 1 10000
        · go_wp2_with (first | (go_at_call 29; refine RE.mono ?_; rintro e w2 ⟨rfl, hb2⟩) | (go_at_call_of 19 (Value.int .i64 off); refine (Within_val off 1 10000 _ g4 _).mono ?_; rintro e w' ⟨rfl, rfl⟩))
          go_ret
          exact ⟨rfl, HX.out ▸ HB.out.trans (hb2.mono hsx)⟩
        · cases g5 : withinB hours 0 100
          · go_wp2_with (first | (go_at_call 29; refine RE.mono ?_; rintro e w2 ⟨rfl, hb2⟩) | (go_at_call_of 19 (Value.int .i64 off); refine (Within_val off 1 10000 _ g4 _).mono ?_; rintro e w' ⟨rfl, rfl⟩) | (go_at_call_of 19 (Value.int .i64 hours); refine (Within_val hours 0 100 _ g5 _).mono ?_; rintro e w' ⟨rfl, rfl⟩))
            go_ret
            exact ⟨rfl, HX.out ▸ HB.out.trans (hb2.mono hsx)⟩
          · obtain ⟨go1, go2⟩ : 1 ≤ off ∧ off ≤ 10000 := by simpa [withinB] using g4
            obtain ⟨gh1, gh2⟩ : 0 ≤ hours ∧ hours ≤ 100 := by simpa [withinB] using g5
            obtain ⟨r1, r2, _⟩ := recM_zero g3
            obtain ⟨bn, rfl⟩ : ∃ k : Nat, bm = k := ⟨bm.toNat, by omega⟩
            have OK := Lib.hid (recM_ok g3)
            have G3 := Lib.hid g3
            obtain ⟨R, hR⟩ : ∃ R, leastM l bn = R := ⟨_, rfl⟩
            go_upto_region 5 with (first | (go_at_call 29; refine RE.mono ?_; rintro e w2 ⟨rfl, hb2⟩) | (go_at_call_of 19 (Value.int .i64 off); refine (Within_val off 1 10000 _ g4 _).mono ?_; rintro e w' ⟨rfl, rfl⟩) | (go_at_call_of 19 (Value.int .i64 hours); refine (Within_val hours 0 100 _ g5 _).mono ?_; rintro e w' ⟨rfl, rfl⟩))
            have T2 := Lib.hid (T1.out.below hb2)
            have K2 := Lib.hid ((hb2.block x (lt_of_block K1.out)).trans K1.out)
            have R2 := Lib.hid (R1.out.below (hb2.mono hsx))
            have HB2 := Lib.hid (HB.out.trans (hb2.mono hsx))
            have hsx2 := Nat.le_trans hsx hb2.size
            clear T1 K1 R1 HB hb2 hsx p0 p1 RE g3
            obtain ⟨p0, p1, _, _⟩ := cells2 K2.out
            have CR := CopyRecord_any w2 x bn A n c l HL.out (by omega) R2.out hsx2
            cases R with
            | none =>
              have LF : ∀ (W : World) (A' : Option Addr) (c' : Nat), Rd W W.heap.size A' (rgCells l) → Calls Tryz.prog 30 #[.agg #[.int .i64 (bn : Int), .slice A' n c']] W (LeastOutPost W none 12) := fun W A' c' hA => LeastFaults_yes W W.heap.size bn A' n c' l HL.out hA (Nat.le_refl _) (by omega) G3.out OK.out none hR
              go_wp2_with (first | (go_at_call 31; refine CR.mono ?_; rintro e w3 ⟨A3, c3, rfl, hA3, hb3⟩) | (go_at_call 30; refine (LF _ A3 c3 hA3).mono ?_; rintro e w4 ⟨v, rfl, hv, hb4⟩; obtain rfl : v = .slice none 0 0 := hv))
              go_ret
              exact ⟨rfl, HX.out ▸ HB2.out.trans ((hb3.trans (hb4.mono hb3.size)).mono hsx2)⟩
            | some T =>
              obtain ⟨_, hF, _⟩ := explained_some OK.out hR
              obtain ⟨hsort, hin⟩ := faultGo_zero.1 (faults_zero.1 hF).1
              have hsub := (leastM_some OK.out bn hR).1
              obtain ⟨m, hm⟩ : ∃ m, T.length = m := ⟨_, rfl⟩
              have hmb : m ≤ 40 := by
                rw [← hm]
                refine Nat.le_trans hsub.length_le ?_
                have := List.length_filter_le (fun (b : Nat) => !l.any (goodB (b : Int))) (List.range bn)
                rw [List.length_range] at this
                simp only [suspK, List.length_map]
                omega
              have HT := Lib.hid (show ∀ x ∈ T, 0 ≤ x ∧ x ≤ 100000 from fun x hx => by have := (hin x hx).1; omega)
              have HSORT := Lib.hid hsort
              have HM := Lib.hid hm
              have LF : ∀ (W : World) (A' : Option Addr) (c' : Nat), Rd W W.heap.size A' (rgCells l) → Calls Tryz.prog 30 #[.agg #[.int .i64 (bn : Int), .slice A' n c']] W (LeastOutPost W (some T) 0) := fun W A' c' hA => LeastFaults_yes W W.heap.size bn A' n c' l HL.out hA (Nat.le_refl _) (by omega) G3.out OK.out (some T) hR
              have HFz := Lib.hid hF
              clear hF hsort hin hsub hm hR
              go_upto_region 8 with (first | (go_at_call 31; refine CR.mono ?_; rintro e w3 ⟨A3, c3, rfl, hA3, hb3⟩) | (go_at_call 30; refine (LF _ A3 c3 hA3).mono ?_; rintro e w4 ⟨v, rfl, hv, hb4⟩; obtain ⟨At, ct, rfl, hTt⟩ := hv; rw [HM.out]))
              have hb5 := hb3.trans (hb4.mono hb3.size)
              have T4 := Lib.hid (T2.out.below hb5)
              have K4 := (hb5.block x (lt_of_block K2.out)).trans K2.out
              have R4 := R2.out.below (hb5.mono hsx2)
              have HB4 := Lib.hid (HB2.out.trans (hb5.mono hsx2))
              have hsx4 := Nat.le_trans hsx2 hb5.size
              have HTT := Lib.hid hTt
              have FE := FaultsErr_any w4 w4.heap.size bn A At n c m ct l T HL.out HM.out (R4.mono hsx4) hTt (Nat.le_refl _) (by omega) G3.out 0 HFz.out
              clear T2 K2 R2 HB2 hb3 hb4 hb5 CR LF p0 p1 hTt R4 hA3
              obtain ⟨p0, p1, _, _⟩ := cells2 K4
              by_cases g6 : m ≤ 6
              · go_upto_region 12 with (go_at_call 32; refine FE.mono ?_; rintro e w5 ⟨rfl, hb5⟩)
                have T5 := Lib.hid (T4.out.below hb5)
                have RT := Lib.hid ((HTT.out.below hb5).mono hb5.size)
                have HB5 := Lib.hid (HB4.out.trans (hb5.mono hsx4))
                have hsx5 := Nat.le_trans hsx4 hb5.size
                clear T4 HTT HB4 hb5 FE p0 p1 K4 hsx4 hsx2
                have REL : FoundRel w5 T off hours m (.slice none 0 0) (.int .i64 0) ((w5.alloc (.cells #[.int .i64 hours, .int .i64 0] 3)).alloc (.cells #[.slice (some ⟨w5.heap.size, 0, none⟩) 2 2, .slice none 0 0] 79)) :=
                  ⟨0, none, none, 0, 0, Nat.zero_le _, rfl, rfl, ⟨⟨rfl, .inl ⟨rfl, rfl⟩⟩, ⟨rfl, .inl ⟨rfl, rfl⟩⟩, by rw [heapq_alloc, if_pos (by simp)], by rw [heapq_alloc, if_neg (by simp), heapq_alloc, if_pos rfl], ((Below.refl _ _).alloc (Nat.le_refl _) _).alloc (by simp) _, by simp⟩⟩
                have HREL := Lib.hid REL
                clear REL
                go_upto_region 14 with (fail)
                generalize (w5.alloc (.cells #[.int .i64 hours, .int .i64 0] 3)).alloc (.cells #[.slice (some ⟨w5.heap.size, 0, none⟩) 2 2, .slice none 0 0] 79) = w6 at *
                go_wp2
                go_loopw [9, 11] (fun u9 u11 wr => FoundRel w5 T off hours m u9 u11 wr) (fun _ u11 _ => m - (intOf u11).toNat)
                case atStart => exact HREL.out
                case round =>
                  clear HREL
                  obtain ⟨k, Au, Aj, cu, cj, hk, rfl, rfl, hF⟩ := hrel
                  have HF := Lib.hid hF
                  have HTX := Lib.hid (T5.out.below hF.hb)
                  have HTR := Lib.hid (RT.out.below hF.hb)
                  clear hF
                  by_cases hlt : k < m
                  · have hxk := getD_in HT.out k
                    have hkT : (intCells T)[k]? = some (.int .i64 (T[k]?.getD 0)) := by
                      have : k < T.length := by rw [HM.out]; exact hlt
                      simp [intCells, this]
                    obtain ⟨bb, offb, hbb, _, hc⟩ := HTR.out.at_ hkT
                    subst hbb
                    obtain ⟨k1, hk1⟩ : ∃ n, k + 1 = n := ⟨_, rfl⟩
                    have HFS : Hid (fds T off k1 = fds T off k ++ [(insB, (k : Int), T[k]?.getD 0, off)]) := by rw [← hk1]; exact fds_succ T off k
                    have HJS : Hid (jobs k1 = jobs k ++ [(10, 0, 1)]) := by rw [← hk1]; exact jobs_succ k
                    clear hkT
                    generalize T[k]?.getD 0 = xk at *
                    have hfd := fd_ok (d := (k : Int)) (x := xk) (o := off) (by omega) hxk (by omega)
                    have FF := FormatFinding_any insB (k : Int) xk off (by decide) ⟨by omega, by omega⟩ ⟨by omega, by omega⟩ ⟨by omega, by omega⟩ wr HTX.out
                    have hsz : (ba (fmtF insB.data.toList (k : Int) xk off)).size ≤ 1000000 := by
                      rw [ba_size]
                      have := fmtF_len insB.data.toList (k : Int) xk off ⟨by omega, by omega⟩ ⟨by omega, by omega⟩ ⟨by omega, by omega⟩
                      have h3 : insB.data.toList.length = 3 := rfl
                      omega
                    have PF : ∀ W, TxtAt W → Calls Tryz.prog 10 #[.string (ba (fmtF insB.data.toList (k : Int) xk off))] W fun e w' => e = .returned (.tuple #[.agg #[.string insB, .int .i64 (k : Int), .int .i64 xk, .int .i64 off], .int .i64 0]) ∧ Below W.heap.size W w' := fun W hW => by
                      have h := ParseFinding_any _ hsz W hW
                      rw [ba_data] at h
                      refine h.mono ?_
                      rintro e w' ⟨he, hb⟩
                      exact ⟨by rw [he, fd_back _ _ _ _ hfd], hb⟩
                    generalize ba (fmtF insB.data.toList (k : Int) xk off) = txt at *
                    clear hsz hfd
                    have hins : (⟨#[105, 110, 115]⟩ : ByteArray) = insB := rfl
                    go_upto_region 18 with (first | (go_at_call 8; refine FF.mono ?_; rintro e v1 ⟨rfl, hb1⟩) | (go_at_call 10; refine (PF _ (HTX.out.below hb1)).mono ?_; rintro e v2 ⟨rfl, hb2⟩))
                    have hb3 := hb1.trans (hb2.mono hb1.size)
                    have hb4 := hb3.alloc hb3.size (.cells #[.string insB, .int .i64 (k : Int), .int .i64 xk, .int .i64 off] 25)
                    have kz : (v2.alloc (.cells #[.string insB, .int .i64 (k : Int), .int .i64 xk, .int .i64 off] 25)).heap[v2.heap.size]? = some (.cells #[.string insB, .int .i64 (k : Int), .int .i64 xk, .int .i64 off] 25 (0, 0)) := by rw [heapq_alloc, if_pos rfl]
                    generalize v2.alloc (.cells #[.string insB, .int .i64 (k : Int), .int .i64 xk, .int .i64 off] 25) = v3 at *
                    generalize v2.heap.size = z at *
                    have F3 := HF.out.below hb4
                    have hc3 := kept hb4 hc
                    obtain ⟨z0, z1, z2, z3, _⟩ := res4 kz
                    have x2 := fun q : Xt v3 => q.cell z2
                    have x3 := fun q : Xt v3 => q.cell z3
                    have xc := fun q : Xt v3 => q.cell hc3
                    clear hb1 hb2 hb3 FF PF hc hb4
                    refine wp_region_xt (by as_aux_lemma => kernel_rfl) (by as_aux_lemma => kernel_rfl) ?_
                    repeat (go_big_quiet_step (fail))
                    refine wpQuiet_nil ?_
                    intro v4 hx4
                    have hb4 := Xt.below hx4
                    have F4 := F3.below hb4
                    have kz4 := (hb4.block z (lt_of_block kz)).trans kz
                    clear hx4 z0 z1 z2 z3 x2 x3 xc hc3 F3 kz
                    obtain ⟨z0, z1, z2, z3, _⟩ := res4 kz4
                    have HRA := Lib.hid (show (v4.alloc (.cells #[.string insB, .int .i64 (k : Int), .int .i64 xk, .int .i64 off] 25)).heap[v4.heap.size]? = some (.cells #[.string insB, .int .i64 (k : Int), .int .i64 xk, .int .i64 off] 25 (0, 0)) by rw [heapq_alloc, if_pos rfl])
                    have F5 := F4.below ((Below.refl _ _).alloc (Nat.le_refl _) (.cells #[.string insB, .int .i64 (k : Int), .int .i64 xk, .int .i64 off] 25))
                    have FF5 := Lib.hid F5
                    have HK1 := Lib.hid hk1
                    have hk9 : k1 ≤ 1000 := by omega
                    clear hb4 kz4 F4 F5 hk1
                    go_wp2_with (at_builtin; refine stp ?_)
                    unfold Stp
                    refine wpList_append_fd _ rfl _ _ rfl (w5.heap.size + 2) Au cu k k1 (fds T off k) rfl FF5.out.fd v4.heap.size 1 [(insB, (k : Int), xk, off)] rfl rfl (by omega) HK1.out hk9 HRA.out FF5.out.sz ?_
                    intro g cap v6 hown6 hg6 _ _
                    rw [← HFS.out] at hown6
                    have F6 := Lib.hid (FF5.out.find hg6 hown6)
                    clear hown6 hg6 z0 z1 z2 z3 HRA FF5 HFS
                    have HRB := Lib.hid (show (v6.alloc (.cells #[.int .i64 10, .int .i64 0, .int .i64 1] 81)).heap[v6.heap.size]? = some (.cells #[.int .i64 10, .int .i64 0, .int .i64 1] 81 (0, 0)) by rw [heapq_alloc, if_pos rfl])
                    have F7 := Lib.hid (F6.out.below ((Below.refl _ _).alloc (Nat.le_refl _) (.cells #[.int .i64 10, .int .i64 0, .int .i64 1] 81)))
                    obtain ⟨y0, y1, _, _⟩ := cells2 F6.out.wk
                    clear F6
                    go_wp2_with (at_builtin; refine stp ?_)
                    unfold Stp
                    refine wpList_append_jb _ rfl _ _ rfl (w5.heap.size + 2) Aj cj k k1 (jobs k) rfl F7.out.jb v6.heap.size 1 [(10, 0, 1)] rfl rfl (by omega) HK1.out hk9 HRB.out F7.out.sz ?_
                    intro g2 cap2 v8 hown8 hg8 _ _
                    rw [← HJS.out] at hown8
                    have F9 := Lib.hid (F7.out.job hg8 hown8)
                    obtain ⟨y0, y1, q0, q1⟩ := cells2 ((grow_block hg8 F7.out.jb (by omega) (lt_of_block F7.out.wk)).trans F7.out.wk)
                    clear hown8 hg8 HRB F7 HJS
                    go_wp2
                    go_roundw
                    case rel => exact ⟨k1, some ⟨g, 0, none⟩, some ⟨g2, 0, none⟩, cap, cap2, by have := HK1.out; omega, by rw [← HK1.out]; go_num, rfl, F9.out⟩
                    case measure => simp [intOf]; omega
                  · obtain rfl : k = m := by omega
                    have F0 := HF
                    have hwr : w5.heap.size ≤ wr.heap.size := by have := HF.out.sz; omega
                    have RAT := fun W (hW : Below wr.heap.size wr W) => (HTR.out.below (hW.mono hwr)).mono (Nat.le_trans hwr hW.size)
                    have CF := CopyFindings_any wr wr.heap.size Au k cu (fds T off k) (fds_len T off k) (by omega) (rd_ownC HF.out.fd) (Nat.le_refl _)
                    have EQ : openM ((fds T off k).map fdF) (off - 1) = T := by
                      have h := open_found HSORT.out go1
                      rw [HM.out] at h
                      exact h
                    have OO := fun W (A' : Option Addr) c' (hA : Rd W W.heap.size A' (fdCells (fds T off k))) => OpenOf_any W W.heap.size A' k c' (fds T off k) (off - 1) (fds_len T off k) hA (Nat.le_refl _) (by omega) (fun _ => fds_size) 0 (openErr_found (by rw [fds_len]; omega) (fds_ok HT.out go1 go2 g6) go1 go2)
                    rw [openO_yes, EQ] at OO
                    have IS := fun W (A4 : Option Addr) c4 (h4 : Rd W W.heap.size A4 (intCells T)) (h5 : Rd W W.heap.size At (intCells T)) => Ints_same A4 At k c4 ct W.heap.size W.heap.size T W (by omega) HM.out h4 h5 (Nat.le_refl _) (Nat.le_refl _)
                    clear EQ
                    go_upto_region 25 with (first | (go_at_call 34; refine CF.mono ?_; rintro e v1 ⟨A1', c1', rfl, hA1, hb1⟩) | (go_at_call 33; refine (OO _ A1' c1' hA1).mono ?_; rintro e v2 ⟨v, rfl, ⟨A4, c4, rfl, hA4⟩, hb2⟩; rw [HM.out]) | (go_at_call 35; refine (IS _ A4 c4 hA4 (RAT _ (hb1.trans (hb2.mono hb1.size)))).mono ?_; rintro e v3 ⟨rfl, hb3⟩))
                    have hb4 := (hb1.trans (hb2.mono hb1.size)).trans (hb3.mono (Nat.le_trans hb1.size hb2.size))
                    have F4 := Lib.hid (HF.out.below hb4)
                    clear hb1 hb2 hb3 hb4 CF OO IS RAT HF HTX HTR hA1 hA4 F0
                    obtain ⟨y0, y1, _, _⟩ := cells2 F4.out.wk
                    have CW := CopyWork_own v3 v3.heap.size (some ⟨w5.heap.size, 0, none⟩) Aj 2 2 k cj [hours, 0] (jobs k) rfl (jobs_len k) (by omega) (by omega) (rd_row (cs := intCells [hours, 0]) F4.out.hr (lt_of_block F4.out.hr)) (rd_ownC F4.out.jb) (Nat.le_refl _)
                    go_cut [16, 17] from 132 to 137 (fun s16 s17 wc => WorkCut v3 k hours s16 s17 wc)
                    case first =>
                      by_cases h10 : 10 * (k : Int) ≤ hours
                      · have FW := fun W g1 c1 g2 c2 (h1 : Rd W W.heap.size (some ⟨g1, 0, none⟩) (intCells [hours, 0])) (h2 : Rd W W.heap.size (some ⟨g2, 0, none⟩) (evCells (jobs k))) (hc : k ≤ c2) => FirstWork_yes W W.heap.size (some ⟨g1, 0, none⟩) (some ⟨g2, 0, none⟩) 2 c1 k c2 [hours, 0] (jobs k) rfl (jobs_len k) h1 h2 (Nat.le_refl _) (by omega) (by omega) hc (work_ok g6 gh1 gh2) (some (List.replicate k 0)) ((place_first k hours gh1).trans (if_pos h10))
                        have HL2 : Hid ((List.replicate k (0 : Int)).length = k) := List.length_replicate
                        go_wp2_with (first | (go_at_call 37; refine CW.mono ?_; rintro e u1 ⟨j1, d1, j2, d2, rfl, hj1, hj2, hb1⟩) | (go_at_call 36; refine (FW _ j1 d1 j2 d2 (rd_ownC hj1) (rd_ownC hj2) (own_capM hj2)).mono ?_; rintro e u2 ⟨v, rfl, ⟨A6, c6, rfl, hA6⟩, hb2⟩; rw [HL2.out]))
                        go_meet
                        exact ⟨A6, k, c6, 0, rfl, rfl, .inl ⟨rfl, h10⟩, Nat.le_refl _, hA6, hb1.trans (hb2.mono hb1.size)⟩
                      · have FW := fun W g1 c1 g2 c2 (h1 : Rd W W.heap.size (some ⟨g1, 0, none⟩) (intCells [hours, 0])) (h2 : Rd W W.heap.size (some ⟨g2, 0, none⟩) (evCells (jobs k))) (hc : k ≤ c2) => FirstWork_yes W W.heap.size (some ⟨g1, 0, none⟩) (some ⟨g2, 0, none⟩) 2 c1 k c2 [hours, 0] (jobs k) rfl (jobs_len k) h1 h2 (Nat.le_refl _) (by omega) (by omega) hc (work_ok g6 gh1 gh2) none ((place_first k hours gh1).trans (if_neg h10))
                        go_wp2_with (first | (go_at_call 37; refine CW.mono ?_; rintro e u1 ⟨j1, d1, j2, d2, rfl, hj1, hj2, hb1⟩) | (go_at_call 36; refine (FW _ j1 d1 j2 d2 (rd_ownC hj1) (rd_ownC hj2) (own_capM hj2)).mono ?_; rintro e u2 ⟨v, rfl, hv, hb2⟩; obtain rfl : v = .slice none 0 0 := hv))
                        go_meet
                        exact ⟨none, 0, 0, 12, rfl, rfl, .inr ⟨rfl, by omega⟩, Nat.zero_le _, fun q u hq => by simp [intCells] at hq, hb1.trans (hb2.mono hb1.size)⟩
                    case rest =>
                      obtain ⟨A6, m6, c6, E6, rfl, rfl, hE, hm6, hA6, hb6⟩ := hcut
                      have F6 := Lib.hid (F4.out.below hb6)
                      have HA6 := Lib.hid hA6
                      clear CW F4 hA6 hb6 y0 y1
                      go_upto_region 26 with (fail)
                      go_cut [153] from 138 to 152 (fun s153 wc' => s153 = .bool false ∧ Below wc.heap.size wc wc')
                      case first =>
                        rcases hE with ⟨rfl, h10⟩ | ⟨rfl, h10⟩
                        · go_wp2
                          go_meet
                          exact ⟨rfl, Below.refl _ _⟩
                        · go_wp2
                          go_meet
                          exact ⟨rfl, Below.refl _ _⟩
                      case rest =>
                        obtain ⟨rfl, hb7⟩ := hcut
                        have F7 := Lib.hid (F6.out.below hb7)
                        have HA7 := Lib.hid ((HA6.out.below hb7).mono hb7.size)
                        clear F6 HA6 hb7 hE
                        go_wp2
                        go_loopw [18] (fun u18 wr => LookRel wc m6 u18 wr) (fun u18 _ => m6 - (intOf u18).toNat)
                        case atStart => exact ⟨0, Nat.zero_le _, rfl, Below.refl _ _⟩
                        case round =>
                          obtain ⟨q, hq, rfl, hb⟩ := hrel
                          have HBQ := Lib.hid hb
                          have HA8 := HA7.out.below hb
                          clear hb
                          by_cases hlt2 : q < m6
                          · obtain ⟨bb6, of6, hbb6, _, hc6⟩ := HA8.at_ (k := q) (u := .int .i64 0) (by simp [intCells, hlt2])
                            subst hbb6
                            clear HA8
                            go_wp2
                            go_roundw
                            case rel => exact ⟨q + 1, by omega, by go_num, HBQ.out⟩
                            case measure => simp [intOf]; omega
                          · clear HA8
                            have F8 := F7.out.below HBQ.out
                            have REL3 : Hid (MendRel w5 T off hours k (.slice Au k cu) (.int .i64 0) wr) := ⟨0, k, Au, Aj, cu, cj, Nat.zero_le _, rfl, rfl, rfl, by simpa [fds2] using F8⟩
                            clear F7 HBQ HA7 F8
                            go_wp2
                            go_loopw [9, 19] (fun u9 u19 wr => MendRel w5 T off hours k u9 u19 wr) (fun _ u19 _ => k - (intOf u19).toNat)
                            case atStart => exact REL3.out
                            case round =>
                              clear REL3
                              obtain ⟨i, mm, Av, Aj2, cv, cj2, hi, hmm, rfl, rfl, hF⟩ := hrel
                              have HF := Lib.hid hF
                              have HTR := Lib.hid (RT.out.below hF.hb)
                              have hmb2 : mm ≤ 12 := by omega
                              clear hF
                              by_cases hlt3 : i < k
                              · have hkT : (intCells T)[i]? = some (.int .i64 (T[i]?.getD 0)) := by
                                  have : i < T.length := by rw [HM.out]; exact hlt3
                                  simp [intCells, this]
                                obtain ⟨bb, offb, hbb, _, hc⟩ := HTR.out.at_ hkT
                                subst hbb
                                obtain ⟨i1, hi1⟩ : ∃ n, i + 1 = n := ⟨_, rfl⟩
                                obtain ⟨m1, hm1⟩ : ∃ n, mm + 1 = n := ⟨_, rfl⟩
                                have HFS : Hid (fds T off k ++ fds2 T i1 = (fds T off k ++ fds2 T i) ++ [(insB, 100, T[i]?.getD 0, 0)]) := by rw [Hid, ← hi1, fds2_succ, List.append_assoc]
                                clear hkT
                                generalize T[i]?.getD 0 = xi at *
                                have HRA := Lib.hid (show (wr.alloc (.cells #[.string ⟨#[105, 110, 115]⟩, .int .i64 100, .int .i64 xi, .int .i64 0] 25)).heap[wr.heap.size]? = some (.cells #[.string ⟨#[105, 110, 115]⟩, .int .i64 100, .int .i64 xi, .int .i64 0] 25 (0, 0)) by rw [heapq_alloc, if_pos rfl])
                                have FF5 := Lib.hid (HF.out.below ((Below.refl _ _).alloc (Nat.le_refl _) (.cells #[.string ⟨#[105, 110, 115]⟩, .int .i64 100, .int .i64 xi, .int .i64 0] 25)))
                                have HI1 := Lib.hid hi1
                                have HM1 := Lib.hid hm1
                                have hk9 : m1 ≤ 1000 := by omega
                                have hms : Hid (m1 = k + i1) := by rw [Hid]; omega
                                clear hi1 hm1
                                go_wp2_with (at_builtin; refine stp ?_)
                                unfold Stp
                                refine wpList_append_fd _ rfl _ _ rfl (w5.heap.size + 2) Av cv mm m1 (fds T off k ++ fds2 T i) rfl FF5.out.fd wr.heap.size 1 [(insB, 100, xi, 0)] rfl rfl (by omega) HM1.out hk9 HRA.out FF5.out.sz ?_
                                intro g cap v6 hown6 hg6 _ _
                                rw [← HFS.out] at hown6
                                have F6 := Lib.hid (FF5.out.find hg6 hown6)
                                clear hown6 hg6 HRA FF5 HFS hc
                                go_wp2
                                go_roundw
                                case rel => exact ⟨i1, m1, some ⟨g, 0, none⟩, Aj2, cap, cj2, by have := HI1.out; omega, hms.out, by rw [← HI1.out]; go_num, rfl, F6.out⟩
                                case measure => simp [intOf]; omega
                              · have hik : k = i := by omega
                                subst hik
                                have EQ : openM ((fds T off k ++ fds2 T k).map fdF) (off - 1) = [] := by
                                  have h := open_mended (T := T) go1
                                  rw [HM.out] at h
                                  exact h
                                have OO := OpenOf_any wr wr.heap.size Av mm cv (fds T off k ++ fds2 T k) (off - 1) (by rw [List.length_append, fds_len, fds2_len]; omega) (rd_ownC HF.out.fd) (Nat.le_refl _) (by omega) (fun _ x hx => by
                                  rcases List.mem_append.1 hx with h | h
                                  · exact fds_size x h
                                  · exact fds2_size x h) 0 (openErr_found (by rw [List.length_append, fds_len, fds2_len]; omega) (fun x hx => by
                                  rcases List.mem_append.1 hx with h | h
                                  · exact fds_ok HT.out go1 go2 g6 x h
                                  · exact fds2_ok HT.out x h) go1 go2)
                                rw [openO_yes, EQ] at OO
                                clear EQ hmm
                                go_wp2_with (go_at_call 33; refine OO.mono ?_; rintro e v2 ⟨v, rfl, ⟨A4, c4, rfl, hA4⟩, hb2⟩; rw [List.length_nil])
                                go_ret
                                exact ⟨rfl, HX.out ▸ HB5.out.trans ((HF.out.hb.mono hsx5).trans (hb2.mono (by have := HF.out.sz; omega)))⟩
              · go_wp2_with (go_at_call 32; refine FE.mono ?_; rintro e w5 ⟨rfl, hb5⟩)
                go_ret
                exact ⟨rfl, HX.out ▸ HB4.out.trans (hb5.mono hsx4)⟩
      · have hz : (recM bm l != 0) = true := by simpa using g3
        generalize recM bm l = E3 at *
        clear g3
        go_wp2_with (go_at_call 29; refine RE.mono ?_; rintro e w2 ⟨rfl, hb2⟩)
        go_ret
        exact ⟨rfl, HX.out ▸ HB.out.trans (hb2.mono hsx)⟩
    · go_wp2_with fail
      go_ret
      exact ⟨rfl, HX.out ▸ HB.out⟩
  · go_wp2_with fail
    go_ret
    exact ⟨rfl, HX.out ▸ HB.out⟩
end Go.Proofs.YtlbgocgocanloaaGreatDoor
