/- The labels, round by round, until nothing grows. -/
import Derived.Test.YtnnnpijepdjanaaGreatB9
import Derived.LaidEql
namespace Go.Proofs.YtnnnpijepdjanaaGreat
open Go.RowKit

/-- labels, and one that still grows or none -/
def LongPost (w : World) (ne d : Nat) (r : Far × Bool) (e : Ending) (w' : World) : Prop :=
  ∃ A c vs p, e = .returned (.tuple #[.slice A ne c, p]) ∧ Rd w' w'.heap.size A vs ∧ LabsAt w' (ne + d) vs r.1 ∧ (r.2 = false → p = .pointer none) ∧ (r.2 = true → ∃ u n, Lab w' p u n) ∧ Below w.heap.size w w'
def LoRel (w0 : World) (d : Nat) (ws : List Wy) (l : Far) (ne : Nat) (r : Far × Bool) (u1 u16 : Value) (wr : World) : Prop :=
  ∃ (k : Nat) (A : Option Addr) (c : Nat) (vs : List Value), k ≤ ne ∧ u16 = .int .i64 k ∧ u1 = .slice A ne c ∧ longM ws (ne - k) (iterF ws k l) = r ∧ Rd wr wr.heap.size A vs ∧ LabsAt wr (k + d) vs (iterF ws k l) ∧ Below w0.heap.size w0 wr
theorem eq80_same (d g : Nat) (W : World) : Sem.run Tryz.prog (Op.equalIn (d + 1) 74 (.pointer (some ⟨g, 0, none⟩)) (.pointer (some ⟨g, 0, none⟩))) W = .ok true W := by
  simp [Op.equalIn, run_underlying Tryz.underlying74]
  exact run_sameAddr_same W _
theorem eq80_other (d : Nat) {g1 g2 : Nat} {W : World} {ca cb : Array Value} (hne : g1 ≠ g2) (ha : W.heap[g1]? = some (.cells ca 83 (0, 0))) (hb : W.heap[g2]? = some (.cells cb 83 (0, 0))) :
    Sem.run Tryz.prog (Op.equalIn (d + 1) 74 (.pointer (some ⟨g1, 0, none⟩)) (.pointer (some ⟨g2, 0, none⟩))) W = .ok false W := by
  simp [Op.equalIn, run_underlying Tryz.underlying74]
  exact run_sameAddr_other W (fun e => hne (by cases e; rfl)) ha hb
theorem run_neq_same (g : Nat) (W : World) : Sem.run Tryz.prog (binOp BinOp.neq 74 (.pointer (some ⟨g, 0, none⟩)) (.pointer (some ⟨g, 0, none⟩))) W = .ok (.bool false) W := by
  have h : Sem.run Tryz.prog (Op.equalIn Op.maxDepth 74 (.pointer (some ⟨g, 0, none⟩)) (.pointer (some ⟨g, 0, none⟩))) W = .ok true W := eq80_same 9999 g W
  simp [go_sem, binOp, Op.equal, h]
theorem run_neq_other {g1 g2 : Nat} {W : World} {ca cb : Array Value} (hne : g1 ≠ g2) (ha : W.heap[g1]? = some (.cells ca 83 (0, 0))) (hb : W.heap[g2]? = some (.cells cb 83 (0, 0))) :
    Sem.run Tryz.prog (binOp BinOp.neq 74 (.pointer (some ⟨g1, 0, none⟩)) (.pointer (some ⟨g2, 0, none⟩))) W = .ok (.bool true) W := by
  have h : Sem.run Tryz.prog (Op.equalIn Op.maxDepth 74 (.pointer (some ⟨g1, 0, none⟩)) (.pointer (some ⟨g2, 0, none⟩))) W = .ok false W := eq80_other 9999 hne ha hb
  simp [go_sem, binOp, Op.equal, h]
theorem Lab.lt {w : World} {p : Value} {u : Int} {n : Nat} (h : Lab w p u n) : ∃ g, p = .pointer (some ⟨g, 0, none⟩) ∧ g < w.heap.size := by
  obtain ⟨g, e, cur, hc, _⟩ := h.cell
  exact ⟨g, e, (Array.getElem?_eq_some_iff.1 hc).1⟩
def L2Rel (w0 : World) (lk acc : Far) (ne : Nat) (u37 : Value) (wr : World) : Prop := ∃ i : Nat, i ≤ ne ∧ u37 = .int .i64 i ∧ (∀ j, j < i → acc[j]? = lk[j]?) ∧ Below w0.heap.size w0 wr
set_option maxRecDepth 100000 in
set_option maxHeartbeats 8000000 in
theorem longest_any (w : World) (B : Nat) (Ae Aa : Option Addr) (ne ce na ca : Nat) (evs : List ByteArray) (acts : List Act) (h : NetAt w B Ae Aa ne ce na evs acts) (hB : B ≤ w.heap.size) (hna : na ≤ 1000) (hR : ∀ a ∈ acts, actR ne a)
    (Al : Option Addr) (cl d : Nat) (vs : List Value) (l : Far) (hl : l.length = ne) (h1 : 1 ≤ ne) (h16 : ne ≤ 16) (hv : LabsAt w d vs l) (hrd : Rd w w.heap.size Al vs) (hbd : ∀ i u, farAt l i = some u → -10000000 ≤ u ∧ u ≤ 10000000) :
    Calls Tryz.prog 30 #[.agg #[.slice Ae ne ce, .slice Aa na ca], .slice Al ne cl] w (LongPost w ne d (longM (waysM acts) ne l)) := by
  obtain ⟨r, hr⟩ : ∃ r, longM (waysM acts) ne l = r := ⟨_, rfl⟩
  rw [hr]
  have hws : WaysIn ne (waysM acts) := ways_in hR
  have hwl := ways_len hR
  have hk2 : ∀ k i u, k ≤ ne → farAt (iterF (waysM acts) k l) i = some u → -100000000 ≤ u ∧ u ≤ 100000000 := fun k i u hk hu => by
    have a1 := iter_up (ws := waysM acts) (l := l) (M := 10000000) (C := 100000) (by rw [hl]; exact hws) (fun w hw => (hwl w hw).2) (by omega) (fun i u h => (hbd i u h).2) k i u hu
    have a2 := iter_down (ws := waysM acts) (l := l) (M := -10000000) (C := 100000) (by rw [hl]; exact hws) (fun w hw => (hwl w hw).1) (by omega) (fun i u h => (hbd i u h).1) k i u hu
    omega
  have hb0 : Below w.heap.size w (w.alloc (.cells #[.slice Ae ne ce, .slice Aa na ca] 66)) := (Below.refl _ _).alloc (Nat.le_refl _) _
  have k0 : (w.alloc (.cells #[.slice Ae ne ce, .slice Aa na ca] 66)).heap[w.heap.size]? = some (.cells #[.slice Ae ne ce, .slice Aa na ca] 66 (0, 0)) := by rw [heapq_alloc, if_pos rfl]
  have HREL : Hid (LoRel (w.alloc (.cells #[.slice Ae ne ce, .slice Aa na ca] 66)) d (waysM acts) l ne r (.slice Al ne cl) (.int .i64 0) (w.alloc (.cells #[.slice Ae ne ce, .slice Aa na ca] 66))) :=
    ⟨0, Al, cl, vs, Nat.zero_le _, rfl, rfl, hr, (hrd.below hb0).mono hb0.size, (hv.kp (kpL_below hb0)).mono (by omega), Below.refl _ _⟩
  have hN := h.below (hb0.mono hB)
  have hB0 := Nat.le_trans hB hb0.size
  have hs := hb0.size
  have HB := Lib.hid hb0
  obtain ⟨d0, d1⟩ := cells2 k0
  have HK2 := Lib.hid hk2
  have HBD := Lib.hid hbd
  have HHL := Lib.hid hl
  clear hb0 k0 h hv hrd hr hk2 hbd hl
  go_enter Tryz.func30, Tryz.ntmps30
  go_upto_region 1 with (fail)
  generalize (w.alloc (.cells #[.slice Ae ne ce, .slice Aa na ca] 66)) = w0 at *
  go_wp2
  go_loopw [1, 16] (fun u1 u16 wr => LoRel w0 d (waysM acts) l ne r u1 u16 wr) (fun _ u16 _ => ne - (intOf u16).toNat)
  case atStart => exact HREL.out
  case round =>
    clear HREL
    obtain ⟨k, A, c, vk, hk, rfl, rfl, hlong, hrd, hlab, hb⟩ := hrel
    have HLO := Lib.hid hlong
    have HLAB := Lib.hid hlab
    have HRD := Lib.hid hrd
    have HB0 := Lib.hid hb
    have hsz := hb.size
    replace d0 := kept hb d0
    replace d1 := kept hb d1
    have hN1 := hN.below (hb.mono hB0)
    have hB1 := Nat.le_trans hB0 hsz
    have hll : (iterF (waysM acts) k l).length = ne := by rw [iterF_len, HHL.out]
    have FA := farther_any wr B Ae Aa ne ce na ca evs acts hN1 hB1 hna hR A c (k + d) vk (iterF (waysM acts) k l) hll h1 h16 hlab hrd (fun i u hu => HK2.out k i u hk hu)
    unfold FartherPost at FA
    have hmf := more_false (ws := waysM acts) (l := iterF (waysM acts) k l) (by rw [hll]; exact hws)
    obtain ⟨mo, hmo⟩ : ∃ b, moreGo (iterF (waysM acts) k l) (iterF (waysM acts) k l) (waysM acts) = b := ⟨_, rfl⟩
    rw [hmo] at hmf FA
    have HMF := Lib.hid hmf
    clear hlong hlab hrd hb hmo hmf hll
    by_cases hlt : k < ne
    · obtain ⟨j, hj⟩ : ∃ j, ne - k = j + 1 := ⟨ne - k - 1, by omega⟩
      have HJ := Lib.hid hj
      clear hj
      cases mo with
      | false =>
        have HR2 : Hid (r = (iterF (waysM acts) k l, false)) := by
          rw [Hid, ← HLO.out, HJ.out, longM, if_pos (HMF.out.1 rfl)]
        go_wp2_with (go_at_call 54; refine FA.mono ?_; rintro e w2 ⟨A2, c2, vs2, rfl, hrd2, hlab2, hpd, hb2⟩)
        go_ret2
        refine ⟨A, c, vk, _, rfl, (HRD.out.below hb2).mono hb2.size, ?_, fun _ => rfl, (fun h9 => by rw [HR2.out] at h9; cases h9), HB.out.trans ((HB0.out.trans (hb2.mono hsz)).mono hs)⟩
        rw [HR2.out]
        exact (HLAB.out.kp (kpL_below hb2)).mono (by omega)
      | true =>
        have HR2 : Hid (longM (waysM acts) (ne - (k + 1)) (iterF (waysM acts) (k + 1) l) = r) := by
          rw [Hid, ← HLO.out, HJ.out, longM, if_neg (fun e => by have := HMF.out.2 e; cases this), show ne - (k + 1) = j by have := HJ.out; omega]
          rfl
        go_wp2_with (go_at_call 54; refine FA.mono ?_; rintro e w2 ⟨A2, c2, vs2, rfl, hrd2, hlab2, hpd, hb2⟩)
        go_roundw
        case rel => exact ⟨k + 1, A2, c2, vs2, by omega, by go_num, rfl, HR2.out, hrd2, hlab2.mono (by omega), HB0.out.trans (hb2.mono hsz)⟩
        case measure => simp [intOf]; omega
    · obtain rfl : k = ne := by omega
      obtain ⟨lk, hlk⟩ : ∃ q, iterF (waysM acts) k l = q := ⟨_, rfl⟩
      obtain ⟨acc, hacc⟩ : ∃ q, farM (waysM acts) lk = q := ⟨_, rfl⟩
      rw [hlk] at FA HLAB HLO
      rw [hacc] at FA
      have hlkl : lk.length = k := by rw [← hlk, iterF_len, HHL.out]
      have HR0 : Hid (r = (lk, acc != lk)) := by
        rw [Hid, ← HLO.out, Nat.sub_self, longM, hacc]
      have hal : acc.length = k := by rw [← hacc, farM_len, hlkl]
      clear hlk hacc HMF HLO
      go_wp2_with (go_at_call 54; refine FA.mono ?_; rintro e w2 ⟨A2, c2, vs2, rfl, hrd2, hlab2, hpd, hb2⟩)
      have HRD2 := Lib.hid hrd2
      have HLAB2 := Lib.hid hlab2
      have HPD := Lib.hid hpd
      clear hrd2 hlab2 hpd FA
      go_loopw [37] (fun u37 wr => L2Rel w2 lk acc k u37 wr) (fun u37 _ => k - (intOf u37).toNat)
      case atStart => exact ⟨0, Nat.zero_le _, rfl, fun j hj => by omega, Below.refl _ _⟩
      case round =>
        obtain ⟨i, hi, rfl, hj2, hb3⟩ := hrel
        have HJJ := Lib.hid hj2
        have HB3 := Lib.hid hb3
        clear hj2
        by_cases hlt2 : i < k
        · obtain ⟨v2, hv2⟩ : ∃ v, vs2[i]? = some v := ⟨_, List.getElem?_eq_getElem (by rw [HLAB2.out.1, hal]; exact hlt2)⟩
          obtain ⟨v1, hv1⟩ : ∃ v, vk[i]? = some v := ⟨_, List.getElem?_eq_getElem (by rw [HLAB.out.1, hlkl]; exact hlt2)⟩
          obtain ⟨o1, ho1⟩ : ∃ o, lk[i]? = some o := ⟨_, List.getElem?_eq_getElem (by rw [hlkl]; exact hlt2)⟩
          obtain ⟨b2, off2, hA2, _, e2⟩ := (HRD2.out.below hb3) i v2 hv2
          obtain ⟨b1, off1, hA1, _, e1⟩ := ((HRD.out.below hb2).mono hb2.size |>.below hb3) i v1 hv1
          subst hA2 hA1
          rcases HPD.out i v2 hv2 with ⟨hs1, hs2⟩ | ⟨⟨g2, rfl, hg2⟩, u, hacc, hu⟩
          · have hvv : v1 = v2 := Option.some.inj (hv1.symm.trans hs1)
            subst hvv
            have HJ2 : Hid (∀ j, j < i + 1 → acc[j]? = lk[j]?) := fun j hj => by
              rcases Nat.lt_or_ge j i with h9 | h9
              · exact HJJ.out j h9
              · rw [show j = i by omega]
                exact hs2
            have HO := HLAB.out.2 i v1 o1 hv1 ho1
            clear hs1 hs2 hv1 hv2
            rcases HO with ⟨rfl, rfl⟩ | ⟨u, n, _, rfl, hl1⟩
            · go_wp2
              go_roundw
              case rel => exact ⟨i + 1, by omega, by go_num, HJ2.out, HB3.out⟩
              case measure => simp [intOf]; omega
            · obtain ⟨g1, rfl, hg1⟩ := hl1.lt
              have qs := run_neq_same g1
              clear hl1
              go_wp2
              go_roundw
              case rel => exact ⟨i + 1, by omega, by go_num, HJ2.out, HB3.out⟩
              case measure => simp [intOf]; omega
          · have HU := Lib.hid hu
            obtain ⟨nv, hlabv⟩ : ∃ n, Lab wr (.pointer (some ⟨g2, 0, none⟩)) u n := by
              rcases (HLAB2.out.kp (kpL_below hb3)).2 i _ _ hv2 hacc with ⟨h9, _⟩ | ⟨u', n', _, h9, h8⟩
              · cases h9
              · cases h9
                exact ⟨n', h8⟩
            have HO := HLAB.out.2 i v1 o1 hv1 ho1
            clear hu hv2 hv1
            rcases HO with ⟨rfl, rfl⟩ | ⟨u1, n1, _, rfl, hl1⟩
            · have HF := Lib.hid hlabv
              have HB9 := Lib.hid (HB.out.trans ((HB0.out.trans ((hb2.trans (hb3.mono hb2.size)).mono hsz)).mono hs))
              have HRD9 := Lib.hid (((HRD.out.below hb2).mono hb2.size).below hb3 |>.mono hb3.size)
              go_wp2
              go_ret2
              refine ⟨_, c, vk, _, rfl, HRD9.out, ?_, fun h9 => ?_, fun _ => ⟨u, nv, HF.out⟩, HB9.out⟩
              · rw [HR0.out]
                exact (HLAB.out.kp (kpL_below hb2)).kp (kpL_below hb3)
              · rw [HR0.out] at h9
                simp only [bne_eq_false_iff_eq] at h9
                have h8 := HU.out
                rw [h9] at hacc
                have := h8 u hacc
                omega
            · obtain ⟨_, hlabe, curl, hcurl, _⟩ := hlabv.cell
              cases hlabe
              obtain ⟨g1, rfl, curk, hcurk, _⟩ := hl1.cell
              have hg1 := (Array.getElem?_eq_some_iff.1 hcurk).1
              have qs := run_neq_other (W := wr) (show g2 ≠ g1 by omega) hcurl (blk hb3 (blk hb2 hcurk))
              clear hl1 hcurl hcurk
              have HF := Lib.hid hlabv
              have HB9 := Lib.hid (HB.out.trans ((HB0.out.trans ((hb2.trans (hb3.mono hb2.size)).mono hsz)).mono hs))
              have HRD9 := Lib.hid (((HRD.out.below hb2).mono hb2.size).below hb3 |>.mono hb3.size)
              go_wp2
              go_ret2
              refine ⟨_, c, vk, _, rfl, HRD9.out, ?_, fun h9 => ?_, fun _ => ⟨u, nv, HF.out⟩, HB9.out⟩
              · rw [HR0.out]
                exact (HLAB.out.kp (kpL_below hb2)).kp (kpL_below hb3)
              · rw [HR0.out] at h9
                simp only [bne_eq_false_iff_eq] at h9
                have h8 := HU.out
                rw [h9] at hacc
                have := h8 u hacc
                omega
        · have hke : i = k := by omega
          have hae : acc = lk := List.ext_getElem? fun j => by
            rcases Nat.lt_or_ge j i with h9 | h9
            · exact HJJ.out j h9
            · rw [List.getElem?_eq_none (by omega), List.getElem?_eq_none (by omega)]
          have HR1 : Hid (r = (lk, false)) := by
            rw [Hid, HR0.out, hae]
            simp
          have HB9 := Lib.hid (HB.out.trans ((HB0.out.trans ((hb2.trans (hb3.mono hb2.size)).mono hsz)).mono hs))
          have HRD9 := Lib.hid (((HRD.out.below hb2).mono hb2.size).below hb3 |>.mono hb3.size)
          clear hae hke
          go_wp2
          go_ret2
          refine ⟨_, c, vk, _, rfl, HRD9.out, ?_, fun _ => rfl, (fun h9 => by rw [HR1.out] at h9; cases h9), HB9.out⟩
          rw [HR1.out]
          exact (HLAB.out.kp (kpL_below hb2)).kp (kpL_below hb3)
end Go.Proofs.YtnnnpijepdjanaaGreat
