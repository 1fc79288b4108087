/- The earliest right times, in a row of the call's own. -/
import Derived.Test.YtnnnpijepdjanaaGreatB14
namespace Go.Proofs.YtnnnpijepdjanaaGreat
open Go.RowKit

/-- the times, in a block that the call has made, or no times: a cycle -/
def EarlPostN (w : World) (ne : Nat) (r : Far × Bool) (e : Ending) (w' : World) : Prop :=
  ((r.2 = true ∧ e = .returned (.tuple #[.slice none 0 0, .int .i64 19])) ∨ (r.2 = false ∧ ∃ A c qs, r.1 = qs.map some ∧ qs.length = ne ∧ e = .returned (.tuple #[.slice A ne c, .int .i64 0]) ∧ Rd w' w'.heap.size A (intCells qs) ∧ ∀ b off, A = some ⟨b, off, none⟩ → w.heap.size ≤ b)) ∧ Below w.heap.size w w'
set_option maxRecDepth 100000 in
set_option maxHeartbeats 8000000 in
theorem Earliest_new (w : World) (B : Nat) (Ae Aa : Option Addr) (ne ce na ca : Nat) (evs : List ByteArray) (acts : List Act) (h : NetAt w B Ae Aa ne ce na evs acts) (hB : B ≤ w.heap.size) (hR : NetR evs acts)
    (At : Option Addr) (ct : Nat) (l : List Int) (hl : l.length = ne) (ht : Rd w B At (intCells l)) (hr : ∀ t ∈ l, 0 ≤ t ∧ t ≤ 10000000) (hle : (longM (waysM acts) ne (l.map some)).2 = false → ∀ i u, farAt (longM (waysM acts) ne (l.map some)).1 i = some u → u ≤ 10000000) :
    Calls Tryz.prog 16 #[netV Ae ne ce Aa na ca, .slice At ne ct] w (EarlPostN w ne (longM (waysM acts) ne (l.map some))) := by
  have hne1 : 1 ≤ ne := by rw [← h.le]; exact hR.e1
  have hne2 : ne ≤ 16 := by rw [← h.le]; exact hR.e2
  have hna1 : na ≤ 30 := by rw [← h.la]; exact hR.a1
  have hac : ∀ a ∈ acts, actR ne a := by rw [← h.le]; exact hR.ac
  obtain ⟨i1, hi1, hy0, hy1, hy2⟩ := info_parts info3
  have HFUL : Hid ((longM (waysM acts) ne (l.map some)).1.length = ne ∧ fullF ne (longM (waysM acts) ne (l.map some)).1) := by
    obtain ⟨t, _, hq, _⟩ := long_iter (ws := waysM acts) ne (l := l.map some) (q := (longM (waysM acts) ne (l.map some)).1) (b := (longM (waysM acts) ne (l.map some)).2) rfl
    rw [Hid, hq]
    exact ⟨by rw [iterF_len]; simpa using hl, full_iter (by simpa using hl) (ways_in hac) (full_map hl) t⟩
  have hbm : ∀ i u, farAt (l.map some) i = some u → -10000000 ≤ u ∧ u ≤ 10000000 := fun i u hu => by
    unfold farAt at hu
    rw [List.getElem?_map] at hu
    cases hx : l[i]? with
    | none =>
      rw [hx] at hu
      simp at hu
    | some y =>
      rw [hx] at hu
      simp at hu
      subst hu
      have := hr y (List.mem_of_getElem? hx)
      omega
  have hb0 : Below w.heap.size w (w.alloc (.cells #[.slice Ae ne ce, .slice Aa na ca] 25)) := (Below.refl _ _).alloc (Nat.le_refl _) _
  have k0 : (w.alloc (.cells #[.slice Ae ne ce, .slice Aa na ca] 25)).heap[w.heap.size]? = some (.cells #[.slice Ae ne ce, .slice Aa na ca] 25 (0, 0)) := by rw [heapq_alloc, if_pos rfl]
  have hN := h.below (hb0.mono hB)
  have ht0 := ht.below (hb0.mono hB)
  have hB0 := Nat.le_trans hB hb0.size
  have hs := hb0.size
  have HB := Lib.hid hb0
  obtain ⟨d0, d1⟩ := cells2 k0
  have OP := fun (W : World) (hW : NetAt W B Ae Aa ne ce na evs acts) (hBW : B ≤ W.heap.size) => open_right W B Ae Aa ne ce na ca evs acts hW hBW hR
  have TE := fun (W : World) (hW : Rd W B At (intCells l)) (hBW : B ≤ W.heap.size) => timesErr_right W B Ae ne ce Aa na ca At ct l (by omega) hl hW hBW hr
  have ST := fun (W : World) (hW : Rd W B At (intCells l)) (hBW : B ≤ W.heap.size) => starts_any W B At ne ct l hl (by omega) hW hBW
  have LG := fun (W : World) (hW : NetAt W B Ae Aa ne ce na evs acts) (hBW : B ≤ W.heap.size) (A2 : Option Addr) (c2 : Nat) (vs : List Value) (hv : LabsAt W 0 vs (l.map some)) (hrd : Rd W W.heap.size A2 vs) => longest_any W B Ae Aa ne ce na ca evs acts hW hBW (by omega) hac A2 c2 0 vs (l.map some) (by simpa using hl) hne1 hne2 hv hrd hbm
  unfold netV at OP ⊢
  unfold OpenPost at OP
  obtain ⟨r, hrr⟩ : ∃ r, longM (waysM acts) ne (l.map some) = r := ⟨_, rfl⟩
  rw [hrr] at LG HFUL hle ⊢
  have HLE := Lib.hid hle
  clear hb0 k0 h ht hrr hbm hl hr hle hac hR
  go_enter Tryz.func16, Tryz.ntmps16
  go_upto_region 1 with (fail)
  generalize (w.alloc (.cells #[.slice Ae ne ce, .slice Aa na ca] 25)) = w0 at *
  go_upto_region 2 with (go_at_call 27; refine (OP _ hN hB0).mono ?_; rintro e w1 ⟨rfl, hb1⟩; have hbA := hb1.trans ((Below.refl w1.heap.size w1).alloc (Nat.le_refl _) (.cells #[.slice Ae ne ce, .slice Aa na ca] 66) |>.mono hb1.size))
  have kN : (w1.alloc (.cells #[.slice Ae ne ce, .slice Aa na ca] 66)).heap[w1.heap.size]? = some (.cells #[.slice Ae ne ce, .slice Aa na ca] 66 (0, 0)) := by rw [heapq_alloc, if_pos rfl]
  replace hN := hN.below (hbA.mono hB0)
  replace ht0 := ht0.below (hbA.mono hB0)
  replace HB := Lib.hid (HB.out.trans (hbA.mono hs))
  replace hs := Nat.le_trans hs hbA.size
  replace hB0 := Nat.le_trans hB0 hbA.size
  clear hb1 hbA d0 d1
  generalize w1.alloc (.cells #[.slice Ae ne ce, .slice Aa na ca] 66) = w2 at *
  generalize w1.heap.size = y at *
  obtain ⟨d0, d1⟩ := cells2 kN
  have F2 := fun (W : World) a b => first2 W a b
  go_upto_region 5 with (first | (go_at_call 29; refine (TE _ ht0 hB0).mono ?_; rintro e w3 ⟨rfl, hb1⟩; clear TE) | (go_at_call 28; refine (F2 _ _ _).mono ?_; rintro e w4 ⟨rfl, rfl⟩; clear F2))
  have hbA := hb1.trans ((Below.refl w3.heap.size w3).alloc (Nat.le_refl _) (.cells #[.int .i64 0, .int .i64 0] 35) |>.mono hb1.size)
  replace d0 := kept hbA d0
  replace d1 := kept hbA d1
  replace hN := hN.below (hbA.mono hB0)
  replace ht0 := ht0.below (hbA.mono hB0)
  replace HB := Lib.hid (HB.out.trans (hbA.mono hs))
  replace hs := Nat.le_trans hs hbA.size
  replace hB0 := Nat.le_trans hB0 hbA.size
  clear hb1 hbA kN OP
  generalize w3.alloc (.cells #[.int .i64 0, .int .i64 0] 35) = w5 at *
  have x0 := fun x : Xt w5 => x.cell d0
  have x1 := fun x : Xt w5 => x.cell d1
  refine wp_region_eager [8] (fun w' => ∃ x : Xt w5, w' = x.1) (by kernel_rfl) ⟨⟨w5.drew, (Below.refl _ _).drew⟩, rfl⟩ ?_
  refine wpE_reads [0, 1] 7 rfl (by kernel_rfl) ?_
  simp only [opsAt_nil, opsAt_cons, consOpt_some, List.getElem?_toArray, List.getElem?_cons_zero, List.getElem?_cons_succ]
  repeat (go_big_quiet_step (fail))
  refine wpQuiet_nil ?_
  have hbd : Below w5.heap.size w5 w5.drew := (Below.refl _ _).drew
  show wpE _ _ _ _ _ _ _ _ _ w5.drew
  generalize w5.drew = wd at *
  refine wpE_one (i := 2) rfl (by kernel_rfl) rfl ?_
  unfold wpMid
  simp only [opsAt_nil, opsAt_cons, consOpt_some, List.getElem?_toArray, List.getElem?_cons_zero, List.getElem?_cons_succ]
  go_wp2_with (go_at_call 31; refine (ST wd (ht0.below (hbd.mono hB0)) (Nat.le_trans hB0 hbd.size)).mono ?_; rintro e w6 ⟨A2, c2, vs, rfl, hrd2, hlab2, hb6⟩)
  have hb7 := hbd.trans (hb6.mono hbd.size)
  refine onlyNormal_mk ⟨⟨⟨_, hb7⟩, rfl⟩, ?_⟩
  refine wpE_one (i := 3) rfl (by kernel_rfl) rfl ?_
  unfold wpMid
  simp only [opsAt_nil, opsAt_cons, consOpt_some, List.getElem?_toArray, List.getElem?_cons_zero, List.getElem?_cons_succ]
  go_wp2_with (go_at_call 30; refine (LG w6 (hN.below (hb7.mono hB0)) (Nat.le_trans hB0 hb7.size) A2 c2 vs hlab2 hrd2).mono ?_; rintro e w8 ⟨A3, c3, vs3, p, rfl, hrd3, hlab3, hp0, hp1, hb8⟩)
  have hb9 := hb7.trans (hb8.mono hb7.size)
  refine onlyNormal_mk ⟨⟨⟨_, hb9⟩, rfl⟩, ?_⟩
  refine wpE_reads [4, 5, 6, 7] 1 rfl (by kernel_rfl) ?_
  simp only [opsAt_nil, opsAt_cons, consOpt_some, List.getElem?_toArray, List.getElem?_cons_zero, List.getElem?_cons_succ]
  repeat (go_big_quiet_step (fail))
  refine wpQuiet_nil ?_
  refine wpE_tail rfl (by kernel_rfl) ?_
  simp only [opsAt_nil, opsAt_cons, consOpt_some, List.getElem?_toArray, List.getElem?_cons_zero, List.getElem?_cons_succ]
  go_wp2
  refine onlyNormal_mk ?_
  replace HB := Lib.hid (HB.out.trans (hb9.mono hs))
  replace hs := Nat.le_trans hs hb9.size
  clear hb9 hb8 hb7 hb6 hbd x0 x1 d0 d1 hN ht0 hlab2 hrd2 ST LG hB0
  cases hr2 : r.2 with
  | true =>
    obtain ⟨u, n, hl9⟩ := hp1 hr2
    obtain ⟨g, rfl, _⟩ := hl9.lt
    have HR2 := Lib.hid hr2
    clear hl9 hp0 hp1 hr2 hrd3 hlab3
    go_wp2
    go_ret2
    exact ⟨.inl ⟨HR2.out, rfl⟩, HB.out⟩
  | false =>
    obtain rfl := hp0 hr2
    obtain ⟨qs, hqs⟩ := full_list HFUL.out.1 HFUL.out.2
    have hql : qs.length = ne := by rw [← HFUL.out.1, hqs, List.length_map]
    have hqb : ∀ x ∈ qs, x ≤ 10000000 := fun x hx => by
      obtain ⟨i, hi⟩ := List.mem_iff_getElem?.1 hx
      refine HLE.out hr2 i x ?_
      rw [hqs]
      unfold farAt
      rw [List.getElem?_map, hi]
      rfl
    have HR2 := Lib.hid hr2
    have HQS := Lib.hid hqs
    have HQL := Lib.hid hql
    have HQB := Lib.hid hqb
    have HL3 := Lib.hid hlab3
    have HD3 := Lib.hid hrd3
    clear hr2 hqs hql hqb hlab3 hrd3 hp1
    go_wp2
    go_loopw [10, 38] (fun u10 u38 wr => ErRel w8 w8.heap.size ne qs u10 u38 wr) (fun _ u38 _ => ne - (intOf u38).toNat)
    case atStart => exact ⟨0, Nat.zero_le _, rfl, ⟨rfl, .inl ⟨rfl, rfl⟩⟩, Below.refl _ _⟩
    case round =>
      obtain ⟨k, hk, rfl, hown, hb⟩ := hrel
      have HOWN := Lib.hid hown
      obtain ⟨Au, cu, rfl⟩ := rowForm hown
      have HBW := Lib.hid hb
      have hsz := hb.size
      have hrd := (HD3.out.below hb)
      have hlab := HL3.out.kp (kpL_below hb)
      clear hb hown
      by_cases hlt : k < ne
      · obtain ⟨x, hx⟩ : ∃ x, qs[k]? = some x := ⟨_, List.getElem?_eq_getElem (by rw [HQL.out]; exact hlt)⟩
        obtain ⟨v, hv⟩ : ∃ v, vs3[k]? = some v := ⟨_, List.getElem?_eq_getElem (by rw [hlab.1, HFUL.out.1]; exact hlt)⟩
        obtain ⟨b, off, hA3, _, e1⟩ := hrd k v hv
        subst hA3
        obtain ⟨g, rfl, cur, hcur, hc0⟩ : ∃ g, v = .pointer (some ⟨g, 0, none⟩) ∧ ∃ cur : Array Value, wr.heap[g]? = some (.cells cur 83 (0, 0)) ∧ cur[0]? = some (.int .i64 x) := by
          rcases hlab.2 k v (some x) hv (by rw [HQS.out, List.getElem?_map, hx]; rfl) with ⟨_, h9⟩ | ⟨u', n', _, h9, h8⟩
          · cases h9
          · cases h9
            exact h8.cell
        have cl := (cell_of_row _ _ 0 _ _ _ hcur).trans hc0
        have hxb := HQB.out x (List.mem_of_getElem? hx)
        have HT : Hid (intCells (qs.take (k + 1)) = intCells (qs.take k) ++ [.int .i64 x]) := by
          rw [Hid, take_snoc hx, intCells, List.map_append]
          rfl
        have hba : Below wr.heap.size wr (wr.alloc (.cells #[.int .i64 x] 3)) := (Below.refl _ _).alloc (Nat.le_refl _) _
        clear hx hv hlab hrd hcur hc0
        go_wp2_with (at_builtin; refine stp ?_)
        unfold Stp
        refine wpList_append_lies _ rfl _ _ 26 rfl w8.heap.size 3 i1 _ 1 8 Tryz.underlying26 hi1 hy0 hy1 hy2 rfl (by omega) (.slice Au k cu) k (intCells (qs.take k)) rfl (HOWN.out.alloc _) ⟨wr.heap.size, 0, none⟩ 1 1 [.int .i64 x] rfl rfl (news1 (by simp)) (by simp [Value.oneCell']) (by omega) (by simp only [maxLen]; omega) (by omega) (by simp; omega) _ rfl ?_
        intro gg cap w9 hown1 hgrow hat hlt9
        have hb9 : Below w8.heap.size w8 w9 := (HBW.out.trans (hba.mono hsz)).grown hgrow (by have := hba.size; omega) (fun k hk => (ownBlk HOWN.out hk).1)
        have HOWN1 : Hid (w9.ownsRow w8.heap.size 3 1 (.slice (some ⟨gg, 0, none⟩) (k + 1) cap) (k + 1) (intCells (qs.take (k + 1)))) := by
          rw [Hid, HT.out]
          exact hown1
        have HB9 := Lib.hid hb9
        clear hown1 hgrow hat hlt9 hb9 cl e1
        go_wp2
        go_roundw
        case rel => exact ⟨k + 1, by omega, by go_num, HOWN1.out, HB9.out⟩
        case measure => simp [intOf]; omega
      · obtain rfl : k = ne := by omega
        have HF : Hid (qs.take k = qs) := by
          rw [Hid, ← HQL.out, List.take_length]
        clear hrd hlab
        go_wp2
        go_ret2
        refine ⟨.inr ⟨HR2.out, Au, cu, qs, HQS.out, HQL.out, rfl, ?_, ?_⟩, HB.out.trans (HBW.out.mono hs)⟩
        · have := rd_own HOWN.out
          rw [HF.out] at this
          exact this
        · intro b off hbo
          subst hbo
          rcases HOWN.out.2 with ⟨h9, _⟩ | ⟨r, cap, cur, h9, h8⟩
          · omega
          · have h7 := (ownBlk HOWN.out (by rw [h9]; rfl)).1
            simp only [Value.slice.injEq, Option.some.injEq, Addr.mk.injEq] at h9
            omega
end Go.Proofs.YtnnnpijepdjanaaGreat
