/- All get out: the walk: the guards, and the time of the fullest car. -/
import Derived.Test.YtlbgocgocanloaaGreatDoorf4G1
import Derived.Test.YtlbgocgocanloaaGreatDoorf4G9
import Derived.Test.YtlbgocgocanloaaGreatDoorf4T8
import Derived.Deep.CutRange
namespace Go.Proofs.YtlbgocgocanloaaGreatDoor
open Go.RowKit
/-- what the law's own blocks and its arguments hold, in every world behind the entry -/
structure Cx (W : World) (x : Nat) (D T S b dd : Int) (A1 A2 : Option Addr) (n2 c2 : Nat) (l : List Ev) (pp : List Int) : Prop where
  txt : TxtAt W
  r : W.heap[x]? = some (.cells #[.int .i64 D, .int .i64 T, .int .i64 S] 40 (0, 0))
  c : W.heap[x + 1]? = some (.cells #[.slice A2 n2 c2, .int .i64 b, .int .i64 dd] 46 (0, 0))
  ev : Rd W x A1 (evCells l)
  pe : Rd W x A2 (intCells pp)
theorem Cx.lt {W : World} {x n2 c2 : Nat} {D T S b dd : Int} {A1 A2 : Option Addr} {l : List Ev} {pp : List Int} (h : Cx W x D T S b dd A1 A2 n2 c2 l pp) : x + 2 ≤ W.heap.size := lt_of_block h.c
theorem Cx.below {W W' : World} {x n2 c2 : Nat} {D T S b dd : Int} {A1 A2 : Option Addr} {l : List Ev} {pp : List Int} (h : Cx W x D T S b dd A1 A2 n2 c2 l pp) (hb : Below W.heap.size W W') : Cx W' x D T S b dd A1 A2 n2 c2 l pp := by
  have := h.lt
  exact ⟨h.txt.below hb, (hb.block x (by omega)).trans h.r, (hb.block (x + 1) (by omega)).trans h.c, h.ev.below (hb.mono (by omega)), h.pe.below (hb.mono (by omega))⟩
theorem Cx.cells {W : World} {x n2 c2 : Nat} {D T S b dd : Int} {A1 A2 : Option Addr} {l : List Ev} {pp : List Int} (h : Cx W x D T S b dd A1 A2 n2 c2 l pp) :
    (W.cell? ⟨x, 0, none⟩ = some (.int .i64 D) ∧ W.cell? ⟨x, 1, none⟩ = some (.int .i64 T) ∧ W.cell? ⟨x, 2, none⟩ = some (.int .i64 S)) ∧
    W.cell? ⟨x + 1, 0, none⟩ = some (.slice A2 n2 c2) ∧ W.cell? ⟨x + 1, 1, none⟩ = some (.int .i64 b) ∧ W.cell? ⟨x + 1, 2, none⟩ = some (.int .i64 dd) := ⟨cells3w h.r, cells3w h.c⟩
/-- the time of the fullest car of some -/
def mostI (dd : Int) : List Int → Int
  | [] => 0
  | x :: l => max (ceilI x dd) (mostI dd l)
theorem mostI_nonneg (dd : Int) : ∀ l, 0 ≤ mostI dd l
  | [] => Int.le_refl _
  | x :: l => by
    have := mostI_nonneg dd l
    simp only [mostI]
    omega
theorem mostI_le (dd : Int) (hd : 1 ≤ dd) : ∀ (l : List Int), ∀ x ∈ l, x ≤ dd * mostI dd l
  | [], x, h => by simp at h
  | y :: l, x, h => by
    have ih := mostI_le dd hd l x
    simp only [mostI]
    rcases List.mem_cons.1 h with rfl | h
    · exact Int.le_trans (ceilI_ge x dd hd) (Int.mul_le_mul_of_nonneg_left (by omega) (by omega))
    · exact Int.le_trans (ih h) (Int.mul_le_mul_of_nonneg_left (by omega) (by omega))
theorem ceilI_le (a d : Int) (h0 : 0 ≤ a) (h1 : a ≤ 1000000) (_hd : 1 ≤ d) : ceilI a d ≤ 1000001 := by
  have q2 : a / d ≤ a := Int.ediv_le_self _ h0
  unfold ceilI
  split <;> omega
def MostRel (w0 : World) (dd : Int) (pp : List Int) (u7 u8 : Value) (wr : World) : Prop :=
  ∃ (k : Nat) (m : Int), k ≤ pp.length ∧ u8 = .int .i64 k ∧ u7 = .int .i64 m ∧ 0 ≤ m ∧ m ≤ 1000001 ∧ max m (mostI dd (pp.drop k)) = mostI dd pp ∧ (∀ x ∈ pp.take k, 0 ≤ x ∧ x ≤ 200) ∧ Below w0.heap.size w0 wr
def ToldRel (w0 : World) (l : List Ev) (n : Nat) (u12 u13 : Value) (wr : World) : Prop :=
  ∃ (k m : Nat) (Au : Option Addr) (cu : Nat), k ≤ n ∧ u13 = .int .i64 k ∧ u12 = .slice Au m cu ∧ (toldM (l.take k)).length = m ∧ wr.ownsRow w0.heap.size 23 3 (.slice Au m cu) m (evCells (toldM (l.take k))) ∧ Below w0.heap.size w0 wr
set_option maxRecDepth 100000 in
set_option maxHeartbeats 8000000 in
theorem AllOut_all (D T S b dd : Int) (A1 A2 : Option Addr) (n1 c1 n2 c2 : Nat) (l : List Ev) (pp : List Int) (w : World) (ht : TxtAt w) (hl : l.length = n1) (hp : pp.length = n2) (h1 : Rd w w.heap.size A1 (evCells l)) (h2 : Rd w w.heap.size A2 (intCells pp)) (hI : ∀ x ∈ l, I64 x.1 ∧ I64 x.2.1 ∧ I64 x.2.2) (hn1 : n1 ≤ 9223372036854775807) (hn2 : n2 ≤ 9223372036854775807) :
    Calls Tryz.prog 4 #[.agg #[.int .i64 D, .int .i64 T, .int .i64 S], .slice A1 n1 c1, .agg #[.slice A2 n2 c2, .int .i64 b, .int .i64 dd]] w (AwakePost w) := by
  have hb0 : Below w.heap.size w ((w.alloc (.cells #[.int .i64 D, .int .i64 T, .int .i64 S] 40)).alloc (.cells #[.slice A2 n2 c2, .int .i64 b, .int .i64 dd] 46)) := ((Below.refl _ _).alloc (Nat.le_refl _) _).alloc (by simp) _
  have k0 : ((w.alloc (.cells #[.int .i64 D, .int .i64 T, .int .i64 S] 40)).alloc (.cells #[.slice A2 n2 c2, .int .i64 b, .int .i64 dd] 46)).heap[w.heap.size]? = some (.cells #[.int .i64 D, .int .i64 T, .int .i64 S] 40 (0, 0)) := by
    rw [heapq_alloc, if_neg (by simp), heapq_alloc, if_pos rfl]
  have k1 : ((w.alloc (.cells #[.int .i64 D, .int .i64 T, .int .i64 S] 40)).alloc (.cells #[.slice A2 n2 c2, .int .i64 b, .int .i64 dd] 46)).heap[w.heap.size + 1]? = some (.cells #[.slice A2 n2 c2, .int .i64 b, .int .i64 dd] 46 (0, 0)) := by
    rw [heapq_alloc, if_pos (by simp)]
  have C0 : Cx ((w.alloc (.cells #[.int .i64 D, .int .i64 T, .int .i64 S] 40)).alloc (.cells #[.slice A2 n2 c2, .int .i64 b, .int .i64 dd] 46)) w.heap.size D T S b dd A1 A2 n2 c2 l pp := ⟨ht.below hb0, k0, k1, h1.below hb0, h2.below hb0⟩
  have hsx0 : w.heap.size ≤ ((w.alloc (.cells #[.int .i64 D, .int .i64 T, .int .i64 S] 40)).alloc (.cells #[.slice A2 n2 c2, .int .i64 b, .int .i64 dd] 46)).heap.size := by simp; omega
  have HI := Lib.hid hI
  clear ht h1 h2 k0 k1 hI
  have HB0 := Lib.hid hb0
  clear hb0
  go_enter Tryz.func4, Tryz.ntmps4
  go_upto_region 1 with (fail)
  generalize ((w.alloc (.cells #[.int .i64 D, .int .i64 T, .int .i64 S] 40)).alloc (.cells #[.slice A2 n2 c2, .int .i64 b, .int .i64 dd] 46)) = w0 at *
  generalize hx : w.heap.size = x at *
  have HX := Lib.hid hx
  clear hx
  go_wp2_with fail
  refine (careAwake_any w0 C0.txt.kinds).mono ?_
  rintro e w1 ⟨rfl, hb1⟩
  have C := Lib.hid (C0.below hb1)
  have HB := Lib.hid (HB0.out.trans (hb1.mono hsx0))
  have hsx := Nat.le_trans hsx0 hb1.size
  clear C0 HB0 hb1 hsx0
  have DN := fun W => DoorsErr_any D T S W
  obtain ⟨⟨d0, d1, d2⟩, e0, e1, e2⟩ := C.out.cells
  by_cases g1 : doorsE D T S = 0
  · rw [g1] at DN
    cases g2 : withinB D 1 4
    · go_wp2_with (first | (go_at_call 18; refine (DN _).mono ?_; rintro e w2 ⟨rfl, hb2⟩; have CC := C.out.below hb2; have hb := HB.out.trans (hb2.mono hsx); obtain ⟨⟨d0, d1, d2⟩, e0, e1, e2⟩ := CC.cells) | (go_at_call_of 19 (Value.int .i64 (D : Int)); refine (Within_val D 1 4 _ g2 _).mono ?_; rintro e w' ⟨rfl, rfl⟩))
      go_ret
      exact ⟨rfl, HX.out ▸ hb⟩
    · by_cases g3 : n1 ≤ 12
      · by_cases g4 : (n2 : Int) = D
        · subst g4
          cases g5 : withinB b 1 50
          · go_wp2_with (first | (go_at_call 18; refine (DN _).mono ?_; rintro e w2 ⟨rfl, hb2⟩; have CC := C.out.below hb2; have hb := HB.out.trans (hb2.mono hsx); obtain ⟨⟨d0, d1, d2⟩, e0, e1, e2⟩ := CC.cells) | (go_at_call_of 19 (Value.int .i64 (n2 : Int)); refine (Within_val n2 1 4 _ g2 _).mono ?_; rintro e w' ⟨rfl, rfl⟩) | (go_at_call_of 19 (Value.int .i64 (b : Int)); refine (Within_val b 1 50 _ g5 _).mono ?_; rintro e w' ⟨rfl, rfl⟩))
            go_ret
            exact ⟨rfl, HX.out ▸ hb⟩
          · cases g6 : withinB dd 1 50
            · go_wp2_with (first | (go_at_call 18; refine (DN _).mono ?_; rintro e w2 ⟨rfl, hb2⟩; have CC := C.out.below hb2; have hb := HB.out.trans (hb2.mono hsx); obtain ⟨⟨d0, d1, d2⟩, e0, e1, e2⟩ := CC.cells) | (go_at_call_of 19 (Value.int .i64 (n2 : Int)); refine (Within_val n2 1 4 _ g2 _).mono ?_; rintro e w' ⟨rfl, rfl⟩) | (go_at_call_of 19 (Value.int .i64 (b : Int)); refine (Within_val b 1 50 _ g5 _).mono ?_; rintro e w' ⟨rfl, rfl⟩) | (go_at_call_of 19 (Value.int .i64 (dd : Int)); refine (Within_val dd 1 50 _ g6 _).mono ?_; rintro e w' ⟨rfl, rfl⟩))
              go_ret
              exact ⟨rfl, HX.out ▸ hb⟩
            · obtain ⟨gd1, gd2⟩ : 1 ≤ (n2 : Int) ∧ (n2 : Int) ≤ 4 := by simpa [withinB] using g2
              obtain ⟨gb1, gb2⟩ : 1 ≤ b ∧ b ≤ 50 := by simpa [withinB] using g5
              obtain ⟨gc1, gc2⟩ : 1 ≤ dd ∧ dd ≤ 50 := by simpa [withinB] using g6
              go_upto_region 5 with (first | (go_at_call 18; refine (DN _).mono ?_; rintro e w2 ⟨rfl, hb2⟩; have CC := C.out.below hb2; have hb := HB.out.trans (hb2.mono hsx); obtain ⟨⟨d0, d1, d2⟩, e0, e1, e2⟩ := CC.cells) | (go_at_call_of 19 (Value.int .i64 (n2 : Int)); refine (Within_val n2 1 4 _ g2 _).mono ?_; rintro e w' ⟨rfl, rfl⟩) | (go_at_call_of 19 (Value.int .i64 (b : Int)); refine (Within_val b 1 50 _ g5 _).mono ?_; rintro e w' ⟨rfl, rfl⟩) | (go_at_call_of 19 (Value.int .i64 (dd : Int)); refine (Within_val dd 1 50 _ g6 _).mono ?_; rintro e w' ⟨rfl, rfl⟩))
              have C2 := Lib.hid CC
              have HB2 := Lib.hid hb
              have hs2 := Nat.le_trans hsx hb2.size
              have HP := Lib.hid hp
              have HL := Lib.hid hl
              clear DN CC hb hb2 d0 d1 d2 e0 e1 e2 C HB hsx hp hl g2 g5 g6
              have REL : MostRel w2 dd pp (.int .i64 0) (.int .i64 0) w2 := ⟨0, 0, Nat.zero_le _, rfl, rfl, Int.le_refl _, by omega, by rw [List.drop_zero]; have := mostI_nonneg dd pp; omega, fun x hx => by simp at hx, Below.refl _ _⟩
              go_wp2
              go_loopw [7, 8] (fun u7 u8 wr => MostRel w2 dd pp u7 u8 wr) (fun _ u8 _ => n2 - (intOf u8).toNat)
              case atStart => exact REL
              case round =>
                clear REL
                obtain ⟨k, m, hk, rfl, rfl, hm0, hm1, he, hin, hb⟩ := hrel
                have CW := Lib.hid (C2.out.below hb)
                have HBW := Lib.hid hb
                have hsW := Nat.le_trans hs2 hb.size
                rw [HP.out] at hk
                have HE := Lib.hid he
                have HIN := Lib.hid hin
                clear hb he hin
                obtain ⟨⟨d0, d1, d2⟩, e0, e1, e2⟩ := CW.out.cells
                by_cases hlt : k < n2
                · have hkp : k < pp.length := by rw [HP.out]; exact hlt
                  obtain ⟨bb, off, hA, _, hc⟩ := CW.out.pe.at_ (k := k) (u := .int .i64 (pp[k]?.getD 0)) (intCells_at pp k hkp)
                  have HD := Lib.hid (drop_at pp 0 k hkp)
                  have HT : Hid (pp.take (k + 1) = pp.take k ++ [pp[k]?.getD 0]) := by
                    rw [Hid, List.take_add_one, List.getElem?_eq_getElem hkp]
                    rfl
                  subst hA
                  generalize pp[k]?.getD 0 = y at *
                  clear hkp
                  cases gy : withinB y 0 200
                  · go_wp2_with (go_at_call_of 19 (Value.int .i64 (y : Int)); refine (Within_val y 0 200 _ gy _).mono ?_; rintro e w' ⟨rfl, rfl⟩)
                    go_ret
                    exact ⟨rfl, HX.out ▸ HB2.out.trans (HBW.out.mono hs2)⟩
                  · obtain ⟨y1, y2⟩ : 0 ≤ y ∧ y ≤ 200 := by simpa [withinB] using gy
                    have CE := fun W => Ceil_any y dd y1 (by omega) (by omega) (by omega) W
                    have q1 := ceilI_nonneg y dd y1 gc1
                    have q2 : ceilI y dd ≤ 1000001 := ceilI_le y dd y1 (by omega) gc1
                    have HM : Hid (max (max m (ceilI y dd)) (mostI dd (pp.drop (k + 1))) = mostI dd pp) := by
                      rw [Hid, ← HE.out, HD.out, mostI]
                      omega
                    generalize ceilI y dd = q at *
                    go_upto_region 11 with (go_at_call_of 19 (Value.int .i64 (y : Int)); refine (Within_val y 0 200 _ gy _).mono ?_; rintro e w' ⟨rfl, rfl⟩)
                    have x0 := fun z : Xt wr => z.cell e0
                    have x1 := fun z : Xt wr => z.cell e2
                    have x2 := fun z : Xt wr => z.cell hc
                    clear d0 d1 d2 e0 e1 e2 hc
                    refine wp_region_mid [] [0, 1, 2, 3, 4, 5, 6, 7] 1 [9, 10] (fun w' => ∃ z : Xt wr, w' = z.1) (by as_aux_lemma => kernel_rfl) (by as_aux_lemma => kernel_rfl) ⟨⟨wr.drew, (Below.refl _ _).drew⟩, rfl⟩ ?_
                    simp only [opsAt_nil, opsAt_cons, consOpt_some, List.getElem?_toArray, List.getElem?_cons_zero, List.getElem?_cons_succ]
                    refine wpQuiet_nil ?_
                    show wpQuiet _ _ _ _ _ _
                    repeat (go_big_quiet_step (fail))
                    refine wpQuiet_nil ?_
                    have hbd : Below wr.heap.size wr wr.drew := (Below.refl _ _).drew
                    show wpOrders _ _ _ _ _ _ _ _ wr.drew
                    generalize wr.drew = wd at *
                    clear x0 x1 x2
                    refine wpOrders_one (i := 8) (by as_aux_lemma => kernel_rfl) ?_
                    unfold wpMid
                    simp only [opsAt_nil, opsAt_cons, consOpt_some, List.getElem?_toArray, List.getElem?_cons_zero, List.getElem?_cons_succ]
                    go_wp2_with (go_at_call 20; refine (CE _).mono ?_; rintro e w' ⟨rfl, rfl⟩)
                    refine onlyNormal_mk ⟨⟨⟨_, hbd⟩, rfl⟩, ?_⟩
                    refine wpOrders_zero ?_
                    go_wp2
                    refine onlyNormal_mk ?_
                    go_wp2
                    go_roundw
                    case rel =>
                      have hIN : ∀ z ∈ pp.take (k + 1), 0 ≤ z ∧ z ≤ 200 := by
                        intro z hz
                        rw [HT.out] at hz
                        rcases List.mem_append.1 hz with hz | hz
                        · exact HIN.out z hz
                        · obtain rfl := List.mem_singleton.1 hz
                          exact ⟨y1, y2⟩
                      exact ⟨k + 1, max m q, by rw [HP.out]; omega, by go_num, rfl, by omega, by omega, HM.out, hIN, HBW.out.trans (hbd.mono HBW.out.size)⟩
                    case measure => simp [intOf]; omega
                · have hkn : k = n2 := by omega
                  have hm : m = mostI dd pp := by
                    have h := HE.out
                    rw [show pp.drop k = [] from List.drop_eq_nil_of_le (by rw [HP.out]; omega), mostI] at h
                    omega
                  have hin : ∀ x ∈ pp, 0 ≤ x ∧ x ≤ 200 := by
                    have h := HIN.out
                    rw [List.take_of_length_le (by rw [HP.out]; omega)] at h
                    exact h
                  have CO : Hid (CarsOk pp b dd) := ⟨by rw [HP.out]; omega, by rw [HP.out]; omega, hin, gb1, gb2, gc1, gc2⟩
                  have HM := Lib.hid hm
                  clear hm hin HE HIN hkn
                  by_cases hm8 : 8 < m
                  · go_wp2
                    go_ret
                    exact ⟨rfl, HX.out ▸ HB2.out.trans (HBW.out.mono hs2)⟩
                  · obtain ⟨s, i, err, hC, hR⟩ := rep_one g1 HL.out (by omega)
                    have hev := CW.out.ev.mono hsW
                    have HR := Lib.hid hR
                    clear hR
                    go_upto_region 14 with (fail)
                    clear e0 e1 e2
                    go_cut [9, 10, 11] from 24 (fun s9 s10 s11 wc => CutR wr s i err s9 s10 s11 wc)
                    case first =>
                      have x0 := fun x : Xt wr => x.cell d0
                      have x1 := fun x : Xt wr => x.cell d1
                      have x2 := fun x : Xt wr => x.cell d2
                      refine wp_region_eager [13] (fun w' => ∃ x : Xt wr, w' = x.1) (by as_aux_lemma => kernel_rfl) ⟨⟨wr.drew, (Below.refl _ _).drew⟩, rfl⟩ ?_
                      refine wpE_reads [0, 1, 2, 3] 10 rfl (by as_aux_lemma => kernel_rfl) ?_
                      simp only [opsAt_nil, opsAt_cons, consOpt_some, List.getElem?_toArray, List.getElem?_cons_zero, List.getElem?_cons_succ]
                      repeat (go_big_quiet_step (fail))
                      refine wpQuiet_nil ?_
                      have hb4 : Below wr.heap.size wr wr.drew := (Below.refl _ _).drew
                      show wpE _ _ _ _ _ _ _ _ _ wr.drew
                      generalize wr.drew = v2 at *
                      refine wpE_two (i := 4) (k := 10) rfl (by as_aux_lemma => kernel_rfl) rfl rfl ?_ ?_
                      · unfold wpMid
                        simp only [opsAt_nil, opsAt_cons, consOpt_some, List.getElem?_toArray, List.getElem?_cons_zero, List.getElem?_cons_succ]
                        go_wp2_with (go_at_call 22; refine (CopyEvents_any v2 wr.heap.size A1 n1 c1 l HL.out (by omega) (hev.below hb4) hb4.size).mono ?_; rintro e v3 ⟨A', c', rfl, hA, hb3⟩)
                        have hb13 : Below wr.heap.size wr v3 := hb4.trans (hb3.mono hb4.size)
                        refine onlyNormal_mk ⟨⟨⟨_, hb13⟩, rfl⟩, ?_⟩
                        refine wpE_two (i := 5) (k := 10) rfl (by as_aux_lemma => kernel_rfl) rfl rfl ?_ ?_
                        · unfold wpMid
                          simp only [opsAt_nil, opsAt_cons, consOpt_some, List.getElem?_toArray, List.getElem?_cons_zero, List.getElem?_cons_succ]
                          go_wp2_with (go_at_call 21; refine (hC v3 A' c' (CW.out.txt.kinds.below hb13) hA).mono ?_; rintro e v4 ⟨Ag, Ad, ng, nd, cg, cd, rfl, hst, _, _, hb34⟩; simp only [stV])
                          have hb14 : Below wr.heap.size wr v4 := hb13.trans (hb34.mono hb13.size)
                          refine onlyNormal_mk ⟨⟨⟨_, hb14⟩, rfl⟩, ?_⟩
                          refine wpE_reads [6, 7, 8, 9] 4 rfl (by as_aux_lemma => kernel_rfl) ?_
                          simp only [opsAt_nil, opsAt_cons, consOpt_some, List.getElem?_toArray, List.getElem?_cons_zero, List.getElem?_cons_succ]
                          repeat (go_big_quiet_step (fail))
                          refine wpQuiet_nil ?_
                          refine wpE_one (i := 10) rfl (by as_aux_lemma => kernel_rfl) rfl ?_
                          unfold wpMid
                          simp only [opsAt_nil, opsAt_cons, consOpt_some, List.getElem?_toArray, List.getElem?_cons_zero, List.getElem?_cons_succ]
                          go_wp2
                          have ky : (v4.alloc (.cells #[.bool false, .bool false, .int .i64 0, .slice none 0 0, .slice none 0 0] 52)).heap[v4.heap.size]? = some (.cells #[.bool false, .bool false, .int .i64 0, .slice none 0 0, .slice none 0 0] 52 (0, 0)) := by rw [heapq_alloc, if_pos rfl]
                          have hbY := hb14.alloc hb14.size (.cells #[.bool false, .bool false, .int .i64 0, .slice none 0 0, .slice none 0 0] 52)
                          have hstY := hst.below ((Below.refl _ _).alloc (Nat.le_refl _) (.cells #[.bool false, .bool false, .int .i64 0, .slice none 0 0, .slice none 0 0] 52))
                          have hyl := hb14.size
                          generalize v4.alloc (.cells #[.bool false, .bool false, .int .i64 0, .slice none 0 0, .slice none 0 0] 52) = v5 at *
                          generalize v4.heap.size = y at *
                          refine onlyNormal_mk ⟨⟨⟨_, hbY⟩, rfl⟩, ?_⟩
                          obtain ⟨t0, t1, t2, t3, t4, q0, q1, q2, q3, q4⟩ := res5 ky
                          refine wpE_one (i := 11) rfl (by as_aux_lemma => kernel_rfl) rfl ?_
                          unfold wpMid
                          simp only [opsAt_nil, opsAt_cons, consOpt_some, List.getElem?_toArray, List.getElem?_cons_zero, List.getElem?_cons_succ]
                          go_wp2
                          have hbP : ∀ a0 a1 a2 a3 a4, Below wr.heap.size wr (((((v5.setCell ⟨y, 0, none⟩ a0).setCell ⟨y, 1, none⟩ a1).setCell ⟨y, 2, none⟩ a2).setCell ⟨y, 3, none⟩ a3).setCell ⟨y, 4, none⟩ a4) := fun a0 a1 a2 a3 a4 =>
                            ((((hbY.setCell (p := ⟨y, 0, none⟩) hyl _).setCell (p := ⟨y, 1, none⟩) hyl _).setCell (p := ⟨y, 2, none⟩) hyl _).setCell (p := ⟨y, 3, none⟩) hyl _).setCell (p := ⟨y, 4, none⟩) hyl _
                          refine onlyNormal_mk ⟨⟨⟨_, hbP _ _ _ _ _⟩, rfl⟩, ?_⟩
                          refine wpE_one (i := 12) rfl (by as_aux_lemma => kernel_rfl) rfl ?_
                          unfold wpMid
                          simp only [opsAt_nil, opsAt_cons, consOpt_some, List.getElem?_toArray, List.getElem?_cons_zero, List.getElem?_cons_succ]
                          go_wp2
                          refine onlyNormal_mk ⟨⟨⟨_, hbP _ _ _ _ _⟩, rfl⟩, ?_⟩
                          refine wpE_tail rfl (by as_aux_lemma => kernel_rfl) ?_
                          simp only [opsAt_nil, opsAt_cons, consOpt_some, List.getElem?_toArray, List.getElem?_cons_zero, List.getElem?_cons_succ]
                          go_wp2
                          refine onlyNormal_mk ?_
                          go_wp2_with fail
                          go_meet
                          exact cutR_mk hbY hyl ky hstY (Nat.le_of_lt (lt_of_block ky)) (.inl (Nat.le_refl _))
                        · unfold wpMid
                          simp only [opsAt_nil, opsAt_cons, consOpt_some, List.getElem?_toArray, List.getElem?_cons_zero, List.getElem?_cons_succ]
                          go_wp2
                          have ky0 : (v3.alloc (.cells #[.bool false, .bool false, .int .i64 0, .slice none 0 0, .slice none 0 0] 52)).heap[v3.heap.size]? = some (.cells #[.bool false, .bool false, .int .i64 0, .slice none 0 0, .slice none 0 0] 52 (0, 0)) := by rw [heapq_alloc, if_pos rfl]
                          have hb14 := hb13.alloc hb13.size (.cells #[.bool false, .bool false, .int .i64 0, .slice none 0 0, .slice none 0 0] 52)
                          have hA4 : Rd (v3.alloc (.cells #[.bool false, .bool false, .int .i64 0, .slice none 0 0, .slice none 0 0] 52)) (v3.alloc (.cells #[.bool false, .bool false, .int .i64 0, .slice none 0 0, .slice none 0 0] 52)).heap.size A' (evCells l) := (hA.below ((Below.refl _ _).alloc (Nat.le_refl _) (.cells #[.bool false, .bool false, .int .i64 0, .slice none 0 0, .slice none 0 0] 52))).mono (by simp)
                          have hyl := hb13.size
                          generalize v3.alloc (.cells #[.bool false, .bool false, .int .i64 0, .slice none 0 0, .slice none 0 0] 52) = v4 at *
                          generalize v3.heap.size = y at *
                          refine onlyNormal_mk ⟨⟨⟨_, hb14⟩, rfl⟩, ?_⟩
                          refine wpE_one (i := 5) rfl (by as_aux_lemma => kernel_rfl) rfl ?_
                          unfold wpMid
                          simp only [opsAt_nil, opsAt_cons, consOpt_some, List.getElem?_toArray, List.getElem?_cons_zero, List.getElem?_cons_succ]
                          go_wp2_with (go_at_call 21; refine (hC v4 A' c' (CW.out.txt.kinds.below hb14) hA4).mono ?_; rintro e v5 ⟨Ag, Ad, ng, nd, cg, cd, rfl, hstY, f1, f2, hb45⟩; simp only [stV])
                          have hbY : Below wr.heap.size wr v5 := hb14.trans (hb45.mono hb14.size)
                          have ky := (hb45.block y (lt_of_block ky0)).trans ky0
                          refine onlyNormal_mk ⟨⟨⟨_, hbY⟩, rfl⟩, ?_⟩
                          refine wpE_reads [6, 7, 8, 9] 3 rfl (by as_aux_lemma => kernel_rfl) ?_
                          simp only [opsAt_nil, opsAt_cons, consOpt_some, List.getElem?_toArray, List.getElem?_cons_zero, List.getElem?_cons_succ]
                          repeat (go_big_quiet_step (fail))
                          refine wpQuiet_nil ?_
                          obtain ⟨t0, t1, t2, t3, t4, q0, q1, q2, q3, q4⟩ := res5 ky
                          refine wpE_one (i := 11) rfl (by as_aux_lemma => kernel_rfl) rfl ?_
                          unfold wpMid
                          simp only [opsAt_nil, opsAt_cons, consOpt_some, List.getElem?_toArray, List.getElem?_cons_zero, List.getElem?_cons_succ]
                          go_wp2
                          have hbP : ∀ a0 a1 a2 a3 a4, Below wr.heap.size wr (((((v5.setCell ⟨y, 0, none⟩ a0).setCell ⟨y, 1, none⟩ a1).setCell ⟨y, 2, none⟩ a2).setCell ⟨y, 3, none⟩ a3).setCell ⟨y, 4, none⟩ a4) := fun a0 a1 a2 a3 a4 =>
                            ((((hbY.setCell (p := ⟨y, 0, none⟩) hyl _).setCell (p := ⟨y, 1, none⟩) hyl _).setCell (p := ⟨y, 2, none⟩) hyl _).setCell (p := ⟨y, 3, none⟩) hyl _).setCell (p := ⟨y, 4, none⟩) hyl _
                          refine onlyNormal_mk ⟨⟨⟨_, hbP _ _ _ _ _⟩, rfl⟩, ?_⟩
                          refine wpE_one (i := 12) rfl (by as_aux_lemma => kernel_rfl) rfl ?_
                          unfold wpMid
                          simp only [opsAt_nil, opsAt_cons, consOpt_some, List.getElem?_toArray, List.getElem?_cons_zero, List.getElem?_cons_succ]
                          go_wp2
                          refine onlyNormal_mk ⟨⟨⟨_, hbP _ _ _ _ _⟩, rfl⟩, ?_⟩
                          refine wpE_tail rfl (by as_aux_lemma => kernel_rfl) ?_
                          simp only [opsAt_nil, opsAt_cons, consOpt_some, List.getElem?_toArray, List.getElem?_cons_zero, List.getElem?_cons_succ]
                          go_wp2
                          refine onlyNormal_mk ?_
                          go_wp2_with fail
                          go_meet
                          exact cutR_mk hbY hyl ky hstY (Nat.le_refl _) (.inr ⟨fun a ha => Nat.lt_of_lt_of_le (lt_of_block ky0) (f1 a ha), fun a ha => Nat.lt_of_lt_of_le (lt_of_block ky0) (f2 a ha)⟩)
                      · unfold wpMid
                        simp only [opsAt_nil, opsAt_cons, consOpt_some, List.getElem?_toArray, List.getElem?_cons_zero, List.getElem?_cons_succ]
                        go_wp2
                        have ky0 : (v2.alloc (.cells #[.bool false, .bool false, .int .i64 0, .slice none 0 0, .slice none 0 0] 52)).heap[v2.heap.size]? = some (.cells #[.bool false, .bool false, .int .i64 0, .slice none 0 0, .slice none 0 0] 52 (0, 0)) := by rw [heapq_alloc, if_pos rfl]
                        have hb13 := hb4.alloc hb4.size (.cells #[.bool false, .bool false, .int .i64 0, .slice none 0 0, .slice none 0 0] 52)
                        have hyl := hb4.size
                        generalize v2.alloc (.cells #[.bool false, .bool false, .int .i64 0, .slice none 0 0, .slice none 0 0] 52) = v3 at *
                        generalize v2.heap.size = y at *
                        refine onlyNormal_mk ⟨⟨⟨_, hb13⟩, rfl⟩, ?_⟩
                        refine wpE_one (i := 4) rfl (by as_aux_lemma => kernel_rfl) rfl ?_
                        unfold wpMid
                        simp only [opsAt_nil, opsAt_cons, consOpt_some, List.getElem?_toArray, List.getElem?_cons_zero, List.getElem?_cons_succ]
                        go_wp2_with (go_at_call 22; refine (CopyEvents_any v3 wr.heap.size A1 n1 c1 l HL.out (by omega) (hev.below hb13) hb13.size).mono ?_; rintro e v4 ⟨A', c', rfl, hA, hb34⟩)
                        have hb14 : Below wr.heap.size wr v4 := hb13.trans (hb34.mono hb13.size)
                        have ky1 := (hb34.block y (lt_of_block ky0)).trans ky0
                        refine onlyNormal_mk ⟨⟨⟨_, hb14⟩, rfl⟩, ?_⟩
                        refine wpE_one (i := 5) rfl (by as_aux_lemma => kernel_rfl) rfl ?_
                        unfold wpMid
                        simp only [opsAt_nil, opsAt_cons, consOpt_some, List.getElem?_toArray, List.getElem?_cons_zero, List.getElem?_cons_succ]
                        go_wp2_with (go_at_call 21; refine (hC v4 A' c' (CW.out.txt.kinds.below hb14) hA).mono ?_; rintro e v5 ⟨Ag, Ad, ng, nd, cg, cd, rfl, hstY, f1, f2, hb45⟩; simp only [stV])
                        have hbY : Below wr.heap.size wr v5 := hb14.trans (hb45.mono hb14.size)
                        have ky := (hb45.block y (lt_of_block ky1)).trans ky1
                        refine onlyNormal_mk ⟨⟨⟨_, hbY⟩, rfl⟩, ?_⟩
                        refine wpE_reads [6, 7, 8, 9] 3 rfl (by as_aux_lemma => kernel_rfl) ?_
                        simp only [opsAt_nil, opsAt_cons, consOpt_some, List.getElem?_toArray, List.getElem?_cons_zero, List.getElem?_cons_succ]
                        repeat (go_big_quiet_step (fail))
                        refine wpQuiet_nil ?_
                        obtain ⟨t0, t1, t2, t3, t4, q0, q1, q2, q3, q4⟩ := res5 ky
                        refine wpE_one (i := 11) rfl (by as_aux_lemma => kernel_rfl) rfl ?_
                        unfold wpMid
                        simp only [opsAt_nil, opsAt_cons, consOpt_some, List.getElem?_toArray, List.getElem?_cons_zero, List.getElem?_cons_succ]
                        go_wp2
                        have hbP : ∀ a0 a1 a2 a3 a4, Below wr.heap.size wr (((((v5.setCell ⟨y, 0, none⟩ a0).setCell ⟨y, 1, none⟩ a1).setCell ⟨y, 2, none⟩ a2).setCell ⟨y, 3, none⟩ a3).setCell ⟨y, 4, none⟩ a4) := fun a0 a1 a2 a3 a4 =>
                          ((((hbY.setCell (p := ⟨y, 0, none⟩) hyl _).setCell (p := ⟨y, 1, none⟩) hyl _).setCell (p := ⟨y, 2, none⟩) hyl _).setCell (p := ⟨y, 3, none⟩) hyl _).setCell (p := ⟨y, 4, none⟩) hyl _
                        refine onlyNormal_mk ⟨⟨⟨_, hbP _ _ _ _ _⟩, rfl⟩, ?_⟩
                        refine wpE_one (i := 12) rfl (by as_aux_lemma => kernel_rfl) rfl ?_
                        unfold wpMid
                        simp only [opsAt_nil, opsAt_cons, consOpt_some, List.getElem?_toArray, List.getElem?_cons_zero, List.getElem?_cons_succ]
                        go_wp2
                        refine onlyNormal_mk ⟨⟨⟨_, hbP _ _ _ _ _⟩, rfl⟩, ?_⟩
                        refine wpE_tail rfl (by as_aux_lemma => kernel_rfl) ?_
                        simp only [opsAt_nil, opsAt_cons, consOpt_some, List.getElem?_toArray, List.getElem?_cons_zero, List.getElem?_cons_succ]
                        go_wp2
                        refine onlyNormal_mk ?_
                        go_wp2_with fail
                        go_meet
                        exact cutR_mk hbY hyl ky hstY (Nat.le_refl _) (.inr ⟨fun a ha => Nat.lt_of_lt_of_le (lt_of_block ky1) (f1 a ha), fun a ha => Nat.lt_of_lt_of_le (lt_of_block ky1) (f2 a ha)⟩)
                    case rest =>
                      obtain ⟨y, Ag, Ad, ng, nd, cg, cd, rfl, rfl, rfl, ky, hst, hb, hyw⟩ := hcut
                      have HXY : Hid (x + 2 ≤ y) := Nat.le_trans CW.out.lt hyw
                      have C3 := Lib.hid (CW.out.below hb)
                      have HB3 := Lib.hid (HB2.out.trans ((HBW.out.mono hs2).trans (hb.mono hsW)))
                      have hs3 := Nat.le_trans hsW hb.size
                      have KY := Lib.hid ky
                      have HST := Lib.hid hst
                      have HC := Lib.hid hC
                      clear hb ky hst hC hyw CW HBW d0 d1 d2 hev HB2 C2 hs2 hsW
                      have REL : ToldRel wc l n1 (.slice none 0 0) (.int .i64 0) wc := ⟨0, 0, none, 0, Nat.zero_le _, rfl, rfl, rfl, ⟨rfl, .inl ⟨rfl, rfl⟩⟩, Below.refl _ _⟩
                      go_wp2
                      go_loopw [12, 13] (fun u12 u13 wr => ToldRel wc l n1 u12 u13 wr) (fun _ u13 _ => n1 - (intOf u13).toNat)
                      case atStart => exact REL
                      case round =>
                        clear REL
                        obtain ⟨k, mm, Au, cu, hk, rfl, rfl, hmm, hown, hb⟩ := hrel
                        have CW := Lib.hid (C3.out.below hb)
                        have HBW := Lib.hid hb
                        have hsW := hb.size
                        have HOWN := Lib.hid hown
                        have HMM := Lib.hid hmm
                        clear hb hown hmm
                        by_cases hlt : k < n1
                        · have hkl : k < l.length := by rw [HL.out]; exact hlt
                          obtain ⟨x0, x1, x2⟩ := evCells_at l k (l[k]) (by simp [hkl])
                          obtain ⟨_, I2, I3⟩ := HI.out _ (List.getElem_mem hkl)
                          have HT : Hid (toldM (l.take (k + 1)) = toldM (l.take k) ++ toldM [l[k]]) := by
                            rw [Hid, List.take_add_one, List.getElem?_eq_getElem hkl, toldM, List.filterMap_append]
                            rfl
                          have hm12 : mm ≤ 12 := by
                            have h1 := HMM.out
                            have h2 : (toldM (l.take k)).length ≤ (l.take k).length := List.length_filterMap_le _ _
                            rw [List.length_take] at h2
                            omega
                          generalize l[k] = ev at *
                          obtain ⟨bb, off, hA, _, c0, c1, c2⟩ := CW.out.ev.at3 x0 x1 x2
                          subst hA
                          have FE := FormatEvent_any ev.1 ev.2.1 ev.2.2 I2 I3 wr CW.out.txt
                          have hsz : (ba (fmtE ev.1 ev.2.1 ev.2.2)).size ≤ 1000000 := by
                            rw [ba_size]
                            have := fmtE_len ev.1 ev.2.1 ev.2.2 I2 I3
                            omega
                          have PE := fun W hW => ParseEvent_any (ba (fmtE ev.1 ev.2.1 ev.2.2)) hsz W hW
                          rw [ba_data] at PE
                          have HT2 : Hid (toldM [ev] = (parE (fmtE ev.1 ev.2.1 ev.2.2)).toList) := by
                            unfold toldM
                            cases h : parE (fmtE ev.1 ev.2.1 ev.2.2) <;> simp [Hid, h]
                          generalize ba (fmtE ev.1 ev.2.1 ev.2.2) = txt at *
                          clear x0 x1 x2 hkl hsz I2 I3
                          cases hpe : parE (fmtE ev.1 ev.2.1 ev.2.2) with
                          | none =>
                            rw [hpe] at PE HT2
                            have PN : ∀ W, TxtAt W → Calls Tryz.prog 9 #[.string txt] W fun e w' => e = .returned (.tuple #[.agg #[.int .i64 0, .int .i64 0, .int .i64 0], .int .i64 7]) ∧ Below W.heap.size W w' := fun W hW => PE W hW
                            have HT3 : Hid (toldM (l.take (k + 1)) = toldM (l.take k)) := by rw [Hid, HT.out, HT2.out]; simp
                            clear PE HT HT2 hpe
                            go_upto_region 20 with (first | (go_at_call 7; refine FE.mono ?_; rintro e v1 ⟨rfl, hb1⟩) | (go_at_call 9; refine (PN _ (CW.out.txt.below hb1)).mono ?_; rintro e v2 ⟨rfl, hb2⟩))
                            have hb3 := hb1.trans (hb2.mono hb1.size)
                            have hb4 := hb3.alloc hb3.size (.cells #[.int .i64 0, .int .i64 0, .int .i64 0] 23)
                            clear hb1 hb2 hb3 FE PN
                            go_wp2
                            go_roundw
                            case rel => exact ⟨k + 1, mm, Au, cu, by omega, by go_num, rfl, by rw [HT3.out]; exact HMM.out, by rw [HT3.out]; exact ownsRow_keep HOWN.out (fun k hk => hb4.block k (ownBlk HOWN.out hk).2.1), HBW.out.trans (hb4.mono hsW)⟩
                            case measure => simp [intOf]; omega
                          | some ev2 =>
                            rw [hpe] at PE HT2
                            have PS : ∀ W, TxtAt W → Calls Tryz.prog 9 #[.string txt] W fun e w' => e = .returned (.tuple #[.agg #[.int .i64 ev2.1, .int .i64 ev2.2.1, .int .i64 ev2.2.2], .int .i64 0]) ∧ Below W.heap.size W w' := fun W hW => PE W hW
                            have HT3 : Hid (toldM (l.take (k + 1)) = toldM (l.take k) ++ [ev2]) := by rw [Hid, HT.out, HT2.out]; simp
                            clear PE HT HT2 hpe
                            go_upto_region 20 with (first | (go_at_call 7; refine FE.mono ?_; rintro e v1 ⟨rfl, hb1⟩) | (go_at_call 9; refine (PS _ (CW.out.txt.below hb1)).mono ?_; rintro e v2 ⟨rfl, hb2⟩))
                            have hb3 := hb1.trans (hb2.mono hb1.size)
                            have hb4 := hb3.alloc hb3.size (.cells #[.int .i64 ev2.1, .int .i64 ev2.2.1, .int .i64 ev2.2.2] 23)
                            have kz : (v2.alloc (.cells #[.int .i64 ev2.1, .int .i64 ev2.2.1, .int .i64 ev2.2.2] 23)).heap[v2.heap.size]? = some (.cells #[.int .i64 ev2.1, .int .i64 ev2.2.1, .int .i64 ev2.2.2] 23 (0, 0)) := by rw [heapq_alloc, if_pos rfl]
                            generalize v2.alloc (.cells #[.int .i64 ev2.1, .int .i64 ev2.2.1, .int .i64 ev2.2.2] 23) = v3 at *
                            generalize v2.heap.size = z at *
                            obtain ⟨z0, z1, z2⟩ := cells3w kz
                            have own3 := ownsRow_keep HOWN.out (fun k hk => hb4.block k (ownBlk HOWN.out hk).2.1)
                            have hs4 := hb4.size
                            have hra : (v3.alloc (.cells #[.int .i64 ev2.1, .int .i64 ev2.2.1, .int .i64 ev2.2.2] 23)).heap[v3.heap.size]? = some (.cells #[.int .i64 ev2.1, .int .i64 ev2.2.1, .int .i64 ev2.2.2] 23 (0, 0)) := by rw [heapq_alloc, if_pos rfl]
                            have HRA := Lib.hid hra
                            have HB4 := Lib.hid hb4
                            have OWN3 := Lib.hid own3
                            obtain ⟨m9, hm9⟩ : ∃ n, mm + 1 = n := ⟨_, rfl⟩
                            have HM9 := Lib.hid hm9
                            have hm13 : m9 ≤ 1000 := by omega
                            clear hb1 hb2 hb3 FE PS hb4 kz own3 hra hm9
                            go_wp2_with (at_builtin; refine stp ?_)
                            unfold Stp
                            refine wpList_append_evs _ rfl _ _ rfl wc.heap.size Au cu mm m9 (toldM (l.take k)) rfl (OWN3.out.alloc _) v3.heap.size 1 [ev2] rfl rfl (by omega) HM9.out hm13 HRA.out (by simp; omega) ?_
                            intro g cap v9 hown9 hgrow hat hlt9
                            have hb9 := ((HBW.out.trans (HB4.out.mono hsW)).alloc (by omega) (.cells #[.int .i64 ev2.1, .int .i64 ev2.2.1, .int .i64 ev2.2.2] 23)).grown hgrow (by simp; omega) (fun k hk => (ownBlk OWN3.out hk).1)
                            have HB9 := Lib.hid hb9
                            have OWN9 := Lib.hid hown9
                            clear hb9 hown9 hgrow hat hlt9 z0 z1 z2
                            go_wp2
                            go_roundw
                            case rel => exact ⟨k + 1, m9, some ⟨g, 0, none⟩, cap, by omega, by go_num, rfl, by rw [HT3.out, List.length_append, HMM.out]; exact HM9.out, by rw [HT3.out]; exact OWN9.out, HB9.out⟩
                            case measure => simp [intOf]; omega
                        · have hkn : k = n1 := by omega
                          subst hkn
                          have htk : l.take k = l := List.take_of_length_le (by rw [HL.out]; omega)
                          obtain ⟨d0, d1, d2⟩ := (C3.out.below HBW.out).cells.1
                          have hstW := (HST.out.below HBW.out).mono hsW
                          rcases HR.out with ⟨hrun, herr⟩ | ⟨hs, herr⟩
                          · have htd : toldM l = l := told_all (by omega) l 0 _ s hrun
                            have hmk : mm = k := by rw [← HMM.out, htk, htd]; exact HL.out
                            have hri : Right n2 T S s := run_right l 0 _ s hrun (begin0_right (placeE_of g1))
                            have hown : wr.ownsRow wc.heap.size 23 3 (.slice Au k cu) k (evCells l) := by
                              have h := HOWN.out
                              rw [htk, htd, hmk] at h
                              exact h
                            subst herr
                            subst hmk
                            have RP := HC.out wr Au cu CW.out.txt.kinds (rd_ownC hown)
                            obtain ⟨y0, y1, y2, y3, y4⟩ := cells5 ((HBW.out.block y (lt_of_block KY.out)).trans KY.out)
                            have HRI := Lib.hid hri
                            have HS := Lib.hid hstW
                            clear hrun htd hri hown htk hstW HMM HOWN HR
                            go_upto_region 25 with (go_at_call 21; refine RP.mono ?_; rintro e v1 ⟨Ag2, Ad2, ng2, nd2, cg2, cd2, rfl, hst2, _, _, hb1⟩; simp only [stV])
                            have hb4 := hb1.alloc hb1.size (.cells #[.bool s.mv, .bool s.al, .int .i64 s.place, .slice Ag2 ng2 cg2, .slice Ad2 nd2 cd2] 52)
                            have k4 : (v1.alloc (.cells #[.bool s.mv, .bool s.al, .int .i64 s.place, .slice Ag2 ng2 cg2, .slice Ad2 nd2 cd2] 52)).heap[v1.heap.size]? = some (.cells #[.bool s.mv, .bool s.al, .int .i64 s.place, .slice Ag2 ng2 cg2, .slice Ad2 nd2 cd2] 52 (0, 0)) := by rw [heapq_alloc, if_pos rfl]
                            have hst4 := (hst2.below ((Below.refl _ _).alloc (Nat.le_refl _) (.cells #[.bool s.mv, .bool s.al, .int .i64 s.place, .slice Ag2 ng2 cg2, .slice Ad2 nd2 cd2] 52))).mono (show v1.heap.size ≤ (v1.alloc (.cells #[.bool s.mv, .bool s.al, .int .i64 s.place, .slice Ag2 ng2 cg2, .slice Ad2 nd2 cd2] 52)).heap.size by simp)
                            generalize v1.alloc (.cells #[.bool s.mv, .bool s.al, .int .i64 s.place, .slice Ag2 ng2 cg2, .slice Ad2 nd2 cd2] 52) = v4 at *
                            generalize v1.heap.size = y2 at *
                            have HBV := Lib.hid (HBW.out.trans (hb4.mono hsW))
                            have hs4 := Nat.le_trans hsW hb4.size
                            have KV := Lib.hid ((HBV.out.block y (lt_of_block KY.out)).trans KY.out)
                            have CV := Lib.hid (C3.out.below HBV.out)
                            have HSV := Lib.hid ((HS.out.below hb4).mono hb4.size)
                            have SM := Same_any v4 v4.heap.size Ag2 Ad2 Ag Ad ng2 nd2 cg2 cd2 ng nd cg cd s s hst4 HSV.out (Nat.le_refl _)
                            rw [sameB_self] at SM
                            have SE := fun W (hW : Below v4.heap.size v4 W) => StateErr_any W v4.heap.size n2 T S Ag Ad ng nd cg cd s (HSV.out.below hW) hW.size (doorsE_zero g1).2.1
                            rw [right_iff.2 HRI.out] at SE
                            simp only [stV] at SM SE
                            obtain ⟨p0, p1, p2, p3, p4⟩ := cells5 k4
                            obtain ⟨q0, q1, q2, q3, q4⟩ := cells5 KV.out
                            obtain ⟨f0, f1, f2⟩ := CV.out.cells.1
                            clear hb1 hb4 k4 hst2 hst4 RP y0 y1 y3 y4 d0 d1 d2
                            go_upto_region 27 with (first | (go_at_call 23; refine SM.mono ?_; rintro e v5 ⟨rfl, hb5⟩; replace f0 := kept hb5 f0; replace f1 := kept hb5 f1; replace f2 := kept hb5 f2; replace q0 := kept hb5 q0; replace q1 := kept hb5 q1; replace q2 := kept hb5 q2; replace q3 := kept hb5 q3; replace q4 := kept hb5 q4) | (go_at_call 24; refine (SE _ hb5).mono ?_; rintro e v6 ⟨rfl, hb6⟩))
                            have hb7 := hb5.trans (hb6.mono hb5.size)
                            have HB7 := Lib.hid (HBV.out.trans (hb7.mono hs4))
                            replace hs4 := Nat.le_trans hs4 hb7.size
                            have K7 := Lib.hid ((hb7.block y (lt_of_block KV.out)).trans KV.out)
                            have C7 := Lib.hid (CV.out.below hb7)
                            have HS7 := Lib.hid ((HSV.out.below hb7).mono hb7.size)
                            clear hb5 hb6 hb7 SM SE HSV CV KV HBV p0 p1 p2 p3 p4 q0 q1 q2 q3 q4 f0 f1 f2
                            obtain ⟨q0, q1, q2, q3, q4⟩ := cells5 K7.out
                            cases hmv : s.mv
                            · have hng : n2 = ng := (HS7.out.lg.symm.trans HRI.out.lg).symm
                              have hnd : n2 = nd := (HS7.out.ld.symm.trans HRI.out.ld).symm
                              subst hng
                              subst hnd
                              have hxy : x + 2 ≤ y := HXY
                              have SB : Hid (StB v6 y n2 s Ag Ad cg cd) := ⟨K7.out, HS7.out⟩
                              have DX : Hid (Dx v6 x n2 T S b dd A2 n2 c2 pp) := ⟨C7.out.txt.kinds, C7.out.r, C7.out.c, C7.out.pe⟩
                              have HBx := Lib.hid (HB3.out.trans (HB7.out.mono hs3))
                              clear K7 HS7 C7 HB7 HB3 q2 q3 q4
                              rw [hmv] at q0
                              go_upto_if 149 with (fail)
                              go_cut [18] from 24 (fun s18 wc => AlR w x y n2 n2 T S b dd A2 n2 c2 pp wc)
                              case first =>
                                cases hal : s.al
                                · rw [hal] at q1
                                  have OUTs := HRI
                                  obtain ⟨f0, f1, f2⟩ := DX.out.cells.1
                                  have x0 := Yt.cell (v := v6) (y := y) (by show x < y; omega) f0
                                  have x1 := Yt.cell (v := v6) (y := y) (by show x < y; omega) f1
                                  have x2 := Yt.cell (v := v6) (y := y) (by show x < y; omega) f2
                                  clear f0 f1 f2
                                  go_upto_region 30 with (fail)
                                  have HMV := Lib.hid hmv
                                  have HAL := Lib.hid hal
                                  clear hmv hal
                                  haveI : Nonempty (Yt v6 y) := ⟨⟨v6, Below.refl _ _⟩⟩
                                  have hyW : y ≤ v6.heap.size := Nat.le_of_lt (lt_of_block SB.out.1)
                                  refine wp_region_eager [9] (fun w' => ∃ z : Yt v6 y, w' = z.w) (by as_aux_lemma => kernel_rfl) ⟨⟨v6.drew, (Below.refl _ _).drew⟩, rfl⟩ ?_
                                  refine wpE_reads5 [0, 3] 8 rfl (by as_aux_lemma => kernel_rfl) ?_
                                  simp only [opsAt_nil, opsAt_cons, consOpt_some, List.getElem?_toArray, List.getElem?_cons_zero, List.getElem?_cons_succ]
                                  repeat (go_big_quiet_step (fail))
                                  refine wpQuiet_nil ?_
                                  have hb7 : Below v6.heap.size v6 v6.drew := (Below.refl _ _).drew
                                  show wpE _ _ _ _ _ _ _ _ _ v6.drew
                                  generalize v6.drew = v7 at *
                                  have S7 := SB.out.below hb7
                                  have hy7 : y < v7.heap.size := lt_of_block S7.1
                                  have hbY7 := hb7.mono hyW
                                  obtain ⟨q0, q1, q2, q3, q4⟩ := cells5 S7.1
                                  have CP := Copy_any v7 v7.heap.size _ _ n2 n2 cg cd s S7.2 (Nat.le_refl _) (by omega) (by omega)
                                  simp only [stV] at CP
                                  refine wpE_one (i := 1) rfl (by as_aux_lemma => kernel_rfl) rfl ?_
                                  unfold wpMid
                                  simp only [opsAt_nil, opsAt_cons, consOpt_some, List.getElem?_toArray, List.getElem?_cons_zero, List.getElem?_cons_succ]
                                  go_wp2
                                  refine onlyNormal_mk ⟨⟨⟨_, hbY7⟩, rfl⟩, ?_⟩
                                  refine wpE_one (i := 2) rfl (by as_aux_lemma => kernel_rfl) rfl ?_
                                  unfold wpMid
                                  simp only [opsAt_nil, opsAt_cons, consOpt_some, List.getElem?_toArray, List.getElem?_cons_zero, List.getElem?_cons_succ]
                                  go_wp2_with (go_at_call 26; refine CP.mono ?_; rintro e v8 ⟨j1, j2, jc1, jc2, rfl, hO, hb8⟩; simp only [stV])
                                  have hbY8 := hbY7.trans (hb8.mono (Nat.le_of_lt hy7))
                                  have hs8 := hb8.size
                                  have AP := Apply_any v8 v8.heap.size n2 T S (some ⟨j1, 0, none⟩) (some ⟨j2, 0, none⟩) n2 n2 jc1 jc2 s 6 0 0 (hO.at_ (by omega) (by omega)) (Nat.le_refl _) ((DX.out.kinds.belowB hbY7 (by omega)).belowB hb8 (by omega))
                                  rw [full_apply g1 OUTs.out, alarm_ok HAL.out, Int.toNat_natCast] at AP
                                  have OUT := out_alarm HRI.out HMV.out HAL.out
                                  generalize applyS s 6 0 0 = s2 at AP OUT
                                  simp only [stV] at AP
                                  refine onlyNormal_mk ⟨⟨⟨_, hbY8⟩, rfl⟩, ?_⟩
                                  refine wpE_one (i := 4) rfl (by as_aux_lemma => kernel_rfl) rfl ?_
                                  unfold wpMid
                                  simp only [opsAt_nil, opsAt_cons, consOpt_some, List.getElem?_toArray, List.getElem?_cons_zero, List.getElem?_cons_succ]
                                  go_wp2_with (go_at_call 25; refine AP.mono ?_; rintro e v9 ⟨⟨v, rfl, hv⟩, hb9⟩; rw [if_pos rfl] at hv; obtain ⟨h1, h2, d1, d2, rfl, hO2⟩ := hv; simp only [stV])
                                  have hbY9 := hbY8.trans (hb9.mono (by omega))
                                  refine onlyNormal_mk ⟨⟨⟨_, hbY9⟩, rfl⟩, ?_⟩
                                  refine wpE_reads [5, 6, 7] 2 rfl (by as_aux_lemma => kernel_rfl) ?_
                                  simp only [opsAt_nil, opsAt_cons, consOpt_some, List.getElem?_toArray, List.getElem?_cons_zero, List.getElem?_cons_succ]
                                  repeat (go_big_quiet_step (fail))
                                  refine wpQuiet_nil ?_
                                  have ky9 := (hb9.block y (by omega)).trans ((hb8.block y hy7).trans S7.1)
                                  obtain ⟨t0, t1, t2, t3, t4, q0, q1, q2, q3, q4⟩ := res5 ky9
                                  refine wpE_one (i := 8) rfl (by as_aux_lemma => kernel_rfl) rfl ?_
                                  unfold wpMid
                                  simp only [opsAt_nil, opsAt_cons, consOpt_some, List.getElem?_toArray, List.getElem?_cons_zero, List.getElem?_cons_succ]
                                  go_wp2
                                  have SB10 := stB_put ky9 hO2 (by omega) (by omega)
                                  have hbY10 := hbY9.trans (put5_below (W := v9) (B := y) (y := y) (.bool s2.mv) (.bool s2.al) (.int .i64 s2.place) (.slice (some ⟨h1, 0, none⟩) n2 d1) (.slice (some ⟨h2, 0, none⟩) n2 d2) (Nat.le_refl _))
                                  generalize (((((v9.setCell ⟨y, 0, none⟩ (.bool s2.mv)).setCell ⟨y, 1, none⟩ (.bool s2.al)).setCell ⟨y, 2, none⟩ (.int .i64 s2.place)).setCell ⟨y, 3, none⟩ (.slice (some ⟨h1, 0, none⟩) n2 d1)).setCell ⟨y, 4, none⟩ (.slice (some ⟨h2, 0, none⟩) n2 d2)) = v10 at *
                                  refine onlyNormal_mk ⟨⟨⟨_, hbY10⟩, rfl⟩, ?_⟩
                                  refine wpE_tail rfl (by as_aux_lemma => kernel_rfl) ?_
                                  simp only [opsAt_nil, opsAt_cons, consOpt_some, List.getElem?_toArray, List.getElem?_cons_zero, List.getElem?_cons_succ]
                                  go_wp2
                                  refine onlyNormal_mk ?_
                                  have DX10 := DX.out.belowB hbY10 (by omega)
                                  have HB10 := HBx.out.trans (hbY10.mono (show x ≤ y by omega))
                                  have hs10 : x ≤ v10.heap.size := by have := lt_of_block DX10.c; omega
                                  have SE := StateErr_any v10 v10.heap.size n2 T S (some ⟨h1, 0, none⟩) (some ⟨h2, 0, none⟩) n2 n2 d1 d2 s2 SB10.2 (Nat.le_refl _) (doorsE_zero g1).2.1
                                  rw [right_iff.2 OUT.right] at SE
                                  simp only [stV] at SE
                                  clear t0 t1 t2 t3 t4 q0 q1 q2 q3 q4 CP AP x0 x1 x2
                                  obtain ⟨q0, q1, q2, q3, q4⟩ := cells5 SB10.1
                                  obtain ⟨f0, f1, f2⟩ := DX10.cells.1
                                  go_wp2_with (go_at_call 24; refine SE.mono ?_; rintro e v11 ⟨rfl, hb11⟩)
                                  go_meet
                                  exact ⟨s2, _, _, d1, d2, OUT, SB10.below hb11, DX10.belowB hb11 (lt_of_block DX10.c), HB10.trans (hb11.mono hs10)⟩
                                · rw [hal] at q1
                                  go_wp2
                                  go_meet
                                  exact ⟨s, Ag, Ad, cg, cd, ⟨HRI.out, hmv, hal⟩, SB.out, DX.out, HBx.out⟩
                              case rest =>
                                obtain ⟨s0, Ag, Ad, cg, cd, ho, hs0, hd0, hb0⟩ := hcut
                                have REL : DoorRel w x y n2 n2 T S b dd A2 n2 c2 pp (.int .i64 0) (.bool false) (.int .i64 0) wc := ⟨0, 0, false, s0, Ag, Ad, cg, cd, Nat.zero_le _, rfl, rfl, rfl, ho, hs0, hd0, hb0, fun i hi => absurd hi (Nat.not_lt_zero i), fun h => by (cases h), fun _ => .inl rfl⟩
                                clear SB DX HBx HRI hmv q0 q1 ho hs0 hd0 hb0
                                go_wp2
                                go_loopw [19, 20, 21] (fun u19 u20 u21 wr => DoorRel w x y n2 n2 T S b dd A2 n2 c2 pp u19 u20 u21 wr) (fun _ _ u21 _ => n2 - (intOf u21).toNat)
                                case atStart => exact REL
                                case round =>
                                  clear REL
                                  obtain ⟨d, last, is, s, Ag, Ad, cg, cd, hd, rfl, rfl, rfl, ho, hst, hdx, hb, hopen, hlast⟩ := hrel
                                  have SB := Lib.hid hst
                                  have DX := Lib.hid hdx
                                  have HBx := Lib.hid hb
                                  have HO := Lib.hid ho
                                  have HOPEN := Lib.hid hopen
                                  have HLAST := Lib.hid hlast
                                  clear hst hdx hb ho hopen hlast
                                  obtain ⟨f0, f1, f2⟩ := DX.out.cells.1
                                  by_cases hlt : d < n2
                                  · have hdl : d < s.doors.length := by rw [HO.out.right.ld]; exact hlt
                                    obtain ⟨bb, off, hbb, _, hc⟩ := SB.out.2.rd.at_ (k := d) (u := .bool (s.doors[d]?.getD false)) (by simp [hdl])
                                    subst hbb
                                    try simp only [Nat.add_zero] at hc
                                    obtain ⟨bo, hbo⟩ : ∃ bo, s.doors[d]?.getD false = bo := ⟨_, rfl⟩
                                    rw [hbo] at hc
                                    have HBO := Lib.hid hbo
                                    have HDL := Lib.hid hdl
                                    clear hbo hdl
                                    obtain ⟨q0, q1, q2, q3, q4⟩ := cells5 SB.out.1
                                    go_upto_if 177 with (fail)
                                    go_cut [18] from 178 to 202 (fun s18 wc => DoorCut w x y n2 n2 T S b dd A2 n2 c2 pp d s.doors wc)
                                    case first =>
                                      cases bo
                                      · have hdo := HBO.out
                                        have hdl := HDL.out
                                        have OUTs := Lib.hid HO.out.right
                                        have HOK := Lib.hid (open_ok (T := T) (S := S) hlt HO.out.mv HO.out.al hdo)
                                        have HOUT := Lib.hid (HO.out.open_ hlt hdo)
                                        have HSET : Hid (DoorsLe s.doors (applyS s 4 0 d).doors ∧ ∀ i, i < d + 1 → (applyS s 4 0 d).doors[i]?.getD false = true) := ⟨doors_le hdl, open_upto hdl HOPEN.out⟩
                                        clear hc f0 f1 f2 q0 q1 q2 q3 q4 hdl hdo HBO HDL
                                        obtain ⟨f0, f1, f2⟩ := DX.out.cells.1
                                        have x0 := Yt.cell (v := wr) (y := y) (by show x < y; omega) f0
                                        have x1 := Yt.cell (v := wr) (y := y) (by show x < y; omega) f1
                                        have x2 := Yt.cell (v := wr) (y := y) (by show x < y; omega) f2
                                        clear f0 f1 f2
                                        go_upto_region 38 with (fail)
                                        haveI : Nonempty (Yt wr y) := ⟨⟨wr, Below.refl _ _⟩⟩
                                        have hyW : y ≤ wr.heap.size := Nat.le_of_lt (lt_of_block SB.out.1)
                                        refine wp_region_eager [10] (fun w' => ∃ z : Yt wr y, w' = z.w) (by as_aux_lemma => kernel_rfl) ⟨⟨wr.drew, (Below.refl _ _).drew⟩, rfl⟩ ?_
                                        refine wpE_reads5 [0, 3, 4] 8 rfl (by as_aux_lemma => kernel_rfl) ?_
                                        simp only [opsAt_nil, opsAt_cons, consOpt_some, List.getElem?_toArray, List.getElem?_cons_zero, List.getElem?_cons_succ]
                                        repeat (go_big_quiet_step (fail))
                                        refine wpQuiet_nil ?_
                                        have hb7 : Below wr.heap.size wr wr.drew := (Below.refl _ _).drew
                                        show wpE _ _ _ _ _ _ _ _ _ wr.drew
                                        generalize wr.drew = v7 at *
                                        have S7 := SB.out.below hb7
                                        have hy7 : y < v7.heap.size := lt_of_block S7.1
                                        have hbY7 := hb7.mono hyW
                                        obtain ⟨q0, q1, q2, q3, q4⟩ := cells5 S7.1
                                        have CP := Copy_any v7 v7.heap.size _ _ n2 n2 cg cd s S7.2 (Nat.le_refl _) (by omega) (by omega)
                                        simp only [stV] at CP
                                        refine wpE_one (i := 1) rfl (by as_aux_lemma => kernel_rfl) rfl ?_
                                        unfold wpMid
                                        simp only [opsAt_nil, opsAt_cons, consOpt_some, List.getElem?_toArray, List.getElem?_cons_zero, List.getElem?_cons_succ]
                                        go_wp2
                                        refine onlyNormal_mk ⟨⟨⟨_, hbY7⟩, rfl⟩, ?_⟩
                                        refine wpE_one (i := 2) rfl (by as_aux_lemma => kernel_rfl) rfl ?_
                                        unfold wpMid
                                        simp only [opsAt_nil, opsAt_cons, consOpt_some, List.getElem?_toArray, List.getElem?_cons_zero, List.getElem?_cons_succ]
                                        go_wp2_with (go_at_call 26; refine CP.mono ?_; rintro e v8 ⟨j1, j2, jc1, jc2, rfl, hO, hb8⟩; simp only [stV])
                                        have hbY8 := hbY7.trans (hb8.mono (Nat.le_of_lt hy7))
                                        have hs8 := hb8.size
                                        have AP := Apply_any v8 v8.heap.size n2 T S (some ⟨j1, 0, none⟩) (some ⟨j2, 0, none⟩) n2 n2 jc1 jc2 s 4 0 d (hO.at_ (by omega) (by omega)) (Nat.le_refl _) ((DX.out.kinds.belowB hbY7 (by omega)).belowB hb8 (by omega))
                                        rw [full_apply g1 OUTs.out, HOK.out, Int.toNat_natCast] at AP
                                        have OUT := HOUT.out
                                        generalize applyS s 4 0 d = s2 at AP OUT HSET HOUT
                                        simp only [stV] at AP
                                        refine onlyNormal_mk ⟨⟨⟨_, hbY8⟩, rfl⟩, ?_⟩
                                        refine wpE_one (i := 5) rfl (by as_aux_lemma => kernel_rfl) rfl ?_
                                        unfold wpMid
                                        simp only [opsAt_nil, opsAt_cons, consOpt_some, List.getElem?_toArray, List.getElem?_cons_zero, List.getElem?_cons_succ]
                                        go_wp2_with (go_at_call 25; refine AP.mono ?_; rintro e v9 ⟨⟨v, rfl, hv⟩, hb9⟩; rw [if_pos rfl] at hv; obtain ⟨h1, h2, d1, d2, rfl, hO2⟩ := hv; simp only [stV])
                                        have hbY9 := hbY8.trans (hb9.mono (by omega))
                                        refine onlyNormal_mk ⟨⟨⟨_, hbY9⟩, rfl⟩, ?_⟩
                                        refine wpE_reads [6, 7, 8] 2 rfl (by as_aux_lemma => kernel_rfl) ?_
                                        simp only [opsAt_nil, opsAt_cons, consOpt_some, List.getElem?_toArray, List.getElem?_cons_zero, List.getElem?_cons_succ]
                                        repeat (go_big_quiet_step (fail))
                                        refine wpQuiet_nil ?_
                                        have ky9 := (hb9.block y (by omega)).trans ((hb8.block y hy7).trans S7.1)
                                        obtain ⟨t0, t1, t2, t3, t4, q0, q1, q2, q3, q4⟩ := res5 ky9
                                        refine wpE_one (i := 9) rfl (by as_aux_lemma => kernel_rfl) rfl ?_
                                        unfold wpMid
                                        simp only [opsAt_nil, opsAt_cons, consOpt_some, List.getElem?_toArray, List.getElem?_cons_zero, List.getElem?_cons_succ]
                                        go_wp2
                                        have SB10 := stB_put ky9 hO2 (by omega) (by omega)
                                        have hbY10 := hbY9.trans (put5_below (W := v9) (B := y) (y := y) (.bool s2.mv) (.bool s2.al) (.int .i64 s2.place) (.slice (some ⟨h1, 0, none⟩) n2 d1) (.slice (some ⟨h2, 0, none⟩) n2 d2) (Nat.le_refl _))
                                        generalize (((((v9.setCell ⟨y, 0, none⟩ (.bool s2.mv)).setCell ⟨y, 1, none⟩ (.bool s2.al)).setCell ⟨y, 2, none⟩ (.int .i64 s2.place)).setCell ⟨y, 3, none⟩ (.slice (some ⟨h1, 0, none⟩) n2 d1)).setCell ⟨y, 4, none⟩ (.slice (some ⟨h2, 0, none⟩) n2 d2)) = v10 at *
                                        refine onlyNormal_mk ⟨⟨⟨_, hbY10⟩, rfl⟩, ?_⟩
                                        refine wpE_tail rfl (by as_aux_lemma => kernel_rfl) ?_
                                        simp only [opsAt_nil, opsAt_cons, consOpt_some, List.getElem?_toArray, List.getElem?_cons_zero, List.getElem?_cons_succ]
                                        go_wp2
                                        refine onlyNormal_mk ?_
                                        have DX10 := DX.out.belowB hbY10 (by omega)
                                        have HB10 := HBx.out.trans (hbY10.mono (show x ≤ y by omega))
                                        have hs10 : x ≤ v10.heap.size := by have := lt_of_block DX10.c; omega
                                        have SE := StateErr_any v10 v10.heap.size n2 T S (some ⟨h1, 0, none⟩) (some ⟨h2, 0, none⟩) n2 n2 d1 d2 s2 SB10.2 (Nat.le_refl _) (doorsE_zero g1).2.1
                                        rw [right_iff.2 OUT.right] at SE
                                        simp only [stV] at SE
                                        clear t0 t1 t2 t3 t4 q0 q1 q2 q3 q4 CP AP x0 x1 x2
                                        obtain ⟨q0, q1, q2, q3, q4⟩ := cells5 SB10.1
                                        obtain ⟨f0, f1, f2⟩ := DX10.cells.1
                                        have hd2 := HSET.out.2 d (Nat.lt_succ_self d)
                                        obtain ⟨b2, off2, hb2e, _, hc2⟩ := SB10.2.rd.at_ (k := d) (u := .bool (s2.doors[d]?.getD false)) (by simp [show d < s2.doors.length by rw [OUT.right.ld]; exact hlt])
                                        cases hb2e
                                        rw [hd2] at hc2
                                        try simp only [Nat.zero_add] at hc2
                                        clear hd2
                                        go_wp2_with (go_at_call 24; refine SE.mono ?_; rintro e v11 ⟨rfl, hb11⟩; have q4 := kept hb11 q4; have hc2 := kept hb11 hc2)
                                        go_meet
                                        exact ⟨s2, _, _, d1, d2, OUT, SB10.below hb11, DX10.belowB hb11 (lt_of_block DX10.c), HB10.trans (hb11.mono hs10), HSET.out.1, HSET.out.2⟩
                                      · go_wp2
                                        go_meet
                                        exact ⟨s, Ag, _, cg, cd, HO.out, SB.out, DX.out, HBx.out, doors_refl _, open_here HBO.out HOPEN.out⟩
                                    case rest =>
                                      obtain ⟨s3, Ag3, Ad3, cg3, cd3, ho3, hs3, hd3, hb3, hle, hop⟩ := hcut
                                      clear SB DX HBx HO HOPEN hc q0 q1 q2 q3 q4 f0 f1 f2
                                      obtain ⟨r, hr⟩ := least_is CO.out s3.doors
                                      have hx3 : x + 2 ≤ wc.heap.size := lt_of_block hd3.c
                                      have CR := careRooms_any wc wc.heap.size Ag3 Ad3 A2 n2 n2 cg3 cd3 c2 s3 pp b dd hs3.2 (hd3.pe.mono (by omega)) HP.out (by omega) (Nat.le_refl _)
                                      simp only [stV] at CR
                                      obtain ⟨q0, q1, q2, q3, q4⟩ := cells5 hs3.1
                                      obtain ⟨e0, e1, e2⟩ := hd3.cells.2
                                      have SB := Lib.hid hs3
                                      have DX := Lib.hid hd3
                                      have HBx := Lib.hid hb3
                                      have HO := Lib.hid ho3
                                      have HOPEN := Lib.hid hop
                                      have HLE := Lib.hid hle
                                      clear hs3 hd3 hb3 ho3 hop hle
                                      cases r with
                                      | some m2 =>
                                        have L8 : ∀ (W : World) (A A' : Option Addr) (c c' : Nat), Rd W W.heap.size A (intCells pp) → Rd W W.heap.size A' (evCells (waysM b dd s3.doors n2)) → Calls Tryz.prog 27 #[.agg #[.slice A pp.length c, .slice A' (waysM b dd s3.doors n2).length c'], .int .i64 8] W (LeastPost W m2 0) := fun W A A' c c' h1 h2 => Least8 W A A' c c' CO.out hr HP.out h1 h2
                                        have hmle := last_some HLAST.out (by omega : 0 ≤ dd) HLE.out hr
                                        have HR := Lib.hid hr
                                        clear hr HLAST HLE
                                        cases is
                                        · clear hmle
                                          go_wp2_with (first | (go_at_call 28; refine CR.mono ?_; rintro e w2 ⟨A, c, A', c', rfl, hA, hA', hb2⟩) | (go_at_call 27; refine (L8 _ A A' c c' hA hA').mono ?_; rintro e w3 ⟨rfl, hb3⟩))
                                          have hb4 := hb2.trans (hb3.mono hb2.size)
                                          go_roundw
                                          case rel => exact ⟨d + 1, m2, true, s3, Ag3, Ad3, cg3, cd3, by omega, by go_num, rfl, rfl, HO.out, SB.out.below hb4, DX.out.belowB hb4 hx3, HBx.out.trans (hb4.mono (by omega)), HOPEN.out, ⟨fun _ => HR.out, fun h => by (cases h)⟩⟩
                                          case measure => simp [intOf]; omega
                                        · have hmle : (m2 : Int) ≤ (last : Int) := by have := hmle rfl; omega
                                          go_wp2_with (first | (go_at_call 28; refine CR.mono ?_; rintro e w2 ⟨A, c, A', c', rfl, hA, hA', hb2⟩) | (go_at_call 27; refine (L8 _ A A' c c' hA hA').mono ?_; rintro e w3 ⟨rfl, hb3⟩))
                                          have hb4 := hb2.trans (hb3.mono hb2.size)
                                          go_roundw
                                          case rel => exact ⟨d + 1, m2, true, s3, Ag3, Ad3, cg3, cd3, by omega, by go_num, rfl, rfl, HO.out, SB.out.below hb4, DX.out.belowB hb4 hx3, HBx.out.trans (hb4.mono (by omega)), HOPEN.out, ⟨fun _ => HR.out, fun h => by (cases h)⟩⟩
                                          case measure => simp [intOf]; omega
                                      | none =>
                                        have L8 : ∀ (W : World) (A A' : Option Addr) (c c' : Nat), Rd W W.heap.size A (intCells pp) → Rd W W.heap.size A' (evCells (waysM b dd s3.doors n2)) → Calls Tryz.prog 27 #[.agg #[.slice A pp.length c, .slice A' (waysM b dd s3.doors n2).length c'], .int .i64 8] W (LeastPost W 0 25) := fun W A A' c c' h1 h2 => Least8 W A A' c c' CO.out hr HP.out h1 h2
                                        obtain rfl := last_none HLAST.out (by omega : 0 ≤ dd) HLE.out hr
                                        have HR := Lib.hid hr
                                        clear hr HLAST HLE
                                        go_wp2_with (first | (go_at_call 28; refine CR.mono ?_; rintro e w2 ⟨A, c, A', c', rfl, hA, hA', hb2⟩) | (go_at_call 27; refine (L8 _ A A' c c' hA hA').mono ?_; rintro e w3 ⟨rfl, hb3⟩))
                                        have hb4 := hb2.trans (hb3.mono hb2.size)
                                        go_roundw
                                        case rel => exact ⟨d + 1, last, false, s3, Ag3, Ad3, cg3, cd3, by omega, by go_num, rfl, rfl, HO.out, SB.out.below hb4, DX.out.belowB hb4 hx3, HBx.out.trans (hb4.mono (by omega)), HOPEN.out, ⟨fun h => by (cases h), fun _ => .inr HR.out⟩⟩
                                        case measure => simp [intOf]; omega
                                  · have hdn : d = n2 := by omega
                                    have HT : ∀ x ∈ pp, x ≤ dd * ((m.toNat : Nat) : Int) := by
                                      rw [Int.toNat_of_nonneg hm0, HM.out]
                                      exact mostI_le dd gc1 pp
                                    obtain ⟨hi, hlm⟩ := last_end HLAST.out CO.out (by omega) (by rw [HP.out, ← hdn]; exact HOPEN.out) HT (by omega)
                                    subst hi
                                    have hlm : (last : Int) ≤ m := by omega
                                    clear HT HLAST
                                    go_wp2
                                    go_ret
                                    exact ⟨rfl, HX.out ▸ HBx.out⟩
                            · rw [hmv] at q0
                              go_wp2
                              go_ret
                              exact ⟨rfl, HX.out ▸ HB3.out.trans (HB7.out.mono hs3)⟩
                          · subst hs
                            have hz : (err != 0) = true := by simpa using herr
                            have ky : wc.heap[y]? = some (.cells #[.bool false, .bool false, .int .i64 0, .slice Ag ng cg, .slice Ad nd cd] 52 (0, 0)) := KY.out
                            obtain ⟨y0, y1, y2, y3, y4⟩ := cells5 ((HBW.out.block y (lt_of_block ky)).trans ky)
                            have SM : Calls Tryz.prog 23 #[.agg #[.bool false, .bool false, .int .i64 0, .slice Ag ng cg, .slice Ad nd cd], .agg #[.bool false, .bool false, .int .i64 0, .slice none 0 0, .slice none 0 0]] wr fun e w' => e = .returned (.bool true) ∧ Below wr.heap.size wr w' :=
                              Same_any wr wr.heap.size Ag Ad none none ng nd cg cd 0 0 0 0 zeroTr zeroTr hstW (zeroAt _ _) (Nat.le_refl _)
                            clear ky hstW herr HR HC
                            go_wp2_with (go_at_call 23; refine SM.mono ?_; rintro e v1 ⟨rfl, hb1⟩)
                            go_ret
                            exact ⟨rfl, HX.out ▸ HB3.out.trans ((HBW.out.mono hs3).trans (hb1.mono (Nat.le_trans hs3 hsW)))⟩
        · have g4' : ((n2 : Int) != D) = true := by simpa using g4
          go_wp2_with (first | (go_at_call 18; refine (DN _).mono ?_; rintro e w2 ⟨rfl, hb2⟩; have CC := C.out.below hb2; have hb := HB.out.trans (hb2.mono hsx); obtain ⟨⟨d0, d1, d2⟩, e0, e1, e2⟩ := CC.cells) | (go_at_call_of 19 (Value.int .i64 (D : Int)); refine (Within_val D 1 4 _ g2 _).mono ?_; rintro e w' ⟨rfl, rfl⟩))
          go_ret
          exact ⟨rfl, HX.out ▸ hb⟩
      · have g3' : (12 : Int) < (n1 : Int) := by omega
        go_wp2_with (first | (go_at_call 18; refine (DN _).mono ?_; rintro e w2 ⟨rfl, hb2⟩; have CC := C.out.below hb2; have hb := HB.out.trans (hb2.mono hsx); obtain ⟨⟨d0, d1, d2⟩, e0, e1, e2⟩ := CC.cells) | (go_at_call_of 19 (Value.int .i64 (D : Int)); refine (Within_val D 1 4 _ g2 _).mono ?_; rintro e w' ⟨rfl, rfl⟩))
        go_ret
        exact ⟨rfl, HX.out ▸ hb⟩
  · have hz : (doorsE D T S != 0) = true := by simpa using g1
    generalize doorsE D T S = err at *
    clear g1
    go_wp2_with (go_at_call 18; refine (DN _).mono ?_; rintro e w2 ⟨rfl, hb2⟩; have CC := C.out.below hb2; have hb := HB.out.trans (hb2.mono hsx); obtain ⟨⟨d0, d1, d2⟩, e0, e1, e2⟩ := CC.cells)
    go_ret
    exact ⟨rfl, HX.out ▸ hb⟩
end Go.Proofs.YtlbgocgocanloaaGreatDoor
