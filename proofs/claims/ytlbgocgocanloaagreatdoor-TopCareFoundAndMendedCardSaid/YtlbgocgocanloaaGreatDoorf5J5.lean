/- place: the windows that the code finds. -/
import Derived.Test.YtlbgocgocanloaaGreatDoorf5J4
import Derived.Test.YtlbgocgocanloaaGreatDoorf5U8
import Derived.Test.YtlbgocgocanloaaGreatDoorf4R7
namespace Go.Proofs.YtlbgocgocanloaaGreatDoor
open Go.RowKit
/-- a store into a row of one's own -/
theorem ownI_set {w : World} {B e size n g c i : Nat} {xs : List Value} (h : w.ownsRow B e size (.slice (some ⟨g, 0, none⟩) n c) n xs) (v : Value) :
    (w.setCell ⟨g, i, none⟩ v).ownsRow B e size (.slice (some ⟨g, 0, none⟩) n c) n (xs.set i v) := by
  obtain ⟨h1, h2⟩ := h
  refine ⟨by simpa using h1, ?_⟩
  rcases h2 with ⟨h2, _⟩ | ⟨g', cap, cur, h2, h3, h4, h5, h6, h7, h8⟩
  · simp at h2
  · simp only [Value.slice.injEq, Option.some.injEq, Addr.mk.injEq, and_true, true_and] at h2
    obtain ⟨rfl, rfl⟩ := h2
    refine .inr ⟨g, c, cur.setIfInBounds i v, rfl, h3, ?_, h5, h6, by simpa using h7, ?_⟩
    · rw [heapq_set, if_pos rfl, h4]
      simp [objSet_cells]
    · rw [Array.toList_setIfInBounds, ← h8, List.take_set]
theorem ownI_cell {w : World} {B e size n g c i : Nat} {xs : List Value} (h : w.ownsRow B e size (.slice (some ⟨g, 0, none⟩) n c) n xs) {v : Value} (hv : xs[i]? = some v) : w.cell? ⟨g, i, none⟩ = some v ∧ w.frozen? ⟨g, i, none⟩ = false ∧ B ≤ g ∧ g < w.heap.size := by
  obtain ⟨b, off, hA, hb, hc⟩ := Rd_of_own h i v hv
  simp only [Option.some.injEq, Addr.mk.injEq, and_true] at hA
  obtain ⟨rfl, rfl⟩ := hA
  rw [Nat.zero_add] at hc
  obtain ⟨g1, g2, cur, hcur⟩ := ownBlk h rfl
  exact ⟨hc, frozen_of_row w g i _ _ hcur, g1, g2⟩
theorem intCells_set (l : List Int) (i : Nat) (v : Int) : (intCells l).set i (.int .i64 v) = intCells (l.set i v) := by simp [intCells, List.map_set]
theorem Rd.tailEv {w : World} {B b off : Nat} {e : Ev} {l : List Ev} (h : Rd w B (some ⟨b, off, none⟩) (evCells (e :: l))) : Rd w B (some ⟨b, off + 3, none⟩) (evCells l) := by
  intro k u hk
  have hk2 : (evCells (e :: l))[3 + k]? = some u := by
    have : evCells (e :: l) = [.int .i64 e.1, .int .i64 e.2.1, .int .i64 e.2.2] ++ evCells l := by simp [evCells]
    rw [this, List.getElem?_append_right (by simp)]
    simpa using hk
  obtain ⟨b', o', he, hb, hc⟩ := h (3 + k) u hk2
  simp only [Option.some.injEq, Addr.mk.injEq, and_true] at he
  obtain ⟨rfl, rfl⟩ := he
  exact ⟨b, off + 3, rfl, hb, by rw [Nat.add_assoc]; exact hc⟩
/-- a window for the first job, and windows for the others -/
def placeG (js : List Jb) (L : List Int) (h : Int) (wn : Nat) : Option (List Int) :=
  if L[wn]?.getD 0 < h then none else (placeM js (L.set wn (L[wn]?.getD 0 - h))).map fun l => (wn : Int) :: l
theorem placeM_nat {js : List Jb} {L : List Int} {h : Int} {f e : Nat} : placeM ((h, (f : Int), (e : Int)) :: js) L = (List.range' f (e + 1 - f)).findSome? (placeG js L h) := by
  rw [placeM, List.range'_eq_map_range, List.findSome?_map]
  rw [show ((e : Int) + 1 - (f : Int)).toNat = e + 1 - f by omega]
  congr 1
def PlaceRel (w0 : World) (js : List Jb) (L : List Int) (h : Int) (f e : Nat) (R : Option (List Int)) (u7 : Value) (wr : World) : Prop :=
  ∃ (wn : Nat) (wi : Int), f ≤ wn ∧ wn ≤ e + 1 ∧ (wn : Int) = wi ∧ u7 = .int .i64 wi ∧ (List.range' wn (e + 1 - wn)).findSome? (placeG js L h) = R ∧ Below w0.heap.size w0 wr
def PlaceAll (nw : Nat) (J : List Jb) : Prop := ∀ (w : World) (B : Nat) (Aj Al : Option Addr) (nj cj cl : Nat) (L : List Int), J.length = nj → L.length = nw → nj ≤ cj → Rd w B Aj (evCells J) → Rd w B Al (intCells L) → B ≤ w.heap.size →
    (∀ j ∈ J, (1 ≤ j.1 ∧ j.1 ≤ 1000) ∧ JobOk nw j) → (∀ x ∈ L, 0 ≤ x ∧ x ≤ 1000) → Calls Tryz.prog 84 #[.slice Aj nj cj, .slice Al nw cl] w (RefLeastPost w (placeM J L))
set_option maxHeartbeats 2000000 in
theorem place_nil (nw : Nat) : PlaceAll nw [] := by
  intro w B Aj Al nj cj cl L hlj hl hc hj hL hB ok1 ok2
  obtain rfl : 0 = nj := hlj
  clear hj hL ok1 ok2
  go_enter Tryz.func84, Tryz.ntmps84
  go_wp2
  go_ret2
  exact ⟨_, rfl, ⟨none, 0, rfl, fun k u hk => by simp [intCells] at hk⟩, Below.refl _ _⟩
set_option maxRecDepth 100000 in
set_option maxHeartbeats 16000000 in
theorem place_cons (nw : Nat) (hnw : nw ≤ 5) (j : Jb) (js : List Jb) (hjs : js.length ≤ 6) (IH : PlaceAll nw js) : PlaceAll nw (j :: js) := by
  intro w B Aj Al nj cj cl L hlj hl hc hj hL hB ok1 ok2
  obtain ⟨i1, hi1, hy0, hy1, hy2⟩ := info_parts info3
  obtain ⟨⟨h1, h2⟩, o1, o2, o3⟩ := ok1 j (by simp)
  obtain ⟨h, fi, ei⟩ := j
  simp only at h1 h2 o1 o2 o3
  obtain ⟨f, rfl⟩ := Int.eq_ofNat_of_zero_le o1
  obtain ⟨e, rfl⟩ := Int.eq_ofNat_of_zero_le (show 0 ≤ ei by omega)
  have hok := fun (q : Jb) (hq : q ∈ js) => ok1 q (by simp [hq])
  obtain ⟨m, rfl⟩ : ∃ m, nj = m + 1 := ⟨js.length, by rw [← hlj]; rfl⟩
  have hm : js.length = m := by simpa using hlj
  have hm6 : m ≤ 6 := by omega
  obtain ⟨R, hR⟩ : ∃ R, placeM ((h, (f : Int), (e : Int)) :: js) L = R := ⟨_, rfl⟩
  have hR2 := placeM_nat.symm.trans hR
  rw [hR]
  obtain ⟨z0, z1, z2⟩ := evCells_at ((h, (f : Int), (e : Int)) :: js) 0 _ rfl
  obtain ⟨bb, off, rfl, hbB, e0, e1, e2⟩ := hj.at3 z0 z1 z2
  simp only [Nat.zero_mul, Nat.add_zero] at e0 e1 e2
  have hjt := hj.tailEv
  have hba : Below w.heap.size w (w.alloc (.cells #[.int .i64 h, .int .i64 (f : Int), .int .i64 (e : Int)] 81)) := (Below.refl _ _).alloc (Nat.le_refl _) _
  have kb : (w.alloc (.cells #[.int .i64 h, .int .i64 (f : Int), .int .i64 (e : Int)] 81)).heap[w.heap.size]? = some (.cells #[.int .i64 h, .int .i64 (f : Int), .int .i64 (e : Int)] 81 (0, 0)) := by rw [heapq_alloc, if_pos rfl]
  have m0 := (cell_of_row _ _ 0 _ _ _ kb).trans (by rfl : _ = some (.int .i64 h))
  have m1 := (cell_of_row _ _ 1 _ _ _ kb).trans (by rfl : _ = some (.int .i64 (f : Int)))
  have m2 := (cell_of_row _ _ 2 _ _ _ kb).trans (by rfl : _ = some (.int .i64 (e : Int)))
  have hjt0 := hjt.below (hba.mono hB)
  have hL0 := hL.below (hba.mono hB)
  have hs0 : w.heap.size ≤ (w.alloc (.cells #[.int .i64 h, .int .i64 (f : Int), .int .i64 (e : Int)] 81)).heap.size := hba.size
  have hB0 := Nat.le_trans hB hs0
  have HB := Lib.hid hba
  have HL := Lib.hid hl
  have HR2 := Lib.hid hR2
  have HM := Lib.hid hm
  have HOK := Lib.hid hok
  have HOK2 := Lib.hid ok2
  clear hl hlj hm hok ok1 ok2 hj hL hjt hba kb z0 z1 z2 hR hR2 hjs
  go_enter Tryz.func84, Tryz.ntmps84
  go_upto_region 4 with (fail)
  generalize (w.alloc (.cells #[.int .i64 h, .int .i64 (f : Int), .int .i64 (e : Int)] 81)) = w0 at *
  generalize hxx : w.heap.size = x0 at *
  have HXX := Lib.hid hxx
  clear hxx e0 e1 e2
  have M0 := Lib.hid m0
  have M2 := Lib.hid m2
  go_wp2
  go_loopw [7] (fun u7 wr => PlaceRel w0 js L h f e R u7 wr) (fun u7 _ => e + 1 - (intOf u7).toNat)
  case atStart => exact ⟨f, f, Nat.le_refl _, by omega, rfl, rfl, HR2.out, Below.refl _ _⟩
  case round =>
    clear m0 m1 m2 HR2
    obtain ⟨wn, wi, g1, g2, hwi, rfl, hfs, hb⟩ := hrel
    have HFS := Lib.hid hfs
    have HBK := Lib.hid hb
    have HWI := Lib.hid hwi
    have m0 := kept hb M0.out
    have m2 := kept hb M2.out
    have hsk := hb.size
    have hLk := hL0.below (hb.mono hB0)
    have hjk := hjt0.below (hb.mono hB0)
    have hBk := Nat.le_trans hB0 hsk
    have hwi0 : 0 ≤ wi ∧ wi ≤ 6 := by omega
    clear hfs hb
    by_cases hlt : wn ≤ e
    · have hle : wi ≤ (e : Int) := by omega
      have hwl : wn < L.length := by rw [HL.out]; omega
      have hx := HOK2.out _ (drop_mem hwl)
      obtain ⟨bl, ol, rfl, hbl, d0⟩ := hLk.at_ (intCells_at L wn hwl)
      have HFS2 : Hid ((placeG js L h wn).or ((List.range' (wn + 1) (e + 1 - (wn + 1))).findSome? (placeG js L h)) = R) := by
        have := HFS.out
        rw [show e + 1 - wn = (e + 1 - (wn + 1)) + 1 by omega, List.range'_succ, List.findSome?_cons] at this
        cases hg : placeG js L h wn with
        | none => rw [hg] at this; exact this
        | some q => rw [hg] at this; exact this
      have HG : Hid (placeG js L h wn = if L[wn]?.getD 0 < h then none else (placeM js (L.set wn (L[wn]?.getD 0 - h))).map fun l => (wn : Int) :: l) := rfl
      obtain ⟨x, hxv⟩ : ∃ x, L[wn]?.getD 0 = x := ⟨_, rfl⟩
      rw [hxv] at d0 hx HG
      have HXV := Lib.hid hxv
      clear HFS hxv
      have hni : wi.toNat = wn := by omega
      go_upto_region 7 with (fail)
      have y0 := fun y : Xt wr => y.cell m0
      have y1 := fun y : Xt wr => y.cell d0
      by_cases hxh : x < h
      · have q : decide (x < h) = true := decide_eq_true hxh
        have HN : Hid ((List.range' (wn + 1) (e + 1 - (wn + 1))).findSome? (placeG js L h) = R) := by
          have := HFS2.out
          rw [HG.out, if_pos hxh] at this
          exact this
        refine wp_region_xt (by kernel_rfl) (by kernel_rfl) ?_
        repeat (go_big_quiet_step (fail))
        refine wpQuiet_nil ?_
        intro w1 hx1
        have HB1 := Lib.hid (HBK.out.trans ((Xt.below hx1).mono hsk))
        clear hx1 y0 y1 q
        go_wp2
        go_roundw
        case rel => exact ⟨wn + 1, wi + 1, by omega, by omega, by have := HWI.out; omega, by go_num, HN.out, HB1.out⟩
        case measure => simp [intOf]; omega
      · have q : decide (x < h) = false := decide_eq_false hxh
        have HG2 : Hid (placeG js L h wn = (placeM js (L.set wn (x - h))).map fun l => (wn : Int) :: l) := by
          rw [Hid, HG.out, if_neg hxh]
        refine wp_region_xt (by kernel_rfl) (by kernel_rfl) ?_
        repeat (go_big_quiet_step (fail))
        refine wpQuiet_nil ?_
        intro w1 hx1
        have hb1 := Xt.below hx1
        clear hx1 y0 y1 q HG
        replace m0 := kept hb1 m0
        replace m2 := kept hb1 m2
        replace hLk := hLk.below (hb1.mono hBk)
        replace hjk := hjk.below (hb1.mono hBk)
        replace HBK := Lib.hid (HBK.out.trans (hb1.mono hsk))
        replace hsk := Nat.le_trans hsk hb1.size
        replace hBk := Nat.le_trans hBk hb1.size
        clear hb1 d0
        go_upto_region 9 with (go_at_call 78; refine (CloneI_any w1 B (some ⟨bl, ol, none⟩) nw cl L HL.out (by omega) hLk hBk).mono ?_; rintro e1 w2 ⟨A2, c2, rfl, hown2, hb2⟩)
        obtain ⟨G, rfl⟩ : ∃ G, A2 = some ⟨G, 0, none⟩ := by
          rcases hown2.2 with ⟨_, h0⟩ | ⟨g, cap, cur, he, _⟩
          · exact absurd h0 (by omega)
          · simp only [Value.slice.injEq] at he
            exact ⟨g, he.1⟩
        obtain ⟨p0, p1, p2, p3⟩ := ownI_cell hown2 (intCells_at L wn hwl)
        rw [HXV.out] at p0
        have m0' := kept hb2 m0
        have y0 := fun y : Xt w2 => y.cell m0'
        have y1 := fun y : Xt w2 => y.cell p0
        have OWN3 : Hid ((w2.setCell ⟨G, wn, none⟩ (.int .i64 (x - h))).drew.ownsRow w1.heap.size 3 1 (.slice (some ⟨G, 0, none⟩) nw c2) nw (intCells (L.set wn (x - h)))) := by
          rw [Hid, ← intCells_set]
          exact ownI_set hown2 _
        have HB3 : Hid (Below w1.heap.size w1 (w2.setCell ⟨G, wn, none⟩ (.int .i64 (x - h))).drew) := (hb2.setCell (p := ⟨G, wn, none⟩) p2 _).drew
        have hG : w1.heap.size ≤ G := p2
        refine wp_region_eager [8] (fun w' => ∃ y : Xt w2, w' = y.1) (by kernel_rfl) ⟨⟨w2.drew, (Below.refl _ _).drew⟩, rfl⟩ ?_
        refine wpE_reads [0, 1, 2, 3, 4, 5, 6, 7] 1 rfl (by kernel_rfl) ?_
        simp only [opsAt_nil, opsAt_cons, consOpt_some, List.getElem?_toArray, List.getElem?_cons_zero, List.getElem?_cons_succ]
        repeat (go_big_quiet_step (fail))
        refine wpQuiet_nil ?_
        clear y0 y1 m0'
        refine wpE_tail rfl (by kernel_rfl) ?_
        simp only [opsAt_nil, opsAt_cons, consOpt_some, List.getElem?_toArray, List.getElem?_cons_zero, List.getElem?_cons_succ]
        go_wp2
        refine onlyNormal_mk ?_
        clear p0 p1 p2 p3 hown2 hb2
        generalize (w2.setCell ⟨G, wn, none⟩ (.int .i64 (x - h))).drew = w3 at *
        replace hjk := hjk.below (HB3.out.mono hBk)
        replace HBK := Lib.hid (HBK.out.trans (HB3.out.mono hsk))
        have hsk1 := hsk
        replace hsk := Nat.le_trans hsk HB3.out.size
        replace hBk := Nat.le_trans hBk HB3.out.size
        have hrd3 := rd_own OWN3.out
        have okL : ∀ y ∈ L.set wn (x - h), 0 ≤ y ∧ y ≤ 1000 := by
          intro y hy
          rcases List.mem_or_eq_of_mem_set hy with hy | rfl
          · exact HOK2.out y hy
          · omega
        obtain ⟨L', hL'⟩ : ∃ L', L.set wn (x - h) = L' := ⟨_, rfl⟩
        have hlL : L'.length = nw := by rw [← hL', List.length_set]; exact HL.out
        rw [hL'] at hrd3 okL HG2
        have hjB := (hjk.mono hBk)
        clear m0 m2 hLk OWN3 HB3 HXV hL' hx hwl
        obtain ⟨o, ho⟩ : ∃ o, placeM js L' = o := ⟨_, rfl⟩
        rw [ho] at HG2
        have HT : Hid (∀ T, o = some T → T.length ≤ 6) := fun T hT => by
          rw [(place_some (n := nw) js L' T (fun q hq => (HOK.out q hq).2) (ho.trans hT)).1, HM.out]
          exact hm6
        by_cases hc1 : cj = 1
        · subst hc1
          obtain rfl : m = 0 := by omega
          obtain rfl : js = [] := List.eq_nil_of_length_eq_zero HM.out
          have C := IH w3 w3.heap.size (some ⟨bb, off, none⟩) (some ⟨G, 0, none⟩) 0 0 c2 L' rfl hlL (Nat.le_refl _) (fun k u hk => by simp [evCells] at hk) hrd3 (Nat.le_refl _) (fun q hq => by simp at hq) okL
          rw [ho] at C
          unfold RefLeastPost at C
          clear ho hjB hjk okL hrd3 hlL
          cases o with
          | none =>
            simp only [BeamsAt, Option.isSome_none] at C
            have HN : Hid ((List.range' (wn + 1) (e + 1 - (wn + 1))).findSome? (placeG [] L h) = R) := by
              have := HFS2.out
              rw [HG2.out] at this
              exact this
            go_wp2_with (go_at_call 84; refine C.mono ?_; rintro e2 w4 ⟨v, rfl, rfl, hb4⟩)
            have HB4 := Lib.hid (HBK.out.trans (hb4.mono hsk))
            clear hb4 C
            go_wp2
            go_roundw
            case rel =>
              have HREL : PlaceRel w0 [] L h f e R (.int .i64 (wi + 1)) w4 := ⟨wn + 1, wi + 1, by omega, by omega, by have := HWI.out; omega, rfl, HN.out, HB4.out⟩
              repeat apply Exists.intro
              exact ⟨HREL, rfl⟩
            case measure => simp [intOf]; omega
          | some T =>
            simp only [BeamsAt, Option.isSome_some] at C
            have HRS : Hid (R = some ((wn : Int) :: T)) := by
              have := HFS2.out
              rw [HG2.out] at this
              exact this.symm
            have hT := HT.out T rfl
            go_upto_region 12 with (go_at_call 84; refine C.mono ?_; rintro e2 w4 ⟨v, rfl, ⟨A4, c4, rfl, hT4⟩, hb4⟩)
            have HB4 := Lib.hid (HBK.out.trans (hb4.mono hsk))
            replace hsk := Nat.le_trans hsk hb4.size
            clear hb4 C
            go_wp2_with (at_builtin; refine stp ?_)
            unfold Stp
            have hb5 : Below w4.heap.size w4 (w4.alloc (.cells #[.int .i64 wi] 3)) := (Below.refl _ _).alloc (Nat.le_refl _) _
            have own5 : (w4.alloc (.cells #[.int .i64 wi] 3)).ownsRow w4.heap.size 3 1 (.slice (some ⟨w4.heap.size, 0, none⟩) 1 1) 1 [.int .i64 wi] := ⟨rfl, .inr ⟨w4.heap.size, 1, #[Value.int IntKind.i64 wi], rfl, Nat.le_refl _, by rw [heapq_alloc, if_pos rfl], by omega, by simp only [maxLen]; omega, rfl, rfl⟩⟩
            refine wpList_append_on _ rfl _ _ 44 rfl w4.heap.size 3 i1 _ 1 8 Tryz.underlying44 hi1 hy0 hy1 hy2 rfl (by omega) w4.heap.size 1 1 [.int .i64 wi] rfl own5 w4.heap.size A4 T.length c4 (intCells T) rfl (by simp [intCells]) (hT4.below hb5) (intCells_one T) (by simp only [maxLen]; omega) (by omega) (by simp) ?_
            intro g1 cap1 w6 hown6 hgrow6 hat6
            have hb6 : Below w4.heap.size w4 w6 := hb5.grown hgrow6 hb5.size (fun k hk => by rw [← Option.some.inj hk]; exact Nat.le_refl _)
            have HRD : Hid (Rd w6 w6.heap.size (some ⟨g1, 0, none⟩) (intCells ((wn : Int) :: T))) := by
              have := rd_own hown6
              rw [← HWI.out] at this
              exact this
            have HB6 := Lib.hid (HB4.out.trans (hb6.mono hsk))
            clear hown6 hgrow6 hat6 own5 hb5 hb6
            go_wp2
            go_ret2
            exact ⟨.slice (some ⟨g1, 0, none⟩) (1 + T.length) cap1, by rw [HRS.out]; rfl, by rw [HRS.out]; exact ⟨some ⟨g1, 0, none⟩, cap1, by rw [List.length_cons, Nat.add_comm], HRD.out⟩, HXX.out ▸ HB.out.trans (HB6.out.mono hs0)⟩
        · have C := IH w3 w3.heap.size (some ⟨bb, off + 3, none⟩) (some ⟨G, 0, none⟩) m (cj - 1) c2 L' HM.out hlL (by omega) hjB hrd3 (Nat.le_refl _) HOK.out okL
          rw [ho] at C
          unfold RefLeastPost at C
          clear ho hjB hjk okL hrd3 hlL
          cases o with
          | none =>
            simp only [BeamsAt, Option.isSome_none] at C
            have HN : Hid ((List.range' (wn + 1) (e + 1 - (wn + 1))).findSome? (placeG js L h) = R) := by
              have := HFS2.out
              rw [HG2.out] at this
              exact this
            go_wp2_with (go_at_call 84; refine C.mono ?_; rintro e2 w4 ⟨v, rfl, rfl, hb4⟩)
            have HB4 := Lib.hid (HBK.out.trans (hb4.mono hsk))
            clear hb4 C
            go_wp2
            go_roundw
            case rel =>
              have HREL : PlaceRel w0 js L h f e R (.int .i64 (wi + 1)) w4 := ⟨wn + 1, wi + 1, by omega, by omega, by have := HWI.out; omega, rfl, HN.out, HB4.out⟩
              repeat apply Exists.intro
              exact ⟨HREL, rfl⟩
            case measure => simp [intOf]; omega
          | some T =>
            simp only [BeamsAt, Option.isSome_some] at C
            have HRS : Hid (R = some ((wn : Int) :: T)) := by
              have := HFS2.out
              rw [HG2.out] at this
              exact this.symm
            have hT := HT.out T rfl
            go_upto_region 12 with (go_at_call 84; refine C.mono ?_; rintro e2 w4 ⟨v, rfl, ⟨A4, c4, rfl, hT4⟩, hb4⟩)
            have HB4 := Lib.hid (HBK.out.trans (hb4.mono hsk))
            replace hsk := Nat.le_trans hsk hb4.size
            clear hb4 C
            go_wp2_with (at_builtin; refine stp ?_)
            unfold Stp
            have hb5 : Below w4.heap.size w4 (w4.alloc (.cells #[.int .i64 wi] 3)) := (Below.refl _ _).alloc (Nat.le_refl _) _
            have own5 : (w4.alloc (.cells #[.int .i64 wi] 3)).ownsRow w4.heap.size 3 1 (.slice (some ⟨w4.heap.size, 0, none⟩) 1 1) 1 [.int .i64 wi] := ⟨rfl, .inr ⟨w4.heap.size, 1, #[Value.int IntKind.i64 wi], rfl, Nat.le_refl _, by rw [heapq_alloc, if_pos rfl], by omega, by simp only [maxLen]; omega, rfl, rfl⟩⟩
            refine wpList_append_on _ rfl _ _ 44 rfl w4.heap.size 3 i1 _ 1 8 Tryz.underlying44 hi1 hy0 hy1 hy2 rfl (by omega) w4.heap.size 1 1 [.int .i64 wi] rfl own5 w4.heap.size A4 T.length c4 (intCells T) rfl (by simp [intCells]) (hT4.below hb5) (intCells_one T) (by simp only [maxLen]; omega) (by omega) (by simp) ?_
            intro g1 cap1 w6 hown6 hgrow6 hat6
            have hb6 : Below w4.heap.size w4 w6 := hb5.grown hgrow6 hb5.size (fun k hk => by rw [← Option.some.inj hk]; exact Nat.le_refl _)
            have HRD : Hid (Rd w6 w6.heap.size (some ⟨g1, 0, none⟩) (intCells ((wn : Int) :: T))) := by
              have := rd_own hown6
              rw [← HWI.out] at this
              exact this
            have HB6 := Lib.hid (HB4.out.trans (hb6.mono hsk))
            clear hown6 hgrow6 hat6 own5 hb5 hb6
            go_wp2
            go_ret2
            exact ⟨.slice (some ⟨g1, 0, none⟩) (1 + T.length) cap1, by rw [HRS.out]; rfl, by rw [HRS.out]; exact ⟨some ⟨g1, 0, none⟩, cap1, by rw [List.length_cons, Nat.add_comm], HRD.out⟩, HXX.out ▸ HB.out.trans (HB6.out.mono hs0)⟩
    · have HG : Hid (R = none) := by
        have := HFS.out
        rw [show e + 1 - wn = 0 by omega] at this
        exact this.symm
      have hgt : ¬ wi ≤ (e : Int) := by omega
      go_wp2
      go_ret2
      exact ⟨.slice none 0 0, by rw [HG.out]; rfl, by rw [HG.out]; rfl, HXX.out ▸ HB.out.trans (HBK.out.mono hs0)⟩
theorem place_all (nw : Nat) (hnw : nw ≤ 5) : ∀ J : List Jb, J.length ≤ 7 → PlaceAll nw J
  | [], _ => place_nil nw
  | j :: js, h => place_cons nw hnw j js (by simp at h; omega) (place_all nw hnw js (by simp at h; omega))
end Go.Proofs.YtlbgocgocanloaaGreatDoor
