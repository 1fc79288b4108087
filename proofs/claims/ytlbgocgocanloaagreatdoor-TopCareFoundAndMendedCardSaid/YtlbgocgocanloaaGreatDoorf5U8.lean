/- FewestDepots. -/
import Derived.Test.YtlbgocgocanloaaGreatDoorf5N3
import Derived.Test.YtlbgocgocanloaaGreatDoorf5Z8
import Derived.Test.YtlbgocgocanloaaGreatDoorf5W5
import Derived.Test.YtlbgocgocanloaaGreatDoorf5K0
import Derived.Test.YtlbgocgocanloaaGreatDoorf5U4
import Derived.Test.YtlbgocgocanloaaGreatDoorf5U6
namespace Go.Proofs.YtlbgocgocanloaaGreatDoor
open Go.RowKit
/-- the best set so far, as a value -/
def BestAt (w : World) : Option (List Nat) → Value → Prop
  | none, v => v = .slice none 0 0
  | some T, v => ∃ b cap, v = .slice (some ⟨b, 0, none⟩) T.length cap ∧ Rd w w.heap.size (some ⟨b, 0, none⟩) (natCells T)
theorem BestAt.below {w w' : World} {o : Option (List Nat)} {v : Value} (h : BestAt w o v) (hb : Below w.heap.size w w') : BestAt w' o v := by
  cases o with
  | none => exact h
  | some T =>
    obtain ⟨b, cap, h1, h2⟩ := h
    exact ⟨b, cap, h1, (h2.below hb).mono hb.size⟩
end Go.Proofs.YtlbgocgocanloaaGreatDoor

/- The reference's LeastFaults. -/
namespace Go.Proofs.YtlbgocgocanloaaGreatDoor
open Go.RowKit
/-- a set of beams as a value -/
def BeamsAt (w : World) : Option (List Int) → Value → Prop
  | none, v => v = .slice none 0 0
  | some T, v => ∃ A cap, v = .slice A T.length cap ∧ Rd w w.heap.size A (intCells T)
def RefLeastPost (w : World) (o : Option (List Int)) (x : Ending) (w' : World) : Prop :=
  ∃ v, x = .returned (.tuple #[v, .bool o.isSome]) ∧ BeamsAt w' o v ∧ Below w.heap.size w w'
end Go.Proofs.YtlbgocgocanloaaGreatDoor

/- LeastFaults. -/
namespace Go.Proofs.YtlbgocgocanloaaGreatDoor
open Go.RowKit
def leastE : Option (List Int) → Int
  | none => 12
  | some _ => 0
def LeastOutPost (w : World) (o : Option (List Int)) (e : Int) (x : Ending) (w' : World) : Prop :=
  ∃ v, x = .returned (.tuple #[v, .int .i64 e]) ∧ BeamsAt w' o v ∧ Below w.heap.size w w'
end Go.Proofs.YtlbgocgocanloaaGreatDoor

/- LeastFaults: what the code returns for a right record. -/
namespace Go.Proofs.YtlbgocgocanloaaGreatDoor
open Go.RowKit
theorem drop_mem {S : List Int} {k : Nat} (h : k < S.length) : S[k]?.getD 0 ∈ S := by
  rw [List.getElem?_eq_getElem h]
  exact List.getElem_mem h
theorem withM_len (l : List Rg) (bs : List Int) (n : Int) : (withM l bs n).length ≤ l.length + 1 := by
  rw [withM, List.length_cons]
  exact Nat.succ_le_succ (List.length_filter_le _ _)
theorem withM_ok {l : List Rg} {out : List Int} {x : Int} (ok : ∀ r ∈ l, 0 ≤ r.1 ∧ r.1 ≤ r.2.1) (hx : 0 ≤ x) : ∀ r ∈ withM l (out ++ [x]) ((out ++ [x]).getLast?.getD 0), 0 ≤ r.1 ∧ r.1 ≤ r.2.1 := by
  intro r hr
  rw [withM, List.mem_cons] at hr
  rcases hr with rfl | hr
  · simp only [List.getLast?_append, List.getLast?_singleton, Option.some_or, Option.getD_some]
    exact ⟨Int.le_refl _, hx⟩
  · exact ok r (List.mem_filter.1 hr).1
def IntsOwnPost (w : World) (l : List Int) (n : Nat) (e : Ending) (w' : World) : Prop :=
  ∃ A c, e = .returned (.slice A n c) ∧ w'.ownsRow w.heap.size 3 1 (.slice A n c) n (intCells l) ∧ Below w.heap.size w w'
theorem CloneI_any (w : World) (B : Nat) (A : Option Addr) (n c : Nat) (l : List Int) (hl : l.length = n) (hn : n ≤ 1000) (h : Rd w B A (intCells l)) (hB : B ≤ w.heap.size) : Calls Tryz.prog 78 #[.slice A n c] w (IntsOwnPost w l n) := by
  cases A with
  | none =>
    have hl0 : l = [] := by
      cases l with
      | nil => rfl
      | cons x l =>
        obtain ⟨b, off, he, _⟩ := h 0 _ (intCells_at (x :: l) 0 (by simp))
        cases he
    subst hl0
    obtain rfl : 0 = n := hl
    refine (Tryz.slices_Clone_nil_f78 0 c w).mono ?_
    rintro e w' ⟨rfl, rfl⟩
    exact ⟨none, 0, rfl, ⟨rfl, .inl ⟨rfl, rfl⟩⟩, Below.refl _ _⟩
  | some a =>
    obtain ⟨i1, hi1, hy0, hy1, hy2⟩ := info_parts info3
    cases l with
    | nil =>
      obtain rfl : 0 = n := hl
      obtain ⟨b, off, idx⟩ := a
      refine (Tryz.slices_Clone_int_zero ⟨b, off, idx⟩ c w).mono ?_
      rintro e w' ⟨v, rfl, hown, _, hb⟩
      obtain ⟨A', c', rfl⟩ := rowForm hown
      exact ⟨A', c', rfl, hown, hb⟩
    | cons x l =>
      obtain ⟨b, off, he, hbB, hc⟩ := h 0 _ (intCells_at (x :: l) 0 (by simp))
      obtain rfl : a = ⟨b, off, none⟩ := by simpa using he
      have HC : ∀ j, j < (x :: l).length → w.cell? ⟨b, off + j, none⟩ = some (.int .i64 ((x :: l).getD j 0)) := by
        intro j hj
        obtain ⟨b', off', he', _, hc'⟩ := h j _ (intCells_at (x :: l) j hj)
        simp only [Option.some.injEq, Addr.mk.injEq, and_true] at he'
        obtain ⟨rfl, rfl⟩ := he'
        rw [hc']
        simp
      have q := Tryz.slices_Clone_int b off n c (x :: l) w (by omega) (by omega) HC
      rw [List.take_of_length_le (by omega)] at q
      refine q.mono ?_
      rintro e w' ⟨v, rfl, hown, _, hb⟩
      obtain ⟨A', c', rfl⟩ := rowForm hown
      exact ⟨A', c', rfl, hown, hb⟩
/-- the loop: beams so far, how many are left, beams to come -/
def LeastRel (w0 : World) (few : List Int → Option Nat) (S FIN : List Int) (u5 u7 u27 : Value) (wr : World) : Prop :=
  ∃ (k left : Nat) (li : Int) (out : List Int) (A : Option Addr) (c : Nat), k ≤ S.length ∧ out.length ≤ k ∧ left ≤ S.length ∧ u27 = .int .i64 k ∧ u5 = .int .i64 li ∧ (left : Int) = li ∧ u7 = .slice A out.length c ∧ wr.ownsRow w0.heap.size 3 1 (.slice A out.length c) out.length (intCells out) ∧ leastGo few out (S.drop k) left = FIN ∧ Below w0.heap.size w0 wr
set_option maxRecDepth 100000 in
set_option maxHeartbeats 8000000 in
theorem LeastFaults_yes (w : World) (B bm : Nat) (A : Option Addr) (n c : Nat) (l : List Rg) (hl : l.length = n) (h : Rd w B A (rgCells l)) (hB : B ≤ w.heap.size) (hn : n ≤ 8) (h0 : recM bm l = 0) (ok : ∀ r ∈ l, 0 ≤ r.1 ∧ r.1 ≤ r.2.1) (R : Option (List Int)) (hR : leastM l bm = R) :
    Calls Tryz.prog 30 #[.agg #[.int .i64 bm, .slice A n c]] w (LeastOutPost w R (leastE R)) := by
  obtain ⟨r1, r2, r3⟩ := recM_zero h0
  have hbm : bm ≤ 40 := by omega
  obtain ⟨i1, hi1, hy0, hy1, hy2⟩ := info_parts info3
  have hb0 : Below w.heap.size w (w.alloc (.cells #[.int .i64 (bm : Int), .slice A n c] 70)) := (Below.refl _ _).alloc (Nat.le_refl _) _
  have hr0 := h.below (hb0.mono hB)
  have k0 : (w.alloc (.cells #[.int .i64 (bm : Int), .slice A n c] 70)).heap[w.heap.size]? = some (.cells #[.int .i64 (bm : Int), .slice A n c] 70 (0, 0)) := by rw [heapq_alloc, if_pos rfl]
  have c0 : (w.alloc (.cells #[.int .i64 (bm : Int), .slice A n c] 70)).cell? ⟨w.heap.size, 0, none⟩ = some (.int .i64 (bm : Int)) := (cell_of_row _ _ 0 _ _ _ k0).trans rfl
  have c1 : (w.alloc (.cells #[.int .i64 (bm : Int), .slice A n c] 70)).cell? ⟨w.heap.size, 1, none⟩ = some (.slice A n c) := (cell_of_row _ _ 1 _ _ _ k0).trans rfl
  have hs0 := hb0.size
  have hB0 := Nat.le_trans hB hs0
  have RE := recordErr_any (w.alloc (.cells #[.int .i64 (bm : Int), .slice A n c] 70)) B bm A n c l hl hr0 hB0 (by omega)
  unfold ErrVal at RE
  rw [h0] at RE
  have FW := fun W (h1 : Rd W B A (rgCells l)) (h3 : B ≤ W.heap.size) => fewest_any W B bm A n c l hl h1 h3 (by omega) hbm ok
  have HL := Lib.hid hl
  have HB := Lib.hid hb0
  have HR := Lib.hid hR
  clear h hl hb0 k0 h0 hR
  go_enter Tryz.func30, Tryz.ntmps30
  go_upto_region 1 with (fail)
  generalize w.alloc (.cells #[.int .i64 (bm : Int), .slice A n c] 70) = w0 at *
  go_upto_region 2 with (go_at_call 74; refine RE.mono ?_; rintro e w1 ⟨rfl, hb1⟩)
  replace c0 := kept hb1 c0
  replace c1 := kept hb1 c1
  replace hr0 := hr0.below (hb1.mono hB0)
  replace HB := Lib.hid (HB.out.trans (hb1.mono hs0))
  replace hB0 := Nat.le_trans hB0 hb1.size
  replace hs0 := Nat.le_trans hs0 hb1.size
  clear hb1 RE
  have F1 := FW w1 hr0 hB0
  obtain ⟨fo, hfo⟩ : ∃ fo, fewM (suspK l bm) l = fo := ⟨_, rfl⟩
  unfold FewOutPost at F1
  rw [hfo] at F1
  have HFO := Lib.hid hfo
  clear hfo
  cases fo with
  | none =>
    have HRN : Hid (R = none) := by
      rw [Hid, ← HR.out, leastM, HFO.out]
      rfl
    go_wp2_with (go_at_call 75; refine F1.mono ?_; rintro e w2 ⟨rfl, hb1⟩)
    go_ret2
    exact ⟨.slice none 0 0, by rw [HRN.out]; rfl, by rw [HRN.out]; rfl, HB.out.trans (hb1.mono hs0)⟩
  | some kf =>
    have HRS : Hid (R = some (leastGo (withFew l bm) [] (suspK l bm) kf)) := by
      rw [Hid, ← HR.out, leastM, HFO.out]
      rfl
    have hkf : kf ≤ (suspK l bm).length := by
      obtain ⟨⟨T, t1, _, t3⟩, _⟩ := few_some (suspK_sorted l bm) (fun s hs => (suspK_in s hs).1) ok HFO.out
      have := t1.length_le
      omega
    have hS40 : (suspK l bm).length ≤ 40 := Nat.le_trans (suspK_len l bm) hbm
    have hSin : ∀ x ∈ suspK l bm, 0 ≤ x ∧ x < (bm : Int) := suspK_in
    rw [show fewV (some kf) = (kf : Int) from rfl, show (some kf).isSome = true from rfl] at F1
    go_upto_region 5 with (go_at_call 75; refine F1.mono ?_; rintro e w2 ⟨rfl, hb1⟩)
    replace c0 := kept hb1 c0
    replace c1 := kept hb1 c1
    replace hr0 := hr0.below (hb1.mono hB0)
    replace HB := Lib.hid (HB.out.trans (hb1.mono hs0))
    replace hB0 := Nat.le_trans hB0 hb1.size
    replace hs0 := Nat.le_trans hs0 hb1.size
    clear hb1 F1
    have SU := suspects_any w2 B bm A n c l HL.out hr0 hB0 (by omega) hbm
    obtain ⟨S, hS⟩ : ∃ S, suspK l bm = S := ⟨_, rfl⟩
    rw [hS] at SU HRS hkf hS40 hSin
    have HS := Lib.hid hS
    clear hS
    go_upto_region 8 with fail
    go_wp2_with (go_at_call 76; refine SU.mono ?_; rintro e w3 ⟨A3, c3, rfl, hSr, hb3⟩)
    replace c0 := kept hb3 c0
    replace c1 := kept hb3 c1
    replace hr0 := hr0.below (hb3.mono hB0)
    replace HB := Lib.hid (HB.out.trans (hb3.mono hs0))
    replace hB0 := Nat.le_trans hB0 hb3.size
    replace hs0 := Nat.le_trans hs0 hb3.size
    clear hb3 SU
    have C0 := Lib.hid c0
    have C1 := Lib.hid c1
    obtain ⟨FIN, hFIN⟩ : ∃ FIN, leastGo (withFew l bm) [] S kf = FIN := ⟨_, rfl⟩
    rw [hFIN] at HRS
    have HFIN := Lib.hid hFIN
    clear hFIN
    go_loopw [5, 7, 27] (fun u5 u7 u27 wr => LeastRel w3 (withFew l bm) S FIN u5 u7 u27 wr) (fun _ _ u27 _ => S.length - (intOf u27).toNat)
    case atStart => exact ⟨0, kf, kf, [], none, 0, Nat.zero_le _, Nat.zero_le _, hkf, rfl, rfl, rfl, rfl, ⟨rfl, .inl ⟨rfl, rfl⟩⟩, by rw [List.drop_zero]; exact HFIN.out, Below.refl _ _⟩
    case round =>
      clear c0 c1
      obtain ⟨k, left, li, out, Ao, co, hk, hok, hleft, rfl, rfl, hli, rfl, hown, hgo, hb⟩ := hrel
      have HOWN := Lib.hid hown
      have HGO := Lib.hid hgo
      have HBK := Lib.hid hb
      have HLI := Lib.hid hli
      have hsk := hb.size
      have hli0 : 0 ≤ li ∧ li ≤ 40 := by omega
      have c0 := kept hb C0.out
      have c1 := kept hb C1.out
      have hrk := hr0.below (hb.mono hB0)
      have hSk := hSr.below hb
      have hBK := Nat.le_trans hB0 hsk
      clear hb hown hgo hli
      by_cases hlt : k < S.length
      · have hxS := hSin _ (drop_mem hlt)
        obtain ⟨b3, o3, rfl, hb3, d0⟩ := hSk.at_ (intCells_at S k hlt)
        have HSD := Lib.hid (drop_at S 0 k hlt)
        generalize S[k]?.getD 0 = x at *
        by_cases h0 : li = 0
        · have HFE : Hid (out = FIN) := by
            have := HGO.out
            have hl0 := HLI.out
            obtain rfl : left = 0 := by omega
            rw [leastGo] at this
            exact this
          subst h0
          clear HLI
          go_wp2
          go_ret2
          exact ⟨.slice Ao out.length co, by rw [HRS.out]; rfl, by rw [HRS.out, ← HFE.out]; exact ⟨Ao, co, rfl, rd_own HOWN.out⟩, HB.out.trans (HBK.out.mono hs0)⟩
        · obtain ⟨lf, rfl⟩ : ∃ lf, left = lf + 1 := ⟨left - 1, by have := HLI.out; omega⟩
          have e0 : (li == 0) = false := beq_eq_false_iff_ne.2 h0
          have hli1 : 1 ≤ li := by omega
          obtain ⟨M, hM⟩ : ∃ M, withM l (out ++ [x]) ((out ++ [x]).getLast?.getD 0) = M := ⟨_, rfl⟩
          obtain ⟨fo, hfo⟩ : ∃ fo, withFew l bm (out ++ [x]) = fo := ⟨_, rfl⟩
          obtain ⟨fv, hfv⟩ : ∃ v, fewV fo = v := ⟨_, rfl⟩
          obtain ⟨fb, hfb⟩ : ∃ b, fo.isSome = b := ⟨_, rfl⟩
          have hfoM : fewM (suspK M bm) M = fo := by rw [← hM]; exact hfo
          have hML : M.length ≤ 9 := by
            have := withM_len l (out ++ [x]) ((out ++ [x]).getLast?.getD 0)
            rw [hM, HL.out] at this
            omega
          have hokM : ∀ r ∈ M, 0 ≤ r.1 ∧ r.1 ≤ r.2.1 := by
            rw [← hM]
            exact withM_ok ok hxS.1
          have WA := fun W A1 c1 (h1 : Rd W W.heap.size A (rgCells l)) (h2 : Rd W W.heap.size A1 (intCells (out ++ [x]))) => with_any W W.heap.size (bm : Int) A A1 n c out.length c1 l (out ++ [x]) HL.out (by simp) h1 h2 (Nat.le_refl _) (by omega) (by omega)
          rw [hM] at WA
          unfold WithPost at WA
          have FM := fun W A1 c1 (h1 : Rd W W.heap.size A1 (rgCells M)) => fewest_any W W.heap.size bm A1 M.length c1 M rfl h1 (Nat.le_refl _) (by omega) hbm hokM
          unfold FewOutPost at FM
          rw [hfoM, hfv, hfb] at FM
          have HNO : Hid (fb = false ∨ fv ≠ li - 1 → leastGo (withFew l bm) out (S.drop (k + 1)) (lf + 1) = FIN) := by
            intro hc
            have := HGO.out
            rw [HSD.out, leastGo, if_neg] at this
            · exact this
            · rw [hfo]
              rintro rfl
              rcases hc with hc | hc
              · rw [← hfb] at hc
                cases hc
              · have := HLI.out
                rw [← hfv] at hc
                exact hc (by simp only [fewV]; omega)
          have HYES : Hid (fb = true → fv = li - 1 → leastGo (withFew l bm) (out ++ [x]) (S.drop (k + 1)) lf = FIN) := by
            intro h1 h2
            have := HGO.out
            rw [HSD.out, leastGo, if_pos] at this
            · exact this
            · rw [hfo]
              have hl1 := HLI.out
              cases fo with
              | none => rw [← hfb] at h1; cases h1
              | some j =>
                simp only [fewV] at hfv
                congr 1
                omega
          clear hM hfo hfoM hfv hfb hokM h0
          go_upto_region 12 with fail
          clear e0 d0
          have x0 := fun y : Xt wr => y.cell c0
          have x1 := fun y : Xt wr => y.cell c1
          have HOW0 := Lib.hid (rd_own HOWN.out)
          refine wp_region_eager [12] (fun w' => ∃ y : Xt wr, w' = y.1) (by kernel_rfl) ⟨⟨wr.drew, (Below.refl _ _).drew⟩, rfl⟩ ?_
          refine wpE_reads [0, 1, 3] 10 rfl (by kernel_rfl) ?_
          simp only [opsAt_nil, opsAt_cons, consOpt_some, List.getElem?_toArray, List.getElem?_cons_zero, List.getElem?_cons_succ]
          repeat (go_big_quiet_step (fail))
          refine wpQuiet_nil ?_
          have hbd : Below wr.heap.size wr wr.drew := (Below.refl _ _).drew
          show wpE _ _ _ _ _ _ _ _ _ wr.drew
          clear x0 x1 c0 c1
          generalize wr.drew = wd at *
          refine wpE_two (i := 2) (k := 4) rfl (by kernel_rfl) rfl rfl ?_ ?_
          · unfold wpMid
            simp only [opsAt_nil, opsAt_cons, consOpt_some, List.getElem?_toArray, List.getElem?_cons_zero, List.getElem?_cons_succ]
            go_wp2_with (go_at_call 78; refine (CloneI_any wd wr.heap.size Ao out.length co out rfl (by omega) (HOW0.out.below hbd) hbd.size).mono ?_; rintro e y2 ⟨A2, c2, rfl, hown2, hb2⟩)
            have hb02 := hbd.trans (hb2.mono hbd.size)
            refine onlyNormal_mk ⟨⟨⟨_, hb02⟩, rfl⟩, ?_⟩
            refine wpE_one (i := 4) rfl (by kernel_rfl) rfl ?_
            unfold wpMid
            simp only [opsAt_nil, opsAt_cons, consOpt_some, List.getElem?_toArray, List.getElem?_cons_zero, List.getElem?_cons_succ]
            go_wp2
            have hb03 : Below wr.heap.size wr (y2.alloc (.cells #[.int .i64 x] 3)) := hb02.alloc hb02.size _
            have n3 : (y2.alloc (.cells #[.int .i64 x] 3)).cell? ⟨y2.heap.size, 0, none⟩ = some (.int .i64 x) := (cell_of_row _ _ 0 _ _ _ (by rw [heapq_alloc, if_pos rfl])).trans rfl
            have OW3 : Hid ((y2.alloc (.cells #[.int .i64 x] 3)).ownsRow wd.heap.size 3 1 (.slice A2 out.length c2) out.length (intCells out)) := hown2.alloc _
            have hbs1 : wr.heap.size ≤ wd.heap.size := hbd.size
            have hbs2 : wd.heap.size ≤ (y2.alloc (.cells #[.int .i64 x] 3)).heap.size := Nat.le_trans hb2.size ((Below.refl _ _).alloc (Nat.le_refl _) _ : Below y2.heap.size y2 _).size
            clear hown2 hb2 hb02
            generalize y2.alloc (.cells #[.int .i64 x] 3) = y3 at *
            generalize y2.heap.size = gz at *
            generalize wd.heap.size = bs at *
            refine onlyNormal_mk ⟨⟨⟨_, hb03⟩, rfl⟩, ?_⟩
            clear HOW0
            refine wpE_one (i := 5) rfl (by kernel_rfl) rfl ?_
            unfold wpMid
            simp only [opsAt_nil, opsAt_cons, consOpt_some, List.getElem?_toArray, List.getElem?_cons_zero, List.getElem?_cons_succ]
            go_wp2_with (at_builtin; refine stp ?_)
            unfold Stp
            refine wpList_append_lies _ rfl _ _ 44 rfl bs 3 i1 _ 1 8 Tryz.underlying44 hi1 hy0 hy1 hy2 rfl (by omega) (.slice A2 out.length c2) out.length (intCells out) rfl OW3.out ⟨gz, 0, none⟩ 1 1 [.int .i64 x] rfl rfl (news1 n3) (by simp [Value.oneCell']) (by omega) (by simp only [maxLen]; omega) (by omega) hbs2 _ rfl ?_
            intro gg cap y5 hown5 hgrow5 hat5 hlt5
            have hb5 : Below wr.heap.size wr y5 := hb03.grown hgrow5 hb03.size (fun k hk => Nat.le_trans hbs1 (ownBlk OW3.out hk).1)
            have hrs : Rd y5 y5.heap.size (some ⟨gg, 0, none⟩) (intCells (out ++ [x])) := by simpa [intCells] using rd_own hown5
            have hr5 := (hrk.below (hb5.mono hBK)).mono (Nat.le_trans hBK hb5.size)
            clear hown5 hgrow5 hat5 hlt5 OW3 n3 hbs1 hbs2 hb03
            go_wp2
            refine onlyNormal_mk ⟨⟨⟨_, hb5⟩, rfl⟩, ?_⟩
            refine wpE_one (i := 6) rfl (by kernel_rfl) rfl ?_
            unfold wpMid
            simp only [opsAt_nil, opsAt_cons, consOpt_some, List.getElem?_toArray, List.getElem?_cons_zero, List.getElem?_cons_succ]
            go_wp2_with (go_at_call 77; refine (WA y5 (some ⟨gg, 0, none⟩) cap hr5 hrs).mono ?_; rintro e y6 ⟨A6, c6, rfl, h6, hb6⟩)
            have hb06 := hb5.trans (hb6.mono hb5.size)
            clear hrs hr5 hb6 hb5
            refine onlyNormal_mk ⟨⟨⟨_, hb06⟩, rfl⟩, ?_⟩
            refine wpE_one (i := 7) rfl (by kernel_rfl) rfl ?_
            unfold wpMid
            simp only [opsAt_nil, opsAt_cons, consOpt_some, List.getElem?_toArray, List.getElem?_cons_zero, List.getElem?_cons_succ]
            go_wp2_with (go_at_call 75; refine (FM y6 A6 c6 h6).mono ?_; rintro e y7 ⟨rfl, hb7⟩)
            have hb07 := hb06.trans (hb7.mono hb06.size)
            clear h6 hb7 hb06
            refine onlyNormal_mk ⟨⟨⟨_, hb07⟩, rfl⟩, ?_⟩
            refine wpE_reads [8, 9, 10, 11] 1 rfl (by kernel_rfl) ?_
            simp only [opsAt_nil, opsAt_cons, consOpt_some, List.getElem?_toArray, List.getElem?_cons_zero, List.getElem?_cons_succ]
            repeat (go_big_quiet_step (fail))
            refine wpQuiet_nil ?_
            refine wpE_tail rfl (by kernel_rfl) ?_
            simp only [opsAt_nil, opsAt_cons, consOpt_some, List.getElem?_toArray, List.getElem?_cons_zero, List.getElem?_cons_succ]
            go_wp2
            refine onlyNormal_mk ?_
            have HOW7 := Lib.hid (ownsRow_below HOWN.out hb07)
            have HB7 := Lib.hid (HBK.out.trans (hb07.mono hsk))
            have hs7 := Nat.le_trans hsk hb07.size
            clear hb07 WA FM
            cases fb with
            | false =>
              have HN := Lib.hid (HNO.out (.inl rfl))
              go_wp2
              go_roundw
              case rel => exact ⟨k + 1, lf + 1, li, out, Ao, co, by omega, by omega, hleft, by go_num, rfl, HLI.out, rfl, HOW7.out, HN.out, Below.trans HB7.out (Below.refl _ _)⟩
              case measure => simp [intOf]; omega
            | true =>
              by_cases hfv : fv = li - 1
              · have HN := Lib.hid (HYES.out rfl hfv)
                have e9 : (fv == li - 1) = true := beq_iff_eq.2 hfv
                have HFV := Lib.hid hfv
                clear hfv
                go_upto_region 14 with fail
                clear e9
                go_wp2_with (at_builtin; refine stp ?_)
                unfold Stp
                refine wpList_append_lies _ rfl _ _ 44 rfl w3.heap.size 3 i1 _ 1 8 Tryz.underlying44 hi1 hy0 hy1 hy2 rfl (by omega) (.slice Ao out.length co) out.length (intCells out) rfl (HOW7.out.alloc _) ⟨y7.heap.size, 0, none⟩ 1 1 [.int .i64 x] rfl rfl (news1 (by simp)) (by simp [Value.oneCell']) (by omega) (by simp only [maxLen]; omega) (by omega) (by simp; omega) _ rfl ?_
                intro g8 cap8 y8 hown8 hgrow8 hat8 hlt8
                have HB8 := Lib.hid ((HB7.out.alloc hs7 _).grown hgrow8 (by simp; omega) (fun k hk => (ownBlk HOW7.out hk).1))
                have HOWN8 := Lib.hid hown8
                clear hown8 hgrow8 hat8 hlt8
                go_wp2
                go_roundw
                case rel => exact ⟨k + 1, lf, li - 1, out ++ [x], some ⟨g8, 0, none⟩, cap8, by omega, by simp; omega, by omega, by go_num, by go_num, by have := HLI.out; omega, by simp, by simpa [intCells] using HOWN8.out, HN.out, HB8.out⟩
                case measure => simp [intOf]; omega
              · have HN := Lib.hid (HNO.out (.inr hfv))
                have e9 : (fv == li - 1) = false := beq_eq_false_iff_ne.2 hfv
                clear hfv
                go_wp2
                go_roundw
                case rel => exact ⟨k + 1, lf + 1, li, out, Ao, co, by omega, by omega, hleft, by go_num, rfl, HLI.out, rfl, HOW7.out, HN.out, Below.trans HB7.out (Below.refl _ _)⟩
                case measure => simp [intOf]; omega
          · unfold wpMid
            simp only [opsAt_nil, opsAt_cons, consOpt_some, List.getElem?_toArray, List.getElem?_cons_zero, List.getElem?_cons_succ]
            go_wp2
            have hb02 : Below wr.heap.size wr (wd.alloc (.cells #[.int .i64 x] 3)) := hbd.alloc hbd.size _
            have n2 : (wd.alloc (.cells #[.int .i64 x] 3)).cell? ⟨wd.heap.size, 0, none⟩ = some (.int .i64 x) := (cell_of_row _ _ 0 _ _ _ (by rw [heapq_alloc, if_pos rfl])).trans rfl
            generalize wd.alloc (.cells #[.int .i64 x] 3) = y2 at *
            generalize wd.heap.size = gz at *
            refine onlyNormal_mk ⟨⟨⟨_, hb02⟩, rfl⟩, ?_⟩
            refine wpE_one (i := 2) rfl (by kernel_rfl) rfl ?_
            unfold wpMid
            simp only [opsAt_nil, opsAt_cons, consOpt_some, List.getElem?_toArray, List.getElem?_cons_zero, List.getElem?_cons_succ]
            go_wp2_with (go_at_call 78; refine (CloneI_any y2 wr.heap.size Ao out.length co out rfl (by omega) (HOW0.out.below hb02) hb02.size).mono ?_; rintro e y3 ⟨A2, c2, rfl, hown2, hb2⟩)
            have hb03 := hb02.trans (hb2.mono hb02.size)
            have n3 := kept hb2 n2
            have OW3 := Lib.hid hown2
            have hbs1 : wr.heap.size ≤ y2.heap.size := hb02.size
            have hbs2 : y2.heap.size ≤ y3.heap.size := hb2.size
            clear hown2 hb2 hb02 n2
            generalize y2.heap.size = bs at *
            refine onlyNormal_mk ⟨⟨⟨_, hb03⟩, rfl⟩, ?_⟩
            clear HOW0
            refine wpE_one (i := 5) rfl (by kernel_rfl) rfl ?_
            unfold wpMid
            simp only [opsAt_nil, opsAt_cons, consOpt_some, List.getElem?_toArray, List.getElem?_cons_zero, List.getElem?_cons_succ]
            go_wp2_with (at_builtin; refine stp ?_)
            unfold Stp
            refine wpList_append_lies _ rfl _ _ 44 rfl bs 3 i1 _ 1 8 Tryz.underlying44 hi1 hy0 hy1 hy2 rfl (by omega) (.slice A2 out.length c2) out.length (intCells out) rfl OW3.out ⟨gz, 0, none⟩ 1 1 [.int .i64 x] rfl rfl (news1 n3) (by simp [Value.oneCell']) (by omega) (by simp only [maxLen]; omega) (by omega) hbs2 _ rfl ?_
            intro gg cap y5 hown5 hgrow5 hat5 hlt5
            have hb5 : Below wr.heap.size wr y5 := hb03.grown hgrow5 hb03.size (fun k hk => Nat.le_trans hbs1 (ownBlk OW3.out hk).1)
            have hrs : Rd y5 y5.heap.size (some ⟨gg, 0, none⟩) (intCells (out ++ [x])) := by simpa [intCells] using rd_own hown5
            have hr5 := (hrk.below (hb5.mono hBK)).mono (Nat.le_trans hBK hb5.size)
            clear hown5 hgrow5 hat5 hlt5 OW3 n3 hbs1 hbs2 hb03
            go_wp2
            refine onlyNormal_mk ⟨⟨⟨_, hb5⟩, rfl⟩, ?_⟩
            refine wpE_one (i := 6) rfl (by kernel_rfl) rfl ?_
            unfold wpMid
            simp only [opsAt_nil, opsAt_cons, consOpt_some, List.getElem?_toArray, List.getElem?_cons_zero, List.getElem?_cons_succ]
            go_wp2_with (go_at_call 77; refine (WA y5 (some ⟨gg, 0, none⟩) cap hr5 hrs).mono ?_; rintro e y6 ⟨A6, c6, rfl, h6, hb6⟩)
            have hb06 := hb5.trans (hb6.mono hb5.size)
            clear hrs hr5 hb6 hb5
            refine onlyNormal_mk ⟨⟨⟨_, hb06⟩, rfl⟩, ?_⟩
            refine wpE_one (i := 7) rfl (by kernel_rfl) rfl ?_
            unfold wpMid
            simp only [opsAt_nil, opsAt_cons, consOpt_some, List.getElem?_toArray, List.getElem?_cons_zero, List.getElem?_cons_succ]
            go_wp2_with (go_at_call 75; refine (FM y6 A6 c6 h6).mono ?_; rintro e y7 ⟨rfl, hb7⟩)
            have hb07 := hb06.trans (hb7.mono hb06.size)
            clear h6 hb7 hb06
            refine onlyNormal_mk ⟨⟨⟨_, hb07⟩, rfl⟩, ?_⟩
            refine wpE_reads [8, 9, 10, 11] 1 rfl (by kernel_rfl) ?_
            simp only [opsAt_nil, opsAt_cons, consOpt_some, List.getElem?_toArray, List.getElem?_cons_zero, List.getElem?_cons_succ]
            repeat (go_big_quiet_step (fail))
            refine wpQuiet_nil ?_
            refine wpE_tail rfl (by kernel_rfl) ?_
            simp only [opsAt_nil, opsAt_cons, consOpt_some, List.getElem?_toArray, List.getElem?_cons_zero, List.getElem?_cons_succ]
            go_wp2
            refine onlyNormal_mk ?_
            have HOW7 := Lib.hid (ownsRow_below HOWN.out hb07)
            have HB7 := Lib.hid (HBK.out.trans (hb07.mono hsk))
            have hs7 := Nat.le_trans hsk hb07.size
            clear hb07 WA FM
            cases fb with
            | false =>
              have HN := Lib.hid (HNO.out (.inl rfl))
              go_wp2
              go_roundw
              case rel => exact ⟨k + 1, lf + 1, li, out, Ao, co, by omega, by omega, hleft, by go_num, rfl, HLI.out, rfl, HOW7.out, HN.out, Below.trans HB7.out (Below.refl _ _)⟩
              case measure => simp [intOf]; omega
            | true =>
              by_cases hfv : fv = li - 1
              · have HN := Lib.hid (HYES.out rfl hfv)
                have e9 : (fv == li - 1) = true := beq_iff_eq.2 hfv
                have HFV := Lib.hid hfv
                clear hfv
                go_upto_region 14 with fail
                clear e9
                go_wp2_with (at_builtin; refine stp ?_)
                unfold Stp
                refine wpList_append_lies _ rfl _ _ 44 rfl w3.heap.size 3 i1 _ 1 8 Tryz.underlying44 hi1 hy0 hy1 hy2 rfl (by omega) (.slice Ao out.length co) out.length (intCells out) rfl (HOW7.out.alloc _) ⟨y7.heap.size, 0, none⟩ 1 1 [.int .i64 x] rfl rfl (news1 (by simp)) (by simp [Value.oneCell']) (by omega) (by simp only [maxLen]; omega) (by omega) (by simp; omega) _ rfl ?_
                intro g8 cap8 y8 hown8 hgrow8 hat8 hlt8
                have HB8 := Lib.hid ((HB7.out.alloc hs7 _).grown hgrow8 (by simp; omega) (fun k hk => (ownBlk HOW7.out hk).1))
                have HOWN8 := Lib.hid hown8
                clear hown8 hgrow8 hat8 hlt8
                go_wp2
                go_roundw
                case rel => exact ⟨k + 1, lf, li - 1, out ++ [x], some ⟨g8, 0, none⟩, cap8, by omega, by simp; omega, by omega, by go_num, by go_num, by have := HLI.out; omega, by simp, by simpa [intCells] using HOWN8.out, HN.out, HB8.out⟩
                case measure => simp [intOf]; omega
              · have HN := Lib.hid (HNO.out (.inr hfv))
                have e9 : (fv == li - 1) = false := beq_eq_false_iff_ne.2 hfv
                clear hfv
                go_wp2
                go_roundw
                case rel => exact ⟨k + 1, lf + 1, li, out, Ao, co, by omega, by omega, hleft, by go_num, rfl, HLI.out, rfl, HOW7.out, HN.out, Below.trans HB7.out (Below.refl _ _)⟩
                case measure => simp [intOf]; omega
      · have HFE : Hid (out = FIN) := by
          have := HGO.out
          rw [List.drop_eq_nil_iff.2 (by omega)] at this
          cases left with
          | zero => rw [leastGo] at this; exact this
          | succ left => rw [leastGo] at this; exact this
        go_wp2
        go_ret2
        exact ⟨.slice Ao out.length co, by rw [HRS.out]; rfl, by rw [HRS.out, ← HFE.out]; exact ⟨Ao, co, rfl, rd_own HOWN.out⟩, HB.out.trans (HBK.out.mono hs0)⟩
end Go.Proofs.YtlbgocgocanloaaGreatDoor
