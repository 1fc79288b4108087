/- The reference's OutBy. -/
import Derived.Test.YtmcjnfghlpnghaaDoorM5
import Derived.Test.YtmcjnfghlpnghaaDoorC9
namespace Go.Proofs.YtmcjnfghlpnghaaDoor
open Go.RowKit

/-- the rows made one by one -/
def MadeRel (w : World) (B ob V : Nat) (gk : Nat) (u9 : Value) (wr : World) : Prop :=
  ∃ (k : Nat) (bl : List Nat), k + gk = V ∧ u9 = .int .i64 k ∧ bl.length = k ∧
    wr.heap[ob]? = some (.cells (rowsV bl V ++ List.replicate (V - k) (Value.slice none 0 0)).toArray 39 (0, 0)) ∧
    (∀ (i b : Nat), bl[i]? = some b → wr.heap[b]? = some (.cells (intCells (List.replicate V 0)).toArray 3 (0, 0)) ∧ B ≤ b ∧ b ≠ ob) ∧
    (∀ (i j b : Nat), bl[i]? = some b → bl[j]? = some b → i = j) ∧ Below B w wr

theorem zeroSq (n : Nat) : Sq n (zeroR n) :=
  ⟨by simp [zeroR], fun i r hr => by
    have := List.eq_of_mem_replicate (List.mem_of_getElem? hr)
    simp [this]⟩

theorem MadeRel.sq {w wr : World} {B ob V : Nat} {u9 : Value} (h : MadeRel w B ob V 0 u9 wr) (hob : B ≤ ob) : ∃ bl, SqAt wr B ob V bl (zeroR V) ∧ Below B w wr := by
  obtain ⟨k, bl, hk, _, hl, h1, h2, h3, h4⟩ := h
  obtain rfl : k = V := by omega
  refine ⟨bl, ⟨by simpa using h1, hl, fun i b hb => ?_, h3, hob, zeroSq k⟩, h4⟩
  obtain ⟨g1, g2, g3⟩ := h2 i b hb
  refine ⟨List.replicate k 0, ?_, g1, g2, g3⟩
  have := (List.getElem?_eq_some_iff.1 hb).1
  simp only [zeroR, List.getElem?_replicate]
  rw [if_pos (by omega)]

theorem rows_set {bl : List Nat} {k V b : Nat} (hl : bl.length = k) (hk : k < V) : (rowsV bl V ++ List.replicate (V - k) (Value.slice none 0 0)).set k (.slice (some ⟨b, 0, none⟩) V V) = rowsV (bl ++ [b]) V ++ List.replicate (V - (k + 1)) (Value.slice none 0 0) := by
  obtain ⟨m, hm⟩ : ∃ m, V - k = m + 1 := ⟨V - k - 1, by omega⟩
  rw [hm, show V - (k + 1) = m by omega, List.replicate_succ, List.set_append]
  have h1 : (rowsV bl V).length = k := by simp [rowsV, hl]
  rw [h1, if_neg (by omega), Nat.sub_self, List.set_cons_zero]
  simp [rowsV]

theorem MadeRel.step {w wr : World} {B ob V k gk : Nat} (h : MadeRel w B ob V (gk + 1) (.int .i64 k) wr) (hob : B ≤ ob) :
    MadeRel w B ob V gk (.int .i64 ((k : Int) + 1)) ((wr.setCell ⟨ob, k, none⟩ (.slice (some ⟨wr.heap.size, 0, none⟩) V V)).alloc (.cells (madeCells #[.int .i64 0] V) 3)) := by
  obtain ⟨k', bl, hk, hkk, hl, h1, h2, h3, h4⟩ := h
  have hkk' : k = k' := by
    simp only [Value.int.injEq, true_and] at hkk
    omega
  subst hkk'
  have hob2 := lt_of_block h1
  have hbl : ∀ (i b : Nat), bl[i]? = some b → b < wr.heap.size := fun i b hb => lt_of_block (h2 i b hb).1
  have hs : B ≤ wr.heap.size := by omega
  have hz : (wr.setCell ⟨ob, k, none⟩ (.slice (some ⟨wr.heap.size, 0, none⟩) V V)).heap.size = wr.heap.size := by simp [World.setCell]
  have hg : ∀ (i b : Nat), (bl ++ [wr.heap.size])[i]? = some b → bl[i]? = some b ∨ i = k ∧ b = wr.heap.size := fun i b hb => by
    rcases Nat.lt_or_ge i bl.length with hi | hi
    · rw [List.getElem?_append_left hi] at hb
      exact .inl hb
    · rw [List.getElem?_append_right hi] at hb
      have : i - bl.length = 0 := by
        have := (List.getElem?_eq_some_iff.1 hb).1
        simp at this
        omega
      rw [this] at hb
      simp at hb
      exact .inr ⟨by omega, hb.symm⟩
  refine ⟨k + 1, bl ++ [wr.heap.size], by omega, by simp, by simp [hl], ?_, fun i b hb => ?_, fun i j b hi hj => ?_, (h4.setCell hob _).alloc (by rw [hz]; exact hs) _⟩
  · rw [heapq_alloc, if_neg (by rw [hz]; omega), heapq_set, if_pos rfl, h1, ← rows_set hl (by omega)]
    simp [objSet_cells]
  · rcases hg i b hb with hb' | ⟨_, rfl⟩
    · obtain ⟨g1, g2, g3⟩ := h2 i b hb'
      have := hbl i b hb'
      refine ⟨?_, g2, g3⟩
      rw [heapq_alloc, if_neg (by rw [hz]; omega), heapq_set, if_neg g3]
      exact g1
    · refine ⟨?_, hs, by omega⟩
      rw [heapq_alloc, if_pos hz.symm]
      congr 2
      apply Array.ext'
      rw [toList_madeCells_one]
      simp [intCells]
  · rcases hg i b hi with hi' | ⟨hi', hbi⟩ <;> rcases hg j b hj with hj' | ⟨hj', hbj⟩
    · exact h3 i j b hi' hj'
    · have := hbl i b hi'
      omega
    · have := hbl j b hj'
      omega
    · omega

def PplRelR (w : World) (ob V R T : Nat) (bl : List Nat) (all : Int) (pp : List Int) (MF : List (List Int)) (gk : Nat) (u10 : Value) (wr : World) : Prop :=
  ∃ (k : Nat) (M : List (List Int)), k + gk = R ∧ u10 = .int .i64 k ∧ SqAt wr ob ob V bl M ∧ Below ob w wr ∧ peopleRm R T all k (pp.drop k) M = MF
def StayRelR (w : World) (ob V R T r : Nat) (bl : List Nat) (all : Int) (M1 : List (List Int)) (gk : Nat) (u11 : Value) (wr : World) : Prop :=
  ∃ (t : Nat) (M : List (List Int)), t + gk = T ∧ u11 = .int .i64 t ∧ SqAt wr ob ob V bl M ∧ Below ob w wr ∧ stayRm R r all t gk M = M1

def Bd (b : Int) (M : List (List Int)) : Prop := ∀ u v, 0 ≤ cellR M u v ∧ cellR M u v ≤ b
theorem Bd.set {b b' : Int} {n u v : Nat} {M : List (List Int)} (h : Bd b M) (hs : Sq n M) (hu : u < n) (hv : v < n) {x : Int} (hx : 0 ≤ x) (hxb : x ≤ b') (hb : b ≤ b') : Bd b' (setR M u v x) := fun a d => by
  rw [cell_set hs hu hv]
  split
  · exact ⟨hx, hxb⟩
  · exact ⟨(h a d).1, Int.le_trans (h a d).2 hb⟩
theorem Bd.mono {b b' : Int} {M : List (List Int)} (h : Bd b M) (hb : b ≤ b') : Bd b' M := fun u v => ⟨(h u v).1, Int.le_trans (h u v).2 hb⟩
def TickRelR (w : World) (ob R last T : Nat) (bl : List Nat) (ws : List Ev) (MB : List (List Int)) (gk : Nat) (u12 : Value) (wr : World) : Prop :=
  ∃ (t : Nat) (M : List (List Int)), t + gk = T ∧ u12 = .int .i64 t ∧ SqAt wr ob ob (last + 1) bl M ∧ Below ob w wr ∧ Bd (60001 + 160000 * (t : Int)) M ∧ ticksRm R last ws t gk M = MB
def WayRelR (w : World) (ob R last t nw : Nat) (bl : List Nat) (ws : List Ev) (M1 : List (List Int)) (gk : Nat) (u13 : Value) (wr : World) : Prop :=
  ∃ (j : Nat) (M : List (List Int)), j + gk = nw ∧ u13 = .int .i64 j ∧ SqAt wr ob ob (last + 1) bl M ∧ Below ob w wr ∧ Bd (60001 + 160000 * (t : Int) + 10000 * (j : Int)) M ∧ waysRm R last t (ws.drop j) M = M1

def RunRelR (w : World) (ob last : Nat) (bl : List Nat) (o : Int) (gk : Nat) (u16 : Value) (wr : World) : Prop :=
  ∃ (M : List (List Int)) (o5 : Int), u16 = .int .i64 o5 ∧ SqAt wr ob ob (last + 1) bl M ∧ Below ob w wr ∧ runR last gk 200 M o5 = some o

def RefOut (w : World) (o : Int) (e : Ending) (w' : World) : Prop := e = .returned (.int .i64 o) ∧ Below w.heap.size w w'

set_option maxRecDepth 100000 in
set_option maxHeartbeats 8000000 in
theorem refOut_any (w : World) (B : Nat) (Ap Aw : Option Addr) (np cp nw cw : Nat) (pp : List Int) (ws : List Ev) (hl : pp.length = np) (hlw : ws.length = nw) (hp : Rd w B Ap (intCells pp)) (hw : Rd w B Aw (evCells ws)) (hBw : B ≤ w.heap.size)
    (ok : RoomsOk pp ws) (T : Nat) (hT : T ≤ 20) (o : Int) (hr : runR (1 + np * (T + 1)) 60001 200 (builtR pp ws T) 0 = some o) :
    Calls Tryd.prog 34 #[.agg #[.slice Ap np cp, .slice Aw nw cw], .int .i64 T] w (RefOut w o) := by
  have HL := Lib.hid hl
  have HLW := Lib.hid hlw
  have OK := Lib.hid ok
  have r1 : 1 ≤ np := by rw [← hl]; exact ok.some_
  have r2 : np ≤ 6 := by rw [← hl]; exact ok.few
  have r3 : nw ≤ 16 := by rw [← hlw]; exact ok.fewW
  obtain ⟨last, hlast⟩ : ∃ n, n = 1 + np * (T + 1) := ⟨_, rfl⟩
  rw [← hlast] at hr
  have HR := Lib.hid hr
  have hmul : ((np : Int) * ((T : Int) + 1)) = ((np * (T + 1) : Nat) : Int) := by simp
  have hm126 : np * (T + 1) ≤ 126 := Nat.le_trans (Nat.mul_le_mul r2 (show T + 1 ≤ 21 by omega)) (by decide)
  have hm1 : 1 * 1 ≤ np * (T + 1) := Nat.mul_le_mul r1 (by omega)
  generalize hmm : np * (T + 1) = m at *
  have HM := Lib.hid hmm
  clear hmm
  have hl2 : 1 + (m : Int) = (last : Int) := by omega
  have hl3 : last ≤ 127 := by omega
  have hl4 : 2 ≤ last := by omega
  have HLA := Lib.hid hlast
  clear hlast
  have hb0 : Below w.heap.size w (w.alloc (.cells #[.slice Ap np cp, .slice Aw nw cw] 42)) := (Below.refl _ _).alloc (Nat.le_refl _) _
  have hp0 := hp.below (hb0.mono hBw)
  have hw0 := hw.below (hb0.mono hBw)
  have hs1 : w.heap.size ≤ (w.alloc (.cells #[.slice Ap np cp, .slice Aw nw cw] 42)).heap.size := hb0.size
  have hB0 : B ≤ (w.alloc (.cells #[.slice Ap np cp, .slice Aw nw cw] 42)).heap.size := Nat.le_trans hBw hs1
  have k0 : (w.alloc (.cells #[.slice Ap np cp, .slice Aw nw cw] 42)).heap[w.heap.size]? = some (.cells #[.slice Ap np cp, .slice Aw nw cw] 42 (0, 0)) := by rw [heapq_alloc, if_pos rfl]
  have a0 : (w.alloc (.cells #[.slice Ap np cp, .slice Aw nw cw] 42)).cell? ⟨w.heap.size, 0, none⟩ = some (.slice Ap np cp) := (cell_of_row _ _ 0 _ _ _ k0).trans rfl
  have a1 : (w.alloc (.cells #[.slice Ap np cp, .slice Aw nw cw] 42)).cell? ⟨w.heap.size, 1, none⟩ = some (.slice Aw nw cw) := (cell_of_row _ _ 1 _ _ _ k0).trans rfl
  have P := People_any (w.alloc (.cells #[.slice Ap np cp, .slice Aw nw cw] 42)) B Ap Aw np cp nw cw pp hl hp0 hB0 r2 ok.people
  have hsum : 0 ≤ sumL pp ∧ sumL pp ≤ 60000 := by
    have := sumL_bound pp ok.people
    have hn := ok.few
    omega
  have HB := Lib.hid hb0
  clear hl hlw ok hp hw hr hb0 k0
  go_enter Tryd.func34, Tryd.ntmps34
  go_upto_region 1 with (fail)
  generalize (w.alloc (.cells #[.slice Ap np cp, .slice Aw nw cw] 42)) = w0 at *
  generalize hsp : sumL pp = sp at *
  have HSP := Lib.hid hsp
  clear hsp
  go_upto_region 4 with (go_at_call 60; refine P.mono ?_; rintro e w1 ⟨rfl, hb1⟩)
  replace a0 := kept hb1 a0
  replace a1 := kept hb1 a1
  replace hp0 := hp0.below (hb1.mono hB0)
  replace hw0 := hw0.below (hb1.mono hB0)
  have hs2 := Nat.le_trans hs1 hb1.size
  have hB1 := Nat.le_trans hB0 hb1.size
  replace HB := Lib.hid (HB.out.trans (hb1.mono hs1))
  have hmk := run_make_row' (P := Tryd.prog) 157 39 (.slice none 0 0) 24 Tryd.underlying157 info39 rfl .i64 .i64 (last + 1) (by omega) (by omega)
  rw [show ((last + 1 : Nat) : Int) = (last : Int) + 1 by omega] at hmk
  have hmr := run_make_row' (P := Tryd.prog) 39 3 (.int .i64 0) 8 Tryd.underlying39 info3 rfl .i64 .i64 (last + 1) (by omega) (by omega)
  rw [show ((last + 1 : Nat) : Int) = (last : Int) + 1 by omega] at hmr
  clear hb1 P hmul
  have hal : w.heap.size < w1.heap.size := lt_of_cell a0
  have hm0 : MadeRel w1 w1.heap.size w1.heap.size (last + 1) (last + 1) (.int .i64 0) (w1.alloc (.cells (madeCells #[.slice none 0 0] (last + 1)) 39)) := by
    refine ⟨0, [], by omega, rfl, rfl, ?_, fun i b hb => (by simp at hb), fun i j b hb => (by simp at hb), (Below.refl _ _).alloc (Nat.le_refl _) _⟩
    rw [heapq_alloc, if_pos rfl]
    congr 2
    apply Array.ext'
    rw [toList_madeCells_one]
    simp [rowsV]
  have HM0 := Lib.hid hm0
  clear hm0
  go_upto_region 5 with (fail)
  clear hmk
  generalize w1.alloc (.cells (madeCells #[.slice none 0 0] (last + 1)) 39) = w2 at *
  obtain ⟨ob, hob⟩ : ∃ ob, ob = w1.heap.size := ⟨_, rfl⟩
  rw [← hob]
  have HM1 := Lib.hid (show MadeRel w1 ob ob (last + 1) (last + 1) (.int .i64 0) w2 from hob ▸ HM0.out)
  have hob3 : w.heap.size < ob := by omega
  have HOB := Lib.hid hob
  clear hob HM0
  go_wp2
  go_loopg [9] (last + 1) (fun gk u9 wr => MadeRel w1 ob ob (last + 1) gk u9 wr)
  case atStart => exact HM1.out
  case round =>
    clear HM1
    cases gk with
    | succ g =>
      have hst := hrel
      obtain ⟨k, bl, hkk, rfl, hbl, hhd, _, _, hbw⟩ := hrel
      have HST := Lib.hid (hst.step (Nat.le_refl _))
      have c1 : wr.cell? ⟨ob, k, none⟩ = some (.slice none 0 0) := by
        rw [cell_of_row wr ob k _ _ _ hhd]
        simp only [List.getElem?_toArray]
        rw [List.getElem?_append_right (by simp [rowsV]; omega)]
        simp only [rowsV, List.length_map, hbl, Nat.sub_self, List.getElem?_replicate]
        rw [if_pos (by omega)]
      have c1' := cell_alloc_old (.cells (madeCells #[.int .i64 0] (last + 1)) 3) c1
      have f1 := frozen_of_row wr ob k _ _ hhd
      have hbo := lt_of_block hhd
      clear hst hhd hbw hbl
      go_wp2
      go_roundg g
      case measure => omega
      case rel => exact HST.out
    | zero =>
      obtain ⟨bl, hsq, hbw⟩ := hrel.sq (Nat.le_refl _)
      obtain ⟨k, _, hkk, rfl, _⟩ := hrel
      obtain rfl : k = last + 1 := by omega
      replace a0 := keptB hbw hob3 a0
      replace a1 := keptB hbw hob3 a1
      have hBob : B ≤ ob := by rw [HOB.out]; exact hB1
      replace hp0 := hp0.below (hbw.mono hBob)
      replace hw0 := hw0.below (hbw.mono hBob)
      have HSQ := Lib.hid hsq
      obtain ⟨wz, hwz⟩ : ∃ wz, wz = wr := ⟨_, rfl⟩
      subst hwz
      have HBW := Lib.hid hbw
      obtain ⟨all, hall⟩ : ∃ a, a = sp + 1 := ⟨_, rfl⟩
      rw [← hall]
      have hall2 : 0 ≤ all ∧ all ≤ 60001 := by omega
      have HALL := Lib.hid hall
      clear hsq hbw hall hmr
      go_wp2
      have hp1 := hp0
      have a2 := a0
      clear hp0 a0
      obtain ⟨MF, hMF⟩ : ∃ MF, MF = peopleRm np T all 0 pp (zeroR (last + 1)) := ⟨_, rfl⟩
      have HMF := Lib.hid hMF
      clear hMF
      have hbdd : Bd 60001 MF := by
        have hz := zero_built (last + 1)
        have g1 := people_built (R := np) (T := T) (last := last) (all := all) (by omega) (by omega) (by rw [HLA.out, HM.out]) pp 0 _ _ hz (by rw [HL.out]; omega) OK.out.people fun r' _ _ => ⟨cell_zero _ _ _, fun t' _ => cell_zero _ _ _⟩
        rw [HMF.out]
        exact fun u v => ⟨g1.pos u v, g1.le u v⟩
      have HBDD := Lib.hid hbdd
      obtain ⟨MB, hMB⟩ : ∃ MB, MB = builtR pp ws T := ⟨_, rfl⟩
      have hbuilt : ticksRm np last ws 0 T MF = MB := by
        rw [hMB]
        unfold builtR
        rw [HL.out, HMF.out, HALL.out, HSP.out, HM.out, ← HLA.out]
      have HBU := Lib.hid hbuilt
      have hrun := HR.out
      rw [← hMB] at hrun
      have HRUN := Lib.hid hrun
      clear hbdd hMB hbuilt hrun HR
      go_loopg [10] np (fun gk u10 wr => PplRelR wz ob (last + 1) np T bl all pp MF gk u10 wr)
      case atStart => exact ⟨0, _, by omega, rfl, HSQ.out, Below.refl _ _, by rw [HMF.out, List.drop_zero]⟩
      case round =>
        clear HSQ HMF
        obtain ⟨k, M, hkk, rfl, hsq, hbw, hpm⟩ := hrel
        have HKK := Lib.hid hkk
        clear hkk
        have hnm : np ≤ m := by rw [← HM.out]; exact Nat.le_mul_of_pos_right np (by omega)
        have a3 := keptB hbw hob3 a2
        by_cases hlt : k < np
        · have hkl : k < pp.length := by rw [HL.out]; exact hlt
          rw [List.drop_eq_getElem_cons hkl] at hpm
          unfold peopleRm at hpm
          obtain ⟨bp, off, hAp, hbB, hc⟩ := (hp1.below (hbw.mono hBob)).at_ (k := k) (u := .int .i64 (pp[k]?.getD 0)) (intCells_at pp k hkl)
          rw [hAp] at a3
          have hpk : pp[k]?.getD 0 = pp[k] := by simp [hkl]
          obtain ⟨p, hpp⟩ : ∃ p, p = pp[k] := ⟨_, rfl⟩
          rw [hpk, ← hpp] at hc
          rw [← hpp] at hpm
          obtain ⟨k1, hk1⟩ : ∃ n, n = 1 + k := ⟨_, rfl⟩
          have hk1i : 1 + (k : Int) = (k1 : Int) := by omega
          have hk1l : k1 < last + 1 := by have := HLA.out; omega
          rw [← hk1] at hpm
          obtain ⟨b0, hb0, p1, p2, p3, p4⟩ := hsq.cell (show 0 < last + 1 by omega) hk1l
          have hBb0 : ob ≤ b0 := by
            obtain ⟨_, _, _, h, _⟩ := hsq.row 0 b0 hb0
            exact h
          have hsq1 := (hsq.put (v := k1) (show 0 < last + 1 by omega) hb0 p).keep (w' := (wr.setCell ⟨b0, k1, none⟩ (.int .i64 p)).drew) (fun k hk => ((Below.refl _ _).drew).block k hk)
          have hbw1 : Below ob wz (wr.setCell ⟨b0, k1, none⟩ (.int .i64 p)).drew := (hbw.setCell hBb0 _).drew
          have HSQ1 := Lib.hid hsq1
          have HBW1 := Lib.hid hbw1
          have HPM := Lib.hid hpm
          have HK1 := Lib.hid hk1
          have hbd : Below wr.heap.size wr wr.drew := (Below.refl _ _).drew
          have p2d := kept hbd p2
          have p3d : wr.drew.frozen? ⟨b0, k1, none⟩ = false := p3
          clear hsq1 hbw1 hsq hbw hpm hk1 hAp hpk hpp
          go_upto_region 12 with (fail)
          have x0 := fun x : Xt wr => x.cell a3
          have x1 := fun x : Xt wr => x.cell p1
          have x2 := fun x : Xt wr => x.cell hc
          have x3 := fun x : Xt wr => x.cell p2
          refine wp_region_eager [11] (fun w' => ∃ x : Xt wr, w' = x.1) (by kernel_rfl) ⟨⟨wr.drew, (Below.refl _ _).drew⟩, rfl⟩ ?_
          refine wpE_reads [0, 1, 2, 3, 4, 5, 6, 7, 8, 9, 10] 1 rfl (by kernel_rfl) ?_
          simp only [opsAt_nil, opsAt_cons, consOpt_some, List.getElem?_toArray, List.getElem?_cons_zero, List.getElem?_cons_succ]
          repeat (go_big_quiet_step (fail))
          refine wpQuiet_nil ?_
          clear x0 x1 x2 x3
          refine wpE_tail rfl (by kernel_rfl) ?_
          simp only [opsAt_nil, opsAt_cons, consOpt_some, List.getElem?_toArray, List.getElem?_cons_zero, List.getElem?_cons_succ]
          go_wp2
          refine onlyNormal_mk ?_
          clear p1 p2 p3 p4 p2d p3d hbd hc a3
          generalize (wr.setCell ⟨b0, k1, none⟩ (.int .i64 p)).drew = w4 at *
          obtain ⟨M1, hM1⟩ : ∃ M1, M1 = stayRm np k all 0 T (setR M 0 k1 p) := ⟨_, rfl⟩
          have HM1 := Lib.hid hM1
          clear hM1
          go_wp2
          go_loopg [11] T (fun gk u11 wr => StayRelR wz ob (last + 1) np T k bl all M1 gk u11 wr)
          case atStart => exact ⟨0, _, by omega, rfl, HSQ1.out, HBW1.out, HM1.out.symm⟩
          case round =>
            clear HSQ1 HBW1
            obtain ⟨t, M2, htt, rfl, hsq, hbw, hsm⟩ := hrel
            have HTT := Lib.hid htt
            clear htt
            by_cases hlt2 : t < T
            · obtain ⟨g, rfl⟩ : ∃ g, gk = g + 1 := ⟨gk - 1, by have := HTT.out; omega⟩
              unfold stayRm at hsm
              have e1 : np * (t + 1) ≤ np * T := Nat.mul_le_mul_left np (by omega)
              have e2 : np * (T + 1) = np * T + np := by rw [Nat.mul_add, Nat.mul_one]
              have e3 : np * (t + 1) = np * t + np := by rw [Nat.mul_add, Nat.mul_one]
              have e4 := HM.out
              have e5 := HLA.out
              have i1 : (np : Int) * (t : Int) = ((np * t : Nat) : Int) := by simp
              have i2 : (np : Int) * ((t : Int) + 1) = ((np * (t + 1) : Nat) : Int) := by simp
              generalize np * (t + 1) = y1 at *
              generalize np * t = y0 at *
              generalize np * T = y2 at *
              generalize np * (T + 1) = y3 at *
              obtain ⟨u0, hu0⟩ : ∃ n, n = 1 + y0 := ⟨_, rfl⟩
              obtain ⟨v0, hv0⟩ : ∃ n, n = 1 + y1 := ⟨_, rfl⟩
              rw [← hu0, ← hv0] at hsm
              obtain ⟨u, hu⟩ : ∃ n, n = u0 + k := ⟨_, rfl⟩
              obtain ⟨v, hv⟩ : ∃ n, n = v0 + k := ⟨_, rfl⟩
              rw [← hu, ← hv] at hsm
              have j0 : 1 + (y0 : Int) = (u0 : Int) := by omega
              have j1 : 1 + (y1 : Int) = (v0 : Int) := by omega
              have j2 : (u0 : Int) + (k : Int) = (u : Int) := by omega
              have j3 : (v0 : Int) + (k : Int) = (v : Int) := by omega
              have huV : u < last + 1 := by omega
              have hvV : v < last + 1 := by omega
              have l0 : y0 ≤ 200 := by omega
              have l1 : y1 ≤ 200 := by omega
              have l2 : u0 ≤ 200 := by omega
              have l3 : v0 ≤ 200 := by omega
              obtain ⟨b1, hb1, p1, p2, p3, p4⟩ := hsq.cell huV hvV
              have hBb1 : ob ≤ b1 := by
                obtain ⟨_, _, _, h, _⟩ := hsq.row u b1 hb1
                exact h
              have HREL := Lib.hid (show StayRelR wz ob (last + 1) np T k bl all M1 g (.int .i64 ((t : Int) + 1)) (wr.setCell ⟨b1, v, none⟩ (.int .i64 all)) from ⟨t + 1, _, by have := HTT.out; omega, by simp, hsq.put huV hb1 all, hbw.setCell hBb1 _, hsm⟩)
              clear hsq hbw hsm hu hv hu0 hv0 e1 e2 e3 e4 e5
              go_wp2
              go_roundg g
              case measure => omega
              case rel => exact HREL.out
            · obtain rfl : gk = 0 := by have := HTT.out; omega
              obtain rfl : t = T := by have := HTT.out; omega
              have hm : M2 = M1 := hsm
              subst hm
              have HREL := Lib.hid (show PplRelR wz ob (last + 1) np t bl all pp MF (np - (k + 1)) (.int .i64 ((k : Int) + 1)) wr from ⟨k + 1, _, by omega, by simp, hsq, hbw, by rw [HM1.out]; exact HPM.out⟩)
              clear hsq hbw hsm
              go_wp2
              go_roundg (np - (k + 1))
              case measure => have := HKK.out; omega
              case rel => exact HREL.out
        · obtain rfl : k = np := by have := HKK.out; omega
          rw [List.drop_of_length_le (by rw [HL.out]; exact Nat.le_refl _)] at hpm
          have hm : M = MF := hpm
          subst hm
          have HSQ2 := Lib.hid hsq
          have HBW2 := Lib.hid hbw
          clear hpm hsq hbw a3
          go_wp2
          go_loopg [12] T (fun gk u12 wr => TickRelR wz ob k last T bl ws MB gk u12 wr)
          case atStart => exact ⟨0, M, by omega, rfl, HSQ2.out, HBW2.out, HBDD.out.mono (by omega), HBU.out⟩
          case round =>
            clear HSQ2 HBW2
            obtain ⟨t, M2, htt, rfl, hsq, hbw, hbd, htk⟩ := hrel
            have HTT := Lib.hid htt
            have HBD := Lib.hid hbd
            have HSQ3 := Lib.hid hsq
            have HBW3 := Lib.hid hbw
            have HTK := Lib.hid htk
            clear htt hsq hbw hbd htk
            by_cases hlt2 : t < T
            · obtain ⟨g, rfl⟩ : ∃ g, gk = g + 1 := ⟨gk - 1, by have := HTT.out; omega⟩
              obtain ⟨M3, hM3⟩ : ∃ M3, M3 = waysRm k last t ws M2 := ⟨_, rfl⟩
              have HM3 := Lib.hid hM3
              clear hM3
              go_wp2
              go_loopg [13] nw (fun gk u13 wr => WayRelR wz ob k last t nw bl ws M3 gk u13 wr)
              case atStart => exact ⟨0, M2, by omega, rfl, HSQ3.out, HBW3.out, HBD.out.mono (by omega), HM3.out.symm⟩
              case round =>
                clear HSQ3 HBW3
                obtain ⟨j, M4, hjj, rfl, hsq, hbw, hbd, hwm⟩ := hrel
                have HJJ := Lib.hid hjj
                clear hjj
                have a4 := keptB hbw hob3 a1
                by_cases hlt3 : j < nw
                · have hjl : j < ws.length := by rw [HLW.out]; exact hlt3
                  rw [List.drop_eq_getElem_cons hjl] at hwm
                  unfold waysRm at hwm
                  obtain ⟨ev, hev⟩ : ∃ ev, ev = ws[j] := ⟨_, rfl⟩
                  have hev2 : ws[j]? = some ev := by rw [hev]; exact List.getElem?_eq_getElem hjl
                  obtain ⟨w1_, w2_, w3_, w4_, w5_, w6_⟩ := OK.out.ways ev (List.mem_of_getElem? hev2)
                  rw [HL.out] at w2_ w3_
                  rw [← hev] at hwm
                  obtain ⟨z0, z1, z2⟩ := evCells_at ws j ev hev2
                  obtain ⟨bq, off, hAw, hbB, e0, e1, e2⟩ := (hw0.below (hbw.mono hBob)).at3 z0 z1 z2
                  rw [hAw] at a4
                  obtain ⟨efr, eto, en⟩ := ev
                  simp only at e0 e1 e2 hwm w1_ w2_ w3_ w4_ w5_ w6_
                  obtain ⟨fn, rfl⟩ : ∃ n : Nat, efr = n := ⟨efr.toNat, by omega⟩
                  rw [Int.toNat_natCast] at hwm
                  have n1 : k * (t + 1) ≤ k * T := Nat.mul_le_mul_left k (by omega)
                  have n2 : k * (T + 1) = k * T + k := by rw [Nat.mul_add, Nat.mul_one]
                  have n3 : k * (t + 1) = k * t + k := by rw [Nat.mul_add, Nat.mul_one]
                  have n4 := HM.out
                  have n5 := HLA.out
                  have i1 : (k : Int) * (t : Int) = ((k * t : Nat) : Int) := by simp
                  have i2 : (k : Int) * ((t : Int) + 1) = ((k * (t + 1) : Nat) : Int) := by simp
                  unfold wayToR at hwm
                  generalize k * (t + 1) = y1 at *
                  generalize k * t = y0 at *
                  generalize k * T = y2 at *
                  generalize k * (T + 1) = y3 at *
                  obtain ⟨u0, hu0⟩ : ∃ n, n = 1 + y0 := ⟨_, rfl⟩
                  rw [← hu0] at hwm
                  obtain ⟨u, hu⟩ : ∃ n, n = u0 + fn := ⟨_, rfl⟩
                  rw [← hu] at hwm
                  obtain ⟨v, hv⟩ : ∃ n, n = (if eto = -1 then last else 1 + y1 + eto.toNat) := ⟨_, rfl⟩
                  rw [← hv] at hwm
                  have j0 : 1 + (y0 : Int) = (u0 : Int) := by omega
                  have j2 : (u0 : Int) + (fn : Int) = (u : Int) := by omega
                  have huV : u < last + 1 := by omega
                  have hvV : v < last + 1 := by
                    rw [hv]
                    split <;> omega
                  have l0 : y0 ≤ 200 := by omega
                  have l1 : y1 ≤ 200 := by omega
                  have l2 : u0 ≤ 200 := by omega
                  have hsz := hbw.size
                  have hba : Below wr.heap.size wr (wr.alloc (.cells #[.int .i64 fn, .int .i64 eto, .int .i64 en] 92)) := (Below.refl _ _).alloc (Nat.le_refl _) _
                  have kx : (wr.alloc (.cells #[.int .i64 fn, .int .i64 eto, .int .i64 en] 92)).heap[wr.heap.size]? = some (.cells #[.int .i64 fn, .int .i64 eto, .int .i64 en] 92 (0, 0)) := by rw [heapq_alloc, if_pos rfl]
                  have hobs : ob ≤ wr.heap.size := Nat.le_of_lt (lt_of_block hsq.head)
                  have hsqa := hsq.keep (fun k hk => hba.block k hk)
                  have hbwa := hbw.trans (hba.mono hobs)
                  have HSQ4 := Lib.hid hsqa
                  have HBW4 := Lib.hid hbwa
                  have HBD4 := Lib.hid hbd
                  have HWM := Lib.hid hwm
                  have HV := Lib.hid hv
                  clear hsq hbw hbd hwm hv hev hev2 z0 z1 z2 hAw hu hu0 n1 n2 n3 n4 n5 hsqa hbwa hba
                  go_upto_region 24 with (fail)
                  have q0 : (wr.alloc (.cells #[.int .i64 fn, .int .i64 eto, .int .i64 en] 92)).cell? ⟨wr.heap.size, 0, none⟩ = some (.int .i64 fn) := (cell_of_row _ wr.heap.size 0 _ _ _ kx).trans rfl
                  have q1 : (wr.alloc (.cells #[.int .i64 fn, .int .i64 eto, .int .i64 en] 92)).cell? ⟨wr.heap.size, 1, none⟩ = some (.int .i64 eto) := (cell_of_row _ wr.heap.size 1 _ _ _ kx).trans rfl
                  have q2 : (wr.alloc (.cells #[.int .i64 fn, .int .i64 eto, .int .i64 en] 92)).cell? ⟨wr.heap.size, 2, none⟩ = some (.int .i64 en) := (cell_of_row _ wr.heap.size 2 _ _ _ kx).trans rfl
                  clear kx
                  generalize wr.alloc (.cells #[.int .i64 fn, .int .i64 eto, .int .i64 en] 92) = w5 at *
                  generalize wr.heap.size = xb at *
                  by_cases hto : eto = -1
                  · have hvl : v = last := by rw [HV.out, if_pos hto]
                    subst hvl
                    subst hto
                    go_upto_region 27 with (fail)
                    have HV2 := Lib.hid hvV
                    obtain ⟨b1, hb1, p1, p2, p3, p4⟩ := HSQ4.out.cell huV hvV
                    have hBb1 : ob ≤ b1 := by
                      obtain ⟨_, _, _, h, _⟩ := HSQ4.out.row u b1 hb1
                      exact h
                    obtain ⟨a, ha⟩ : ∃ a, a = cellR M4 u v := ⟨_, rfl⟩
                    have hab := HBD4.out u v
                    rw [← ha] at p2 hab
                    have hab1 : a ≤ 60001 + 160000 * (t : Int) + 10000 * (j : Int) := hab.2
                    have hab2 : a ≤ 4000000 := by omega
                    have hab3 : 0 ≤ a := hab.1
                    have hsq1 := (HSQ4.out.put (v := v) huV hb1 (a + en)).keep (w' := (w5.setCell ⟨b1, v, none⟩ (.int .i64 (a + en))).drew) (fun k hk => ((Below.refl _ _).drew).block k hk)
                    have hbw1 : Below ob wz (w5.setCell ⟨b1, v, none⟩ (.int .i64 (a + en))).drew := (HBW4.out.setCell hBb1 _).drew
                    have HREL := Lib.hid (show WayRelR wz ob k _ t nw bl ws M3 (gk - 1) (.int .i64 ((j : Int) + 1)) (w5.setCell ⟨b1, v, none⟩ (.int .i64 (a + en))).drew from ⟨j + 1, _, by have := HJJ.out; omega, by simp, hsq1, hbw1, HBD4.out.set HSQ4.out.sq huV hvV (by omega) (by omega) (by omega), by
                      have := HWM.out
                      rw [← ha] at this
                      exact this⟩)
                    have hbd : Below w5.heap.size w5 w5.drew := (Below.refl _ _).drew
                    have p2d := kept hbd p2
                    have p3d : w5.drew.frozen? ⟨b1, v, none⟩ = false := p3
                    clear hsq1 hbw1 hab ha hab1
                    have x0 := fun x : Xt w5 => x.cell q0
                    have x1 := fun x : Xt w5 => x.cell q1
                    have x2 := fun x : Xt w5 => x.cell q2
                    have x3 := fun x : Xt w5 => x.cell p1
                    have x4 := fun x : Xt w5 => x.cell p2
                    refine wp_region_eager [28] (fun w' => ∃ x : Xt w5, w' = x.1) (by kernel_rfl) ⟨⟨w5.drew, (Below.refl _ _).drew⟩, rfl⟩ ?_
                    refine wpE_reads [0, 1, 2, 3, 4, 5, 6, 7, 8, 9, 10, 11, 12, 13, 14, 15, 16, 17, 18, 19, 20, 21, 22, 23, 24, 25, 26, 27] 1 rfl (by kernel_rfl) ?_
                    simp only [opsAt_nil, opsAt_cons, consOpt_some, List.getElem?_toArray, List.getElem?_cons_zero, List.getElem?_cons_succ]
                    repeat (go_big_quiet_step (fail))
                    refine wpQuiet_nil ?_
                    clear x0 x1 x2 x3 x4
                    refine wpE_tail rfl (by kernel_rfl) ?_
                    simp only [opsAt_nil, opsAt_cons, consOpt_some, List.getElem?_toArray, List.getElem?_cons_zero, List.getElem?_cons_succ]
                    go_wp2
                    refine onlyNormal_mk ?_
                    generalize (w5.setCell ⟨b1, v, none⟩ (.int .i64 (a + en))).drew = w6 at *
                    clear p1 p2 p3 p2d p3d hbd q0 q1 q2
                    go_wp2
                    go_roundg (gk - 1)
                    case measure => have := HJJ.out; omega
                    case rel => exact HREL.out
                  · obtain ⟨tn, rfl⟩ : ∃ n : Nat, eto = n := ⟨eto.toNat, by omega⟩
                    obtain ⟨v0, hv0⟩ : ∃ n, n = 1 + y1 := ⟨_, rfl⟩
                    have hvl : v = v0 + tn := by rw [HV.out, if_neg hto, hv0, Int.toNat_natCast]
                    have j1 : 1 + (y1 : Int) = (v0 : Int) := by omega
                    have j3 : (v0 : Int) + (tn : Int) = (v : Int) := by omega
                    have l3 : v0 ≤ 200 := by omega
                    have e9 : ((tn : Int) == -1) = false := beq_eq_false_iff_ne.2 (by omega)
                    clear hvl hv0
                    go_upto_region 27 with (fail)
                    have HV2 := Lib.hid hvV
                    obtain ⟨b1, hb1, p1, p2, p3, p4⟩ := HSQ4.out.cell huV hvV
                    have hBb1 : ob ≤ b1 := by
                      obtain ⟨_, _, _, h, _⟩ := HSQ4.out.row u b1 hb1
                      exact h
                    obtain ⟨a, ha⟩ : ∃ a, a = cellR M4 u v := ⟨_, rfl⟩
                    have hab := HBD4.out u v
                    rw [← ha] at p2 hab
                    have hab1 : a ≤ 60001 + 160000 * (t : Int) + 10000 * (j : Int) := hab.2
                    have hab2 : a ≤ 4000000 := by omega
                    have hab3 : 0 ≤ a := hab.1
                    have hsq1 := (HSQ4.out.put (v := v) huV hb1 (a + en)).keep (w' := (w5.setCell ⟨b1, v, none⟩ (.int .i64 (a + en))).drew) (fun k hk => ((Below.refl _ _).drew).block k hk)
                    have hbw1 : Below ob wz (w5.setCell ⟨b1, v, none⟩ (.int .i64 (a + en))).drew := (HBW4.out.setCell hBb1 _).drew
                    have HREL := Lib.hid (show WayRelR wz ob k _ t nw bl ws M3 (gk - 1) (.int .i64 ((j : Int) + 1)) (w5.setCell ⟨b1, v, none⟩ (.int .i64 (a + en))).drew from ⟨j + 1, _, by have := HJJ.out; omega, by simp, hsq1, hbw1, HBD4.out.set HSQ4.out.sq huV hvV (by omega) (by omega) (by omega), by
                      have := HWM.out
                      rw [← ha] at this
                      exact this⟩)
                    have hbd : Below w5.heap.size w5 w5.drew := (Below.refl _ _).drew
                    have p2d := kept hbd p2
                    have p3d : w5.drew.frozen? ⟨b1, v, none⟩ = false := p3
                    clear hsq1 hbw1 hab ha hab1
                    have x0 := fun x : Xt w5 => x.cell q0
                    have x1 := fun x : Xt w5 => x.cell q1
                    have x2 := fun x : Xt w5 => x.cell q2
                    have x3 := fun x : Xt w5 => x.cell p1
                    have x4 := fun x : Xt w5 => x.cell p2
                    refine wp_region_eager [28] (fun w' => ∃ x : Xt w5, w' = x.1) (by kernel_rfl) ⟨⟨w5.drew, (Below.refl _ _).drew⟩, rfl⟩ ?_
                    refine wpE_reads [0, 1, 2, 3, 4, 5, 6, 7, 8, 9, 10, 11, 12, 13, 14, 15, 16, 17, 18, 19, 20, 21, 22, 23, 24, 25, 26, 27] 1 rfl (by kernel_rfl) ?_
                    simp only [opsAt_nil, opsAt_cons, consOpt_some, List.getElem?_toArray, List.getElem?_cons_zero, List.getElem?_cons_succ]
                    repeat (go_big_quiet_step (fail))
                    refine wpQuiet_nil ?_
                    clear x0 x1 x2 x3 x4
                    refine wpE_tail rfl (by kernel_rfl) ?_
                    simp only [opsAt_nil, opsAt_cons, consOpt_some, List.getElem?_toArray, List.getElem?_cons_zero, List.getElem?_cons_succ]
                    go_wp2
                    refine onlyNormal_mk ?_
                    generalize (w5.setCell ⟨b1, v, none⟩ (.int .i64 (a + en))).drew = w6 at *
                    clear p1 p2 p3 p2d p3d hbd q0 q1 q2
                    go_wp2
                    go_roundg (gk - 1)
                    case measure => have := HJJ.out; omega
                    case rel => exact HREL.out
                · obtain rfl : j = nw := by have := HJJ.out; omega
                  rw [List.drop_of_length_le (by rw [HLW.out]; exact Nat.le_refl _)] at hwm
                  have hm : M4 = M3 := hwm
                  subst hm
                  have HREL := Lib.hid (show TickRelR wz ob k last T bl ws MB g (.int .i64 ((t : Int) + 1)) wr from ⟨t + 1, M4, by have := HTT.out; omega, by simp, hsq, hbw, hbd.mono (by omega), by
                    have := HTK.out
                    unfold ticksRm at this
                    rw [HM3.out]
                    exact this⟩)
                  clear hsq hbw hbd hwm
                  go_wp2
                  go_roundg g
                  case measure => omega
                  case rel => exact HREL.out
            · obtain rfl : gk = 0 := by have := HTT.out; omega
              have hm : M2 = MB := HTK.out
              subst hm
              go_wp2
              go_loopg [16] 60001 (fun gk u16 wr => RunRelR wz ob last bl o gk u16 wr)
              case atStart => exact ⟨M2, 0, rfl, HSQ3.out, HBW3.out, HRUN.out⟩
              case round =>
                clear HSQ3 HBW3
                obtain ⟨M5, o5, rfl, hsq, hbw, hrn⟩ := hrel
                cases gk with
                | zero => (unfold runR at hrn; cases hrn)
                | succ g =>
                  unfold runR at hrn
                  split at hrn
                  · cases hrn
                  · rename_i hpt
                    obtain rfl := Option.some.inj hrn
                    have PC := push_any wr ob ob last bl M5 hsq (by omega) (by omega) 200 none hpt
                    have HBW5 := Lib.hid hbw
                    have hobs : ob ≤ wr.heap.size := Nat.le_of_lt (lt_of_block hsq.head)
                    clear hsq hbw hpt hrn
                    go_wp2_with (go_at_call 103; refine PC.mono ?_; rintro e w' ⟨rfl, hb'⟩)
                    go_ret
                    exact ⟨rfl, (HB.out.trans (HBW.out.mono (Nat.le_of_lt hob3))).trans ((HBW5.out.trans (hb'.mono hobs)).mono (Nat.le_of_lt hob3))⟩
                  · rename_i M6 d hpt
                    split at hrn
                    · rename_i hok
                      simp only [Bool.and_eq_true, decide_eq_true_eq] at hok
                      obtain ⟨ok1, ok2⟩ := hok
                      obtain ⟨o1, o2⟩ := okI_spec ok1
                      have PC := push_any wr ob ob last bl M5 hsq (by omega) (by omega) 200 (some (M6, d)) hpt
                      have HBW5 := Lib.hid hbw
                      have HRN := Lib.hid hrn
                      have e0 : (d == 0) = false := beq_eq_false_iff_ne.2 (by omega)
                      clear hsq hbw hpt hrn ok1
                      go_wp2_with (go_at_call 103; refine PC.mono ?_; rintro e w' ⟨rfl, hsq', hb'⟩)
                      go_roundg g
                      case measure => omega
                      case rel => exact ⟨M6, _, rfl, hsq', HBW5.out.trans hb', HRN.out⟩
                    · cases hrn
end Go.Proofs.YtmcjnfghlpnghaaDoor
