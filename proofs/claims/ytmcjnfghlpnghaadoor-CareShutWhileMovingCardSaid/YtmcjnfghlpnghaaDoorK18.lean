/- The reference: an event applied: X7. The reference: an event applied: X8. -/
import Derived.Test.YtmcjnfghlpnghaaDoorK16
namespace Go.Proofs.YtmcjnfghlpnghaaDoor
open Go.RowKit

set_option maxRecDepth 100000 in
set_option maxHeartbeats 4000000 in
theorem rapply_2 (w : World) (B : Nat) (D : Nat) (T S : Int) (Ag Ad : Option Addr) (cg cd : Nat) (s : Tr) (pl : Int) (d : Nat) (h : StAt w B Ag Ad D D s) (hB : B ≤ w.heap.size) (hD : D ≤ 1000000) (hdD : d < D) (hp : 0 ≤ s.place ∧ s.place ≤ 1000000000) (hT : 0 ≤ T ∧ T ≤ 1000000000) :
    Calls Tryd.prog 45 #[.agg #[.int .i64 D, .int .i64 T, .int .i64 S], stV s Ag Ad D D cg cd, .agg #[.int .i64 2, .int .i64 pl, .int .i64 (d : Int)]] w (RApplyPost w D { s with gates := s.gates.set d true } (gateE T S s d)) := by
  have A := apply_start w B D T S Ag Ad cg cd s 2 pl (d : Int) h hB hD _ rfl
  unfold stV
  clear h
  go_enter Tryd.func45, Tryd.ntmps45
  go_wp2_with fail
  refine A.mono ?_
  rintro e W1 ⟨g1, g2, c1, c2, rfl, hA⟩
  simp only [stV]
  clear A
  go_upto_region 3 with (fail)
  generalize W1.alloc (.cells #[.bool s.mv, .bool s.al, .int .i64 s.place, .slice (some ⟨g1, 0, none⟩) D c1, .slice (some ⟨g2, 0, none⟩) D c2] 28) = W at *
  generalize W1.heap.size = y at *
  generalize hxx : w.heap.size = x at *
  have HXX := Lib.hid hxx
  clear hxx
  obtain ⟨s0, s1, s2, s3, s4⟩ := cells5 hA.st
  obtain ⟨y0, y1, y2, y3, y4, q0, q1, q2, q3, q4⟩ := res5 hA.cp
  have v0 := cell_of_row W (x + 2) 0 _ _ _ hA.ev
  have v1 := cell_of_row W (x + 2) 1 _ _ _ hA.ev
  have v2 := cell_of_row W (x + 2) 2 _ _ _ hA.ev
  have r0 := cell_of_row W x 0 _ _ _ hA.r
  have r1 := cell_of_row W x 1 _ _ _ hA.r
  have r2 := cell_of_row W x 2 _ _ _ hA.r
  simp at v0 v1 v2 r0 r1 r2
  have HA := Lib.hid hA
  clear hA
  cases hm : s.mv
  · cases hi : inPlaceB T S s.place
    · have HC : Hid (gateE T S s d = 9) := by simp [Hid, gateE, hm, hi, firstE, unlessE]
      rw [hm] at s0
      have I := InPlace_val D T S s.place _ hi W hp hT
      clear hm hi
      go_upto_region 21 with (go_at_call 59; refine I.mono ?_; rintro e w2 ⟨rfl, hb2⟩; have s1' := kept hb2 s1; have s3' := kept hb2 s3; have s4' := kept hb2 s4; have v2' := kept hb2 v2; have y3' := kept hb2 y3; have y4' := kept hb2 y4)
      have hA2 := HA.out.keep hb2
      clear hb2 I
      have oc := hA2.own.og.cellAt d (by omega)
      have of := hA2.own.og.frozenAt d
      have ol : d < s.gates.length := by rw [hA2.at_.lg]; exact hdD
      obtain ⟨ob, hob⟩ : ∃ b, (s.gates.map Value.bool)[d]? = some (.bool b) := ⟨s.gates[d], by simp [ol]⟩
      rw [hob] at oc
      have HE := Lib.hid (hA2.endAt.setGate d true)
      clear ol hob hA2
      go_upto_region 52 with (fail)
      clear oc of s1' s3' s4' v2' y3' y4'
      generalize w2.setCell ⟨g1, d, none⟩ (.bool true) = Wm at *
      obtain ⟨t0, t1, t2, t3, t4, p0, p1, p2, p3, p4⟩ := res5 HE.out.res
      obtain ⟨e0, e1, e2, e3, e4⟩ := cells5 HE.out.cp
      clear s0 s1 s2 s3 s4 y0 y1 y2 y3 y4 q0 q1 q2 q3 q4 v0 v1 v2 r0 r1 r2
      go_wp2
      refine bodyPost_ret (v := .tuple #[zeroSt, .int .i64 9]) (by simp [results, Tryd.results45, go_sem, zeroSt, t0, t1, t2, t3, t4]) rfl ⟨⟨_, by rw [HC.out], by rw [HC.out, if_neg (by decide)]⟩, by rw [HXX.out]; exact HE.out.zero _ _ _ _ _⟩
    · cases hg : s.gates[d]?.getD false
      · have HC : Hid (gateE T S s d = 0) := by simp [Hid, gateE, hm, hi, hg, firstE, unlessE]
        rw [hm] at s0
        have I := InPlace_val D T S s.place _ hi W hp hT
        have hdg : d < s.gates.length := by rw [HA.out.at_.lg]; exact hdD
        obtain ⟨bg, og, rfl, _, gc⟩ := HA.out.at_.rg.at_ (k := d) (u := .bool (s.gates[d]?.getD false)) (by simp [hdg])
        clear hdg
        rw [hg] at gc
        clear hm hi hg
        go_upto_region 21 with (go_at_call 59; refine I.mono ?_; rintro e w2 ⟨rfl, hb2⟩; have s1' := kept hb2 s1; have s3' := kept hb2 s3; have s4' := kept hb2 s4; have v2' := kept hb2 v2; have y3' := kept hb2 y3; have y4' := kept hb2 y4; have gc' := kept hb2 gc)
        have hA2 := HA.out.keep hb2
        clear hb2 I
        have oc := hA2.own.og.cellAt d (by omega)
        have of := hA2.own.og.frozenAt d
        have ol : d < s.gates.length := by rw [hA2.at_.lg]; exact hdD
        obtain ⟨ob, hob⟩ : ∃ b, (s.gates.map Value.bool)[d]? = some (.bool b) := ⟨s.gates[d], by simp [ol]⟩
        rw [hob] at oc
        have HE := Lib.hid (hA2.endAt.setGate d true)
        clear ol hob hA2
        go_upto_region 52 with (fail)
        clear oc of s1' s3' s4' v2' y3' y4' gc'
        generalize w2.setCell ⟨g1, d, none⟩ (.bool true) = Wm at *
        obtain ⟨t0, t1, t2, t3, t4, p0, p1, p2, p3, p4⟩ := res5 HE.out.res
        obtain ⟨e0, e1, e2, e3, e4⟩ := cells5 HE.out.cp
        clear s0 s1 s2 s3 s4 y0 y1 y2 y3 y4 q0 q1 q2 q3 q4 v0 v1 v2 r0 r1 r2
        go_wp2
        have HF := ApAt.end_ok (by omega) HE.out.below HE.out.cp HE.out.res HE.out.own
        refine bodyPost_ret (v := .tuple #[stV { s with gates := s.gates.set d true } (some ⟨g1, 0, none⟩) (some ⟨g2, 0, none⟩) D D c1 c2, .int .i64 0]) (by simp [results, Tryd.results45, go_sem, stV, t0, t1, t2, t3, t4]) rfl ⟨⟨_, by rw [HC.out], by rw [HC.out, if_pos rfl, HXX.out]; exact HF.2⟩, by rw [HXX.out]; exact HF.1⟩
      · have HC : Hid (gateE T S s d = 26) := by simp [Hid, gateE, hm, hi, hg, firstE, unlessE]
        rw [hm] at s0
        have I := InPlace_val D T S s.place _ hi W hp hT
        have hdg : d < s.gates.length := by rw [HA.out.at_.lg]; exact hdD
        obtain ⟨bg, og, rfl, _, gc⟩ := HA.out.at_.rg.at_ (k := d) (u := .bool (s.gates[d]?.getD false)) (by simp [hdg])
        clear hdg
        rw [hg] at gc
        clear hm hi hg
        go_upto_region 21 with (go_at_call 59; refine I.mono ?_; rintro e w2 ⟨rfl, hb2⟩; have s1' := kept hb2 s1; have s3' := kept hb2 s3; have s4' := kept hb2 s4; have v2' := kept hb2 v2; have y3' := kept hb2 y3; have y4' := kept hb2 y4; have gc' := kept hb2 gc)
        have hA2 := HA.out.keep hb2
        clear hb2 I
        have oc := hA2.own.og.cellAt d (by omega)
        have of := hA2.own.og.frozenAt d
        have ol : d < s.gates.length := by rw [hA2.at_.lg]; exact hdD
        obtain ⟨ob, hob⟩ : ∃ b, (s.gates.map Value.bool)[d]? = some (.bool b) := ⟨s.gates[d], by simp [ol]⟩
        rw [hob] at oc
        have HE := Lib.hid (hA2.endAt.setGate d true)
        clear ol hob hA2
        go_upto_region 52 with (fail)
        clear oc of s1' s3' s4' v2' y3' y4' gc'
        generalize w2.setCell ⟨g1, d, none⟩ (.bool true) = Wm at *
        obtain ⟨t0, t1, t2, t3, t4, p0, p1, p2, p3, p4⟩ := res5 HE.out.res
        obtain ⟨e0, e1, e2, e3, e4⟩ := cells5 HE.out.cp
        clear s0 s1 s2 s3 s4 y0 y1 y2 y3 y4 q0 q1 q2 q3 q4 v0 v1 v2 r0 r1 r2
        go_wp2
        refine bodyPost_ret (v := .tuple #[zeroSt, .int .i64 26]) (by simp [results, Tryd.results45, go_sem, zeroSt, t0, t1, t2, t3, t4]) rfl ⟨⟨_, by rw [HC.out], by rw [HC.out, if_neg (by decide)]⟩, by rw [HXX.out]; exact HE.out.zero _ _ _ _ _⟩
  · have HC : Hid (gateE T S s d = 22) := by simp [Hid, gateE, hm, firstE, unlessE]
    rw [hm] at s0
    clear hm
    go_upto_region 21 with (fail)
    have hAo := HA.out
    have oc := hAo.own.og.cellAt d (by omega)
    have of := hAo.own.og.frozenAt d
    have ol : d < s.gates.length := by rw [hAo.at_.lg]; exact hdD
    obtain ⟨ob, hob⟩ : ∃ b, (s.gates.map Value.bool)[d]? = some (.bool b) := ⟨s.gates[d], by simp [ol]⟩
    rw [hob] at oc
    have HE := Lib.hid (hAo.endAt.setGate d true)
    clear ol hob hAo
    go_upto_region 52 with (fail)
    clear oc of
    generalize W.setCell ⟨g1, d, none⟩ (.bool true) = Wm at *
    obtain ⟨t0, t1, t2, t3, t4, p0, p1, p2, p3, p4⟩ := res5 HE.out.res
    obtain ⟨e0, e1, e2, e3, e4⟩ := cells5 HE.out.cp
    clear s0 s1 s2 s3 s4 y0 y1 y2 y3 y4 q0 q1 q2 q3 q4 v0 v1 v2 r0 r1 r2
    go_wp2
    refine bodyPost_ret (v := .tuple #[zeroSt, .int .i64 22]) (by simp [results, Tryd.results45, go_sem, zeroSt, t0, t1, t2, t3, t4]) rfl ⟨⟨_, by rw [HC.out], by rw [HC.out, if_neg (by decide)]⟩, by rw [HXX.out]; exact HE.out.zero _ _ _ _ _⟩

set_option maxRecDepth 100000 in
set_option maxHeartbeats 4000000 in
theorem rapply_5 (w : World) (B : Nat) (D : Nat) (T S : Int) (Ag Ad : Option Addr) (cg cd : Nat) (s : Tr) (pl : Int) (d : Nat) (h : StAt w B Ag Ad D D s) (hB : B ≤ w.heap.size) (hD : D ≤ 1000000) (hdD : d < D) :
    Calls Tryd.prog 45 #[.agg #[.int .i64 D, .int .i64 T, .int .i64 S], stV s Ag Ad D D cg cd, .agg #[.int .i64 5, .int .i64 pl, .int .i64 (d : Int)]] w (RApplyPost w D { s with doors := s.doors.set d false } (shutE s d)) := by
  have A := apply_start w B D T S Ag Ad cg cd s 5 pl (d : Int) h hB hD _ rfl
  unfold stV
  clear h
  go_enter Tryd.func45, Tryd.ntmps45
  go_wp2_with fail
  refine A.mono ?_
  rintro e W1 ⟨g1, g2, c1, c2, rfl, hA⟩
  simp only [stV]
  clear A
  go_upto_region 3 with (fail)
  generalize W1.alloc (.cells #[.bool s.mv, .bool s.al, .int .i64 s.place, .slice (some ⟨g1, 0, none⟩) D c1, .slice (some ⟨g2, 0, none⟩) D c2] 28) = W at *
  generalize W1.heap.size = y at *
  generalize hxx : w.heap.size = x at *
  have HXX := Lib.hid hxx
  clear hxx
  obtain ⟨s0, s1, s2, s3, s4⟩ := cells5 hA.st
  obtain ⟨y0, y1, y2, y3, y4, q0, q1, q2, q3, q4⟩ := res5 hA.cp
  have v0 := cell_of_row W (x + 2) 0 _ _ _ hA.ev
  have v1 := cell_of_row W (x + 2) 1 _ _ _ hA.ev
  have v2 := cell_of_row W (x + 2) 2 _ _ _ hA.ev
  have r0 := cell_of_row W x 0 _ _ _ hA.r
  have r1 := cell_of_row W x 1 _ _ _ hA.r
  have r2 := cell_of_row W x 2 _ _ _ hA.r
  simp at v0 v1 v2 r0 r1 r2
  have HA := Lib.hid hA
  clear hA
  cases hd : s.doors[d]?.getD false
  · have HC : Hid (shutE s d = 22) := by simp [Hid, shutE, hd, firstE, unlessE]
    have hdd : d < s.doors.length := by rw [HA.out.at_.ld]; exact hdD
    obtain ⟨bd, od, rfl, _, dc⟩ := HA.out.at_.rd.at_ (k := d) (u := .bool (s.doors[d]?.getD false)) (by simp [hdd])
    clear hdd
    rw [hd] at dc
    clear hd
    go_upto_region 41 with (fail)
    have hAo := HA.out
    have oc := hAo.own.od.cellAt d (by omega)
    have of := hAo.own.od.frozenAt d
    have ol : d < s.doors.length := by rw [hAo.at_.ld]; exact hdD
    obtain ⟨ob, hob⟩ : ∃ b, (s.doors.map Value.bool)[d]? = some (.bool b) := ⟨s.doors[d], by simp [ol]⟩
    rw [hob] at oc
    have HE := Lib.hid (hAo.endAt.setDoor d false)
    clear ol hob hAo
    go_upto_region 52 with (fail)
    clear oc of
    generalize W.setCell ⟨g2, d, none⟩ (.bool false) = Wm at *
    obtain ⟨t0, t1, t2, t3, t4, p0, p1, p2, p3, p4⟩ := res5 HE.out.res
    obtain ⟨e0, e1, e2, e3, e4⟩ := cells5 HE.out.cp
    clear s0 s1 s2 s3 s4 y0 y1 y2 y3 y4 q0 q1 q2 q3 q4 v0 v1 v2 r0 r1 r2
    go_wp2
    refine bodyPost_ret (v := .tuple #[zeroSt, .int .i64 22]) (by simp [results, Tryd.results45, go_sem, zeroSt, t0, t1, t2, t3, t4]) rfl ⟨⟨_, by rw [HC.out], by rw [HC.out, if_neg (by decide)]⟩, by rw [HXX.out]; exact HE.out.zero _ _ _ _ _⟩
  · have HC : Hid (shutE s d = 0) := by simp [Hid, shutE, hd, firstE, unlessE]
    have hdd : d < s.doors.length := by rw [HA.out.at_.ld]; exact hdD
    obtain ⟨bd, od, rfl, _, dc⟩ := HA.out.at_.rd.at_ (k := d) (u := .bool (s.doors[d]?.getD false)) (by simp [hdd])
    clear hdd
    rw [hd] at dc
    clear hd
    go_upto_region 41 with (fail)
    have hAo := HA.out
    have oc := hAo.own.od.cellAt d (by omega)
    have of := hAo.own.od.frozenAt d
    have ol : d < s.doors.length := by rw [hAo.at_.ld]; exact hdD
    obtain ⟨ob, hob⟩ : ∃ b, (s.doors.map Value.bool)[d]? = some (.bool b) := ⟨s.doors[d], by simp [ol]⟩
    rw [hob] at oc
    have HE := Lib.hid (hAo.endAt.setDoor d false)
    clear ol hob hAo
    go_upto_region 52 with (fail)
    clear oc of
    generalize W.setCell ⟨g2, d, none⟩ (.bool false) = Wm at *
    obtain ⟨t0, t1, t2, t3, t4, p0, p1, p2, p3, p4⟩ := res5 HE.out.res
    obtain ⟨e0, e1, e2, e3, e4⟩ := cells5 HE.out.cp
    clear s0 s1 s2 s3 s4 y0 y1 y2 y3 y4 q0 q1 q2 q3 q4 v0 v1 v2 r0 r1 r2
    go_wp2
    have HF := ApAt.end_ok (by omega) HE.out.below HE.out.cp HE.out.res HE.out.own
    refine bodyPost_ret (v := .tuple #[stV { s with doors := s.doors.set d false } (some ⟨g1, 0, none⟩) (some ⟨g2, 0, none⟩) D D c1 c2, .int .i64 0]) (by simp [results, Tryd.results45, go_sem, stV, t0, t1, t2, t3, t4]) rfl ⟨⟨_, by rw [HC.out], by rw [HC.out, if_pos rfl, HXX.out]; exact HF.2⟩, by rw [HXX.out]; exact HF.1⟩
end Go.Proofs.YtmcjnfghlpnghaaDoor

namespace Go.Proofs.YtmcjnfghlpnghaaDoor
open Go.RowKit

set_option maxRecDepth 100000 in
set_option maxHeartbeats 4000000 in
theorem rapply_4 (w : World) (B : Nat) (D : Nat) (T S : Int) (Ag Ad : Option Addr) (cg cd : Nat) (s : Tr) (pl : Int) (d : Nat) (h : StAt w B Ag Ad D D s) (hB : B ≤ w.heap.size) (hD : D ≤ 1000000) (hdD : d < D) (hp : 0 ≤ s.place ∧ s.place ≤ 1000000000) (hT : 0 ≤ T ∧ T ≤ 1000000000) :
    Calls Tryd.prog 45 #[.agg #[.int .i64 D, .int .i64 T, .int .i64 S], stV s Ag Ad D D cg cd, .agg #[.int .i64 4, .int .i64 pl, .int .i64 (d : Int)]] w (RApplyPost w D { s with doors := s.doors.set d true } (openE T S s d)) := by
  have A := apply_start w B D T S Ag Ad cg cd s 4 pl (d : Int) h hB hD _ rfl
  unfold stV
  clear h
  go_enter Tryd.func45, Tryd.ntmps45
  go_wp2_with fail
  refine A.mono ?_
  rintro e W1 ⟨g1, g2, c1, c2, rfl, hA⟩
  simp only [stV]
  clear A
  go_upto_region 3 with (fail)
  generalize W1.alloc (.cells #[.bool s.mv, .bool s.al, .int .i64 s.place, .slice (some ⟨g1, 0, none⟩) D c1, .slice (some ⟨g2, 0, none⟩) D c2] 28) = W at *
  generalize W1.heap.size = y at *
  generalize hxx : w.heap.size = x at *
  have HXX := Lib.hid hxx
  clear hxx
  obtain ⟨s0, s1, s2, s3, s4⟩ := cells5 hA.st
  obtain ⟨y0, y1, y2, y3, y4, q0, q1, q2, q3, q4⟩ := res5 hA.cp
  have v0 := cell_of_row W (x + 2) 0 _ _ _ hA.ev
  have v1 := cell_of_row W (x + 2) 1 _ _ _ hA.ev
  have v2 := cell_of_row W (x + 2) 2 _ _ _ hA.ev
  have r0 := cell_of_row W x 0 _ _ _ hA.r
  have r1 := cell_of_row W x 1 _ _ _ hA.r
  have r2 := cell_of_row W x 2 _ _ _ hA.r
  simp at v0 v1 v2 r0 r1 r2
  have HA := Lib.hid hA
  clear hA
  cases hm : s.mv
  · cases ha : s.al
    · cases hi : inPlaceB T S s.place
      · have HC : Hid (openE T S s d = 9) := by simp [Hid, openE, hm, ha, hi, firstE, unlessE]
        rw [hm] at s0
        rw [ha] at s1
        have I := InPlace_val D T S s.place _ hi W hp hT
        clear hm ha hi
        go_upto_region 37 with (go_at_call 59; refine I.mono ?_; rintro e w2 ⟨rfl, hb2⟩; have s1' := kept hb2 s1; have s3' := kept hb2 s3; have s4' := kept hb2 s4; have v2' := kept hb2 v2; have y3' := kept hb2 y3; have y4' := kept hb2 y4)
        have hA2 := HA.out.keep hb2
        clear hb2 I
        have oc := hA2.own.od.cellAt d (by omega)
        have of := hA2.own.od.frozenAt d
        have ol : d < s.doors.length := by rw [hA2.at_.ld]; exact hdD
        obtain ⟨ob, hob⟩ : ∃ b, (s.doors.map Value.bool)[d]? = some (.bool b) := ⟨s.doors[d], by simp [ol]⟩
        rw [hob] at oc
        have HE := Lib.hid (hA2.endAt.setDoor d true)
        clear ol hob hA2
        go_upto_region 52 with (fail)
        clear oc of s1' s3' s4' v2' y3' y4'
        generalize w2.setCell ⟨g2, d, none⟩ (.bool true) = Wm at *
        obtain ⟨t0, t1, t2, t3, t4, p0, p1, p2, p3, p4⟩ := res5 HE.out.res
        obtain ⟨e0, e1, e2, e3, e4⟩ := cells5 HE.out.cp
        clear s0 s1 s2 s3 s4 y0 y1 y2 y3 y4 q0 q1 q2 q3 q4 v0 v1 v2 r0 r1 r2
        go_wp2
        refine bodyPost_ret (v := .tuple #[zeroSt, .int .i64 9]) (by simp [results, Tryd.results45, go_sem, zeroSt, t0, t1, t2, t3, t4]) rfl ⟨⟨_, by rw [HC.out], by rw [HC.out, if_neg (by decide)]⟩, by rw [HXX.out]; exact HE.out.zero _ _ _ _ _⟩
      · cases hg : s.gates[d]?.getD false
        · have HC : Hid (openE T S s d = 17) := by simp [Hid, openE, hm, ha, hi, hg, firstE, unlessE]
          rw [hm] at s0
          rw [ha] at s1
          have I := InPlace_val D T S s.place _ hi W hp hT
          have hdg : d < s.gates.length := by rw [HA.out.at_.lg]; exact hdD
          obtain ⟨bg, og, rfl, _, gc⟩ := HA.out.at_.rg.at_ (k := d) (u := .bool (s.gates[d]?.getD false)) (by simp [hdg])
          clear hdg
          rw [hg] at gc
          clear hm ha hi hg
          go_upto_region 37 with (go_at_call 59; refine I.mono ?_; rintro e w2 ⟨rfl, hb2⟩; have s1' := kept hb2 s1; have s3' := kept hb2 s3; have s4' := kept hb2 s4; have v2' := kept hb2 v2; have y3' := kept hb2 y3; have y4' := kept hb2 y4; have gc' := kept hb2 gc)
          have hA2 := HA.out.keep hb2
          clear hb2 I
          have oc := hA2.own.od.cellAt d (by omega)
          have of := hA2.own.od.frozenAt d
          have ol : d < s.doors.length := by rw [hA2.at_.ld]; exact hdD
          obtain ⟨ob, hob⟩ : ∃ b, (s.doors.map Value.bool)[d]? = some (.bool b) := ⟨s.doors[d], by simp [ol]⟩
          rw [hob] at oc
          have HE := Lib.hid (hA2.endAt.setDoor d true)
          clear ol hob hA2
          go_upto_region 52 with (fail)
          clear oc of s1' s3' s4' v2' y3' y4' gc'
          generalize w2.setCell ⟨g2, d, none⟩ (.bool true) = Wm at *
          obtain ⟨t0, t1, t2, t3, t4, p0, p1, p2, p3, p4⟩ := res5 HE.out.res
          obtain ⟨e0, e1, e2, e3, e4⟩ := cells5 HE.out.cp
          clear s0 s1 s2 s3 s4 y0 y1 y2 y3 y4 q0 q1 q2 q3 q4 v0 v1 v2 r0 r1 r2
          go_wp2
          refine bodyPost_ret (v := .tuple #[zeroSt, .int .i64 17]) (by simp [results, Tryd.results45, go_sem, zeroSt, t0, t1, t2, t3, t4]) rfl ⟨⟨_, by rw [HC.out], by rw [HC.out, if_neg (by decide)]⟩, by rw [HXX.out]; exact HE.out.zero _ _ _ _ _⟩
        · cases hd : s.doors[d]?.getD false
          · have HC : Hid (openE T S s d = 0) := by simp [Hid, openE, hm, ha, hi, hg, hd, firstE, unlessE]
            rw [hm] at s0
            rw [ha] at s1
            have I := InPlace_val D T S s.place _ hi W hp hT
            have hdg : d < s.gates.length := by rw [HA.out.at_.lg]; exact hdD
            obtain ⟨bg, og, rfl, _, gc⟩ := HA.out.at_.rg.at_ (k := d) (u := .bool (s.gates[d]?.getD false)) (by simp [hdg])
            clear hdg
            rw [hg] at gc
            have hdd : d < s.doors.length := by rw [HA.out.at_.ld]; exact hdD
            obtain ⟨bd, od, rfl, _, dc⟩ := HA.out.at_.rd.at_ (k := d) (u := .bool (s.doors[d]?.getD false)) (by simp [hdd])
            clear hdd
            rw [hd] at dc
            clear hm ha hi hg hd
            go_upto_region 37 with (go_at_call 59; refine I.mono ?_; rintro e w2 ⟨rfl, hb2⟩; have s1' := kept hb2 s1; have s3' := kept hb2 s3; have s4' := kept hb2 s4; have v2' := kept hb2 v2; have y3' := kept hb2 y3; have y4' := kept hb2 y4; have gc' := kept hb2 gc; have dc' := kept hb2 dc)
            have hA2 := HA.out.keep hb2
            clear hb2 I
            have oc := hA2.own.od.cellAt d (by omega)
            have of := hA2.own.od.frozenAt d
            have ol : d < s.doors.length := by rw [hA2.at_.ld]; exact hdD
            obtain ⟨ob, hob⟩ : ∃ b, (s.doors.map Value.bool)[d]? = some (.bool b) := ⟨s.doors[d], by simp [ol]⟩
            rw [hob] at oc
            have HE := Lib.hid (hA2.endAt.setDoor d true)
            clear ol hob hA2
            go_upto_region 52 with (fail)
            clear oc of s1' s3' s4' v2' y3' y4' gc' dc'
            generalize w2.setCell ⟨g2, d, none⟩ (.bool true) = Wm at *
            obtain ⟨t0, t1, t2, t3, t4, p0, p1, p2, p3, p4⟩ := res5 HE.out.res
            obtain ⟨e0, e1, e2, e3, e4⟩ := cells5 HE.out.cp
            clear s0 s1 s2 s3 s4 y0 y1 y2 y3 y4 q0 q1 q2 q3 q4 v0 v1 v2 r0 r1 r2
            go_wp2
            have HF := ApAt.end_ok (by omega) HE.out.below HE.out.cp HE.out.res HE.out.own
            refine bodyPost_ret (v := .tuple #[stV { s with doors := s.doors.set d true } (some ⟨g1, 0, none⟩) (some ⟨g2, 0, none⟩) D D c1 c2, .int .i64 0]) (by simp [results, Tryd.results45, go_sem, stV, t0, t1, t2, t3, t4]) rfl ⟨⟨_, by rw [HC.out], by rw [HC.out, if_pos rfl, HXX.out]; exact HF.2⟩, by rw [HXX.out]; exact HF.1⟩
          · have HC : Hid (openE T S s d = 26) := by simp [Hid, openE, hm, ha, hi, hg, hd, firstE, unlessE]
            rw [hm] at s0
            rw [ha] at s1
            have I := InPlace_val D T S s.place _ hi W hp hT
            have hdg : d < s.gates.length := by rw [HA.out.at_.lg]; exact hdD
            obtain ⟨bg, og, rfl, _, gc⟩ := HA.out.at_.rg.at_ (k := d) (u := .bool (s.gates[d]?.getD false)) (by simp [hdg])
            clear hdg
            rw [hg] at gc
            have hdd : d < s.doors.length := by rw [HA.out.at_.ld]; exact hdD
            obtain ⟨bd, od, rfl, _, dc⟩ := HA.out.at_.rd.at_ (k := d) (u := .bool (s.doors[d]?.getD false)) (by simp [hdd])
            clear hdd
            rw [hd] at dc
            clear hm ha hi hg hd
            go_upto_region 37 with (go_at_call 59; refine I.mono ?_; rintro e w2 ⟨rfl, hb2⟩; have s1' := kept hb2 s1; have s3' := kept hb2 s3; have s4' := kept hb2 s4; have v2' := kept hb2 v2; have y3' := kept hb2 y3; have y4' := kept hb2 y4; have gc' := kept hb2 gc; have dc' := kept hb2 dc)
            have hA2 := HA.out.keep hb2
            clear hb2 I
            have oc := hA2.own.od.cellAt d (by omega)
            have of := hA2.own.od.frozenAt d
            have ol : d < s.doors.length := by rw [hA2.at_.ld]; exact hdD
            obtain ⟨ob, hob⟩ : ∃ b, (s.doors.map Value.bool)[d]? = some (.bool b) := ⟨s.doors[d], by simp [ol]⟩
            rw [hob] at oc
            have HE := Lib.hid (hA2.endAt.setDoor d true)
            clear ol hob hA2
            go_upto_region 52 with (fail)
            clear oc of s1' s3' s4' v2' y3' y4' gc' dc'
            generalize w2.setCell ⟨g2, d, none⟩ (.bool true) = Wm at *
            obtain ⟨t0, t1, t2, t3, t4, p0, p1, p2, p3, p4⟩ := res5 HE.out.res
            obtain ⟨e0, e1, e2, e3, e4⟩ := cells5 HE.out.cp
            clear s0 s1 s2 s3 s4 y0 y1 y2 y3 y4 q0 q1 q2 q3 q4 v0 v1 v2 r0 r1 r2
            go_wp2
            refine bodyPost_ret (v := .tuple #[zeroSt, .int .i64 26]) (by simp [results, Tryd.results45, go_sem, zeroSt, t0, t1, t2, t3, t4]) rfl ⟨⟨_, by rw [HC.out], by rw [HC.out, if_neg (by decide)]⟩, by rw [HXX.out]; exact HE.out.zero _ _ _ _ _⟩
    · cases hd : s.doors[d]?.getD false
      · have HC : Hid (openE T S s d = 0) := by simp [Hid, openE, hm, ha, hd, firstE, unlessE]
        rw [hm] at s0
        rw [ha] at s1
        have hdd : d < s.doors.length := by rw [HA.out.at_.ld]; exact hdD
        obtain ⟨bd, od, rfl, _, dc⟩ := HA.out.at_.rd.at_ (k := d) (u := .bool (s.doors[d]?.getD false)) (by simp [hdd])
        clear hdd
        rw [hd] at dc
        clear hm ha hd
        go_upto_region 37 with (fail)
        have hAo := HA.out
        have oc := hAo.own.od.cellAt d (by omega)
        have of := hAo.own.od.frozenAt d
        have ol : d < s.doors.length := by rw [hAo.at_.ld]; exact hdD
        obtain ⟨ob, hob⟩ : ∃ b, (s.doors.map Value.bool)[d]? = some (.bool b) := ⟨s.doors[d], by simp [ol]⟩
        rw [hob] at oc
        have HE := Lib.hid (hAo.endAt.setDoor d true)
        clear ol hob hAo
        go_upto_region 52 with (fail)
        clear oc of
        generalize W.setCell ⟨g2, d, none⟩ (.bool true) = Wm at *
        obtain ⟨t0, t1, t2, t3, t4, p0, p1, p2, p3, p4⟩ := res5 HE.out.res
        obtain ⟨e0, e1, e2, e3, e4⟩ := cells5 HE.out.cp
        clear s0 s1 s2 s3 s4 y0 y1 y2 y3 y4 q0 q1 q2 q3 q4 v0 v1 v2 r0 r1 r2
        go_wp2
        have HF := ApAt.end_ok (by omega) HE.out.below HE.out.cp HE.out.res HE.out.own
        refine bodyPost_ret (v := .tuple #[stV { s with doors := s.doors.set d true } (some ⟨g1, 0, none⟩) (some ⟨g2, 0, none⟩) D D c1 c2, .int .i64 0]) (by simp [results, Tryd.results45, go_sem, stV, t0, t1, t2, t3, t4]) rfl ⟨⟨_, by rw [HC.out], by rw [HC.out, if_pos rfl, HXX.out]; exact HF.2⟩, by rw [HXX.out]; exact HF.1⟩
      · have HC : Hid (openE T S s d = 26) := by simp [Hid, openE, hm, ha, hd, firstE, unlessE]
        rw [hm] at s0
        rw [ha] at s1
        have hdd : d < s.doors.length := by rw [HA.out.at_.ld]; exact hdD
        obtain ⟨bd, od, rfl, _, dc⟩ := HA.out.at_.rd.at_ (k := d) (u := .bool (s.doors[d]?.getD false)) (by simp [hdd])
        clear hdd
        rw [hd] at dc
        clear hm ha hd
        go_upto_region 37 with (fail)
        have hAo := HA.out
        have oc := hAo.own.od.cellAt d (by omega)
        have of := hAo.own.od.frozenAt d
        have ol : d < s.doors.length := by rw [hAo.at_.ld]; exact hdD
        obtain ⟨ob, hob⟩ : ∃ b, (s.doors.map Value.bool)[d]? = some (.bool b) := ⟨s.doors[d], by simp [ol]⟩
        rw [hob] at oc
        have HE := Lib.hid (hAo.endAt.setDoor d true)
        clear ol hob hAo
        go_upto_region 52 with (fail)
        clear oc of
        generalize W.setCell ⟨g2, d, none⟩ (.bool true) = Wm at *
        obtain ⟨t0, t1, t2, t3, t4, p0, p1, p2, p3, p4⟩ := res5 HE.out.res
        obtain ⟨e0, e1, e2, e3, e4⟩ := cells5 HE.out.cp
        clear s0 s1 s2 s3 s4 y0 y1 y2 y3 y4 q0 q1 q2 q3 q4 v0 v1 v2 r0 r1 r2
        go_wp2
        refine bodyPost_ret (v := .tuple #[zeroSt, .int .i64 26]) (by simp [results, Tryd.results45, go_sem, zeroSt, t0, t1, t2, t3, t4]) rfl ⟨⟨_, by rw [HC.out], by rw [HC.out, if_neg (by decide)]⟩, by rw [HXX.out]; exact HE.out.zero _ _ _ _ _⟩
  · have HC : Hid (openE T S s d = 22) := by simp [Hid, openE, hm, firstE, unlessE]
    rw [hm] at s0
    clear hm
    go_upto_region 37 with (fail)
    have hAo := HA.out
    have oc := hAo.own.od.cellAt d (by omega)
    have of := hAo.own.od.frozenAt d
    have ol : d < s.doors.length := by rw [hAo.at_.ld]; exact hdD
    obtain ⟨ob, hob⟩ : ∃ b, (s.doors.map Value.bool)[d]? = some (.bool b) := ⟨s.doors[d], by simp [ol]⟩
    rw [hob] at oc
    have HE := Lib.hid (hAo.endAt.setDoor d true)
    clear ol hob hAo
    go_upto_region 52 with (fail)
    clear oc of
    generalize W.setCell ⟨g2, d, none⟩ (.bool true) = Wm at *
    obtain ⟨t0, t1, t2, t3, t4, p0, p1, p2, p3, p4⟩ := res5 HE.out.res
    obtain ⟨e0, e1, e2, e3, e4⟩ := cells5 HE.out.cp
    clear s0 s1 s2 s3 s4 y0 y1 y2 y3 y4 q0 q1 q2 q3 q4 v0 v1 v2 r0 r1 r2
    go_wp2
    refine bodyPost_ret (v := .tuple #[zeroSt, .int .i64 22]) (by simp [results, Tryd.results45, go_sem, zeroSt, t0, t1, t2, t3, t4]) rfl ⟨⟨_, by rw [HC.out], by rw [HC.out, if_neg (by decide)]⟩, by rw [HXX.out]; exact HE.out.zero _ _ _ _ _⟩

set_option maxRecDepth 100000 in
set_option maxHeartbeats 4000000 in
theorem rapply_7 (w : World) (B : Nat) (D : Nat) (T S : Int) (Ag Ad : Option Addr) (cg cd : Nat) (s : Tr) (pl : Int) (dr : Int) (h : StAt w B Ag Ad D D s) (hB : B ≤ w.heap.size) (hD : D ≤ 1000000) :
    Calls Tryd.prog 45 #[.agg #[.int .i64 D, .int .i64 T, .int .i64 S], stV s Ag Ad D D cg cd, .agg #[.int .i64 7, .int .i64 pl, .int .i64 dr]] w (RApplyPost w D { s with al := false } (calmE s)) := by
  have A := apply_start w B D T S Ag Ad cg cd s 7 pl dr h hB hD _ rfl
  unfold stV
  clear h
  go_enter Tryd.func45, Tryd.ntmps45
  go_wp2_with fail
  refine A.mono ?_
  rintro e W1 ⟨g1, g2, c1, c2, rfl, hA⟩
  simp only [stV]
  clear A
  go_upto_region 3 with (fail)
  generalize W1.alloc (.cells #[.bool s.mv, .bool s.al, .int .i64 s.place, .slice (some ⟨g1, 0, none⟩) D c1, .slice (some ⟨g2, 0, none⟩) D c2] 28) = W at *
  generalize W1.heap.size = y at *
  generalize hxx : w.heap.size = x at *
  have HXX := Lib.hid hxx
  clear hxx
  obtain ⟨s0, s1, s2, s3, s4⟩ := cells5 hA.st
  obtain ⟨y0, y1, y2, y3, y4, q0, q1, q2, q3, q4⟩ := res5 hA.cp
  have v0 := cell_of_row W (x + 2) 0 _ _ _ hA.ev
  have v1 := cell_of_row W (x + 2) 1 _ _ _ hA.ev
  have v2 := cell_of_row W (x + 2) 2 _ _ _ hA.ev
  have r0 := cell_of_row W x 0 _ _ _ hA.r
  have r1 := cell_of_row W x 1 _ _ _ hA.r
  have r2 := cell_of_row W x 2 _ _ _ hA.r
  simp at v0 v1 v2 r0 r1 r2
  have HA := Lib.hid hA
  clear hA
  cases ha : s.al
  · have HC : Hid (calmE s = 12) := by simp [Hid, calmE, ha, firstE, unlessE]
    rw [ha] at s1
    clear ha
    go_upto_region 51 with (fail)
    have HE := Lib.hid (HA.out.endAt.setAl false)
    go_upto_region 52 with (fail)
    generalize W.setCell ⟨y, 1, none⟩ (.bool false) = Wm at *
    obtain ⟨t0, t1, t2, t3, t4, p0, p1, p2, p3, p4⟩ := res5 HE.out.res
    obtain ⟨e0, e1, e2, e3, e4⟩ := cells5 HE.out.cp
    clear s0 s1 s2 s3 s4 y0 y1 y2 y3 y4 q0 q1 q2 q3 q4 v0 v1 v2 r0 r1 r2
    go_wp2
    refine bodyPost_ret (v := .tuple #[zeroSt, .int .i64 12]) (by simp [results, Tryd.results45, go_sem, zeroSt, t0, t1, t2, t3, t4]) rfl ⟨⟨_, by rw [HC.out], by rw [HC.out, if_neg (by decide)]⟩, by rw [HXX.out]; exact HE.out.zero _ _ _ _ _⟩
  · cases hl : bareB s
    · have HC : Hid (calmE s = 0) := by simp [Hid, calmE, ha, hl, firstE, unlessE]
      rw [ha] at s1
      have L := lone_any W x Ag Ad D D cg cd s HA.out.at_ (Nat.le_refl _) (by have h1 := HA.out.below.size; have h2 := HXX.out; omega)
      rw [hl] at L
      unfold stV at L
      rw [ha] at L
      clear ha hl
      go_upto_region 51 with (go_at_call 107; refine L.mono ?_; rintro e w2 ⟨rfl, hb2⟩; have s3' := kept hb2 s3; have s4' := kept hb2 s4; have v2' := kept hb2 v2; have y3' := kept hb2 y3; have y4' := kept hb2 y4; have y1' := kept hb2 y1)
      have hA2 := HA.out.keep hb2
      obtain ⟨n0, n1, n2, n3, n4, m0, m1, m2, m3, m4⟩ := res5 hA2.cp
      have HE := Lib.hid (hA2.endAt.setAl false)
      clear hb2 hA2 L
      go_upto_region 52 with (fail)
      clear n0 n1 n2 n3 n4 m0 m1 m2 m3 m4 s3' s4' v2' y3' y4' y1'
      generalize w2.setCell ⟨y, 1, none⟩ (.bool false) = Wm at *
      obtain ⟨t0, t1, t2, t3, t4, p0, p1, p2, p3, p4⟩ := res5 HE.out.res
      obtain ⟨e0, e1, e2, e3, e4⟩ := cells5 HE.out.cp
      clear s0 s1 s2 s3 s4 y0 y1 y2 y3 y4 q0 q1 q2 q3 q4 v0 v1 v2 r0 r1 r2
      go_wp2
      have HF := ApAt.end_ok (by omega) HE.out.below HE.out.cp HE.out.res HE.out.own
      refine bodyPost_ret (v := .tuple #[stV { s with al := false } (some ⟨g1, 0, none⟩) (some ⟨g2, 0, none⟩) D D c1 c2, .int .i64 0]) (by simp [results, Tryd.results45, go_sem, stV, t0, t1, t2, t3, t4]) rfl ⟨⟨_, by rw [HC.out], by rw [HC.out, if_pos rfl, HXX.out]; exact HF.2⟩, by rw [HXX.out]; exact HF.1⟩
    · have HC : Hid (calmE s = 23) := by simp [Hid, calmE, ha, hl, firstE, unlessE]
      rw [ha] at s1
      have L := lone_any W x Ag Ad D D cg cd s HA.out.at_ (Nat.le_refl _) (by have h1 := HA.out.below.size; have h2 := HXX.out; omega)
      rw [hl] at L
      unfold stV at L
      rw [ha] at L
      clear ha hl
      go_upto_region 51 with (go_at_call 107; refine L.mono ?_; rintro e w2 ⟨rfl, hb2⟩; have s3' := kept hb2 s3; have s4' := kept hb2 s4; have v2' := kept hb2 v2; have y3' := kept hb2 y3; have y4' := kept hb2 y4; have y1' := kept hb2 y1)
      have hA2 := HA.out.keep hb2
      obtain ⟨n0, n1, n2, n3, n4, m0, m1, m2, m3, m4⟩ := res5 hA2.cp
      have HE := Lib.hid (hA2.endAt.setAl false)
      clear hb2 hA2 L
      go_upto_region 52 with (fail)
      clear n0 n1 n2 n3 n4 m0 m1 m2 m3 m4 s3' s4' v2' y3' y4' y1'
      generalize w2.setCell ⟨y, 1, none⟩ (.bool false) = Wm at *
      obtain ⟨t0, t1, t2, t3, t4, p0, p1, p2, p3, p4⟩ := res5 HE.out.res
      obtain ⟨e0, e1, e2, e3, e4⟩ := cells5 HE.out.cp
      clear s0 s1 s2 s3 s4 y0 y1 y2 y3 y4 q0 q1 q2 q3 q4 v0 v1 v2 r0 r1 r2
      go_wp2
      refine bodyPost_ret (v := .tuple #[zeroSt, .int .i64 23]) (by simp [results, Tryd.results45, go_sem, zeroSt, t0, t1, t2, t3, t4]) rfl ⟨⟨_, by rw [HC.out], by rw [HC.out, if_neg (by decide)]⟩, by rw [HXX.out]; exact HE.out.zero _ _ _ _ _⟩
end Go.Proofs.YtmcjnfghlpnghaaDoor
