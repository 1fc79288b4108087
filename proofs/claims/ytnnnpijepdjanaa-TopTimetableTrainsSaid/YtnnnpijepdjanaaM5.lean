/- The last law's own facts: a copy of a track with its room; the net of a run and its headway. What the last law keeps behind the run's times; the calls on its nets of one and of two activities. -/
import Derived.Test.YtnnnpijepdjanaaM4
import Derived.Test.YtnnnpijepdjanaaM3
namespace Go.Proofs.Ytnnnpijepdjanaa
open Go.RowKit

def TrkKept (w : World) (nm : ByteArray) (np : Nat) (pcs : List Pc) (e : Ending) (w' : World) : Prop :=
  ∃ A c, e = .returned (trackV nm A np c) ∧ np ≤ c ∧ Rd w' w'.heap.size A (pcCells pcs) ∧ Below w.heap.size w w'
set_option maxRecDepth 100000 in
set_option maxHeartbeats 4000000 in
theorem trkCopy_cap (w : World) (B : Nat) (nm : ByteArray) (Ap : Option Addr) (np cp : Nat) (pcs : List Pc) (hl : pcs.length = np) (hn : np ≤ 1000000) (hr : Rd w B Ap (pcCells pcs)) (hB : B ≤ w.heap.size) :
    Calls Try.prog 17 #[trackV nm Ap np cp] w (TrkKept w nm np pcs) := by
  obtain ⟨i1, hi1, hy0, hy1, hy2⟩ := info_parts info110
  have hb0 : Below w.heap.size w ((w.alloc (.cells #[.string nm, .slice Ap np cp] 42)).alloc (.cells #[.string ⟨#[]⟩, .slice none 0 0] 42)) := ((Below.refl _ _).alloc (Nat.le_refl _) _).alloc (by simp) _
  have k0 : ((w.alloc (.cells #[.string nm, .slice Ap np cp] 42)).alloc (.cells #[.string ⟨#[]⟩, .slice none 0 0] 42)).heap[w.heap.size]? = some (.cells #[.string nm, .slice Ap np cp] 42 (0, 0)) := by
    rw [heapq_alloc, if_neg (by simp), heapq_alloc, if_pos rfl]
  have k1 : ((w.alloc (.cells #[.string nm, .slice Ap np cp] 42)).alloc (.cells #[.string ⟨#[]⟩, .slice none 0 0] 42)).heap[w.heap.size + 1]? = some (.cells #[.string ⟨#[]⟩, .slice none 0 0] 42 (0, 0)) := by
    rw [heapq_alloc, if_pos (by simp)]
  have hw0 := hr.below (hb0.mono hB)
  have hs1 := hb0.size
  have HB := Lib.hid hb0
  have HLW := Lib.hid hl
  have K1 := Lib.hid k1
  have hx1 := (Array.getElem?_eq_some_iff.1 k1).1
  obtain ⟨a0, a1⟩ := cells2 k0
  have HX := Lib.hid hx1
  clear hl hr hb0 k0 k1 hx1
  unfold trackV
  go_enter Try.func17, Try.ntmps17
  go_upto_region 1 with (fail)
  generalize ((w.alloc (.cells #[.string nm, .slice Ap np cp] 42)).alloc (.cells #[.string ⟨#[]⟩, .slice none 0 0] 42)) = W0 at *
  have hBW : B ≤ W0.heap.size := Nat.le_trans hB hs1
  generalize hx : w.heap.size = x at *
  have HXX := Lib.hid hx
  clear hx
  have x0 := fun y : Xt W0 => y.cell a0
  have x1 := fun y : Xt W0 => y.cell a1
  refine wp_region_eager [7] (fun w' => ∃ y : Xt W0, w' = y.1) (by kernel_rfl) ⟨⟨W0.drew, (Below.refl _ _).drew⟩, rfl⟩ ?_
  refine wpE_reads [0, 1, 3, 4] 4 rfl (by kernel_rfl) ?_
  simp only [opsAt_nil, opsAt_cons, consOpt_some, List.getElem?_toArray, List.getElem?_cons_zero, List.getElem?_cons_succ]
  repeat (go_big_quiet_step (fail))
  refine wpQuiet_nil ?_
  have hbd : Below W0.heap.size W0 W0.drew := (Below.refl _ _).drew
  show wpE _ _ _ _ _ _ _ _ _ W0.drew
  generalize W0.drew = wd at *
  clear x0 x1 a0 a1
  refine wpE_one (i := 2) rfl (by kernel_rfl) rfl ?_
  unfold wpMid
  simp only [opsAt_nil, opsAt_cons, consOpt_some, List.getElem?_toArray, List.getElem?_cons_zero, List.getElem?_cons_succ]
  go_wp2
  have hb03 : Below W0.heap.size W0 (wd.alloc (.cells #[] 110)) := hbd.alloc hbd.size _
  have gq : (wd.alloc (.cells #[] 110)).heap[wd.heap.size]? = some (.cells #[] 110 (0, 0)) := by rw [heapq_alloc, if_pos rfl]
  have hg : W0.heap.size ≤ wd.heap.size := hbd.size
  generalize wd.alloc (.cells #[] 110) = w3 at *
  generalize wd.heap.size = g at *
  refine onlyNormal_mk ⟨⟨⟨_, hb03⟩, rfl⟩, ?_⟩
  refine wpE_one (i := 5) rfl (by kernel_rfl) rfl ?_
  unfold wpMid
  simp only [opsAt_nil, opsAt_cons, consOpt_some, List.getElem?_toArray, List.getElem?_cons_zero, List.getElem?_cons_succ]
  have hrd := hw0.below (hb03.mono hBW)
  have hgl := lt_of_block gq
  refine wpList_append_copy w3 rfl _ _ 40 rfl g 110 i1 _ 4 32 Try.underlying40 hi1 hy0 hy1 hy2 rfl (by omega) g rfl gq (Nat.le_refl _) B Ap np cp (pcCells pcs) rfl (by rw [pcCells_len, HLW.out]) hrd (pcCells_one pcs) (by simp only [maxLen]; omega) (by omega) (Nat.le_of_lt hgl) ?_
  intro G cG w4 hown hgrow _
  have hb4 : Below W0.heap.size W0 w4 := hb03.grown hgrow hb03.size (fun k hk => by rw [← Option.some.inj hk]; exact hg)
  have hG := ownBlk hown rfl
  have HCG : Hid (np ≤ cG) := own_cap hown
  have hk4 := (hb4.block (x + 1) HX.out).trans K1.out
  have RWW : Rd w4 w4.heap.size (some ⟨G, 0, none⟩) (pcCells pcs) ∧ w4.heap.size ≤ w4.heap.size ∧ ∀ (k : Nat) (u : Value), (pcCells pcs)[k]? = some u → ∀ b off, some (⟨G, 0, none⟩ : Addr) = some ⟨b, off, none⟩ → b ≠ x + 1 :=
    ⟨Rd_of_own hown, Nat.le_refl _, fun k u _ b off he => by
      simp only [Option.some.injEq, Addr.mk.injEq, and_true] at he
      have := HX.out
      have := hG.1
      omega⟩
  clear hrd hown hgrow
  refine onlyNormal_mk ⟨⟨⟨_, hb4⟩, rfl⟩, ?_⟩
  refine wpE_put (l' := [_, _, _, _, _, _, _, _, _, _]) rfl ?_
  refine wpE_reads5 [6] 1 rfl (by kernel_rfl) ?_
  simp only [opsAt_nil, opsAt_cons, consOpt_some, List.getElem?_toArray, List.getElem?_cons_zero, List.getElem?_cons_succ]
  repeat (go_big_quiet_step (fail))
  refine wpQuiet_nil ?_
  refine wpE_tail rfl (by kernel_rfl) ?_
  simp only [opsAt_nil, opsAt_cons, consOpt_some, List.getElem?_toArray, List.getElem?_cons_zero, List.getElem?_cons_succ]
  obtain ⟨t0, t1, q0, q1⟩ := res2 hk4
  have RW := Lib.hid RWW
  have HBE := Lib.hid (HB.out.trans (hb4.mono hs1))
  clear hk4 hb4 RWW
  go_wp2
  refine onlyNormal_mk ?_
  go_wp2
  refine bodyPost_ret (v := .agg #[.string nm, .slice (some ⟨G, 0, none⟩) np cG]) (by simp [results, Try.results17, go_sem, t0, t1]) rfl ⟨_, cG, rfl, HCG.out, ?_, ?_⟩
  · exact rd_set2 RW.out
  · rw [HXX.out]
    exact (HBE.out.setCell (p := ⟨x + 1, 0, none⟩) (Nat.le_add_right x 1) _).setCell (p := ⟨x + 1, 1, none⟩) (Nat.le_add_right x 1) _

def evs2 : List ByteArray := [⟨#[111, 117, 116]⟩, ⟨#[105, 110]⟩]
def acts1 (L : Int) : List Act := [⟨0, 0, 1, L, -1, 0⟩]
theorem ways1 (L : Int) : waysM (acts1 L) = [(0, 1, L)] := by
  simp [waysM, acts1, waysA, fwdW]
theorem long1 {L T : Int} (hL : 1 ≤ L) (hT : 0 ≤ T) : longM (waysM (acts1 L)) 2 [some T, some 0] = ([some T, some (T + L)], false) := by
  have n1 : ¬ ([some T, some (T + L)] : Far) = [some T, some 0] := by simp; omega
  have f1 : farM (waysM (acts1 L)) [some T, some 0] = [some T, some (T + L)] := by
    rw [ways1, farM, relaxGo, relaxGo, relax_at (acc := [some T, some 0]) (a := 0) (b := 1) (u := T) (v := 0) rfl rfl, if_pos (by omega)]
    rfl
  have f2 : farM (waysM (acts1 L)) [some T, some (T + L)] = [some T, some (T + L)] := by
    rw [ways1, farM, relaxGo, relaxGo, relax_at (acc := [some T, some (T + L)]) (a := 0) (b := 1) (u := T) (v := T + L) rfl rfl, if_neg (by omega)]
  rw [longM, f1, if_neg n1, longM, f2, if_pos rfl]
theorem cyc2 {L T : Int} (hL : 2 ≤ L) (hac : ∀ a ∈ acts2 L, actR 2 a) : (longM (waysM (acts2 L)) 2 [some T, some 0]).2 = true := by
  cases h : (longM (waysM (acts2 L)) 2 [some T, some 0]).2 with
  | true => rfl
  | false =>
    have h9 := cycle_same (m := 2) (l := [some T, some 0]) (l' := zerosF 2) rfl (by simp [zerosF]) (by omega) (ways_in hac) (fun i hi => by
      match i, hi with
      | 0, _ => exact ⟨T, rfl⟩
      | 1, _ => exact ⟨0, rfl⟩
      | k + 2, hk => exact absurd hk (by omega)) h
    rw [long2 hL] at h9
    cases h9
theorem ac1 {L : Int} (hL : 1 ≤ L) (hL9 : L ≤ 100000) : ∀ a ∈ acts1 L, actR 2 a := by
  intro a ha
  simp only [acts1, List.mem_singleton] at ha
  subst ha
  simp [actR]
  omega
theorem ac2 {L : Int} (hL : 2 ≤ L) (hL9 : L ≤ 100000) : ∀ a ∈ acts2 L, actR 2 a := by
  intro a ha
  simp only [acts2, List.mem_cons, List.not_mem_nil, or_false] at ha
  rcases ha with rfl | rfl <;> simp [actR] <;> omega
theorem evs2_ok : evGo [] evs2 = 0 := by decide +kernel
theorem netR1 {L : Int} (hL : 1 ≤ L) (hL9 : L ≤ 100000) : NetR evs2 (acts1 L) := ⟨by decide, by decide, evs2_ok, by simp [acts1], ac1 hL hL9⟩
theorem netR2 {L : Int} (hL : 2 ≤ L) (hL9 : L ≤ 100000) : NetR evs2 (acts2 L) := ⟨by decide, by decide, evs2_ok, by simp [acts2], ac2 hL hL9⟩
theorem broken1 {L T H : Int} (h : L ≤ H) : idxGo (brokenB [T, T + H]) (acts1 L) 0 = -1 := by
  have h1 : brokenB [T, T + H] ⟨0, 0, 1, L, -1, 0⟩ = false := by
    simp [brokenB]
    omega
  simp [idxGo, acts1, h1]
end Go.Proofs.Ytnnnpijepdjanaa

namespace Go.Proofs.Ytnnnpijepdjanaa
open Go.RowKit

structure TrH (x g n B2 : Nat) (s : Sy) (As : Option Addr) (ns cs : Nat) (T lo h3 : Int) (Ae Aa : Option Addr) (na ca : Nat) (acts : List Act) (w W : World) : Prop where
  bs : W.heap[x + 1]? = some (.cells #[.int .i64 s.brake, .int .i64 s.drag, .int .i64 s.drive, .slice As ns cs, .int .i64 T] 46 (0, 0))
  bh : W.heap[g]? = some (.cells #[.int .i64 lo, .int .i64 h3] 54 (0, 0))
  bn : W.heap[n]? = some (.cells #[.slice Ae 2 2, .slice Aa na ca] 25 (0, 0))
  net : NetAt W B2 Ae Aa 2 2 na evs2 acts
  own : W.ownsRow w.heap.size 61 6 (.slice Aa na ca) na (actCells acts)
  ev9 : ∃ (ge : Nat) (cur : Array Value), Ae = some ⟨ge, 0, none⟩ ∧ W.heap[ge]? = some (.cells cur 9 (0, 0))
  low : Below w.heap.size w W
  hB : B2 ≤ W.heap.size
theorem TrH.below {x g n B2 : Nat} {s : Sy} {As : Option Addr} {ns cs : Nat} {T lo h3 : Int} {Ae Aa : Option Addr} {na ca : Nat} {acts : List Act} {w W V : World} (h : TrH x g n B2 s As ns cs T lo h3 Ae Aa na ca acts w W) (hb : Below W.heap.size W V) : TrH x g n B2 s As ns cs T lo h3 Ae Aa na ca acts w V :=
  ⟨blk hb h.bs, blk hb h.bh, blk hb h.bn, h.net.below (hb.mono h.hB), ownsRow_below h.own hb, (let ⟨ge, cur, h1, h2⟩ := h.ev9; ⟨ge, cur, h1, blk hb h2⟩), h.low.trans (hb.mono h.low.size), Nat.le_trans h.hB hb.size⟩
theorem ne_blk {W : World} {a b t t' : Nat} {c c' : Array Value} (h : W.heap[a]? = some (.cells c t (0, 0))) (h' : W.heap[b]? = some (.cells c' t' (0, 0))) (ht : t ≠ t') : a ≠ b := by
  rintro rfl
  rw [h] at h'
  cases h'
  exact ht rfl
theorem rd_put2 {W : World} {x j B : Nat} {A : Option Addr} {xs : List Value} {v : Value} (h : Rd W B A xs) (hne : ∀ (k : Nat) (u : Value), xs[k]? = some u → ∀ b off, A = some ⟨b, off, none⟩ → b ≠ x) : Rd (W.setCell ⟨x, j, none⟩ v) B A xs := fun k u hk => by
  obtain ⟨b, off, hA, hb, hc⟩ := h k u hk
  refine ⟨b, off, hA, hb, ?_⟩
  rw [World.cell?_setCell_other _ _ _ _ (fun he => hne k u hk _ _ hA (by simpa using (congrArg Addr.block he).symm))]
  exact hc
theorem TrH.grown {x g n B2 : Nat} {s : Sy} {As : Option Addr} {ns cs : Nat} {T lo h3 : Int} {Ae : Option Addr} {ga na ca : Nat} {acts : List Act} {w W V : World} (h : TrH x g n B2 s As ns cs T lo h3 Ae (some ⟨ga, 0, none⟩) na ca acts w W) (hg : W.grownBy V (some ga)) :
    V.heap[n]? = some (.cells #[.slice Ae 2 2, .slice (some ⟨ga, 0, none⟩) na ca] 25 (0, 0)) := by
  obtain ⟨_, _, ca1, hga⟩ := ownBlk h.own rfl
  exact blk_grown h.bn hg (fun r hr => by
    cases hr
    exact ⟨ca1, hga⟩) (by decide)
theorem TrH.more {x g n B2 : Nat} {s : Sy} {As : Option Addr} {ns cs : Nat} {T lo h3 : Int} {Ae : Option Addr} {ga na ca m cm : Nat} {acts acts' : List Act} {w W V : World} {gm : Nat} (h : TrH x g n B2 s As ns cs T lo h3 Ae (some ⟨ga, 0, none⟩) na ca acts w W)
    (hn : w.heap.size ≤ n) (hm : acts'.length = m) (hg : W.grownBy V (some ga)) (ho : V.ownsRow w.heap.size 61 6 (.slice (some ⟨gm, 0, none⟩) m cm) m (actCells acts')) (hl : w.heap.size ≤ W.heap.size) :
    TrH x g n (V.setCell ⟨n, 1, none⟩ (.slice (some ⟨gm, 0, none⟩) m cm)).heap.size s As ns cs T lo h3 Ae (some ⟨gm, 0, none⟩) m cm acts' w (V.setCell ⟨n, 1, none⟩ (.slice (some ⟨gm, 0, none⟩) m cm)) := by
  obtain ⟨_, _, ca1, hga⟩ := ownBlk h.own rfl
  obtain ⟨ge, ce, rfl, hge⟩ := h.ev9
  obtain ⟨_, _, cm1, hgm⟩ := ownBlk ho rfl
  have hr : ∀ r, some ga = some r → ∃ c, W.heap[r]? = some (.cells c 61 (0, 0)) := fun r hr => by
    cases hr
    exact ⟨ca1, hga⟩
  have vs := blk_grown h.bs hg hr (by decide)
  have vh := blk_grown h.bh hg hr (by decide)
  have vn := blk_grown h.bn hg hr (by decide)
  have ve := blk_grown hge hg hr (by decide)
  have lowV : Below w.heap.size w V := h.low.grown hg hl (fun k hk => by
    cases hk
    exact (ownBlk h.own rfl).1)
  have hsz : W.heap.size ≤ V.heap.size := hg.size
  refine ⟨?_, ?_, ?_, ⟨h.net.le, hm, ?_, ?_, h.net.hz, h.net.hc⟩, ?_, ⟨ge, ce, rfl, by rw [heapq_set, if_neg (ne_blk ve vn (by decide)), ve]⟩, lowV.setCell (p := ⟨n, 1, none⟩) hn _, Nat.le_refl _⟩
  · rw [heapq_set, if_neg (ne_blk vs vn (by decide)), vs]
  · rw [heapq_set, if_neg (ne_blk vh vn (by decide)), vh]
  · rw [heapq_set, if_pos rfl, vn]
    rfl
  · have h9 : Rd V B2 (some ⟨ge, 0, none⟩) (strCells evs2) := rd_kept h.net.re hg (fun k u _ b off hb => by
      cases hb
      exact ne_blk hge hga (by decide))
    refine (rd_put2 h9 fun k u _ b off hb => ?_).mono ?_
    · cases hb
      exact ne_blk ve vn (by decide)
    · have := h.hB
      simp
      omega
  · refine (rd_put2 (Rd_of_own ho) fun k u _ b off hb => ?_).mono (by simp)
    cases hb
    exact ne_blk hgm vn (by decide)
  · exact own_keep ho fun b cur hb => by
      rw [heapq_set, if_neg (ne_blk hb vn (by decide)), hb]
theorem rng2 {T u : Int} (h0 : 0 ≤ T) (h1 : T ≤ 100000) (h2 : 0 ≤ u) (h3 : u ≤ 10000000) : ∀ t ∈ [T, u], 0 ≤ t ∧ t ≤ 10000000 := by
  intro t ht
  simp only [List.mem_cons, List.not_mem_nil, or_false] at ht
  rcases ht with rfl | rfl <;> omega
def ErPost (w : World) (T L : Int) (e : Ending) (w' : World) : Prop := ∃ A c, e = .returned (.tuple #[.slice A 2 c, .int .i64 0]) ∧ Rd w' w'.heap.size A (intCells [T, T + L]) ∧ Below w.heap.size w w'
theorem earl_one (W : World) (A1 A2 : Option Addr) (c1 c2 : Nat) (T L : Int) (hL1 : 1 ≤ L) (hL2 : L ≤ 100000) (hT0 : 0 ≤ T) (hT1 : T ≤ 100000) (h : NetAt W W.heap.size A1 A2 2 c1 1 evs2 (acts1 L)) (At : Option Addr) (ct : Nat) (ht : Rd W W.heap.size At (intCells [T, 0])) :
    Calls Try.prog 9 #[netV A1 2 c1 A2 1 c2, .slice At 2 ct] W (ErPost W T L) := by
  have hl := long1 hL1 hT0
  refine (Earliest_new W W.heap.size A1 A2 2 c1 1 c2 evs2 (acts1 L) h (Nat.le_refl _) (netR1 hL1 hL2) At ct [T, 0] rfl ht (rng2 hT0 hT1 (by omega) (by omega)) ?_).mono ?_
  · intro _ i u hu
    rw [show ([T, 0] : List Int).map some = [some T, some 0] from rfl, hl] at hu
    match i with
    | 0 =>
      obtain rfl : T = u := by simpa [farAt] using hu
      omega
    | 1 =>
      obtain rfl : T + L = u := by simpa [farAt] using hu
      omega
    | k + 2 => simp [farAt] at hu
  · intro e w' hp
    obtain ⟨A, c, h1, h2, _, h3⟩ := earl_ok (q := [T, T + L]) hp (by rw [show ([T, 0] : List Int).map some = [some T, some 0] from rfl, hl]; rfl)
    exact ⟨A, c, h1, h2, h3⟩
def CkPost (w : World) (e : Ending) (w' : World) : Prop := e = .returned (.tuple #[.int .i64 0, .int .i64 0]) ∧ Below w.heap.size w w'
theorem check_one (W : World) (A1 A2 : Option Addr) (c1 c2 : Nat) (T L H : Int) (hL1 : 1 ≤ L) (hL2 : L ≤ 100000) (hL3 : L ≤ H) (hL4 : H ≤ 5000000) (hT0 : 0 ≤ T) (hT1 : T ≤ 100000) (h : NetAt W W.heap.size A1 A2 2 c1 1 evs2 (acts1 L)) (At : Option Addr) (ct : Nat) (ht : Rd W W.heap.size At (intCells [T, T + H])) :
    Calls Try.prog 21 #[netV A1 2 c1 A2 1 c2, .slice At 2 ct] W (CkPost W) := by
  refine (CheckTimes_any W W.heap.size A1 A2 2 c1 1 c2 evs2 (acts1 L) h (Nat.le_refl _) (netR1 hL1 hL2) W.heap.size At ct [T, T + H] rfl ht (Nat.le_refl _) (rng2 hT0 hT1 (by omega) (by omega))).mono ?_
  intro e w' hp
  rw [broken1 hL3] at hp
  exact ⟨by simpa [CtPost] using hp.1, hp.2⟩
def EcPost (w : World) (e : Ending) (w' : World) : Prop := e = .returned (.tuple #[.slice none 0 0, .int .i64 19]) ∧ Below w.heap.size w w'
theorem earl_two (W : World) (A1 A2 : Option Addr) (c1 c2 : Nat) (T L : Int) (hL1 : 2 ≤ L) (hL2 : L ≤ 100000) (hT0 : 0 ≤ T) (hT1 : T ≤ 100000) (h : NetAt W W.heap.size A1 A2 2 c1 2 evs2 (acts2 L)) (At : Option Addr) (ct : Nat) (ht : Rd W W.heap.size At (intCells [T, 0])) :
    Calls Try.prog 9 #[netV A1 2 c1 A2 2 c2, .slice At 2 ct] W (EcPost W) := by
  have hl := cyc2 (T := T) hL1 (ac2 hL1 hL2)
  refine (Earliest_new W W.heap.size A1 A2 2 c1 2 c2 evs2 (acts2 L) h (Nat.le_refl _) (netR2 hL1 hL2) At ct [T, 0] rfl ht (rng2 hT0 hT1 (by omega) (by omega)) ?_).mono ?_
  · intro h9
    rw [show ([T, 0] : List Int).map some = [some T, some 0] from rfl, hl] at h9
    cases h9
  · intro e w' hp
    exact earl_cyc hp (by rw [show ([T, 0] : List Int).map some = [some T, some 0] from rfl, hl])
def FdR (wr : World) (u1 u2 : Value) (wc : World) : Prop := ∃ A c, u1 = .slice A 2 c ∧ u2 = .int .i64 0 ∧ Rd wc wc.heap.size A (sCells [(0, false), (1, true)]) ∧ Below wr.heap.size wr wc
def ErR (wr : World) (T L : Int) (u1 u2 : Value) (wc : World) : Prop := ∃ A c, u1 = .slice A 2 c ∧ u2 = .int .i64 0 ∧ Rd wc wc.heap.size A (intCells [T, T + L]) ∧ Below wr.heap.size wr wc
def CkR (wr : World) (u2 : Value) (wc : World) : Prop := u2 = .int .i64 0 ∧ Below wr.heap.size wr wc
def EcR (wr : World) (u2 : Value) (wc : World) : Prop := u2 = .int .i64 19 ∧ Below wr.heap.size wr wc
end Go.Proofs.Ytnnnpijepdjanaa
