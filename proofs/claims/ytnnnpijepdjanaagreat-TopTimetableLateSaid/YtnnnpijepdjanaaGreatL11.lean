/- The code: what becomes of delays. -/
import Derived.Test.YtnnnpijepdjanaaGreatM2
namespace Go.Proofs.YtnnnpijepdjanaaGreat
open Go.RowKit

def BdA (ne : Nat) (A : List Int) (M : Int) : Prop := ∀ v, v < ne → 0 ≤ gt A v ∧ gt A v ≤ M
def LatePost (w : World) (ne : Nat) (times : List Int) (acts : List Act) (ds : List Dl) (e : Ending) (w' : World) : Prop :=
  ∃ (gA cA : Nat) (Ag : Option Addr) (m cg : Nat) (ord : List Nat) (G : List Int), e = .returned (.agg #[.slice (some ⟨gA, 0, none⟩) ne cA, .slice Ag m cg]) ∧ ord.Perm (List.range ne) ∧ ord.Pairwise (tmLt times) ∧ (G.length = m ∧ m ≤ 1000) ∧ (∀ x, x ∈ G ↔ x ∈ (ltOrd times acts ord (addD ds times, [])).2) ∧
    Rd w' w'.heap.size (some ⟨gA, 0, none⟩) (intCells (ltOrd times acts ord (addD ds times, [])).1) ∧ Rd w' w'.heap.size Ag (intCells G) ∧ Below w.heap.size w w'
def DdRel (n0 gA cA ne : Nat) (Ae : Option Addr) (ce : Nat) (Aa : Option Addr) (na ca : Nat) (acts : List Act) (At : Option Addr) (ct : Nat) (times : List Int) (Ad : Option Addr) (n : Nat) (ds : List Dl) (w : World) (u : Value) (wr : World) : Prop :=
  ∃ (k : Nat) (A : List Int), k ≤ n ∧ u = .int .i64 k ∧ addD (ds.drop k) A = addD ds times ∧ BdA ne A (10000000 + 100000 * (k : Int)) ∧ LaG n0 gA cA ne Ae ce Aa na ca acts At ct times Ad ds A w wr
def OrRel (bO n0 gA cA ne : Nat) (Ae : Option Addr) (ce : Nat) (Aa : Option Addr) (na ca : Nat) (acts : List Act) (At : Option Addr) (ct : Nat) (times : List Int) (Ad : Option Addr) (ds : List Dl) (A : List Int) (w wS : World) (u10 u38 : Value) (wr : World) : Prop :=
  ∃ k : Nat, k ≤ ne ∧ u38 = .int .i64 k ∧ wr.ownsRow bO 3 1 u10 k (natCells (List.range k)) ∧ LaG n0 gA cA ne Ae ce Aa na ca acts At ct times Ad ds A w wr ∧ Below bO wS wr
theorem nat_succ (k : Nat) : natCells (List.range (k + 1)) = natCells (List.range k) ++ [.int .i64 (k : Int)] := by
  simp [List.range_succ, natCells]
theorem addD_drop {ds : List Dl} {k : Nat} {d : Dl} {A : List Int} (h : ds[k]? = some d) : addD (ds.drop k) A = addD (ds.drop (k + 1)) (A.set d.ev.toNat (gt A d.ev.toNat + d.by_)) := by
  obtain ⟨h1, h2⟩ := List.getElem?_eq_some_iff.1 h
  rw [List.drop_eq_getElem_cons h1, h2, addD]
structure LbG (gx gO : Nat) (ord : List Nat) (n0 gA cA ne : Nat) (Ae : Option Addr) (ce : Nat) (Aa : Option Addr) (na ca : Nat) (acts : List Act) (At : Option Addr) (ct : Nat) (times : List Int) (Ad : Option Addr) (ds : List Dl) (A G : List Int) (w W : World) : Prop where
  la : LaG n0 gA cA ne Ae ce Aa na ca acts At ct times Ad ds A w W
  b12 : ∃ Ag cg, W.heap[gx]? = some (.cells #[.slice (some ⟨gA, 0, none⟩) ne cA, .slice Ag G.length cg] 34 (0, 0)) ∧ W.ownsRow (gx + 1) 3 1 (.slice Ag G.length cg) G.length (intCells G)
  ro : ∀ (k : Nat) (u : Value), (natCells ord)[k]? = some u → W.cell? ⟨gO, k, none⟩ = some u
section
variable {gx gO : Nat} {ord : List Nat} {n0 gA cA ne : Nat} {Ae : Option Addr} {ce : Nat} {Aa : Option Addr} {na ca : Nat} {acts : List Act} {At : Option Addr} {ct : Nat} {times : List Int} {Ad : Option Addr} {ds : List Dl} {A G : List Int} {w W V : World}
theorem LbG.below (h : LbG gx gO ord n0 gA cA ne Ae ce Aa na ca acts At ct times Ad ds A G w W) (hb : Below W.heap.size W V) : LbG gx gO ord n0 gA cA ne Ae ce Aa na ca acts At ct times Ad ds A G w V :=
  ⟨h.la.below hb, (let ⟨Ag, cg, h1, h2⟩ := h.b12; ⟨Ag, cg, blk hb h1, ownsRow_below h2 hb⟩), fun k u hu => kept hb (h.ro k u hu)⟩
theorem LbG.put (h : LbG gx gO ord n0 gA cA ne Ae ce Aa na ca acts At ct times Ad ds A G w W) (hAO : gA < gO) (hOx : gO < gx) (v : Nat) (y : Int) : LbG gx gO ord n0 gA cA ne Ae ce Aa na ca acts At ct times Ad ds (A.set v y) G w (W.setCell ⟨gA, v, none⟩ (.int .i64 y)) := by
  obtain ⟨Ag, cg, h1, h2⟩ := h.b12
  refine ⟨h.la.put v y, ⟨Ag, cg, by rw [heapq_set, if_neg (show gx ≠ gA by omega)]; exact h1, ?_⟩, fun k u hu => ?_⟩
  · refine ⟨h2.1, ?_⟩
    rcases h2.2 with h3 | ⟨g, cap, cur, e1, e2, e3, e4⟩
    · exact .inl h3
    · exact .inr ⟨g, cap, cur, e1, e2, by rw [heapq_set, if_neg (show g ≠ gA by omega)]; exact e3, e4⟩
  · rw [World.cell?_setCell_other _ _ _ _ (fun e => by have := congrArg Addr.block e; simp at this; omega)]
    exact h.ro k u hu
theorem LbG.give (h : LbG gx gO ord n0 gA cA ne Ae ce Aa na ca acts At ct times Ad ds A G w W) (hAO : gA < gO) (hOx : gO < gx) {Ag : Option Addr} {cg : Nat} (hg : W.grownBy V (Value.slice Ag G.length cg).ownBlock) (hown : W.ownsRow (gx + 1) 3 1 (.slice Ag G.length cg) G.length (intCells G)) {gg cap : Nat} {i : Int}
    (hx : W.heap[gx]? = some (.cells #[.slice (some ⟨gA, 0, none⟩) ne cA, .slice Ag G.length cg] 34 (0, 0))) (ho : V.ownsRow (gx + 1) 3 1 (.slice (some ⟨gg, 0, none⟩) (G.length + 1) cap) (G.length + 1) (intCells (G ++ [i]))) :
    V.heap[gx]? = some (.cells #[.slice (some ⟨gA, 0, none⟩) ne cA, .slice Ag G.length cg] 34 (0, 0)) ∧
      LbG gx gO ord n0 gA cA ne Ae ce Aa na ca acts At ct times Ad ds A (G ++ [i]) w (V.setCell ⟨gx, 1, none⟩ (.slice (some ⟨gg, 0, none⟩) (G.length + 1) cap)) := by
  have hr : ∀ k, (Value.slice Ag G.length cg).ownBlock = some k → gx + 1 ≤ k := fun k hk => (ownBlk hown hk).1
  have hxl := (Array.getElem?_eq_some_iff.1 hx).1
  have hxv := (hg.block gx hxl (fun e => by have := hr gx e.symm; omega)).trans hx
  have hgA := h.la.gA3
  have hla : LaG n0 gA cA ne Ae ce Aa na ca acts At ct times Ad ds A w V :=
    h.la.keep ((Below.refl (n0 + 3) W).grown hg (by omega) (fun k hk => by have := hr k hk; omega)) (own_same h.la.act (hg.block gA hgA.2 (fun e => by have := hr gA e.symm; omega)))
  refine ⟨hxv, hla.other _ (show gA < gx by omega), ⟨some ⟨gg, 0, none⟩, cap, ?_, ?_⟩, fun k u hu => ?_⟩
  · rw [heapq_set, if_pos rfl, hxv, List.length_append, List.length_singleton]
    rfl
  · have hgg : gx + 1 ≤ gg := (ownBlk ho rfl).1
    rw [List.length_append, List.length_singleton]
    exact own_same ho (by rw [heapq_set, if_neg (show gg ≠ gx by omega)])
  · rw [World.cell?_setCell_other _ _ _ _ (fun e => by have := congrArg Addr.block e; simp at this; omega)]
    have hc := h.ro k u hu
    have hOl := lt_of_cell hc
    have hq : V.heap[gO]? = W.heap[gO]? := hg.block gO hOl (fun e => by have := hr gO e.symm; omega)
    have hq2 : V.cell? ⟨gO, k, none⟩ = W.cell? ⟨gO, k, none⟩ := by
      unfold World.cell?
      simp only [hq]
    rw [hq2]
    exact hc
end
def LcRel (gx gO : Nat) (ord : List Nat) (n0 gA cA ne : Nat) (Ae : Option Addr) (ce : Nat) (Aa : Option Addr) (na ca : Nat) (acts : List Act) (At : Option Addr) (ct : Nat) (times : List Int) (Ad : Option Addr) (ds : List Dl) (R : List Int × List Int) (w : World) (u : Value) (wr : World) : Prop :=
  ∃ (j : Nat) (A G : List Int), j ≤ ne ∧ u = .int .i64 j ∧ ltOrd times acts (ord.drop j) (A, G) = R ∧ BdA ne A (20000000 + 4000000 * (j : Int)) ∧ G.length ≤ 30 * j ∧ LbG gx gO ord n0 gA cA ne Ae ce Aa na ca acts At ct times Ad ds A G w wr
def LdRel (v j gx gO : Nat) (ord : List Nat) (n0 gA cA ne : Nat) (Ae : Option Addr) (ce : Nat) (Aa : Option Addr) (na ca : Nat) (acts : List Act) (At : Option Addr) (ct : Nat) (times : List Int) (Ad : Option Addr) (ds : List Dl) (R : List Int × List Int) (w : World) (u : Value) (wr : World) : Prop :=
  ∃ (i : Nat) (A G : List Int), i ≤ na ∧ u = .int .i64 i ∧ ltGo times v i (acts.drop i) (A, G) = R ∧ BdA ne A (20000000 + 4000000 * (j : Int) + 100000 * (i : Int)) ∧ G.length ≤ 30 * j + i ∧ LbG gx gO ord n0 gA cA ne Ae ce Aa na ca acts At ct times Ad ds A G w wr
theorem ltOrd_drop {times : List Int} {acts : List Act} {ord : List Nat} {j v : Nat} {s : List Int × List Int} (h : ord[j]? = some v) : ltOrd times acts (ord.drop j) s = ltOrd times acts (ord.drop (j + 1)) (ltGo times v 0 acts s) := by
  obtain ⟨h1, h2⟩ := List.getElem?_eq_some_iff.1 h
  rw [List.drop_eq_getElem_cons h1, h2, ltOrd]
theorem ltGo_drop {times : List Int} {acts : List Act} {i v : Nat} {a : Act} {s : List Int × List Int} (h : acts[i]? = some a) : ltGo times v i (acts.drop i) s = ltGo times v (i + 1) (acts.drop (i + 1)) (ltStep times v i a s) := by
  obtain ⟨h1, h2⟩ := List.getElem?_eq_some_iff.1 h
  rw [List.drop_eq_getElem_cons h1, h2, ltGo]
set_option maxRecDepth 100000 in
set_option maxHeartbeats 16000000 in
theorem late_any (w : World) (ne : Nat) (Ae : Option Addr) (ce : Nat) (Aa : Option Addr) (na ca : Nat) (acts : List Act) (At : Option Addr) (ct : Nat) (times : List Int) (Ad : Option Addr) (n c : Nat) (ds : List Dl) (h1 : 1 ≤ ne) (hne : ne ≤ 16) (hla : acts.length = na) (hna : na ≤ 30) (hlt : times.length = ne) (hld : ds.length = n) (hn : n ≤ 12)
    (hac : ∀ a ∈ acts, actR ne a) (hds : ∀ d ∈ ds, DlR ne d) (hra : Rd w w.heap.size Aa (actCells acts)) (hrt : Rd w w.heap.size At (intCells times)) (hrd : Rd w w.heap.size Ad (dlCells ds)) (hr : ∀ t ∈ times, 0 ≤ t ∧ t ≤ 10000000) :
    Calls Tryz.prog 26 #[.agg #[.slice Ae ne ce, .slice Aa na ca], .slice At ne ct, .slice Ad n c] w (LatePost w ne times acts ds) := by
  have hb0 : Below w.heap.size w (((w.alloc (.cells #[.slice Ae ne ce, .slice Aa na ca] 66)).alloc (.cells #[.slice At ne ct] 26)).alloc (.cells #[.slice none 0 0, .slice none 0 0] 34)) := (((Below.refl _ _).alloc (Nat.le_refl _) _).alloc (by simp) _).alloc (by simp; omega) _
  have k0 : (((w.alloc (.cells #[.slice Ae ne ce, .slice Aa na ca] 66)).alloc (.cells #[.slice At ne ct] 26)).alloc (.cells #[.slice none 0 0, .slice none 0 0] 34)).heap[w.heap.size]? = some (.cells #[.slice Ae ne ce, .slice Aa na ca] 66 (0, 0)) := by rw [heapq_alloc, if_neg (by simp; omega), heapq_alloc, if_neg (by simp), heapq_alloc, if_pos rfl]
  have k1 : (((w.alloc (.cells #[.slice Ae ne ce, .slice Aa na ca] 66)).alloc (.cells #[.slice At ne ct] 26)).alloc (.cells #[.slice none 0 0, .slice none 0 0] 34)).heap[w.heap.size + 1]? = some (.cells #[.slice At ne ct] 26 (0, 0)) := by rw [heapq_alloc, if_neg (by simp), heapq_alloc, if_pos (by simp)]
  have k2 : (((w.alloc (.cells #[.slice Ae ne ce, .slice Aa na ca] 66)).alloc (.cells #[.slice At ne ct] 26)).alloc (.cells #[.slice none 0 0, .slice none 0 0] 34)).heap[w.heap.size + 2]? = some (.cells #[.slice none 0 0, .slice none 0 0] 34 (0, 0)) := by rw [heapq_alloc, if_pos (by simp)]
  have hs0 : w.heap.size + 3 ≤ (((w.alloc (.cells #[.slice Ae ne ce, .slice Aa na ca] 66)).alloc (.cells #[.slice At ne ct] 26)).alloc (.cells #[.slice none 0 0, .slice none 0 0] 34)).heap.size := by simp
  have ra0 := hra.below hb0
  have rt0 := hrt.below hb0
  have rd0 := hrd.below hb0
  have HLA := Lib.hid hla
  have HLT := Lib.hid hlt
  have HLD := Lib.hid hld
  have HNE := Lib.hid hne
  clear hra hrt hrd hla hlt hld
  go_enter Tryz.func26, Tryz.ntmps26
  go_upto_region 1 with (fail)
  generalize (((w.alloc (.cells #[.slice Ae ne ce, .slice Aa na ca] 66)).alloc (.cells #[.slice At ne ct] 26)).alloc (.cells #[.slice none 0 0, .slice none 0 0] 34)) = w0 at *
  generalize hn0 : w.heap.size = n0 at *
  have HN0 := Lib.hid hn0
  clear hn0
  have ct0 : w0.cell? ⟨n0 + 1, 0, none⟩ = some (.slice At ne ct) := by rw [cell_of_row _ _ _ _ _ _ k1]; rfl
  have CL := CloneI_any w0 n0 At ne ct times HLT.out h1 (by omega) rt0 (Nat.le_trans (by omega) hs0)
  go_upto_region 2 with (go_at_call 45; refine CL.mono ?_; rintro e w1 ⟨gA, cA, rfl, hown, hb1⟩)
  have GA : LaG n0 gA cA ne Ae ce Aa na ca acts At ct times Ad ds times w w1 :=
    have hb3 : Below (n0 + 3) w0 w1 := hb1.mono hs0
    have hb00 : Below n0 w0 w1 := hb3.mono (by omega)
    ⟨(hb3.block n0 (by omega)).trans k0, (hb3.block (n0 + 1) (by omega)).trans k1, (hb3.block (n0 + 2) (by omega)).trans k2, ⟨hown.1, by
      rcases hown.2 with h | ⟨g, cap, cur, e1, e2, e3⟩
      · exact .inl h
      · exact .inr ⟨g, cap, cur, e1, Nat.le_trans hs0 e2, e3⟩⟩, ra0.below hb00, rt0.below hb00, rd0.below hb00, hb0.trans hb00⟩
  clear CL ct0 k0 k1 k2 hown hb1 ra0 rt0 rd0 hb0 hs0
  have B0 : BdA ne times 10000000 := fun v hv => hr (gt times v) (List.mem_of_getElem? (gt_some (by rw [HLT.out]; exact hv)))
  go_wp2
  go_loopw [22] (fun u wr => DdRel n0 gA cA ne Ae ce Aa na ca acts At ct times Ad n ds w u wr) (fun u _ => n - (intOf u).toNat)
  case atStart => exact ⟨0, times, Nat.zero_le _, rfl, rfl, by simpa using B0, GA⟩
  case round =>
    obtain ⟨k, A, hk, rfl, had, hbd, G⟩ := hrel
    have HAD := Lib.hid had
    have HBD := Lib.hid hbd
    clear had hbd
    by_cases hlt : k < n
    · obtain ⟨d, hd⟩ : ∃ d, ds[k]? = some d := ⟨_, List.getElem?_eq_getElem (by rw [HLD.out]; exact hlt)⟩
      obtain ⟨b, off, hAd, _, c0, c1⟩ := G.rd.dl hd
      have hdr := hds d (List.mem_of_getElem? hd)
      have HD := Lib.hid (addD_drop (A := A) hd)
      clear hd
      obtain ⟨dev, dby⟩ := d
      obtain ⟨⟨hd1, hd2⟩, hd3, hd4⟩ := hdr
      simp only at c0 c1 hd1 hd2 hd3 hd4
      obtain ⟨v, rfl⟩ : ∃ v : Nat, dev = v := ⟨dev.toNat, by omega⟩
      have hvn : v < ne := by omega
      have hbe : Below wr.heap.size wr (wr.alloc (.cells #[.int .i64 (v : Int), .int .i64 dby] 46)) := (Below.refl _ _).alloc (Nat.le_refl _) _
      have kd : (wr.alloc (.cells #[.int .i64 (v : Int), .int .i64 dby] 46)).heap[wr.heap.size]? = some (.cells #[.int .i64 (v : Int), .int .i64 dby] 46 (0, 0)) := by rw [heapq_alloc, if_pos rfl]
      have G1 := G.below hbe
      subst hAd
      go_upto_region 5 with (fail)
      clear c0 c1 G hbe
      generalize wr.alloc (.cells #[.int .i64 (v : Int), .int .i64 dby] 46) = w2 at *
      generalize wr.heap.size = gd at *
      obtain ⟨f0, f1⟩ := cells2 kd
      obtain ⟨p0, _⟩ := G1.cell hvn
      obtain ⟨hq1, hq2⟩ := HBD.out v hvn
      have x0 := fun z : Xt w2 => z.cell f0
      have x1 := fun z : Xt w2 => z.cell f1
      have x2 := fun z : Xt w2 => z.cell p0
      have hbw : Below w2.heap.size w2 w2.drew := (Below.refl _ _).drew
      have G2 := G1.below hbw
      have HY := Lib.hid (show 0 ≤ gt A v + dby ∧ gt A v + dby ≤ 10000000 + 100000 * ((k : Int) + 1) by omega)
      obtain ⟨y, hy⟩ : ∃ y, gt A v = y := ⟨_, rfl⟩
      rw [hy] at x2 hq1 hq2
      refine wp_region_eager [9] (fun w' => ∃ x : Xt w2, w' = x.1) (by kernel_rfl) ⟨⟨w2.drew, hbw⟩, rfl⟩ ?_
      refine wpE_reads5 [0, 1, 2, 3, 4, 5, 6, 7, 8] 1 rfl (by kernel_rfl) ?_
      simp only [opsAt_nil, opsAt_cons, consOpt_some, List.getElem?_toArray, List.getElem?_cons_zero, List.getElem?_cons_succ]
      repeat (go_big_quiet_step (fail))
      refine wpQuiet_nil ?_
      show wpE _ _ _ _ _ _ _ _ _ w2.drew
      clear x0 x1 x2 f0 f1 p0 kd G1 hbw
      generalize w2.drew = w3 at *
      refine wpE_tail rfl (by kernel_rfl) ?_
      simp only [opsAt_nil, opsAt_cons, consOpt_some, List.getElem?_toArray, List.getElem?_cons_zero, List.getElem?_cons_succ]
      obtain ⟨p0, q0⟩ := G2.cell hvn
      have G3 := G2.put v (y + dby)
      have HY0 := Lib.hid hy
      clear hy hq1 hq2 hd3 hd4
      go_wp2
      refine onlyNormal_mk ?_
      go_wp2
      go_roundw
      case rel =>
        refine ⟨k + 1, A.set v (y + dby), by omega, by go_num, ?_, ?_, G3⟩
        · rw [← HAD.out, HD.out]
          simp only [Int.toNat_natCast, HY0.out]
        · have hl := G2.len
          intro u hu
          rw [gt_set (by omega)]
          by_cases huv : u = v
          · rw [if_pos huv, ← HY0.out]
            have := HY.out
            have e9 : ((k + 1 : Nat) : Int) = (k : Int) + 1 := by omega
            rw [e9]
            exact this
          · rw [if_neg huv]
            have := HBD.out u hu
            omega
      case measure => simp [intOf]; omega
    · obtain rfl : k = n := by omega
      have hA1 : A = addD ds times := by
        rw [← HAD.out, List.drop_eq_nil_iff.2 (by rw [HLD.out]; exact Nat.le_refl _)]
        rfl
      subst hA1
      have ct1 : wr.cell? ⟨n0 + 1, 0, none⟩ = some (.slice At ne ct) := by rw [cell_of_row _ _ _ _ _ _ G.bt]; rfl
      have hgA := G.gA3
      generalize wr = wS at *
      have HBW : Hid (Below wS.heap.size wS wS) := Below.refl _ _
      generalize hA1 : addD ds times = A1 at *
      have HA1 := Lib.hid hA1
      clear hA1 HAD hlt
      go_upto_region 8 with (fail)
      obtain ⟨i1, hi1, hy0, hy1, hy2⟩ := info_parts info3
      generalize hbO : wS.heap.size = bO at *
      have HBO := Lib.hid hbO
      clear hbO
      have hA2 := hgA.2
      have HGA := Lib.hid hgA
      clear hgA
      go_wp2
      go_loopw [10, 38] (fun u10 u38 wy => OrRel bO n0 gA cA ne Ae ce Aa na ca acts At ct times Ad ds A1 w wS u10 u38 wy) (fun _ u38 _ => ne - (intOf u38).toNat)
      case atStart => exact ⟨0, Nat.zero_le _, rfl, ⟨rfl, .inl ⟨rfl, rfl⟩⟩, G, HBW.out⟩
      case round =>
        obtain ⟨j, hj, rfl, hown, G1, hbS⟩ := hrel
        have HOWN := Lib.hid hown
        have HBS := Lib.hid hbS
        obtain ⟨Au, cu, rfl⟩ := rowForm hown
        have hsz : bO ≤ wr.heap.size := by
          have := hbS.size
          rw [HBO.out] at this
          exact this
        clear hown hbS
        by_cases hlt : j < ne
        · have hba : Below wr.heap.size wr (wr.alloc (.cells #[.int .i64 (j : Int)] 3)) := (Below.refl _ _).alloc (Nat.le_refl _) _
          have G2 := G1.below hba
          have HSU := Lib.hid (nat_succ j)
          go_wp2_with (at_builtin; refine stp ?_)
          unfold Stp
          refine wpList_append_lies _ rfl _ _ 26 rfl bO 3 i1 _ 1 8 Tryz.underlying26 hi1 hy0 hy1 hy2 rfl (by omega) (.slice Au j cu) j (natCells (List.range j)) rfl (HOWN.out.alloc _) ⟨wr.heap.size, 0, none⟩ 1 1 [.int .i64 (j : Int)] rfl rfl (news_at (by rw [heapq_alloc, if_pos rfl])) (by simp [Value.oneCell']) (by omega) (by simp only [maxLen]; omega) (by omega) (by simp; omega) _ rfl ?_
          intro gg cap w9 hown1 hgrow hat hlt9
          have hb9 : Below bO wS w9 := (HBS.out.trans (hba.mono hsz)).grown hgrow (by have := hba.size; have := HBS.out.size; have := HBO.out; omega) (fun k hk => (ownBlk HOWN.out hk).1)
          have HOWN1 : Hid (w9.ownsRow bO 3 1 (.slice (some ⟨gg, 0, none⟩) (j + 1) cap) (j + 1) (natCells (List.range (j + 1)))) := by
            rw [Hid, HSU.out]
            exact hown1
          have G3 := G2.keep (V := w9) ((Below.refl (n0 + 3) _).grown hgrow (by have := G2.gA3; omega) (fun k hk => by have := (ownBlk HOWN.out hk).1; have := HGA.out; omega)) (own_same G2.act (hgrow.block gA G2.gA3.2 (fun e => by have := (ownBlk HOWN.out e.symm).1; omega)))
          have HB9 := Lib.hid hb9
          clear hown1 hgrow hat hlt9 hb9 hba G1 G2
          go_wp2
          go_roundw
          case rel => exact ⟨j + 1, by omega, by go_num, HOWN1.out, G3, HB9.out⟩
          case measure => simp [intOf]; omega
        · obtain rfl : j = ne := by omega
          obtain ⟨gO, rfl⟩ : ∃ gO, Au = some ⟨gO, 0, none⟩ := by
            rcases HOWN.out.2 with ⟨_, h0⟩ | ⟨gO, cap, cur, e9, _⟩
            · omega
            · simp only [Value.slice.injEq] at e9
              exact ⟨gO, e9.1⟩
          have hgO : bO ≤ gO := (ownBlk HOWN.out rfl).1
          have hgA := HGA.out
          have ST := SortTimes_any wr gO cu j bO times (n0 + 1) At ct n0 h1 (by omega) HOWN.out HLT.out G1.bt G1.rt (by omega) hr
          go_upto_region 14 with (go_at_call 46; refine ST.mono ?_; rintro e w5 ⟨rfl, ord, hperm, hpw, hcells, hkeep, hb5⟩)
          have G5 := G1.keep (hb5.mono (by omega)) (own_same G1.act (hkeep gA (by have := G1.gA3; omega) (by omega)))
          have hO5 : gO < w5.heap.size := Nat.lt_of_lt_of_le (ownBlk HOWN.out rfl).2.1 hb5.size
          clear ST hkeep hb5 G1 HBS HOWN
          have hbx : Below w5.heap.size w5 (w5.alloc (.cells #[.slice (some ⟨gA, 0, none⟩) j cA, .slice none 0 0] 34)) := (Below.refl _ _).alloc (Nat.le_refl _) _
          have kx : (w5.alloc (.cells #[.slice (some ⟨gA, 0, none⟩) j cA, .slice none 0 0] 34)).heap[w5.heap.size]? = some (.cells #[.slice (some ⟨gA, 0, none⟩) j cA, .slice none 0 0] 34 (0, 0)) := by rw [heapq_alloc, if_pos rfl]
          have GB : LbG w5.heap.size gO ord n0 gA cA j Ae ce Aa na ca acts At ct times Ad ds A1 [] w (w5.alloc (.cells #[.slice (some ⟨gA, 0, none⟩) j cA, .slice none 0 0] 34)) :=
            ⟨G5.below hbx, ⟨none, 0, kx, ⟨rfl, .inl ⟨rfl, rfl⟩⟩⟩, fun k u hu => kept hbx (hcells k u hu)⟩
          have hAO : gA < gO := by omega
          clear G5 hcells hbx kx
          go_upto_region 15 with (fail)
          generalize w5.alloc (.cells #[.slice (some ⟨gA, 0, none⟩) j cA, .slice none 0 0] 34) = w6 at *
          generalize w5.heap.size = gx at *
          go_wp2
          have hol : ord.length = j := by rw [hperm.length_eq, List.length_range]
          have hom : ∀ v ∈ ord, v < j := fun v hv => by simpa using hperm.mem_iff.1 hv
          have HPERM := Lib.hid hperm
          have HPW := Lib.hid hpw
          have HOL := Lib.hid hol
          have hbdA : BdA j A1 20000000 := fun v hv => by
            have := HBD.out v hv
            omega
          have HBA := Lib.hid hbdA
          clear hperm hpw hol hbdA HBD
          go_loopw [53] (fun u wy => LcRel gx gO ord n0 gA cA j Ae ce Aa na ca acts At ct times Ad ds (ltOrd times acts ord (A1, [])) w u wy) (fun u _ => j - (intOf u).toNat)
          case atStart => exact ⟨0, A1, [], Nat.zero_le _, rfl, rfl, fun v hv => by have := HBA.out v hv; simp; omega, Nat.zero_le _, GB⟩
          case round =>
            obtain ⟨q, A, Gq, hq, rfl, hord, hbA, hGl, GC⟩ := hrel
            have HORD := Lib.hid hord
            have HBQ := Lib.hid hbA
            clear hord hbA
            by_cases hlt : q < j
            · obtain ⟨v, hv⟩ : ∃ v, ord[q]? = some v := ⟨_, List.getElem?_eq_getElem (by rw [HOL.out]; exact hlt)⟩
              have hvn := hom v (List.mem_of_getElem? hv)
              have HOD := Lib.hid (ltOrd_drop (times := times) (acts := acts) (s := (A, Gq)) hv)
              have co := GC.ro q (.int .i64 (v : Int)) (by simp [natCells, hv])
              obtain ⟨n0c, n1c⟩ := cells2 GC.la.bn
              clear hv
              obtain ⟨R, hR⟩ : ∃ R, ltGo times v 0 acts (A, Gq) = R := ⟨_, rfl⟩
              have HR := Lib.hid hR
              clear hR
              go_upto_region 19 with (fail)
              clear co n0c n1c
              go_wp2
              go_loopw [61] (fun u wy => LdRel v q gx gO ord n0 gA cA j Ae ce Aa na ca acts At ct times Ad ds R w u wy) (fun u _ => na - (intOf u).toNat)
              case atStart => exact ⟨0, A, Gq, Nat.zero_le _, rfl, HR.out, by simpa using HBQ.out, hGl, GC⟩
              case round =>
                obtain ⟨i, A2, G2, hi, rfl, hgo, hbA2, hGl2, GD⟩ := hrel
                have HGO := Lib.hid hgo
                have HB2 := Lib.hid hbA2
                have HGL := Lib.hid hGl2
                clear hgo hbA2 hGl2
                by_cases hia : i < na
                · obtain ⟨a, ha⟩ : ∃ a, acts[i]? = some a := ⟨_, List.getElem?_eq_getElem (by rw [HLA.out]; exact hia)⟩
                  obtain ⟨ba, oa, hAa, _, c0, c1, c2, c3, c4, c5⟩ := GD.la.ra.act ha
                  have HGD := Lib.hid (ltGo_drop (times := times) (v := v) (s := (A2, G2)) ha)
                  have aR := hac a (List.mem_of_getElem? ha)
                  clear ha
                  obtain ⟨ak, asr, ads, al, am, aw⟩ := a
                  obtain ⟨hk, ⟨hs1, hs2⟩, ⟨hd1, hd2⟩, hne2, hl1, hm1, hw1, hf⟩ := aR
                  simp only at hk hs1 hs2 hd1 hd2 hne2 hl1 hm1 hw1 hf c0 c1 c2 c3 c4 c5
                  obtain ⟨sN, rfl⟩ : ∃ n : Nat, asr = n := ⟨asr.toNat, by omega⟩
                  obtain ⟨dN, rfl⟩ : ∃ n : Nat, ads = n := ⟨ads.toNat, by omega⟩
                  have hsn : sN < j := by omega
                  subst hAa
                  have hbe : Below wr.heap.size wr (wr.alloc (.cells #[.int .i64 ak, .int .i64 (sN : Int), .int .i64 (dN : Int), .int .i64 al, .int .i64 am, .int .i64 aw] 43)) := (Below.refl _ _).alloc (Nat.le_refl _) _
                  have kd : (wr.alloc (.cells #[.int .i64 ak, .int .i64 (sN : Int), .int .i64 (dN : Int), .int .i64 al, .int .i64 am, .int .i64 aw] 43)).heap[wr.heap.size]? = some (.cells #[.int .i64 ak, .int .i64 (sN : Int), .int .i64 (dN : Int), .int .i64 al, .int .i64 am, .int .i64 aw] 43 (0, 0)) := by rw [heapq_alloc, if_pos rfl]
                  have GE := GD.below hbe
                  clear hm1 hf hne2 hbe
                  go_upto_region 21 with (fail)
                  clear c0 c1 c2 c3 c4 c5 GD
                  generalize wr.alloc (.cells #[.int .i64 ak, .int .i64 (sN : Int), .int .i64 (dN : Int), .int .i64 al, .int .i64 am, .int .i64 aw] 43) = w7 at *
                  generalize wr.heap.size = ga at *
                  obtain ⟨f0, f1, f2, f3, f4, f5⟩ := cells6v kd
                  obtain ⟨p0, _⟩ := GE.la.cell hsn
                  have cts : w7.cell? ⟨n0 + 1, 0, none⟩ = some (.slice At j ct) := by rw [cell_of_row _ _ _ _ _ _ GE.la.bt]; rfl
                  obtain ⟨bt, ot, hAt, _, e1⟩ := GE.la.rt sN (.int .i64 (gt times sN)) (by rw [intCells, List.getElem?_map, gt_some (by rw [HLT.out]; exact hsn)]; rfl)
                  have htb := hr (gt times sN) (List.mem_of_getElem? (gt_some (by rw [HLT.out]; exact hsn)))
                  have hAb := HB2.out sN hsn
                  subst hAt
                  have HTS : Hid (gone times A2 ⟨ak, sN, dN, al, am, aw⟩ = (decide (ak = 2) && decide (aw < gt A2 sN - gt times sN))) := rfl
                  have HLS : Hid (gt A2 sN + al ≤ 20000000 + 4000000 * (q : Int) + 100000 * (i : Int) + 100000 ∧ 0 ≤ gt A2 sN + al) := by
                    have := hAb
                    constructor <;> omega
                  have x0 := fun z : Xt w7 => z.cell f1
                  have x1 := fun z : Xt w7 => z.cell p0
                  have x2 := fun z : Xt w7 => z.cell cts
                  have x3 := fun z : Xt w7 => z.cell e1
                  generalize hys : gt A2 sN = ys at *
                  generalize gt times sN = zs at *
                  have HYS := Lib.hid hys
                  clear hys
                  refine wp_region_xt (by kernel_rfl) (by kernel_rfl) ?_
                  repeat (go_big_quiet_step (fail))
                  refine wpQuiet_nil ?_
                  intro w8 hx
                  have hb8 := Xt.below hx
                  have GF := GE.below hb8
                  replace kd := blk hb8 kd
                  clear hx x0 x1 x2 x3 f0 f1 f2 f3 f4 f5 p0 cts e1 hb8 GE htb hAb
                  obtain ⟨f0, f1, f2, f3, f4, f5⟩ := cells6v kd
                  by_cases hdv : dN = v
                  case neg =>
                    have g1 : (dN != v) = true := bne_iff_ne.2 hdv
                    have g2 : ((dN : Int) != (v : Int)) = true := bne_iff_ne.2 (by omega)
                    have HST : Hid (ltStep times v i ⟨ak, sN, dN, al, am, aw⟩ (A2, G2) = (A2, G2)) := by
                      rw [Hid, ltStep, if_pos (by simp only; omega)]
                    clear hdv
                    go_wp2
                    go_roundw
                    case rel =>
                      refine ⟨i + 1, A2, G2, by omega, by go_num, by rw [← HGO.out, HGD.out, HST.out], fun u hu => ?_, by have := HGL.out; omega, GF⟩
                      have := HB2.out u hu
                      have e9 : ((i + 1 : Nat) : Int) = (i : Int) + 1 := by omega
                      rw [e9]
                      omega
                    case measure => simp [intOf]; omega
                  case pos =>
                    subst hdv
                    by_cases hgo : ak = 2 ∧ aw < ys - zs
                    case pos =>
                      obtain ⟨rfl, hwl⟩ := hgo
                      have HST : Hid (ltStep times dN i ⟨2, sN, dN, al, am, aw⟩ (A2, G2) = (A2, G2 ++ [(i : Int)])) := by
                        rw [Hid, ltStep, if_neg (by simp), if_pos (by rw [HTS.out, decide_eq_true hwl]; rfl)]
                      obtain ⟨Ag, cg, hx12, hog⟩ := GF.b12
                      obtain ⟨m0, m1⟩ := cells2 hx12
                      have hba : Below w8.heap.size w8 (w8.alloc (.cells #[.int .i64 (i : Int)] 3)) := (Below.refl _ _).alloc (Nat.le_refl _) _
                      have GG := GF.below hba
                      have hx13 := blk hba hx12
                      have hog3 := ownsRow_below hog hba
                      have hsx : gx + 1 ≤ w8.heap.size := (Array.getElem?_eq_some_iff.1 hx12).1
                      have HSU : Hid (intCells (G2 ++ [(i : Int)]) = intCells G2 ++ [.int .i64 (i : Int)]) := by
                        simp [Hid, intCells]
                      have hgl3 : G2.length ≤ 100000 := by have := HGL.out; omega
                      go_wp2_with (at_builtin; refine stp ?_)
                      unfold Stp
                      refine wpList_append_lies _ rfl _ _ 26 rfl (gx + 1) 3 i1 _ 1 8 Tryz.underlying26 hi1 hy0 hy1 hy2 rfl (by omega) (.slice Ag G2.length cg) G2.length (intCells G2) rfl hog3 ⟨w8.heap.size, 0, none⟩ 1 1 [.int .i64 (i : Int)] rfl rfl (news_at (by rw [heapq_alloc, if_pos rfl])) (by simp [Value.oneCell']) (by omega) (by simp only [maxLen]; omega) (by omega) (Nat.le_trans hsx hba.size) _ rfl ?_
                      intro gg cap w9 hown1 hgrow _ _
                      have hown2 : w9.ownsRow (gx + 1) 3 1 (.slice (some ⟨gg, 0, none⟩) (G2.length + 1) cap) (G2.length + 1) (intCells (G2 ++ [(i : Int)])) := by
                        rw [HSU.out]
                        exact hown1
                      obtain ⟨hx14, GH⟩ := GG.give hAO (by omega) hgrow hog3 hx13 hown2
                      obtain ⟨t0, t1, q0, q1⟩ := res2 hx14
                      have HGH := Lib.hid GH
                      clear hown1 hown2 hgrow hog3 hx13 hog hx12 hba GG GF m0 m1 f0 f1 f2 f3 f4 f5 hx14 GH kd
                      go_wp2
                      refine ⟨⟨i + 1, A2, G2 ++ [(i : Int)], by omega, by go_num, by rw [← HGO.out, HGD.out, HST.out], ?_, ?_, HGH.out⟩, by simp [intOf]; omega⟩
                      · intro u hu
                        have := HB2.out u hu
                        have e9 : ((i + 1 : Nat) : Int) = (i : Int) + 1 := by omega
                        rw [e9]
                        omega
                      · rw [List.length_append, List.length_singleton]
                        have := HGL.out
                        omega
                    case neg =>
                      by_cases hk2 : ak = 2
                      · have hk3 : (ak == 2) = true := beq_iff_eq.2 hk2
                        have hwl : ys - zs ≤ aw := by omega
                        have HST : Hid (ltStep times dN i ⟨ak, sN, dN, al, am, aw⟩ (A2, G2) = (A2.set dN (max (gt A2 dN) (ys + al)), G2)) := by
                          rw [Hid, ltStep, if_neg (by simp), if_neg (by rw [HTS.out]; simpa using hgo)]
                          show (A2.set dN (max (gt A2 dN) (gt A2 (sN : Int).toNat + al)), G2) = _
                          rw [Int.toNat_natCast, HYS.out]
                        have hdn : dN < j := by omega
                        obtain ⟨p0, _⟩ := GF.la.cell hsn
                        obtain ⟨p1, _⟩ := GF.la.cell hdn
                        rw [HYS.out] at p0
                        have x0 := fun z : Xt w8 => z.cell f1
                        have x1 := fun z : Xt w8 => z.cell f3
                        have x2 := fun z : Xt w8 => z.cell p0
                        have x3 := fun z : Xt w8 => z.cell p1
                        have hbw : Below w8.heap.size w8 w8.drew := (Below.refl _ _).drew
                        have GG := GF.below hbw
                        have HAB := Lib.hid (HB2.out dN hdn)
                        obtain ⟨hl9, hl8⟩ := HLS.out
                        obtain ⟨hab1, hab2⟩ := HB2.out dN hdn
                        generalize hyd : gt A2 dN = yd at *
                        skip
                        clear hyd
                        clear hk2
                        go_upto_region 22 with (fail)
                        refine wp_region_eager [16] (fun w' => ∃ x : Xt w8, w' = x.1) (by kernel_rfl) ⟨⟨w8.drew, hbw⟩, rfl⟩ ?_
                        refine wpE_reads7 [0, 1, 2, 3, 4, 5, 6, 7, 8, 9, 10, 11, 12, 13, 14, 15] 1 rfl (by kernel_rfl) ?_
                        simp only [opsAt_nil, opsAt_cons, consOpt_some, List.getElem?_toArray, List.getElem?_cons_zero, List.getElem?_cons_succ]
                        repeat (go_big_quiet_step (fail))
                        refine wpQuiet_nil ?_
                        show wpE _ _ _ _ _ _ _ _ _ w8.drew
                        clear x0 x1 x2 x3 f0 f1 f2 f3 f4 f5 p0 p1 kd GF hbw
                        generalize w8.drew = w9 at *
                        refine wpE_tail rfl (by kernel_rfl) ?_
                        simp only [opsAt_nil, opsAt_cons, consOpt_some, List.getElem?_toArray, List.getElem?_cons_zero, List.getElem?_cons_succ]
                        obtain ⟨p0, q0⟩ := GG.la.cell hdn
                        have GH := GG.put hAO (by omega) dN (max yd (ys + al))
                        have HGH := Lib.hid GH
                        clear GG GH hl9 hl8 hab1 hab2
                        go_wp2
                        refine onlyNormal_mk ?_
                        go_wp2
                        refine ⟨⟨i + 1, A2.set dN (max yd (ys + al)), G2, by omega, by go_num, by rw [← HGO.out, HGD.out, HST.out], ?_, by have := HGL.out; omega, HGH.out⟩, by simp [intOf]; omega⟩
                        intro u hu
                        have hl := HGH.out.la.len
                        rw [List.length_set] at hl
                        rw [gt_set (by omega)]
                        have e9 : ((i + 1 : Nat) : Int) = (i : Int) + 1 := by omega
                        rw [e9]
                        have h7 := HLS.out
                        have h6 := HAB.out
                        by_cases hud : u = dN
                        · rw [if_pos hud]
                          omega
                        · rw [if_neg hud]
                          have := HB2.out u hu
                          omega
                      · have hk3 : (ak == 2) = false := beq_eq_false_iff_ne.2 hk2
                        have HST : Hid (ltStep times dN i ⟨ak, sN, dN, al, am, aw⟩ (A2, G2) = (A2.set dN (max (gt A2 dN) (ys + al)), G2)) := by
                          rw [Hid, ltStep, if_neg (by simp), if_neg (by rw [HTS.out]; simpa using hgo)]
                          show (A2.set dN (max (gt A2 dN) (gt A2 (sN : Int).toNat + al)), G2) = _
                          rw [Int.toNat_natCast, HYS.out]
                        have hdn : dN < j := by omega
                        obtain ⟨p0, _⟩ := GF.la.cell hsn
                        obtain ⟨p1, _⟩ := GF.la.cell hdn
                        rw [HYS.out] at p0
                        have x0 := fun z : Xt w8 => z.cell f1
                        have x1 := fun z : Xt w8 => z.cell f3
                        have x2 := fun z : Xt w8 => z.cell p0
                        have x3 := fun z : Xt w8 => z.cell p1
                        have hbw : Below w8.heap.size w8 w8.drew := (Below.refl _ _).drew
                        have GG := GF.below hbw
                        have HAB := Lib.hid (HB2.out dN hdn)
                        obtain ⟨hl9, hl8⟩ := HLS.out
                        obtain ⟨hab1, hab2⟩ := HB2.out dN hdn
                        generalize hyd : gt A2 dN = yd at *
                        skip
                        clear hyd
                        clear hk2
                        go_upto_region 22 with (fail)
                        refine wp_region_eager [16] (fun w' => ∃ x : Xt w8, w' = x.1) (by kernel_rfl) ⟨⟨w8.drew, hbw⟩, rfl⟩ ?_
                        refine wpE_reads7 [0, 1, 2, 3, 4, 5, 6, 7, 8, 9, 10, 11, 12, 13, 14, 15] 1 rfl (by kernel_rfl) ?_
                        simp only [opsAt_nil, opsAt_cons, consOpt_some, List.getElem?_toArray, List.getElem?_cons_zero, List.getElem?_cons_succ]
                        repeat (go_big_quiet_step (fail))
                        refine wpQuiet_nil ?_
                        show wpE _ _ _ _ _ _ _ _ _ w8.drew
                        clear x0 x1 x2 x3 f0 f1 f2 f3 f4 f5 p0 p1 kd GF hbw
                        generalize w8.drew = w9 at *
                        refine wpE_tail rfl (by kernel_rfl) ?_
                        simp only [opsAt_nil, opsAt_cons, consOpt_some, List.getElem?_toArray, List.getElem?_cons_zero, List.getElem?_cons_succ]
                        obtain ⟨p0, q0⟩ := GG.la.cell hdn
                        have GH := GG.put hAO (by omega) dN (max yd (ys + al))
                        have HGH := Lib.hid GH
                        clear GG GH hl9 hl8 hab1 hab2
                        go_wp2
                        refine onlyNormal_mk ?_
                        go_wp2
                        refine ⟨⟨i + 1, A2.set dN (max yd (ys + al)), G2, by omega, by go_num, by rw [← HGO.out, HGD.out, HST.out], ?_, by have := HGL.out; omega, HGH.out⟩, by simp [intOf]; omega⟩
                        intro u hu
                        have hl := HGH.out.la.len
                        rw [List.length_set] at hl
                        rw [gt_set (by omega)]
                        have e9 : ((i + 1 : Nat) : Int) = (i : Int) + 1 := by omega
                        rw [e9]
                        have h7 := HLS.out
                        have h6 := HAB.out
                        by_cases hud : u = dN
                        · rw [if_pos hud]
                          omega
                        · rw [if_neg hud]
                          have := HB2.out u hu
                          omega
                · obtain rfl : i = na := by omega
                  have HF : Hid ((A2, G2) = R) := by
                    have h9 := HGO.out
                    rw [List.drop_eq_nil_iff.2 (by rw [HLA.out]; exact Nat.le_refl _), ltGo] at h9
                    exact h9
                  have HF2 : Hid (ltOrd times acts (ord.drop (q + 1)) (A2, G2) = ltOrd times acts ord (A1, [])) := by
                    rw [Hid, ← HORD.out, HOD.out, HR.out, HF.out]
                  have HGD := Lib.hid GD
                  clear GD HGO
                  go_wp2
                  refine ⟨⟨q + 1, A2, G2, by omega, by go_num, HF2.out, fun u hu => ?_, by have := HGL.out; omega, HGD.out⟩, by simp [intOf]; omega⟩
                  have := HB2.out u hu
                  have e9 : ((q + 1 : Nat) : Int) = (q : Int) + 1 := by omega
                  rw [e9]
                  omega
            · obtain rfl : q = j := by omega
              have HF : Hid ((A, Gq) = ltOrd times acts ord (A1, [])) := by
                have h9 := HORD.out
                rw [List.drop_eq_nil_iff.2 (by rw [HOL.out]; exact Nat.le_refl _), ltOrd] at h9
                exact h9
              obtain ⟨Ag, cg, hx12, hog⟩ := GC.b12
              obtain ⟨m0, m1⟩ := cells2 hx12
              have SG := SortG_any wr (gx + 1) Ag Gq.length cg Gq hog (by omega)
              have hsx : gx + 1 ≤ wr.heap.size := (Array.getElem?_eq_some_iff.1 hx12).1
              go_upto_region 29 with (go_at_call 49; refine SG.mono ?_; rintro e w7 ⟨rfl, hb7, G3, hg3l, hg3m, hg3r⟩)
              have hx13 := (hb7.block gx (by omega)).trans hx12
              have GL : LaG n0 gA cA q Ae ce Aa na ca acts At ct times Ad ds A w w7 := GC.la.keep (hb7.mono (by have := HGA.out; omega)) (own_same GC.la.act (hb7.block gA (by omega)))
              have hAgb : ∀ b off, Ag = some ⟨b, off, none⟩ → gx + 1 ≤ b := fun b off e => (ownBlk hog (by rw [e]; rfl)).1
              have HAGB := Lib.hid hAgb
              clear SG m0 m1 hx12 hog GC hb7 hAgb
              obtain ⟨t0, t1⟩ := cells2 hx13
              have hb6' : w7.heap[n0 + 1 + 1]? = some (.cells #[.slice none 0 0, .slice none 0 0] 34 (0, 0)) := GL.b6
              obtain ⟨r0, r1, q0, q1⟩ := res2 hb6'
              have hlow := Lib.hid GL.low
              have hRA : Rd w7 w7.heap.size (some ⟨gA, 0, none⟩) (intCells A) := Rd_of_own GL.act
              have HRA := Lib.hid hRA
              have HRG := Lib.hid hg3r
              have hg3A := GL.gA3
              have HG3 := Lib.hid hg3A
              clear GL hb6' hRA hg3r hg3A
              go_wp2
              refine bodyPost_ret (v := .agg #[.slice (some ⟨gA, 0, none⟩) q cA, .slice Ag Gq.length cg]) (by simp [results, Tryz.results26, go_sem, r0, r1]) rfl ⟨gA, cA, Ag, Gq.length, cg, ord, G3, rfl, HPERM.out, HPW.out, ⟨hg3l, by omega⟩, ?_, ?_, ?_, ?_⟩
              · intro x
                rw [hg3m, HA1.out, ← HF.out]
              · rw [HA1.out, ← HF.out]
                exact rd_set2 ⟨HRA.out, Nat.le_refl _, fun k u _ b off he => by
                  have := HG3.out
                  simp only [Option.some.injEq, Addr.mk.injEq, and_true] at he
                  omega⟩
              · exact rd_set2 ⟨HRG.out, Nat.le_refl _, fun k u _ b off he => by
                  have := HAGB.out b off he
                  have := HG3.out
                  omega⟩
              · rw [HN0.out]
                exact hlow.out.trans (put2_below _ _ (by omega))
end Go.Proofs.YtnnnpijepdjanaaGreat
