/- The law: just so far apart. -/
import Derived.Test.YtnnnpijepdjanaaE1
import Derived.Test.YtnnnpijepdjanaaB16
namespace Go.Proofs.Ytnnnpijepdjanaa
open Go.RowKit

structure TtG (x : Nat) (B ne ce na ca : Nat) (evs : List ByteArray) (acts : List Act) (Ae Aa : Option Addr) (w W : World) : Prop where
  net : NetAt W B Ae Aa ne ce na evs acts
  blk : W.heap[x]? = some (.cells #[.slice Ae ne ce, .slice Aa na ca] 25 (0, 0))
  low : Below w.heap.size w W
  hB : B ≤ W.heap.size
theorem TtG.below {x B ne ce na ca : Nat} {evs : List ByteArray} {acts : List Act} {Ae Aa : Option Addr} {w W V : World} (h : TtG x B ne ce na ca evs acts Ae Aa w W) (hb : Below W.heap.size W V) : TtG x B ne ce na ca evs acts Ae Aa w V :=
  ⟨h.net.below (hb.mono h.hB), Go.Proofs.Ytnnnpijepdjanaa.blk hb h.blk, h.low.trans (hb.mono h.low.size), Nat.le_trans h.hB hb.size⟩
theorem zero_ints (n : Nat) : (List.replicate n (0 : Int)).map some = zerosF n := by simp [zerosF]
theorem late_ints (n k : Nat) (L : Int) : ((List.replicate n (0 : Int)).set k L).map some = lateF n k L := by
  rw [List.map_set, zero_ints, lateF]
theorem rd_put {W : World} {x j B : Nat} {A : Option Addr} {xs : List Value} {v : Value} (h : Rd W B A xs) (hne : ∀ b off, A = some ⟨b, off, none⟩ → b ≠ x) : Rd (W.setCell ⟨x, j, none⟩ v) B A xs := fun k u hk => by
  obtain ⟨b, off, hA, hb, hc⟩ := h k u hk
  refine ⟨b, off, hA, hb, ?_⟩
  rw [World.cell?_setCell_other _ _ _ _ (fun he => hne _ _ hA (by simpa using (congrArg Addr.block he).symm))]
  exact hc
theorem farAt_map (l : List Int) (i : Nat) : farAt (l.map some) i = l[i]? := by
  unfold farAt
  rw [List.getElem?_map]
  cases l[i]? <;> rfl
/-- what the two runs give, as rows of numbers -/
structure TtP (acts : List Act) (ne k : Nat) (q r : List Int) : Prop where
  z : longM (waysM acts) ne (zerosF ne) = (q.map some, false)
  l : longM (waysM acts) ne (lateF ne k 5000000) = (r.map some, false)
  lq : q.length = ne
  lr : r.length = ne
  bq : ∀ i x, farAt (q.map some) i = some x → x ≤ 10000000
  br : ∀ i x, farAt (r.map some) i = some x → x ≤ 10000000
  b0 : ∀ (i : Nat) (x : Int), r[i]? = some x → 0 ≤ x
  rk : r[k]? = some 5000000
  a : ∀ i, i < ne → i ≠ k → (∀ d, farAt (longM (waysM acts) ne (aloneF ne k)).1 i = some d → r[i]? = some (5000000 + d)) ∧ (farAt (longM (waysM acts) ne (aloneF ne k)).1 i = none → r[i]? = q[i]?)
theorem tt_plain {acts : List Act} {ne k : Nat} (hac : ∀ a ∈ acts, actR ne a) (h1 : 1 ≤ ne) (h2 : ne ≤ 16) (hk : k < ne) (hz : (longM (waysM acts) ne (zerosF ne)).2 = false) : ∃ q r, TtP acts ne k q r := by
  have hw := ways_in hac
  have hC := ways_len hac
  have lz : (zerosF ne).length = ne := by simp [zerosF]
  have ll : (lateF ne k 5000000).length = ne := by simp [lateF, lz]
  have fz : fullF ne (zerosF ne) := fun i hi => ⟨0, farAt_zeros hi⟩
  have fl : fullF ne (lateF ne k 5000000) := fun i hi => ⟨_, farAt_late hk hi⟩
  have hl := cycle_same lz ll (by omega) hw fz hz
  have get : ∀ {l : Far}, l.length = ne → fullF ne l → (longM (waysM acts) ne l).2 = false → ∃ q : List Int, longM (waysM acts) ne l = (q.map some, false) ∧ q.length = ne := by
    intro l hlen hf hb
    obtain ⟨t, _, hq, _⟩ := long_iter (ws := waysM acts) ne (l := l) (q := (longM (waysM acts) ne l).1) (b := (longM (waysM acts) ne l).2) rfl
    have e1 : (longM (waysM acts) ne l).1.length = ne := by rw [hq, iterF_len, hlen]
    obtain ⟨qs, h9⟩ := full_list e1 (by rw [hq]; exact full_iter hlen hw hf t)
    refine ⟨qs, by rw [← h9, ← hb], ?_⟩
    rw [h9, List.length_map] at e1
    exact e1
  obtain ⟨q, hq, lq⟩ := get lz fz hz
  obtain ⟨r, hr, lr⟩ := get ll fl hl
  obtain ⟨t1, t2, t3, t4⟩ := tight ⟨h1, h2⟩ hk hw hC rfl hq hr (a := (longM (waysM acts) ne (aloneF ne k)).1) (b := (longM (waysM acts) ne (aloneF ne k)).2) rfl
  refine ⟨q, r, hq, hr, lq, lr, ?_, ?_, ?_, ?_, ?_⟩
  · intro i x hx
    have hi := farAt_lt hx
    rw [List.length_map, lq] at hi
    obtain ⟨y, hy, _, h9⟩ := t1 i hi
    rw [hx] at hy
    cases hy
    omega
  · intro i x hx
    have hi := farAt_lt hx
    rw [List.length_map, lr] at hi
    obtain ⟨y, hy, _, h9⟩ := t2 i hi
    rw [hx] at hy
    cases hy
    omega
  · intro i x hx
    rw [← farAt_map] at hx
    have hi := farAt_lt hx
    rw [List.length_map, lr] at hi
    obtain ⟨y, hy, h8, h9⟩ := t2 i hi
    rw [hx] at hy
    cases hy
    omega
  · rw [← farAt_map]
    exact t3
  · intro i hi hne
    obtain ⟨a1, a2⟩ := t4 i hi hne
    refine ⟨fun d hd => ?_, fun hn => ?_⟩
    · rw [← farAt_map]
      exact a1 d hd
    · rw [← farAt_map, ← farAt_map]
      exact a2 hn
theorem earl_cyc {w w' : World} {ne : Nat} {r : Far × Bool} {e : Ending} (h : EarlPostN w ne r e w') (hb : r.2 = true) : e = .returned (.tuple #[.slice none 0 0, .int .i64 19]) ∧ Below w.heap.size w w' := by
  obtain ⟨h | h, h2⟩ := h
  · exact ⟨h.2, h2⟩
  · rw [hb] at h
    cases h.1
theorem earl_ok {w w' : World} {ne : Nat} {q : List Int} {r : Far × Bool} {e : Ending} (h : EarlPostN w ne r e w') (hr : r = (q.map some, false)) : ∃ A c, e = .returned (.tuple #[.slice A ne c, .int .i64 0]) ∧ Rd w' w'.heap.size A (intCells q) ∧ (∀ b off, A = some ⟨b, off, none⟩ → w.heap.size ≤ b) ∧ Below w.heap.size w w' := by
  subst hr
  obtain ⟨h | ⟨_, A, c, qs, hq, _, he, hr, hn⟩, h2⟩ := h
  · cases h.1
  · have hq2 := congrArg (List.map fun o : Option Int => o.getD 0) hq
    rw [List.map_map, List.map_map, show ((fun o : Option Int => o.getD 0) ∘ some) = id from rfl, List.map_id, List.map_id] at hq2
    subst hq2
    exact ⟨A, c, he, hr, hn, h2⟩
set_option maxRecDepth 100000 in
set_option maxHeartbeats 8000000 in
theorem Tight_all (w : World) (B : Nat) (Ae Aa : Option Addr) (ne ce na ca : Nat) (evs : List ByteArray) (acts : List Act) (ev : Int) (hl : evs.length = ne) (hla : acts.length = na) (hre : Rd w B Ae (strCells evs)) (hra : Rd w B Aa (actCells acts)) (hc : ne ≤ ce) (hB : B ≤ w.heap.size) :
    Calls Try.prog 3 #[netV Ae ne ce Aa na ca, .int .i64 ev] w fun e w' => e = .returned (.bool true) ∧ Below w.heap.size w w' := by
  have AW := fun W => Awake_any W
  have FW := fun (W : World) (h : Rd W B Ae (strCells evs)) (hW : B ≤ W.heap.size) => Few_any W B Ae Aa ne ce na ca evs hl h hW
  have hb0 : Below w.heap.size w (w.alloc (.cells #[.slice Ae ne ce, .slice Aa na ca] 25)) := (Below.refl _ _).alloc (Nat.le_refl _) _
  have k0 : (w.alloc (.cells #[.slice Ae ne ce, .slice Aa na ca] 25)).heap[w.heap.size]? = some (.cells #[.slice Ae ne ce, .slice Aa na ca] 25 (0, 0)) := by rw [heapq_alloc, if_pos rfl]
  unfold netV at FW ⊢
  have HLE := Lib.hid hl
  have HLA := Lib.hid hla
  clear hl hla
  go_enter Try.func3, Try.ntmps3
  go_upto_region 1 with (fail)
  generalize w.alloc (.cells #[.slice Ae ne ce, .slice Aa na ca] 25) = w0 at *
  go_upto_region 3 with (go_at_call 5; refine (AW _).mono ?_; rintro e w1 ⟨rfl, hb1⟩)
  have hb01 := hb0.trans (hb1.mono hb0.size)
  have k1 := blk hb1 k0
  have hre1 := hre.below (hb01.mono hB)
  have hra1 := hra.below (hb01.mono hB)
  have hB1 := Nat.le_trans hB hb01.size
  clear hb0 hb1 k0 hre hra hB AW
  obtain ⟨c0, c1⟩ := cells2 k1
  go_wp2_with (go_at_call 6; refine stp ?_)
  unfold Stp
  refine (FW w1 hre1 hB1).mono ?_
  rintro e w2 ⟨b, rfl, hb2, hF⟩
  cases b with
  | false =>
    have HBB := Lib.hid (hb01.trans (hb2.mono hb01.size))
    clear hb01 hb2 hF
    go_wp2
    go_ret
    exact ⟨rfl, HBB.out⟩
  | true =>
    obtain ⟨hne, hna, hsz⟩ := hF rfl
    have G2 : TtG w.heap.size B ne ce na ca evs acts Ae Aa w w2 := ⟨⟨HLE.out, HLA.out, hre1.below (hb2.mono hB1), hra1.below (hb2.mono hB1), hsz, hc⟩, blk hb2 k1, hb01.trans (hb2.mono hb01.size), Nat.le_trans hB1 hb2.size⟩
    clear hb01 hb2 hF hre1 hra1 hB1 k1 c0 c1 FW
    obtain ⟨V, hV⟩ : ∃ V, netE evs acts = V := ⟨_, rfl⟩
    have NR := fun (W : World) (h : TtG w.heap.size B ne ce na ca evs acts Ae Aa w W) => NetErr_any W B Ae Aa ne ce na ca evs acts h.net h.hB (by omega) (by omega)
    have ER := fun (W : World) => EventErr_any W Ae ne ce Aa na ca ev (by omega)
    rw [hV] at NR
    unfold netV at NR ER
    obtain ⟨c0, c1⟩ := cells2 G2.blk
    by_cases hv : V = 0
    case neg =>
      have hv' : (V != 0) = true := bne_iff_ne.2 hv
      have HG := Lib.hid G2
      have CNR := NR w2 G2
      clear G2 NR ER hV hsz
      go_wp2_with (go_at_call 7; refine CNR.mono ?_; rintro e w3 ⟨rfl, hb3⟩)
      go_ret
      exact ⟨rfl, HG.out.low.trans (hb3.mono HG.out.low.size)⟩
    have hR := netE_zero.1 (hV.trans hv)
    subst hv
    obtain ⟨E, hE⟩ : ∃ E, evtE ne ev = E := ⟨_, rfl⟩
    rw [hE] at ER
    by_cases he : E = 0
    case neg =>
      have he' : (E != 0) = true := bne_iff_ne.2 he
      have HG := Lib.hid G2
      have CNR := NR w2 G2
      clear G2 NR hV hsz hR hE
      go_wp2_with (first | (go_at_call 7; refine CNR.mono ?_; rintro e w3 ⟨rfl, hb3⟩; replace c0 := kept hb3 c0; replace c1 := kept hb3 c1) | (go_at_call 8; refine (ER _).mono ?_; rintro e w4 ⟨rfl, hb4⟩))
      go_ret
      exact ⟨rfl, HG.out.low.trans ((hb3.trans (hb4.mono hb3.size)).mono HG.out.low.size)⟩
    subst he
    obtain ⟨hev0, hev1⟩ := evtE_zero.1 hE
    obtain ⟨k, rfl⟩ : ∃ k : Nat, ev = k := ⟨ev.toNat, by omega⟩
    have hk : k < ne := by omega
    have CNR := NR w2 G2
    clear NR hV hE hev0 hev1
    have HSZ := Lib.hid hsz
    clear hsz
    go_upto_region 5 with (first | (go_at_call 7; refine CNR.mono ?_; rintro e w3 ⟨rfl, hb3⟩; replace c0 := kept hb3 c0; replace c1 := kept hb3 c1; have G3 := G2.below hb3) | (go_at_call 8; refine (ER _).mono ?_; rintro e w4 ⟨rfl, hb4⟩; have G4 := G3.below hb4))
    clear hb3 hb4 G2 G3 CNR ER c0 c1
    have hne1 : 1 ≤ ne := by rw [← HLE.out]; exact hR.e1
    have hne2 : ne ≤ 16 := by rw [← HLE.out]; exact hR.e2
    have hna1 : na ≤ 30 := by rw [← HLA.out]; exact hR.a1
    have hac : ∀ a ∈ acts, actR ne a := by rw [← HLE.out]; exact hR.ac
    have hmk := run_make_row' (P := Try.prog) 30 3 (.int .i64 0) 8 Try.underlying30 info3 rfl .i64 .i64 ne (by omega) (by omega)
    have CP := fun (W : World) (h : TtG w.heap.size B ne ce na ca evs acts Ae Aa w W) => refCopy_any W B Ae Aa ne ce na ca evs acts HLE.out HLA.out (by omega) (by omega) h.net.re h.net.ra h.hB
    have CI := fun (W : World) (A : Option Addr) (c : Nat) (l : List Int) (hl : l.length = ne) (h : Rd W W.heap.size A (intCells l)) => CopyInts_any W W.heap.size A ne c l hl (by omega) h (Nat.le_refl _)
    obtain ⟨c0, c1⟩ := cells2 G4.blk
    go_upto_region 7 with (fail)
    have hbM : Below w4.heap.size w4 (w4.alloc (.cells (madeCells #[.int .i64 0] ne) 3)) := (Below.refl _ _).alloc (Nat.le_refl _) _
    have kM : (w4.alloc (.cells (madeCells #[.int .i64 0] ne) 3)).heap[w4.heap.size]? = some (.cells (madeCells #[.int .i64 0] ne) 3 (0, 0)) := by rw [heapq_alloc, if_pos rfl]
    have G5 := G4.below hbM
    have hgx : w.heap.size < w4.heap.size := (Array.getElem?_eq_some_iff.1 G4.blk).1
    have hgW : w.heap.size ≤ w4.heap.size := G4.low.size
    have hgB : B ≤ w4.heap.size := G4.hB
    clear G4 hbM hmk c0 c1
    generalize w4.alloc (.cells (madeCells #[.int .i64 0] ne) 3) = w5 at *
    generalize w4.heap.size = g at *
    have hrz : Rd w5 w5.heap.size (some ⟨g, 0, none⟩) (intCells (List.replicate ne 0)) := by
      rw [intCells, List.map_replicate]
      exact rd_made kM
    have hz0 : ∀ t ∈ (List.replicate ne (0 : Int)), 0 ≤ t ∧ t ≤ 10000000 := fun t ht => by
      have := List.eq_of_mem_replicate ht
      omega
    have hl0 : ∀ t ∈ (List.replicate ne (0 : Int)).set k 5000000, 0 ≤ t ∧ t ≤ 10000000 := fun t ht => by
      rcases List.mem_or_eq_of_mem_set ht with h | h
      · exact hz0 t h
      · omega
    obtain ⟨d0, d1⟩ := cells2 G5.blk
    cases hzz : (longM (waysM acts) ne (zerosF ne)).2 with
    | true =>
      have hll : (longM (waysM acts) ne (lateF ne k 5000000)).2 = true := by
        cases h9 : (longM (waysM acts) ne (lateF ne k 5000000)).2 with
        | true => rfl
        | false =>
          have := cycle_same (l' := zerosF ne) (by simp [lateF, zerosF]) (by simp [zerosF]) (by omega) (ways_in hac) (fun i hi => ⟨_, farAt_late hk hi⟩) h9
          rw [hzz] at this
          cases this
      have EZ := fun (W : World) (A1 A2 : Option Addr) (c1 c2 : Nat) (h : NetAt W W.heap.size A1 A2 ne c1 na evs acts) (At : Option Addr) (ct : Nat) (ht : Rd W W.heap.size At (intCells (List.replicate ne 0))) => (Earliest_new W W.heap.size A1 A2 ne c1 na c2 evs acts h (Nat.le_refl _) hR At ct _ (by simp) ht hz0 (by rw [zero_ints, hzz]; intro h; cases h)).mono (fun e w' hp => earl_cyc hp (by rw [zero_ints, hzz]))
      have EL := fun (W : World) (A1 A2 : Option Addr) (c1 c2 : Nat) (h : NetAt W W.heap.size A1 A2 ne c1 na evs acts) (At : Option Addr) (ct : Nat) (ht : Rd W W.heap.size At (intCells ((List.replicate ne 0).set k 5000000))) => (Earliest_new W W.heap.size A1 A2 ne c1 na c2 evs acts h (Nat.le_refl _) hR At ct _ (by simp) ht hl0 (by rw [late_ints, hll]; intro h; cases h)).mono (fun e w' hp => earl_cyc hp (by rw [late_ints, hll]))
      unfold netV at EZ EL
      clear hzz hll hR hac hz0 hl0
      go_upto_region 8 with (first | (go_at_call 10; refine (CP _ G5).mono ?_; rintro e w6 ⟨A1, c1, A2, c2, rfl, hcc, hr1, hr2, hb6⟩; have hrz6 := (hrz.below hb6).mono hb6.size; have N6 : NetAt w6 w6.heap.size A1 A2 ne c1 na evs acts := ⟨HLE.out, HLA.out, hr1, hr2, HSZ.out, hcc⟩) | (go_at_call 11; refine (CI _ _ _ _ (by simp) hrz6).mono ?_; rintro e w7 ⟨A3, c3, rfl, hr3, hb7⟩; have N7 := (N6.below hb7).mono hb7.size) | (go_at_call 9; refine (EZ _ _ _ _ _ N7 _ _ hr3).mono ?_; rintro e w8 ⟨rfl, hb8⟩))
      have hb57 := hb6.trans (hb7.mono hb6.size)
      have hb58 := hb57.trans (hb8.mono hb57.size)
      have hg7 : g < w7.heap.size := Nat.lt_of_lt_of_le (Array.getElem?_eq_some_iff.1 kM).1 hb57.size
      have kM8 := blk hb58 kM
      have G8 := G5.below hb58
      clear hb6 hb7 hb8 hb57 hb58 hrz6 N6 N7 hr1 hr2 hr3 hcc hrz kM G5 d0 d1 EZ
      clear hg7
      have hma : (madeCells #[Value.int .i64 0] ne)[k]? = some (.int .i64 0) := by
        rw [← Array.getElem?_toList, toList_madeCells_one, List.getElem?_replicate, if_pos hk]
      have cgk := (cell_of_row _ _ k _ _ _ kM8).trans hma
      have fk := frozen_of_row _ _ k _ _ kM8
      have hg9 : (w8.setCell ⟨g, k, none⟩ (.int .i64 5000000)).heap[g]? = some (.cells ((madeCells #[.int .i64 0] ne).setIfInBounds k (.int .i64 5000000)) 3 (0, 0)) := by
        rw [heapq_set, if_pos rfl, kM8]
        rfl
      have hbB : ∀ n, n ≤ g → Below n w8 (w8.setCell ⟨g, k, none⟩ (.int .i64 5000000)) := fun n hn => (Below.refl _ _).setCell (p := ⟨g, k, none⟩) hn _
      have G9 : TtG w.heap.size B ne ce na ca evs acts Ae Aa w (w8.setCell ⟨g, k, none⟩ (.int .i64 5000000)) := ⟨G8.net.below (hbB B hgB), by rw [heapq_set, if_neg (by omega)]; exact G8.blk, G8.low.trans (hbB _ hgW), Nat.le_trans G8.hB (hbB 0 (Nat.zero_le _)).size⟩
      go_upto_region 9 with (fail)
      clear hbB kM8 hma cgk fk G8
      generalize w8.setCell ⟨g, k, none⟩ (.int .i64 5000000) = w9 at *
      have hrl : Rd w9 w9.heap.size (some ⟨g, 0, none⟩) (intCells ((List.replicate ne 0).set k 5000000)) := by
        have h9 := Rd_of_block hg9
        rw [Array.toList_setIfInBounds, toList_madeCells_one] at h9
        rw [intCells, List.map_set, List.map_replicate]
        exact h9
      obtain ⟨d0, d1⟩ := cells2 G9.blk
      go_upto_region 10 with (first | (go_at_call 10; refine (CP _ G9).mono ?_; rintro e w10 ⟨A5, c5, A6, c6, rfl, hcc, hr5, hr6, hb10⟩; have hrl6 := (hrl.below hb10).mono hb10.size; have N10 : NetAt w10 w10.heap.size A5 A6 ne c5 na evs acts := ⟨HLE.out, HLA.out, hr5, hr6, HSZ.out, hcc⟩) | (go_at_call 11; refine (CI _ _ _ _ (by simp) hrl6).mono ?_; rintro e w11 ⟨A7, c7, rfl, hr7, hb11⟩; have N11 := (N10.below hb11).mono hb11.size) | (go_at_call 9; refine (EL _ _ _ _ _ N11 _ _ hr7).mono ?_; rintro e w12 ⟨rfl, hb12⟩))
      have hb1 := hb10.trans (hb11.mono hb10.size)
      have hb9 := hb1.trans (hb12.mono hb1.size)
      have G12 := G9.below hb9
      clear hb10 hb11 hb12 hb1 hb9 hrl6 N10 N11 hr5 hr6 hr7 hcc hrl hg9 G9 d0 d1 EL
      have HG := Lib.hid G12.low
      clear G12
      go_wp2
      go_ret
      exact ⟨rfl, HG.out⟩
    | false =>
      obtain ⟨q, r, P⟩ := tt_plain hac hne1 hne2 hk hzz
      have EZ := fun (W : World) (A1 A2 : Option Addr) (c1 c2 : Nat) (h : NetAt W W.heap.size A1 A2 ne c1 na evs acts) (At : Option Addr) (ct : Nat) (ht : Rd W W.heap.size At (intCells (List.replicate ne 0))) => (Earliest_new W W.heap.size A1 A2 ne c1 na c2 evs acts h (Nat.le_refl _) hR At ct _ (by simp) ht hz0 (by rw [zero_ints, P.z]; exact fun _ => P.bq)).mono (fun e w' hp => earl_ok (q := q) hp (by rw [zero_ints]; exact P.z))
      have EL := fun (W : World) (A1 A2 : Option Addr) (c1 c2 : Nat) (h : NetAt W W.heap.size A1 A2 ne c1 na evs acts) (At : Option Addr) (ct : Nat) (ht : Rd W W.heap.size At (intCells ((List.replicate ne 0).set k 5000000))) => (Earliest_new W W.heap.size A1 A2 ne c1 na c2 evs acts h (Nat.le_refl _) hR At ct _ (by simp) ht hl0 (by rw [late_ints, P.l]; exact fun _ => P.br)).mono (fun e w' hp => earl_ok (q := r) hp (by rw [late_ints]; exact P.l))
      unfold netV at EZ EL
      have HZZ := Lib.hid hzz
      have HP := Lib.hid P
      have HR := Lib.hid hR
      clear hzz hR hac hz0 hl0 P
      go_upto_region 8 with (first | (go_at_call 10; refine (CP _ G5).mono ?_; rintro e w6 ⟨A1, c1, A2, c2, rfl, hcc, hr1, hr2, hb6⟩; have hrz6 := (hrz.below hb6).mono hb6.size; have N6 : NetAt w6 w6.heap.size A1 A2 ne c1 na evs acts := ⟨HLE.out, HLA.out, hr1, hr2, HSZ.out, hcc⟩) | (go_at_call 11; refine (CI _ _ _ _ (by simp) hrz6).mono ?_; rintro e w7 ⟨A3, c3, rfl, hr3, hb7⟩; have N7 := (N6.below hb7).mono hb7.size) | (go_at_call 9; refine (EZ _ _ _ _ _ N7 _ _ hr3).mono ?_; rintro e w8 ⟨A4, c4, rfl, hr4, hn4, hb8⟩))
      have hb57 := hb6.trans (hb7.mono hb6.size)
      have hb58 := hb57.trans (hb8.mono hb57.size)
      have hg7 : g < w7.heap.size := Nat.lt_of_lt_of_le (Array.getElem?_eq_some_iff.1 kM).1 hb57.size
      have kM8 := blk hb58 kM
      have G8 := G5.below hb58
      clear hb6 hb7 hb8 hb57 hb58 hrz6 N6 N7 hr1 hr2 hr3 hcc hrz kM G5 d0 d1 EZ
      have hr4 := rd_put (x := g) (j := k) (v := .int .i64 5000000) hr4 (fun b off hA => by have := hn4 b off hA; omega)
      clear hn4
      clear hg7
      have hma : (madeCells #[Value.int .i64 0] ne)[k]? = some (.int .i64 0) := by
        rw [← Array.getElem?_toList, toList_madeCells_one, List.getElem?_replicate, if_pos hk]
      have cgk := (cell_of_row _ _ k _ _ _ kM8).trans hma
      have fk := frozen_of_row _ _ k _ _ kM8
      have hg9 : (w8.setCell ⟨g, k, none⟩ (.int .i64 5000000)).heap[g]? = some (.cells ((madeCells #[.int .i64 0] ne).setIfInBounds k (.int .i64 5000000)) 3 (0, 0)) := by
        rw [heapq_set, if_pos rfl, kM8]
        rfl
      have hbB : ∀ n, n ≤ g → Below n w8 (w8.setCell ⟨g, k, none⟩ (.int .i64 5000000)) := fun n hn => (Below.refl _ _).setCell (p := ⟨g, k, none⟩) hn _
      have G9 : TtG w.heap.size B ne ce na ca evs acts Ae Aa w (w8.setCell ⟨g, k, none⟩ (.int .i64 5000000)) := ⟨G8.net.below (hbB B hgB), by rw [heapq_set, if_neg (by omega)]; exact G8.blk, G8.low.trans (hbB _ hgW), Nat.le_trans G8.hB (hbB 0 (Nat.zero_le _)).size⟩
      go_upto_region 9 with (fail)
      have hr4 := hr4.mono (hbB 0 (Nat.zero_le _)).size
      clear hbB kM8 hma cgk fk G8
      generalize w8.setCell ⟨g, k, none⟩ (.int .i64 5000000) = w9 at *
      have hrl : Rd w9 w9.heap.size (some ⟨g, 0, none⟩) (intCells ((List.replicate ne 0).set k 5000000)) := by
        have h9 := Rd_of_block hg9
        rw [Array.toList_setIfInBounds, toList_madeCells_one] at h9
        rw [intCells, List.map_set, List.map_replicate]
        exact h9
      obtain ⟨d0, d1⟩ := cells2 G9.blk
      go_upto_region 10 with (first | (go_at_call 10; refine (CP _ G9).mono ?_; rintro e w10 ⟨A5, c5, A6, c6, rfl, hcc, hr5, hr6, hb10⟩; have hrl6 := (hrl.below hb10).mono hb10.size; have N10 : NetAt w10 w10.heap.size A5 A6 ne c5 na evs acts := ⟨HLE.out, HLA.out, hr5, hr6, HSZ.out, hcc⟩) | (go_at_call 11; refine (CI _ _ _ _ (by simp) hrl6).mono ?_; rintro e w11 ⟨A7, c7, rfl, hr7, hb11⟩; have N11 := (N10.below hb11).mono hb11.size) | (go_at_call 9; refine (EL _ _ _ _ _ N11 _ _ hr7).mono ?_; rintro e w12 ⟨A8, c8, rfl, hr8, -, hb12⟩))
      have hb1 := hb10.trans (hb11.mono hb10.size)
      have hb9 := hb1.trans (hb12.mono hb1.size)
      have G12 := G9.below hb9
      have hr4 := (hr4.below hb9).mono hb9.size
      clear hb10 hb11 hb12 hb1 hb9 hrl6 N10 N11 hr5 hr6 hr7 hcc hrl hg9 G9 d0 d1 EL
      obtain ⟨d0, d1⟩ := cells2 G12.blk
      obtain ⟨b8, o8, hA8, _, e8⟩ := hr8 k (.int .i64 5000000) (by simp [intCells, HP.out.rk])
      subst hA8
      go_wp2
      clear e8 d0 d1
      have BT := fun (W : World) (A1 A2 : Option Addr) (c1 c2 : Nat) (h : NetAt W W.heap.size A1 A2 ne c1 na evs acts) (i : Nat) (hi : i < ne) (hik : k ≠ i) => Between_any W W.heap.size A1 A2 ne c1 na c2 evs acts h (Nat.le_refl _) HR.out k i hk hi hik HZZ.out
      unfold netV at BT
      go_loopw [11] (fun u11 wr => ∃ i : Nat, i ≤ ne ∧ u11 = .int .i64 i ∧ Below w12.heap.size w12 wr) (fun u11 _ => ne - (intOf u11).toNat)
      case atStart => exact ⟨0, Nat.zero_le _, rfl, Below.refl _ _⟩
      case round =>
        obtain ⟨i, hi, rfl, hb⟩ := hrel
        have HBW := Lib.hid hb
        have hszr := hb.size
        have GR := G12.below hb
        have hrq := (hr4.below hb).mono hb.size
        have hrr := (hr8.below hb).mono hb.size
        clear hb
        by_cases hlt : i < ne
        · by_cases hik : i = k
          · have hik' : ((i : Int) == (k : Int)) = true := beq_iff_eq.2 (by omega)
            have HIK := Lib.hid hik
            clear hik GR hrq hrr BT CP CI
            go_wp2
            go_roundw
            case rel => exact ⟨i + 1, hlt, by go_num, HBW.out⟩
            case measure => simp [intOf]; omega
          · have hik' : ((i : Int) == (k : Int)) = false := beq_eq_false_iff_ne.2 (by omega)
            have CPR := CP wr GR
            have BTi := fun (W : World) (A1 A2 : Option Addr) (c1 c2 : Nat) (h : NetAt W W.heap.size A1 A2 ne c1 na evs acts) => BT W A1 A2 c1 c2 h i hlt (fun e => hik e.symm)
            obtain ⟨a1, a2⟩ := HP.out.a i hlt hik
            obtain ⟨o, ho⟩ : ∃ o, farAt (longM (waysM acts) ne (aloneF ne k)).1 i = o := ⟨_, rfl⟩
            rw [ho] at BTi a1 a2
            obtain ⟨x, hx⟩ : ∃ x, q[i]? = some x := ⟨_, List.getElem?_eq_getElem (by rw [HP.out.lq]; exact hlt)⟩
            obtain ⟨bq, oq, hAq, _, eq⟩ := hrq i (.int .i64 x) (by simp [intCells, hx])
            have hrr' := hrr
            obtain ⟨d0, d1⟩ := cells2 GR.blk
            clear BT CP CI ho hrq hrr
            subst hAq
            cases o with
            | none =>
              have hy : r[i]? = some x := by rw [a2 rfl, hx]
              obtain ⟨br, or, hAr, _, er⟩ := hrr' i (.int .i64 x) (by simp [intCells, hy])
              simp only [Option.some.injEq, Addr.mk.injEq, and_true] at hAr
              obtain ⟨rfl, rfl⟩ := hAr
              have hxx : (x != x) = false := by simp
              clear hy hx a1 a2 hrr'
              go_upto_region 19 with (first | (go_at_call 10; refine CPR.mono ?_; rintro e w13 ⟨A1, c1, A2, c2, rfl, hcc, hr1, hr2, hb13⟩; have N13 : NetAt w13 w13.heap.size A1 A2 ne c1 na evs acts := ⟨HLE.out, HLA.out, hr1, hr2, HSZ.out, hcc⟩) | (go_at_call 12; refine (BTi _ _ _ _ _ N13).mono ?_; rintro e w14 ⟨rfl, hb14⟩))
              have hbR := hb13.trans (hb14.mono hb13.size)
              replace er := kept hbR er
              replace eq := kept hbR eq
              replace HBW := Lib.hid (HBW.out.trans (hbR.mono hszr))
              have hszR := Nat.le_trans hszr hbR.size
              clear hb13 hb14 N13 hr1 hr2 hcc BTi CPR GR d0 d1 hbR hszr
              have x0 := fun z : Xt w14 => z.cell er
              have x1 := fun z : Xt w14 => z.cell eq
              refine wp_region_xt (by kernel_rfl) (by kernel_rfl) ?_
              repeat (go_big_quiet_step (fail))
              refine wpQuiet_nil ?_
              intro w15 hx
              have hb15 := Xt.below hx
              have HB15 := Lib.hid (HBW.out.trans (hb15.mono hszR))
              clear hx x0 x1 hb15 er eq
              go_wp2
              go_roundw
              case rel => exact ⟨i + 1, hlt, by go_num, HB15.out⟩
              case measure => simp [intOf]; omega
            | some d =>
              have hy := a1 d rfl
              have hy0 := HP.out.b0 i _ hy
              have hy1 := HP.out.br i (5000000 + d) (by rw [farAt_map]; exact hy)
              obtain ⟨br, or, hAr, _, er⟩ := hrr' i (.int .i64 (5000000 + d)) (by simp [intCells, hy])
              simp only [Option.some.injEq, Addr.mk.injEq, and_true] at hAr
              obtain ⟨rfl, rfl⟩ := hAr
              have hxx : ((5000000 + d) != (5000000 + d)) = false := by simp
              clear hy hx a1 a2 hrr'
              go_upto_region 19 with (first | (go_at_call 10; refine CPR.mono ?_; rintro e w13 ⟨A1, c1, A2, c2, rfl, hcc, hr1, hr2, hb13⟩; have N13 : NetAt w13 w13.heap.size A1 A2 ne c1 na evs acts := ⟨HLE.out, HLA.out, hr1, hr2, HSZ.out, hcc⟩) | (go_at_call 12; refine (BTi _ _ _ _ _ N13).mono ?_; rintro e w14 ⟨⟨Ak, nk, ck, rfl⟩, hb14⟩))
              have hbR := hb13.trans (hb14.mono hb13.size)
              replace er := kept hbR er
              replace eq := kept hbR eq
              replace HBW := Lib.hid (HBW.out.trans (hbR.mono hszr))
              have hszR := Nat.le_trans hszr hbR.size
              clear hb13 hb14 N13 hr1 hr2 hcc BTi CPR GR d0 d1 hbR hszr
              have x0 := fun z : Xt w14 => z.cell er
              have x1 := fun z : Xt w14 => z.cell eq
              refine wp_region_xt (by kernel_rfl) (by kernel_rfl) ?_
              repeat (go_big_quiet_step (fail))
              refine wpQuiet_nil ?_
              intro w15 hx
              have hb15 := Xt.below hx
              have HB15 := Lib.hid (HBW.out.trans (hb15.mono hszR))
              clear hx x0 x1 hb15 er eq hy0 hy1
              go_wp2
              go_roundw
              case rel => exact ⟨i + 1, hlt, by go_num, HB15.out⟩
              case measure => simp [intOf]; omega
        · obtain rfl : i = ne := by omega
          clear GR hrq hrr BT CP CI
          go_wp2
          go_ret
          exact ⟨rfl, G12.low.trans (HBW.out.mono G12.low.size)⟩
end Go.Proofs.Ytnnnpijepdjanaa
