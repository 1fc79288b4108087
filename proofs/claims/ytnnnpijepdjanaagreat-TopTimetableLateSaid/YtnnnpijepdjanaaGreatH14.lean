/- Times are held against activities. -/
import Derived.Test.YtnnnpijepdjanaaGreatB16
namespace Go.Proofs.YtnnnpijepdjanaaGreat
open Go.RowKit

theorem cells6v {W : World} {r t : Nat} {a0 a1 a2 a3 a4 a5 : Value} (h : W.heap[r]? = some (.cells #[a0, a1, a2, a3, a4, a5] t (0, 0))) :
    W.cell? ⟨r, 0, none⟩ = some a0 ∧ W.cell? ⟨r, 1, none⟩ = some a1 ∧ W.cell? ⟨r, 2, none⟩ = some a2 ∧ W.cell? ⟨r, 3, none⟩ = some a3 ∧ W.cell? ⟨r, 4, none⟩ = some a4 ∧ W.cell? ⟨r, 5, none⟩ = some a5 := by
  refine ⟨?_, ?_, ?_, ?_, ?_, ?_⟩ <;> rw [cell_of_row _ _ _ _ _ _ h] <;> rfl
/-- an activity that times do not keep -/
def brokenB (l : List Int) (a : Act) : Bool :=
  decide ((l[a.dst.toNat]?).getD 0 - (l[a.src.toNat]?).getD 0 < a.least) || (decide (a.most ≠ -1) && decide (a.most < (l[a.dst.toNat]?).getD 0 - (l[a.src.toNat]?).getD 0))
set_option maxRecDepth 100000 in
set_option maxHeartbeats 4000000 in
theorem broken1_any (w : World) (ne : Nat) (a : Act) (hR : actR ne a) (x : Nat) (B : Nat) (At : Option Addr) (ct : Nat) (l : List Int) (hl : l.length = ne) (hx : w.heap[x]? = some (.cells #[.slice At ne ct] 26 (0, 0))) (ht : Rd w B At (intCells l)) (hB : B ≤ w.heap.size) (hr : ∀ t ∈ l, 0 ≤ t ∧ t ≤ 10000000) :
    Calls Tryz.prog 56 #[actV a, .pointer (some ⟨x, 0, none⟩)] w fun e w' => e = .returned (.bool (brokenB l a)) ∧ Below w.heap.size w w' := by
  obtain ⟨ak, asr, ads, al, am, aw⟩ := a
  obtain ⟨hk, ⟨hs1, hs2⟩, ⟨hd1, hd2⟩, hne2, hl1, hm1, hw1, hf⟩ := hR
  simp only at hk hs1 hs2 hd1 hd2 hne2 hl1 hm1 hw1 hf
  obtain ⟨sN, rfl⟩ : ∃ n : Nat, asr = n := ⟨asr.toNat, by omega⟩
  obtain ⟨dN, rfl⟩ : ∃ n : Nat, ads = n := ⟨ads.toNat, by omega⟩
  have hsn : sN < ne := by omega
  have hdn : dN < ne := by omega
  obtain ⟨ts, hts⟩ : ∃ t, l[sN]? = some t := ⟨_, List.getElem?_eq_getElem (by omega)⟩
  obtain ⟨td, htd⟩ : ∃ t, l[dN]? = some t := ⟨_, List.getElem?_eq_getElem (by omega)⟩
  obtain ⟨y, hy⟩ : ∃ y, brokenB l ⟨ak, sN, dN, al, am, aw⟩ = y := ⟨_, rfl⟩
  have HY : Hid (y = (decide (td - ts < al) || (decide (am ≠ -1) && decide (am < td - ts)))) := by
    rw [Hid, ← hy, brokenB]
    simp only [Int.toNat_natCast, hts, htd, Option.getD_some]
  rw [hy]
  clear hy
  have hb0 : Below w.heap.size w (w.alloc (.cells #[.int .i64 ak, .int .i64 (sN : Int), .int .i64 (dN : Int), .int .i64 al, .int .i64 am, .int .i64 aw] 43)) := (Below.refl _ _).alloc (Nat.le_refl _) _
  have k0 : (w.alloc (.cells #[.int .i64 ak, .int .i64 (sN : Int), .int .i64 (dN : Int), .int .i64 al, .int .i64 am, .int .i64 aw] 43)).heap[w.heap.size]? = some (.cells #[.int .i64 ak, .int .i64 (sN : Int), .int .i64 (dN : Int), .int .i64 al, .int .i64 am, .int .i64 aw] 43 (0, 0)) := by rw [heapq_alloc, if_pos rfl]
  have kx := blk hb0 hx
  have ht0 := ht.below (hb0.mono hB)
  have HB := Lib.hid hb0
  have hs := hb0.size
  obtain ⟨bt, ot, hAt, _, e1⟩ := ht0 sN (.int .i64 ts) (by simp [intCells, hts])
  obtain ⟨bt', ot', hAt', _, e2⟩ := ht0 dN (.int .i64 td) (by simp [intCells, htd])
  subst hAt
  cases hAt'
  have hb1 := hr ts (List.mem_of_getElem? hts)
  have hb2 := hr td (List.mem_of_getElem? htd)
  clear hb0 hx ht ht0 hts htd hr
  unfold actV
  go_enter Tryz.func56, Tryz.ntmps56
  go_upto_region 1 with (fail)
  generalize w.alloc (.cells #[.int .i64 ak, .int .i64 (sN : Int), .int .i64 (dN : Int), .int .i64 al, .int .i64 am, .int .i64 aw] 43) = w0 at *
  obtain ⟨c0, c1, c2, c3, c4, c5⟩ := cells6v k0
  have cx : w0.cell? ⟨x, 0, none⟩ = some (.slice (some ⟨bt, ot, none⟩) ne ct) := by rw [cell_of_row _ _ _ _ _ _ kx]; rfl
  have x0 := fun z : Xt w0 => z.cell c1
  have x1 := fun z : Xt w0 => z.cell c2
  have x2 := fun z : Xt w0 => z.cell cx
  have x3 := fun z : Xt w0 => z.cell e1
  have x4 := fun z : Xt w0 => z.cell e2
  refine wp_region_xt (by kernel_rfl) (by kernel_rfl) ?_
  repeat (go_big_quiet_step (fail))
  refine wpQuiet_nil ?_
  intro w1 hx
  have hb := Xt.below hx
  replace c3 := kept hb c3
  replace c4 := kept hb c4
  have HB1 := Lib.hid (HB.out.trans (hb.mono hs))
  clear hx x0 x1 x2 x3 x4 hb c0 c1 c2 c5 cx e1 e2
  by_cases h1 : td - ts < al
  · have HV : Hid (y = true) := by rw [Hid, HY.out, decide_eq_true h1]; rfl
    go_wp2
    go_ret
    exact ⟨by rw [HV.out]; rfl, HB1.out⟩
  · by_cases h2 : am = -1
    · have HV : Hid (y = false) := by rw [Hid, HY.out, decide_eq_false h1, decide_eq_false (by omega)]; rfl
      subst h2
      go_wp2
      go_ret
      exact ⟨by rw [HV.out]; rfl, HB1.out⟩
    · have h2' : (am != -1) = true := bne_iff_ne.2 h2
      by_cases h3 : am < td - ts
      · have HV : Hid (y = true) := by rw [Hid, HY.out, decide_eq_false h1, decide_eq_true (show am ≠ -1 from h2), decide_eq_true h3]; rfl
        clear h2
        go_wp2
        go_ret
        exact ⟨by rw [HV.out]; rfl, HB1.out⟩
      · have HV : Hid (y = false) := by rw [Hid, HY.out, decide_eq_false h1, decide_eq_false h3]; simp
        clear h2
        go_wp2
        go_ret
        exact ⟨by rw [HV.out]; rfl, HB1.out⟩
set_option maxRecDepth 100000 in
set_option maxHeartbeats 4000000 in
theorem IndexBroken_any (w : World) (B Ba : Nat) (Aa : Option Addr) (na ca ne : Nat) (acts : List Act) (hla : acts.length = na) (hna : na ≤ 1000) (hra : Rd w Ba Aa (actCells acts)) (hBa : Ba ≤ w.heap.size) (hR : ∀ a ∈ acts, actR ne a) (x : Nat) (At : Option Addr) (ct : Nat) (l : List Int) (hl : l.length = ne) (hx : w.heap[x]? = some (.cells #[.slice At ne ct] 26 (0, 0))) (ht : Rd w B At (intCells l)) (hB : B ≤ w.heap.size) (hr : ∀ t ∈ l, 0 ≤ t ∧ t ≤ 10000000) :
    Calls Tryz.prog 55 #[.slice Aa na ca, .func (.func 56) #[] #[.pointer (some ⟨x, 0, none⟩)]] w fun e w' => e = .returned (.int .i64 (idxGo (brokenB l) acts 0)) ∧ Below w.heap.size w w' := by
  have HL := Lib.hid hla
  clear hla
  go_enter Tryz.func55, Tryz.ntmps55
  go_wp2
  go_loopw [5, 8] (fun _ i wr => ∃ k : Nat, k ≤ na ∧ i = .int .i64 k ∧ idxGo (brokenB l) (acts.drop k) k = idxGo (brokenB l) acts 0 ∧ Below w.heap.size w wr) (fun _ i _ => na - (intOf i).toNat)
  case atStart => exact ⟨0, Nat.zero_le _, rfl, rfl, Below.refl _ _⟩
  case round =>
    obtain ⟨k, hk, rfl, he, hb⟩ := hrel
    have HE := Lib.hid he
    have HBR := Lib.hid hb
    have hsr := hb.size
    have hraR := hra.below (hb.mono hBa)
    have htR := ht.below (hb.mono hB)
    have hxR := blk hb hx
    have hBR := Nat.le_trans hB hsr
    clear he hb
    by_cases hlt : k < na
    · obtain ⟨a, ha⟩ : ∃ a, acts[k]? = some a := ⟨_, List.getElem?_eq_getElem (by rw [HL.out]; exact hlt)⟩
      obtain ⟨b, off, hA, _, c0, c1, c2, c3, c4, c5⟩ := hraR.act ha
      have HD := Lib.hid (drop_consE ha)
      have aR := hR a (List.mem_of_getElem? ha)
      subst hA
      obtain ⟨y, hy⟩ : ∃ y, brokenB l a = y := ⟨_, rfl⟩
      have BK := broken1_any wr ne a aR x B At ct l hl hxR htR hBR hr
      rw [hy] at BK
      have HYY := Lib.hid hy
      unfold actV at BK
      clear ha hraR htR hxR hy aR
      cases y with
      | true =>
        go_wp2_with (go_at_call 56; refine BK.mono ?_; rintro e w2 ⟨rfl, hb2⟩)
        go_ret
        exact ⟨by rw [← HE.out, HD.out, idxGo, HYY.out]; rfl, HBR.out.trans (hb2.mono hsr)⟩
      | false =>
        go_wp2_with (go_at_call 56; refine BK.mono ?_; rintro e w2 ⟨rfl, hb2⟩)
        have HB2 := Lib.hid (HBR.out.trans (hb2.mono hsr))
        clear hb2
        go_roundw
        case rel => exact ⟨k + 1, by omega, by go_num, by rw [← HE.out, HD.out, idxGo, HYY.out]; rfl, HB2.out⟩
        case measure => simp [intOf]; omega
    · have : acts.drop k = [] := by rw [List.drop_eq_nil_iff]; rw [HL.out]; omega
      have HN := Lib.hid this
      clear this hraR htR hxR
      go_wp2
      go_ret
      exact ⟨by rw [← HE.out, HN.out]; rfl, HBR.out⟩
set_option maxRecDepth 100000 in
theorem broken_any (w : World) (B : Nat) (Ae Aa : Option Addr) (ne ce na ca : Nat) (evs : List ByteArray) (acts : List Act) (h : NetAt w B Ae Aa ne ce na evs acts) (hB : B ≤ w.heap.size) (hR : NetR evs acts) (Bt : Nat) (At : Option Addr) (ct : Nat) (l : List Int) (hl : l.length = ne) (ht : Rd w Bt At (intCells l)) (hBt : Bt ≤ w.heap.size) (hr : ∀ t ∈ l, 0 ≤ t ∧ t ≤ 10000000) :
    Calls Tryz.prog 32 #[.agg #[.slice Ae ne ce, .slice Aa na ca], .slice At ne ct] w fun e w' => e = .returned (.int .i64 (idxGo (brokenB l) acts 0)) ∧ Below w.heap.size w w' := by
  have hne2 : ne ≤ 16 := by rw [← h.le]; exact hR.e2
  have hna1 : na ≤ 30 := by rw [← h.la]; exact hR.a1
  have hac : ∀ a ∈ acts, actR ne a := by rw [← h.le]; exact hR.ac
  have hb0 : Below w.heap.size w ((w.alloc (.cells #[.slice Ae ne ce, .slice Aa na ca] 66)).alloc (.cells #[.slice At ne ct] 26)) := ((Below.refl _ _).alloc (Nat.le_refl _) _).alloc (by simp) _
  have k0 : ((w.alloc (.cells #[.slice Ae ne ce, .slice Aa na ca] 66)).alloc (.cells #[.slice At ne ct] 26)).heap[w.heap.size]? = some (.cells #[.slice Ae ne ce, .slice Aa na ca] 66 (0, 0)) := by
    rw [heapq_alloc, if_neg (by simp), heapq_alloc, if_pos rfl]
  have k1 : ((w.alloc (.cells #[.slice Ae ne ce, .slice Aa na ca] 66)).alloc (.cells #[.slice At ne ct] 26)).heap[w.heap.size + 1]? = some (.cells #[.slice At ne ct] 26 (0, 0)) := by
    rw [heapq_alloc, if_pos (by simp)]
  have hs := hb0.size
  have IB := IndexBroken_any _ Bt B Aa na ca ne acts h.la (by omega) (h.ra.below (hb0.mono hB)) (Nat.le_trans hB hs) hac _ At ct l hl k1 (ht.below (hb0.mono hBt)) (Nat.le_trans hBt hs) hr
  have HB := Lib.hid hb0
  clear hb0 ht h hR hac k1
  go_enter Tryz.func32, Tryz.ntmps32
  go_upto_region 1 with (fail)
  generalize ((w.alloc (.cells #[.slice Ae ne ce, .slice Aa na ca] 66)).alloc (.cells #[.slice At ne ct] 26)) = w0 at *
  obtain ⟨d0, d1⟩ := cells2 k0
  go_wp2_with (go_at_call 55; refine IB.mono ?_; rintro e w1 ⟨rfl, hb1⟩)
  go_ret
  exact ⟨rfl, HB.out.trans (hb1.mono hs)⟩
def CtPost (w : World) (V : Int) (e : Ending) (w' : World) : Prop := (if V < 0 then e = .returned (.tuple #[.int .i64 0, .int .i64 0]) else e = .returned (.tuple #[.int .i64 V, .int .i64 24])) ∧ Below w.heap.size w w'
set_option maxRecDepth 100000 in
set_option maxHeartbeats 4000000 in
/-- right times of a right net are accepted, or the first activity is told that they do not keep -/
theorem CheckTimes_any (w : World) (B : Nat) (Ae Aa : Option Addr) (ne ce na ca : Nat) (evs : List ByteArray) (acts : List Act) (h : NetAt w B Ae Aa ne ce na evs acts) (hB : B ≤ w.heap.size) (hR : NetR evs acts) (Bt : Nat) (At : Option Addr) (ct : Nat) (l : List Int) (hl : l.length = ne) (ht : Rd w Bt At (intCells l)) (hBt : Bt ≤ w.heap.size) (hr : ∀ t ∈ l, 0 ≤ t ∧ t ≤ 10000000) :
    Calls Tryz.prog 18 #[netV Ae ne ce Aa na ca, .slice At ne ct] w (CtPost w (idxGo (brokenB l) acts 0)) := by
  obtain ⟨V, hV⟩ : ∃ V, idxGo (brokenB l) acts 0 = V := ⟨_, rfl⟩
  have hne2 : ne ≤ 16 := by rw [← h.le]; exact hR.e2
  have OP := fun (W : World) (hb : Below w.heap.size w W) => open_right W B Ae Aa ne ce na ca evs acts (h.below (hb.mono hB)) (Nat.le_trans hB hb.size) hR
  have TE := fun (W : World) (hb : Below w.heap.size w W) => timesErr_right W Bt Ae ne ce Aa na ca At ct l (by omega) hl (ht.below (hb.mono hBt)) (Nat.le_trans hBt hb.size) hr
  have BK := fun (W : World) (hb : Below w.heap.size w W) => broken_any W B Ae Aa ne ce na ca evs acts (h.below (hb.mono hB)) (Nat.le_trans hB hb.size) hR Bt At ct l hl (ht.below (hb.mono hBt)) (Nat.le_trans hBt hb.size) hr
  rw [hV]
  simp only [hV] at BK
  have hb0 : Below w.heap.size w (w.alloc (.cells #[.slice Ae ne ce, .slice Aa na ca] 25)) := (Below.refl _ _).alloc (Nat.le_refl _) _
  have k0 : (w.alloc (.cells #[.slice Ae ne ce, .slice Aa na ca] 25)).heap[w.heap.size]? = some (.cells #[.slice Ae ne ce, .slice Aa na ca] 25 (0, 0)) := by rw [heapq_alloc, if_pos rfl]
  clear h ht hV
  unfold netV at OP ⊢
  unfold OpenPost at OP
  go_enter Tryz.func18, Tryz.ntmps18
  go_upto_region 1 with (fail)
  generalize w.alloc (.cells #[.slice Ae ne ce, .slice Aa na ca] 25) = w0 at *
  obtain ⟨d0, d1⟩ := cells2 k0
  go_upto_region 2 with (go_at_call 27; refine (OP _ hb0).mono ?_; rintro e w1 ⟨rfl, hb1⟩)
  have hbA := hb0.trans ((hb1.alloc hb1.size (.cells #[.slice Ae ne ce, .slice Aa na ca] 66)).mono hb0.size)
  have k4 : (w1.alloc (.cells #[.slice Ae ne ce, .slice Aa na ca] 66)).heap[w1.heap.size]? = some (.cells #[.slice Ae ne ce, .slice Aa na ca] 66 (0, 0)) := by rw [heapq_alloc, if_pos rfl]
  clear hb0 hb1 k0 d0 d1 OP
  generalize w1.alloc (.cells #[.slice Ae ne ce, .slice Aa na ca] 66) = w2 at *
  generalize w1.heap.size = g at *
  obtain ⟨d0, d1⟩ := cells2 k4
  have TE2 := TE w2 hbA
  go_upto_region 3 with (first | (go_at_call 29; refine TE2.mono ?_; rintro e w3 ⟨rfl, hb3⟩; have F2 := fun a b => first2 w3 a b) | (go_at_call 28; refine (F2 _ _).mono ?_; rintro e w' ⟨rfl, rfl⟩))
  have hbC := hbA.trans ((hb3.alloc hb3.size (.cells #[.int .i64 0, .int .i64 0] 35)).mono hbA.size)
  replace k4 := blk (hb3.alloc hb3.size (.cells #[.int .i64 0, .int .i64 0] 35)) k4
  clear hbA hb3 TE TE2 F2 d0 d1
  generalize w3.alloc (.cells #[.int .i64 0, .int .i64 0] 35) = w4 at *
  obtain ⟨d0, d1⟩ := cells2 k4
  have BK4 := BK w4 hbC
  have HBC := Lib.hid hbC
  have hsC := hbC.size
  clear BK hbC
  by_cases hv : V < 0
  · go_wp2_with (go_at_call 32; refine BK4.mono ?_; rintro e w5 ⟨rfl, hb5⟩)
    refine bodyPost_ret (v := .tuple #[.int .i64 0, .int .i64 0]) (by simp [results, Tryz.results18, go_sem]) rfl ⟨?_, HBC.out.trans (hb5.mono hsC)⟩
    rw [if_pos hv]
  · have hv' : 0 ≤ V := by omega
    go_wp2_with (go_at_call 32; refine BK4.mono ?_; rintro e w5 ⟨rfl, hb5⟩)
    refine bodyPost_ret (v := .tuple #[.int .i64 V, .int .i64 24]) (by simp [results, Tryz.results18, go_sem]) rfl ⟨?_, HBC.out.trans (hb5.mono hsC)⟩
    rw [if_neg (by omega)]
end Go.Proofs.YtnnnpijepdjanaaGreat
