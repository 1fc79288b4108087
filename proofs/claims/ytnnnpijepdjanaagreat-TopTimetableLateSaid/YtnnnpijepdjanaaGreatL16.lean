/- The law: what becomes of a day. -/
import Derived.Test.YtnnnpijepdjanaaGreatM3
import Derived.Test.YtnnnpijepdjanaaGreatE1
import Derived.Deep.CutRange
namespace Go.Proofs.YtnnnpijepdjanaaGreat
open Go.RowKit

theorem own_putN {w : World} {B e size n x j : Nat} {v u : Value} {xs : List Value} (h : w.ownsRow B e size v n xs) (hne : ∀ k, v.ownBlock = some k → k ≠ x) : (w.setCell ⟨x, j, none⟩ u).ownsRow B e size v n xs := by
  refine ⟨h.1, ?_⟩
  rcases h.2 with h2 | ⟨g, cap, cur, rfl, h2, h3, h4⟩
  · exact .inl h2
  · exact .inr ⟨g, cap, cur, rfl, h2, by rw [heapq_set, if_neg (hne g rfl)]; exact h3, h4⟩
def LfRel (x B ne ce na ca : Nat) (evs : List ByteArray) (acts : List Act) (Ae Aa At : Option Addr) (ct : Nat) (times : List Int) (Ad : Option Addr) (ds : List Dl) (X : List Int) (x9 : Nat) (A5 : Option Addr) (c5 : Nat) (w W0 : World) (u : Value) (wr : World) : Prop :=
  ∃ (k : Nat) (Al : Option Addr) (ml cl : Nat), k ≤ na ∧ u = .int .i64 k ∧ TlG x B ne ce na ca evs acts Ae Aa At ct times Ad ds w wr ∧ Below x9 W0 wr ∧ wr.heap[x9]? = some (.cells #[.slice A5 ne c5, .slice Al ml cl] 25 (0, 0)) ∧ wr.ownsRow (x9 + 1) 43 6 (.slice Al ml cl) ml (actCells (leftM times X (acts.take k)))
def LgRel (x B ne ce na ca : Nat) (evs : List ByteArray) (acts : List Act) (Ae Aa At : Option Addr) (ct : Nat) (times : List Int) (Ad : Option Addr) (n : Nat) (ds : List Dl) (bF gF cF : Nat) (w W0 : World) (u : Value) (wr : World) : Prop :=
  ∃ (k : Nat) (A : List Int), k ≤ n ∧ u = .int .i64 k ∧ addD (ds.drop k) A = addD ds times ∧ BdA ne A (10000000 + 100000 * (k : Int)) ∧ TlG x B ne ce na ca evs acts Ae Aa At ct times Ad ds w wr ∧ wr.ownsRow bF 3 1 (.slice (some ⟨gF, 0, none⟩) ne cF) ne (intCells A) ∧ Below bF W0 wr
theorem has_gone {times X G : List Int} {acts : List Act} {k : Nat} {a : Act} (h : ∀ x, x ∈ G ↔ ∃ (k : Nat) (a : Act), acts[k]? = some a ∧ x = (k : Int) ∧ gone times X a = true) (ha : acts[k]? = some a) : hasZ G k = gone times X a := by
  cases hg : gone times X a with
  | true => exact (hasZ_iff G k).2 ((h _).2 ⟨k, a, ha, rfl, hg⟩)
  | false =>
    cases hz : hasZ G k with
    | false => rfl
    | true =>
      obtain ⟨k', a', h1, h2, h3⟩ := (h _).1 ((hasZ_iff G k).1 hz)
      obtain rfl : k = k' := by omega
      rw [ha] at h1
      cases h1
      rw [hg] at h3
      cases h3
def LxPost (w : World) (nt : Nat) (X : List Int) (e : Ending) (w' : World) : Prop := ∃ (g1 c1 : Nat) (Ag : Option Addr) (cg : Nat), e = .returned (.tuple #[.agg #[.slice (some ⟨g1, 0, none⟩) nt c1, .slice Ag 0 cg], .int .i64 0]) ∧ Rd w' w'.heap.size (some ⟨g1, 0, none⟩) (intCells X) ∧ Below w.heap.size w w'
theorem Late_again (W : World) (A5 Al A3 : Option Addr) (nt c5 ml cl c3 : Nat) (evs : List ByteArray) (acts : List Act) (times X : List Int) (h : NetAt W W.heap.size A5 Al nt c5 ml evs (leftM times X acts)) (hR : NetR evs (leftM times X acts)) (hac : ∀ a ∈ acts, actR nt a) (hml : ml ≤ 30) (hX : X.length = nt) (ht : Rd W W.heap.size A3 (intCells X)) (hr : ∀ t ∈ X, 0 ≤ t ∧ t ≤ 10000000)
    (hk : ∀ a ∈ acts, gone times X a = false → gt X a.src.toNat + a.least ≤ gt X a.dst.toNat) : Calls Tryz.prog 9 #[netV A5 nt c5 Al ml cl, .slice A3 nt c3, .slice none 0 0] W (LxPost W nt X) := by
  refine (Late_right W W.heap.size A5 Al nt c5 ml cl evs (leftM times X acts) h (Nat.le_refl _) hR hml A3 c3 X hX ht hr (left_kept hk) none 0 0 [] rfl (Nat.le_refl _) (fun k u hu => by simp [dlCells] at hu) ⟨by simp, by simp, List.Pairwise.nil⟩).mono ?_
  rintro e w' ⟨gA, cA, Ag, m, cg, ord, G, rfl, hperm, hpw, ⟨hGl, _⟩, hGm, hXr, _, hb⟩
  have hac2 := left_actR (times := times) (X := X) hac
  have LF := late_facts (times := X) (f := addD [] X) hac2 (fun b hb => by
    obtain ⟨a, ha, hg, rfl⟩ := left_mem.1 hb
    have h1 := hk a ha hg
    have ⟨_, _, _, _, h9, _⟩ := hac a ha
    simp only [openA]
    omega) (by rw [addD_len, hX]) hperm hpw
  obtain ⟨e1, e2⟩ := late_again hac hk hX (fun v hv => (hr (gt X v) (List.mem_of_getElem? (gt_some (by omega)))).1) LF
  rw [e1] at hXr
  rw [e2] at hGm
  have hG0 : G = [] := List.eq_nil_iff_forall_not_mem.2 fun x hx => by simpa using (hGm x).1 hx
  rw [hG0] at hGl
  obtain rfl : 0 = m := hGl
  exact ⟨gA, cA, Ag, cg, rfl, hXr, hb⟩
def LxR (wr : World) (nt : Nat) (X : List Int) (u18 u19 : Value) (wc : World) : Prop := ∃ (g g1 c1 : Nat) (Ag : Option Addr) (cg : Nat), u18 = .pointer (some ⟨g, 0, none⟩) ∧ u19 = .int .i64 0 ∧ wc.heap[g]? = some (.cells #[.slice (some ⟨g1, 0, none⟩) nt c1, .slice Ag 0 cg] 34 (0, 0)) ∧ Rd wc wc.heap.size (some ⟨g1, 0, none⟩) (intCells X) ∧ Below wr.heap.size wr wc
set_option maxRecDepth 100000 in
set_option maxHeartbeats 16000000 in
theorem Late_all (w : World) (Ae Aa : Option Addr) (ne ce na ca : Nat) (evs : List ByteArray) (acts : List Act) (At : Option Addr) (nt ct : Nat) (times : List Int) (Ad : Option Addr) (nd cd : Nat) (ds : List Dl) (hl : evs.length = ne) (hla : acts.length = na) (hre : Rd w w.heap.size Ae (strCells evs)) (hra : Rd w w.heap.size Aa (actCells acts)) (hc : ne ≤ ce) (hlt : times.length = nt) (hrt : Rd w w.heap.size At (intCells times)) (hld : ds.length = nd) (hrd : Rd w w.heap.size Ad (dlCells ds)) :
    Calls Tryz.prog 3 #[netV Ae ne ce Aa na ca, .slice At nt ct, .slice Ad nd cd] w fun e w' => e = .returned (.bool true) ∧ Below w.heap.size w w' := by
  have AW := fun W => Awake_any W
  have FW := fun (W : World) (h : Rd W w.heap.size Ae (strCells evs)) (hW : w.heap.size ≤ W.heap.size) => Few_any W w.heap.size Ae Aa ne ce na ca evs hl h hW
  have hb0 : Below w.heap.size w (w.alloc (.cells #[.slice Ae ne ce, .slice Aa na ca] 25)) := (Below.refl _ _).alloc (Nat.le_refl _) _
  have k0 : (w.alloc (.cells #[.slice Ae ne ce, .slice Aa na ca] 25)).heap[w.heap.size]? = some (.cells #[.slice Ae ne ce, .slice Aa na ca] 25 (0, 0)) := by rw [heapq_alloc, if_pos rfl]
  unfold netV at FW ⊢
  have HLE := Lib.hid hl
  have HLA := Lib.hid hla
  have HLT := Lib.hid hlt
  have HLD := Lib.hid hld
  clear hl hla hlt hld
  go_enter Tryz.func3, Tryz.ntmps3
  go_upto_region 1 with (fail)
  generalize w.alloc (.cells #[.slice Ae ne ce, .slice Aa na ca] 25) = w0 at *
  go_upto_region 3 with (go_at_call 4; refine (AW _).mono ?_; rintro e w1 ⟨rfl, hb1⟩)
  have hb01 := hb0.trans (hb1.mono hb0.size)
  have k1 := blk hb1 k0
  have hre1 := hre.below hb01
  have hra1 := hra.below hb01
  have hrt1 := hrt.below hb01
  have hrd1 := hrd.below hb01
  clear hb0 hb1 k0 hre hra hrt hrd AW
  obtain ⟨c0, c1⟩ := cells2 k1
  go_wp2_with (go_at_call 5; refine stp ?_)
  unfold Stp
  refine (FW w1 hre1 hb01.size).mono ?_
  rintro e w2 ⟨b, rfl, hb2, hF⟩
  cases b with
  | false =>
    have HBB := Lib.hid (hb01.trans (hb2.mono hb01.size))
    clear hb01 hb2 hF hre1 hra1 hrt1 hrd1 k1 c0 c1
    go_wp2
    go_ret
    exact ⟨rfl, HBB.out⟩
  | true =>
  obtain ⟨hne, hna, hsz⟩ := hF rfl
  have G2 : TlG w.heap.size w.heap.size ne ce na ca evs acts Ae Aa At ct times Ad ds w w2 :=
    have hb3 := hb01.trans (hb2.mono hb01.size)
    ⟨⟨HLE.out, HLA.out, hre1.below (hb2.mono hb01.size), hra1.below (hb2.mono hb01.size), hsz, hc⟩, hrt1.below (hb2.mono hb01.size), hrd1.below (hb2.mono hb01.size), blk hb2 k1, hb3, Nat.le_refl _, Nat.le_refl _⟩
  clear hb01 hb2 hF hre1 hra1 hrt1 hrd1 k1 c0 c1 FW
  have HSZ := Lib.hid hsz
  have HL2 := Lib.hid G2.low
  clear hsz
  by_cases c1 : (18 : Int) < (nt : Int)
  case pos =>
    clear G2
    go_wp2
    go_ret
    exact ⟨rfl, HL2.out⟩
  by_cases c2 : (12 : Int) < (nd : Int)
  case pos =>
    clear G2
    go_wp2
    go_ret
    exact ⟨rfl, HL2.out⟩
  have hnt : nt ≤ 18 := by omega
  have hnd : nd ≤ 12 := by omega
  obtain ⟨V, hV⟩ : ∃ V, netE evs acts = V := ⟨_, rfl⟩
  have NR := NetErr_any w2 w.heap.size Ae Aa ne ce na ca evs acts G2.net G2.hBW (by omega) (by omega)
  rw [hV] at NR
  unfold netV at NR
  obtain ⟨d0, d1⟩ := cells2 G2.blk
  go_wp2_with (go_at_call 6; refine stp ?_)
  unfold Stp
  refine NR.mono ?_
  rintro e w3 ⟨rfl, hb3⟩
  have G3 := G2.below hb3
  clear G2 hb3 NR d0 d1 HL2
  have HL3 := Lib.hid G3.low
  by_cases hv : V = 0
  case neg =>
    have hv' : (V != 0) = true := bne_iff_ne.2 hv
    clear G3 hV
    go_wp2
    go_ret
    exact ⟨rfl, HL3.out⟩
  have hR := netE_zero.1 (hV.trans hv)
  subst hv
  clear hV
  have hne1 : 1 ≤ ne := by rw [← HLE.out]; exact hR.e1
  have hne2 : ne ≤ 16 := by rw [← HLE.out]; exact hR.e2
  have hna1 : na ≤ 30 := by rw [← HLA.out]; exact hR.a1
  have hac : ∀ a ∈ acts, actR ne a := by rw [← HLE.out]; exact hR.ac
  obtain ⟨V, hV⟩ : ∃ V, rightE ne acts times = V := ⟨_, rfl⟩
  have RE := RightErr_any w3 w.heap.size Ae Aa ne ce na ca evs acts G3.net G3.hBW hR w.heap.size At nt ct times (by omega) HLT.out G3.rt G3.hBW
  rw [hV] at RE
  unfold netV at RE
  obtain ⟨d0, d1⟩ := cells2 G3.blk
  go_wp2_with (go_at_call 7; refine stp ?_)
  unfold Stp
  refine RE.mono ?_
  rintro e w4 ⟨rfl, hb4⟩
  have G4 := G3.below hb4
  clear G3 hb4 RE d0 d1 HL3
  have HL4 := Lib.hid G4.low
  by_cases hv : V = 0
  case neg =>
    have hv' : (V != 0) = true := bne_iff_ne.2 hv
    clear G4 hV
    go_wp2
    go_ret
    exact ⟨rfl, HL4.out⟩
  obtain ⟨⟨htl, htr⟩, htk⟩ := rightE_zero.1 (hV.trans hv)
  obtain rfl : nt = ne := by rw [← HLT.out, htl]
  subst hv
  clear hV htl
  have HTR := Lib.hid htr
  have HTK := Lib.hid htk
  clear htr htk
  obtain ⟨V, hV⟩ : ∃ V, delE nt ds = V := ⟨_, rfl⟩
  have DE := refDelaysErr_any w4 Ae nt ce Aa na ca (by omega) w.heap.size Ad nd cd ds HLD.out (by omega) G4.rd G4.hBW
  rw [hV] at DE
  unfold netV at DE
  obtain ⟨d0, d1⟩ := cells2 G4.blk
  go_wp2_with (go_at_call 8; refine stp ?_)
  unfold Stp
  refine DE.mono ?_
  rintro e w5 ⟨rfl, hb5⟩
  have G5 := G4.below hb5
  clear G4 hb5 DE d0 d1 HL4
  have HL5 := Lib.hid G5.low
  by_cases hv : V = 0
  case neg =>
    have hv' : (V != 0) = true := bne_iff_ne.2 hv
    clear G5 hV
    go_wp2
    go_ret
    exact ⟨rfl, HL5.out⟩
  have hD := delE_zero.1 (hV.trans hv)
  subst hv
  have HD := Lib.hid hD
  clear hV hD HL5 c1 c2
  go_upto_region 5 with (fail)
  have CP := fun (W : World) (h : TlG w.heap.size w.heap.size nt ce na ca evs acts Ae Aa At ct times Ad ds w W) => refCopy_any W w.heap.size Ae Aa nt ce na ca evs acts HLE.out HLA.out (by omega) (by omega) h.net.re h.net.ra h.hBW
  have CI := fun (W : World) (h : TlG w.heap.size w.heap.size nt ce na ca evs acts Ae Aa At ct times Ad ds w W) => CopyInts_any W w.heap.size At nt ct times HLT.out (by omega) h.rt h.hBW
  have CD := fun (W : World) (h : TlG w.heap.size w.heap.size nt ce na ca evs acts Ae Aa At ct times Ad ds w W) => CopyDelays_any W w.heap.size Ad nd cd ds HLD.out (by omega) h.rd h.hBW
  have LA := fun (W : World) (A1 A2 A3 A4 : Option Addr) (c1 c2 c3 c4 : Nat) (h : NetAt W W.heap.size A1 A2 nt c1 na evs acts) (ht : Rd W W.heap.size A3 (intCells times)) (hc : nd ≤ c4) (hd : Rd W W.heap.size A4 (dlCells ds)) => Late_right W W.heap.size A1 A2 nt c1 na c2 evs acts h (Nat.le_refl _) hR hna1 A3 c3 times HLT.out ht HTR.out HTK.out A4 nd c4 ds HLD.out hc hd HD.out
  unfold netV at LA
  obtain ⟨d0, d1⟩ := cells2 G5.blk
  go_wp2_with (go_at_call 10; refine stp ?_)
  unfold Stp
  refine (CP w5 G5).mono ?_
  rintro e w6 ⟨A1, c1, A2, c2, rfl, hcc, hr1, hr2, hb6⟩
  have N6 : NetAt w6 w6.heap.size A1 A2 nt c1 na evs acts := ⟨HLE.out, HLA.out, hr1, hr2, HSZ.out, hcc⟩
  have G6 := G5.below hb6
  clear G5 hb6 hr1 hr2 hcc d0 d1 CP
  go_wp2_with (go_at_call 11; refine stp ?_)
  unfold Stp
  refine (CI w6 G6).mono ?_
  rintro e w7 ⟨A3, c3, rfl, hr3, hb7⟩
  have N7 := (N6.below hb7).mono hb7.size
  have G7 := G6.below hb7
  clear G6 N6 hb7 CI
  go_wp2_with (go_at_call 12; refine stp ?_)
  unfold Stp
  refine (CD w7 G7).mono ?_
  rintro e w8 ⟨A4, c4, rfl, hc4, hr4, hb8⟩
  have N8 := (N7.below hb8).mono hb8.size
  have G8 := G7.below hb8
  replace hr3 := (hr3.below hb8).mono hb8.size
  clear G7 N7 hb8 CD
  go_wp2_with (go_at_call 9; refine stp ?_)
  unfold Stp
  refine (LA w8 _ _ _ _ _ _ _ _ N8 hr3 hc4 hr4).mono ?_
  rintro e w9 ⟨gA, cA, Ag, m, cg, ord, G, rfl, hperm, hpw, ⟨hGl, hm9⟩, hGm, hX, hGr, hb9⟩
  have G9 := G8.below hb9
  clear G8 N8 hb9 hr3 hc4 hr4 LA
  have hright : ∀ a ∈ acts, gt times a.src.toNat + a.least ≤ gt times a.dst.toNat := fun a ha => right_gt HTK.out ha
  have hrightL : ∀ a ∈ acts, gt times a.src.toNat < gt times a.dst.toNat := fun a ha => by
    have := hright a ha
    have ⟨_, _, _, _, h9, _⟩ := hac a ha
    omega
  have LF := late_facts hac hrightL (show (addD ds times).length = nt by rw [addD_len, HLT.out]) hperm hpw
  have hGm2 : ∀ x, x ∈ G ↔ ∃ k a, acts[k]? = some a ∧ x = ((k : Nat) : Int) ∧ gone times (ltOrd times acts ord (addD ds times, [])).1 a = true := fun x => by rw [hGm, LF.gv]
  clear hGm hperm hpw
  generalize (ltOrd times acts ord (addD ds times, [])).1 = X at *
  generalize (ltOrd times acts ord (addD ds times, [])).2 = RG at *
  have HLF := Lib.hid LF
  have HGM := Lib.hid hGm2
  have HGL := Lib.hid hGl
  have HRI := Lib.hid hright
  have HRL := Lib.hid hrightL
  have HXL := Lib.hid LF.len
  clear LF hGm2 hGl hright hrightL
  have hba : Below w9.heap.size w9 (w9.alloc (.cells #[.slice (some ⟨gA, 0, none⟩) nt cA, .slice Ag m cg] 34)) := (Below.refl _ _).alloc (Nat.le_refl _) _
  have k7 : (w9.alloc (.cells #[.slice (some ⟨gA, 0, none⟩) nt cA, .slice Ag m cg] 34)).heap[w9.heap.size]? = some (.cells #[.slice (some ⟨gA, 0, none⟩) nt cA, .slice Ag m cg] 34 (0, 0)) := by rw [heapq_alloc, if_pos rfl]
  have GA := G9.below hba
  replace hX := hX.below hba
  replace hGr := hGr.below hba
  have hxw : w.heap.size < w9.heap.size := (Array.getElem?_eq_some_iff.1 G9.blk).1
  clear hba G9
  go_upto_region 6 with (fail)
  generalize w9.alloc (.cells #[.slice (some ⟨gA, 0, none⟩) nt cA, .slice Ag m cg] 34) = w10 at *
  generalize w9.heap.size = x7 at *
  obtain ⟨e0, e1⟩ := cells2 k7
  obtain ⟨d0, d1⟩ := cells2 GA.blk
  have hx7 : x7 < w10.heap.size := (Array.getElem?_eq_some_iff.1 k7).1
  have CT := CopyTexts_any w10 w.heap.size Ae nt ce evs HLE.out (by omega) GA.net.re GA.hBW
  have gnn : ((nt : Int) != nt) = false := by simp
  go_upto_region 9 with (go_at_call 13; refine CT.mono ?_; rintro e w11 ⟨A5, c5, rfl, hc5, hr5, hb11⟩)
  have hbB : Below w10.heap.size w10 (w11.alloc (.cells #[.slice A5 nt c5, .slice none 0 0] 25)) := hb11.alloc hb11.size _
  have hb12 : Below w11.heap.size w11 (w11.alloc (.cells #[.slice A5 nt c5, .slice none 0 0] 25)) := (Below.refl _ _).alloc (Nat.le_refl _) _
  have k9 : (w11.alloc (.cells #[.slice A5 nt c5, .slice none 0 0] 25)).heap[w11.heap.size]? = some (.cells #[.slice A5 nt c5, .slice none 0 0] 25 (0, 0)) := by rw [heapq_alloc, if_pos rfl]
  have GB := GA.below hbB
  replace k7 := blk hbB k7
  replace hX := hX.below (hbB.mono (Nat.le_of_lt hx7))
  replace hGr := hGr.below (hbB.mono (Nat.le_of_lt hx7))
  replace hr5 := hr5.below hb12
  have hx9 : x7 < w11.heap.size := Nat.lt_of_lt_of_le hx7 hb11.size
  clear hb11 hbB hb12 GA CT e0 e1 d0 d1 gnn
  generalize w11.alloc (.cells #[.slice A5 nt c5, .slice none 0 0] 25) = w12 at *
  generalize w11.heap.size = x9 at *
  obtain ⟨d0, d1⟩ := cells2 GB.blk
  clear d0 d1
  have HX := Lib.hid hX
  have HGr := Lib.hid hGr
  clear hX hGr
  go_wp2
  go_loopw [10] (fun u wr => LfRel w.heap.size w.heap.size nt ce na ca evs acts Ae Aa At ct times Ad ds X x9 A5 c5 w w12 u wr) (fun u _ => na - (intOf u).toNat)
  case atStart => exact ⟨0, none, 0, 0, Nat.zero_le _, rfl, GB, Below.refl _ _, k9, ⟨by simp [leftM, actCells], .inl ⟨rfl, rfl⟩⟩⟩
  case round =>
    obtain ⟨k, Al, ml, cl, hk, rfl, GC, hbL, kx9, hown⟩ := hrel
    have HBL := Lib.hid hbL
    have HOWN := Lib.hid hown
    obtain ⟨d0, d1⟩ := cells2 GC.blk
    have k7r := (hbL.block x7 hx9).trans k7
    obtain ⟨e0, e1⟩ := cells2 k7r
    have hGw := HGr.out.below (hbL.mono (Nat.le_of_lt hx9))
    have hsx : x9 < wr.heap.size := (Array.getElem?_eq_some_iff.1 kx9).1
    clear hbL hown k7r
    by_cases hkn : k < na
    · obtain ⟨a, ha⟩ : ∃ a, acts[k]? = some a := ⟨_, List.getElem?_eq_getElem (by rw [HLA.out]; exact hkn)⟩
      obtain ⟨ba, oa, hAa, _, q0, q1, q2, q3, q4, q5⟩ := GC.net.ra.act ha
      have HLT2 := Lib.hid (left_take (times := times) (X := X) ha)
      have hz := has_gone HGM.out ha
      obtain ⟨y, hy⟩ : ∃ y, gone times X a = y := ⟨_, rfl⟩
      rw [hy] at hz
      have HA := fun W (h : Rd W x7 Ag (intCells G)) => Has_any Ag m cg x7 G (k : Int) W (by omega) HGL.out h
      obtain ⟨ak, asr, ads, al, am, aw⟩ := a
      simp only at q0 q1 q2 q3 q4 q5
      have HY := Lib.hid hy
      clear ha hy
      subst hAa
      have hba : Below wr.heap.size wr (wr.alloc (.cells #[.int .i64 ak, .int .i64 asr, .int .i64 ads, .int .i64 al, .int .i64 am, .int .i64 aw] 43)) := (Below.refl _ _).alloc (Nat.le_refl _) _
      have kb : (wr.alloc (.cells #[.int .i64 ak, .int .i64 asr, .int .i64 ads, .int .i64 al, .int .i64 am, .int .i64 aw] 43)).heap[wr.heap.size]? = some (.cells #[.int .i64 ak, .int .i64 asr, .int .i64 ads, .int .i64 al, .int .i64 am, .int .i64 aw] 43 (0, 0)) := by rw [heapq_alloc, if_pos rfl]
      have GD := GC.below hba
      have HOW2 := Lib.hid (ownsRow_below HOWN.out hba)
      have HBL2 := Lib.hid (HBL.out.trans (hba.mono (Nat.le_of_lt hsx)))
      have kx92 := blk hba kx9
      replace e1 := kept hba e1
      have hGw2 := hGw.below (hba.mono (Nat.le_of_lt (Nat.lt_trans hx9 hsx)))
      clear GC kx9 hGw
      go_upto_region 13 with (fail)
      clear q0 q1 q2 q3 q4 q5 d0 d1 e0
      generalize hwB : wr.alloc (.cells #[.int .i64 ak, .int .i64 asr, .int .i64 ads, .int .i64 al, .int .i64 am, .int .i64 aw] 43) = wb at *
      have hsb : wr.heap.size < wb.heap.size := (Array.getElem?_eq_some_iff.1 kb).1
      have hbx : x9 < wr.heap.size := hsx
      clear hwB hba
      generalize hgb : wr.heap.size = gb at *
      have HGB := Lib.hid hgb
      clear hgb
      have HAW := HA wb hGw2
      rw [hz] at HAW
      clear HA hz hGw2
      cases y with
      | true =>
        have HTK2 : Hid (leftM times X (acts.take (k + 1)) = leftM times X (acts.take k)) := by
          rw [Hid, HLT2.out, HY.out, if_pos rfl, List.append_nil]
        clear HLT2
        go_wp2_with (go_at_call 14; refine HAW.mono ?_; rintro e w' ⟨rfl, rfl⟩)
        go_roundw
        case rel => exact ⟨k + 1, Al, ml, cl, by omega, by go_num, GD, HBL2.out, kx92, by rw [HTK2.out]; exact HOW2.out⟩
        case measure => simp [intOf]; omega
      | false =>
        have HTK2 : Hid (leftM times X (acts.take (k + 1)) = leftM times X (acts.take k) ++ [⟨ak, asr, ads, al, -1, aw⟩]) := by
          rw [Hid, HLT2.out, HY.out, if_neg (by simp)]
          rfl
        clear HLT2
        have fz := frozen_of_row wb gb 4 _ _ kb
        obtain ⟨q0, q1, q2, q3, q4, q5⟩ := cells6v kb
        go_upto_region 15 with (go_at_call 14; refine HAW.mono ?_; rintro e w' ⟨rfl, rfl⟩)
        have hbs : Below (x9 + 1) wb (wb.setCell ⟨gb, 4, none⟩ (.int .i64 (-1))) := (Below.refl _ _).setCell (p := ⟨gb, 4, none⟩) (show x9 + 1 ≤ gb by omega) _
        have kb2 : (wb.setCell ⟨gb, 4, none⟩ (.int .i64 (-1))).heap[gb]? = some (.cells #[.int .i64 ak, .int .i64 asr, .int .i64 ads, .int .i64 al, .int .i64 (-1), .int .i64 aw] 43 (0, 0)) := by
          rw [heapq_set, if_pos rfl, kb]
          rfl
        have hoB : ∀ i, (Value.slice Al ml cl).ownBlock = some i → i < gb := fun i hi => by
          have := (ownBlk HOWN.out hi).2.1
          rw [HGB.out] at this
          exact this
        have HOW3 := Lib.hid (own_putN (x := gb) (j := 4) (u := .int .i64 (-1)) HOW2.out (fun i hi => by have := hoB i hi; omega))
        have GE := GD.belowX (hbs.mono (by omega))
        have kx93 : (wb.setCell ⟨gb, 4, none⟩ (.int .i64 (-1))).heap[x9]? = some (.cells #[.slice A5 nt c5, .slice Al ml cl] 25 (0, 0)) := by
          rw [heapq_set, if_neg (show x9 ≠ gb by omega)]
          exact kx92
        have HBL3 := Lib.hid (HBL2.out.trans (hbs.mono (Nat.le_succ x9)))
        have hml : ml ≤ 30 := by
          have h9 := HOWN.out.1
          rw [actCells_len] at h9
          have h8 := left_len (times := times) (X := X) (acts.take k)
          rw [List.length_take] at h8
          omega
        have hsc : x9 + 1 ≤ (wb.setCell ⟨gb, 4, none⟩ (.int .i64 (-1))).heap.size := by simp; omega
        clear hbs GD kx92 HAW q0 q1 q2 q3 q4 q5 fz kb HOW2 HOWN HBL2 hoB
        generalize wb.setCell ⟨gb, 4, none⟩ (.int .i64 (-1)) = wc at *
        obtain ⟨q0, q1, q2, q3, q4, q5⟩ := cells6v kb2
        obtain ⟨m0, m1⟩ := cells2 kx93
        obtain ⟨iA, hiA, hA0, hA1, hA2⟩ := info_parts info43
        have hba : Below wc.heap.size wc (wc.alloc (.cells #[.int .i64 ak, .int .i64 asr, .int .i64 ads, .int .i64 al, .int .i64 (-1), .int .i64 aw] 43)) := (Below.refl _ _).alloc (Nat.le_refl _) _
        have GF := GE.below hba
        have kx94 := blk hba kx93
        have HOW4 := Lib.hid (ownsRow_below HOW3.out hba)
        have HBL4 := Lib.hid (HBL3.out.trans (hba.mono (by omega)))
        clear GE
        go_wp2_with (at_builtin; refine stp ?_)
        unfold Stp
        refine wpList_append_lies _ rfl _ _ 23 rfl (x9 + 1) 43 iA _ 6 48 Tryz.underlying23 hiA hA0 hA1 hA2 rfl (by omega) (.slice Al ml cl) ml (actCells (leftM times X (acts.take k))) rfl HOW4.out ⟨wc.heap.size, 0, none⟩ 1 1 [.int .i64 ak, .int .i64 asr, .int .i64 ads, .int .i64 al, .int .i64 (-1), .int .i64 aw] rfl rfl (news_at (by rw [heapq_alloc, if_pos rfl])) (by simp [Value.oneCell']) (by omega) (by simp only [maxLen]; omega) (by omega) (Nat.le_trans hsc hba.size) _ rfl ?_
        intro gg cap wd hown1 hgrow _ _
        have hr : ∀ i, (Value.slice Al ml cl).ownBlock = some i → x9 + 1 ≤ i := fun i hi => (ownBlk HOW4.out hi).1
        have hx9l := (Array.getElem?_eq_some_iff.1 kx94).1
        have hown2 : wd.ownsRow (x9 + 1) 43 6 (.slice (some ⟨gg, 0, none⟩) (ml + 1) cap) (ml + 1) (actCells (leftM times X (acts.take (k + 1)))) := by
          have h9 : actCells (leftM times X (acts.take k)) ++ [.int .i64 ak, .int .i64 asr, .int .i64 ads, .int .i64 al, .int .i64 (-1), .int .i64 aw] = actCells (leftM times X (acts.take (k + 1))) := by
            rw [HTK2.out, actCells, actCells, List.flatMap_append]
            rfl
          rw [← h9]
          exact hown1
        have hbg : Below (x9 + 1) wc wd := (hba.mono hsc).grown hgrow (by have := hba.size; omega) hr
        have GG := GF.belowX (V := wd) ((Below.refl (w.heap.size + 1) _).grown hgrow (by have := hba.size; omega) (fun i hi => by have := hr i hi; omega))
        have kx95 := (hgrow.block x9 hx9l (fun e => by have := hr x9 e.symm; omega)).trans kx94
        obtain ⟨s0, s1, f0, f1⟩ := res2 kx95
        have hgg : x9 + 1 ≤ gg := (ownBlk hown2 rfl).1
        have HOW5 := Lib.hid (own_putN (x := x9) (j := 1) (u := .slice (some ⟨gg, 0, none⟩) (ml + 1) cap) hown2 (fun i hi => (show gg = i by simpa [Value.ownBlock] using hi) ▸ (by omega)))
        have GH := GG.belowX (V := wd.setCell ⟨x9, 1, none⟩ (.slice (some ⟨gg, 0, none⟩) (ml + 1) cap)) ((Below.refl _ _).setCell (p := ⟨x9, 1, none⟩) (show w.heap.size + 1 ≤ x9 by omega) _)
        have kx96 : (wd.setCell ⟨x9, 1, none⟩ (.slice (some ⟨gg, 0, none⟩) (ml + 1) cap)).heap[x9]? = some (.cells #[.slice A5 nt c5, .slice (some ⟨gg, 0, none⟩) (ml + 1) cap] 25 (0, 0)) := by
          rw [heapq_set, if_pos rfl, kx95]
          rfl
        have HBL5 := Lib.hid ((HBL3.out.trans (hbg.mono (Nat.le_succ x9))).setCell (p := ⟨x9, 1, none⟩) (Nat.le_refl x9) (.slice (some ⟨gg, 0, none⟩) (ml + 1) cap))
        have HGH := Lib.hid GH
        have HKX := Lib.hid kx96
        clear hown1 hown2 hgrow hbg GG GH GF kx96 kx95 kx94 kx93 q0 q1 q2 q3 q4 q5 m0 m1 s0 f0 hba kb2
        go_wp2
        refine ⟨⟨k + 1, some ⟨gg, 0, none⟩, ml + 1, cap, by omega, by go_num, HGH.out, HBL5.out, HKX.out, HOW5.out⟩, by simp [intOf]; omega⟩
    · obtain rfl : k = na := by omega
      have htk : acts.take k = acts := by rw [← HLA.out, List.take_length]
      have hownL : wr.ownsRow (x9 + 1) 43 6 (.slice Al ml cl) ml (actCells (leftM times X acts)) := by
        have h9 := HOWN.out
        rwa [htk] at h9
      have hmL : (leftM times X acts).length = ml := by
        have h9 := hownL.1
        rw [actCells_len] at h9
        omega
      have hraL : Rd wr wr.heap.size Al (actCells (leftM times X acts)) := by
        rcases hownL.2 with ⟨_, h0⟩ | ⟨g, cap, cur, e9, _⟩
        · rw [h0, List.length_eq_zero_iff] at hmL
          intro j u hu
          rw [hmL] at hu
          simp [actCells] at hu
        · simp only [Value.slice.injEq] at e9
          obtain ⟨rfl, -, rfl⟩ := e9
          exact Rd_of_own hownL
      have hml30 : ml ≤ 30 := by
        have h8 := left_len (times := times) (X := X) acts
        rw [HLA.out] at h8
        omega
      have NL : NetAt wr wr.heap.size A5 Al nt c5 ml evs (leftM times X acts) := ⟨HLE.out, hmL, (hr5.below HBL.out).mono (Nat.le_of_lt hsx), hraL, HSZ.out, hc5⟩
      have hXw : Rd wr x7 (some ⟨gA, 0, none⟩) (intCells X) := HX.out.below (HBL.out.mono (Nat.le_of_lt hx9))
      have k7w := (HBL.out.block x7 hx9).trans k7
      have hx7w : x7 < wr.heap.size := Nat.lt_trans hx9 hsx
      have CO := CopyInts_own wr w.heap.size At nt ct times HLT.out (by omega) GC.rt GC.hBW
      have hRL : NetR evs (leftM times X acts) := left_netR hR
      have HRLf := Lib.hid hRL
      go_upto_region 16 with (fail)
      clear HOWN hownL hraL hRL HBL hGw htk k9 GB d0 d1 e0 e1
      generalize hwS : wr = wS at *
      clear hwS
      go_upto_region 17 with (go_at_call 11; refine CO.mono ?_; rintro e w13 ⟨gF, cF, rfl, hownF, hb13⟩)
      have GD := GC.below hb13
      have HNL := Lib.hid (NL.below hb13)
      have HXw := Lib.hid (hXw.below (hb13.mono (Nat.le_of_lt hx7w)))
      have HK7 := Lib.hid (blk hb13 k7w)
      have HK9 := Lib.hid (blk hb13 kx9)
      have hbF : wS.heap.size ≤ w13.heap.size := hb13.size
      have hwF : w.heap.size + 1 ≤ wS.heap.size := by omega
      clear CO GC NL hXw k7w kx9 hb13
      generalize wS.heap.size = bF at *
      have B0 : BdA nt times (10000000 + 100000 * ((0 : Nat) : Int)) := fun v hv => by
        have := HTR.out (gt times v) (List.mem_of_getElem? (gt_some (by rw [HLT.out]; exact hv)))
        omega
      have HB0 := Lib.hid B0
      clear B0
      go_wp2
      go_loopw [13] (fun u wy => LgRel w.heap.size w.heap.size nt ce k ca evs acts Ae Aa At ct times Ad nd ds bF gF cF w w13 u wy) (fun u _ => nd - (intOf u).toNat)
      case atStart => exact ⟨0, times, Nat.zero_le _, rfl, rfl, HB0.out, GD, hownF, Below.refl _ _⟩
      case round =>
        obtain ⟨j, A, hj, rfl, had, hbd, GE, hoF, hbG⟩ := hrel
        have HAD := Lib.hid had
        have HBD := Lib.hid hbd
        have HOF := Lib.hid hoF
        have HBG := Lib.hid hbG
        have hgF := ownBlk hoF rfl
        have hgF1 : bF ≤ gF := hgF.1
        have hgF2 : gF < wr.heap.size := hgF.2.1
        have hlA : A.length = nt := by
          have := hoF.1
          rwa [intCells_len, Nat.mul_one] at this
        clear had hbd hoF hbG hgF
        by_cases hjn : j < nd
        · obtain ⟨d, hd⟩ : ∃ d, ds[j]? = some d := ⟨_, List.getElem?_eq_getElem (by rw [HLD.out]; exact hjn)⟩
          obtain ⟨b, off, hAd, _, p0, p1⟩ := GE.rd.dl hd
          have hdr := HD.out.r d (List.mem_of_getElem? hd)
          have HDD := Lib.hid (addD_drop (A := A) hd)
          clear hd
          obtain ⟨dev, dby⟩ := d
          obtain ⟨⟨hd1, hd2⟩, hd3, hd4⟩ := hdr
          simp only at p0 p1 hd1 hd2 hd3 hd4
          obtain ⟨v, rfl⟩ : ∃ v : Nat, dev = v := ⟨dev.toNat, by omega⟩
          have hvn : v < nt := by omega
          subst hAd
          have hcA := own_cell (i := v) HOF.out (v := .int .i64 (gt A v)) (by rw [intCells, List.getElem?_map, gt_some (by omega)]; rfl)
          obtain ⟨s0, _, _, _⟩ := hcA
          obtain ⟨hq1, hq2⟩ := HBD.out v hvn
          have HY := Lib.hid (show 0 ≤ gt A v + dby ∧ gt A v + dby ≤ 10000000 + 100000 * ((j : Int) + 1) by omega)
          have x0 := fun z : Xt wr => z.cell p0
          have x1 := fun z : Xt wr => z.cell p1
          have x2 := fun z : Xt wr => z.cell s0
          have hbw : Below wr.heap.size wr wr.drew := (Below.refl _ _).drew
          have GF := GE.below hbw
          have HOF2 := Lib.hid (ownsRow_below HOF.out hbw)
          have HBG2 := Lib.hid (HBG.out.trans (hbw.mono (by have := HBG.out.size; omega)))
          generalize hy : gt A v = y at *
          have HY0 := Lib.hid hy
          clear hy
          go_upto_region 20 with (fail)
          refine wp_region_eager [21] (fun w' => ∃ x : Xt wr, w' = x.1) (by kernel_rfl) ⟨⟨wr.drew, hbw⟩, rfl⟩ ?_
          refine wpE_reads5 [0, 1, 2, 3, 4, 5, 6, 7, 8, 9, 10, 11, 12, 13, 14, 15, 16, 17, 18, 19, 20] 1 rfl (by kernel_rfl) ?_
          simp only [opsAt_nil, opsAt_cons, consOpt_some, List.getElem?_toArray, List.getElem?_cons_zero, List.getElem?_cons_succ]
          repeat (go_big_quiet_step (fail))
          refine wpQuiet_nil ?_
          show wpE _ _ _ _ _ _ _ _ _ wr.drew
          clear x0 x1 x2 p0 p1 s0 GE hbw HOF HBG
          generalize wr.drew = w3 at *
          refine wpE_tail rfl (by kernel_rfl) ?_
          simp only [opsAt_nil, opsAt_cons, consOpt_some, List.getElem?_toArray, List.getElem?_cons_zero, List.getElem?_cons_succ]
          have hcB := own_cell (i := v) HOF2.out (v := .int .i64 (gt A v)) (by rw [intCells, List.getElem?_map, gt_some (by omega)]; rfl)
          obtain ⟨s0, t0, _, _⟩ := hcB
          have GG := Lib.hid (GF.belowX (V := w3.setCell ⟨gF, v, none⟩ (.int .i64 (y + dby))) ((Below.refl _ _).setCell (p := ⟨gF, v, none⟩) (show w.heap.size + 1 ≤ gF by omega) _))
          have HOF3 : Hid ((w3.setCell ⟨gF, v, none⟩ (.int .i64 (y + dby))).ownsRow bF 3 1 (.slice (some ⟨gF, 0, none⟩) nt cF) nt (intCells (A.set v (y + dby)))) := by
            rw [Hid, ← intCells_set]
            exact own_set HOF2.out _
          have HBG3 := Lib.hid (HBG2.out.setCell (p := ⟨gF, v, none⟩) hgF1 (.int .i64 (y + dby)))
          clear GF hq1 hq2 hd3 hd4
          go_wp2
          refine onlyNormal_mk ?_
          go_wp2
          go_roundw
          case rel =>
            refine ⟨j + 1, A.set v (y + dby), by omega, by go_num, ?_, ?_, GG.out, HOF3.out, HBG3.out⟩
            · rw [← HAD.out, HDD.out]
              simp only [Int.toNat_natCast, HY0.out]
            · intro u hu
              rw [gt_set (by omega)]
              have e9 : ((j + 1 : Nat) : Int) = (j : Int) + 1 := by omega
              rw [e9]
              by_cases huv : u = v
              · rw [if_pos huv]
                exact HY.out
              · rw [if_neg huv]
                have := HBD.out u hu
                omega
          case measure => simp [intOf]; omega
        · obtain rfl : j = nd := by omega
          have hA1 : A = addD ds times := by
            rw [← HAD.out, List.drop_eq_nil_iff.2 (by rw [HLD.out]; exact Nat.le_refl _)]
            rfl
          subst hA1
          have hNL := HNL.out.below HBG.out
          have hXw := HXw.out.below (HBG.out.mono (Nat.le_of_lt hx7w))
          have k7 := (HBG.out.block x7 hx7w).trans HK7.out
          have k9 := (HBG.out.block x9 hsx).trans HK9.out
          have hFr := Rd_of_own HOF.out
          have hbFw : bF ≤ wr.heap.size := Nat.le_trans hgF1 (Nat.le_of_lt hgF2)
          clear HAD HBD HNL HXw HK7 HK9 HOF HBG hownF GD
          generalize wr = wT at *
          obtain ⟨d0, d1⟩ := cells2 GE.blk
          obtain ⟨V, hV⟩ : ∃ V, timesE nt (addD ds times) = V := ⟨_, rfl⟩
          have TE := TimesErr_any wT Ae nt ce Aa k ca wT.heap.size (some ⟨gF, 0, none⟩) nt cF (addD ds times) (by omega) hlA hFr (Nat.le_refl _)
          rw [hV] at TE
          unfold netV at TE
          go_upto_region 21 with (fail)
          go_wp2_with (go_at_call 15; refine stp ?_)
          unfold Stp
          refine TE.mono ?_
          rintro e w14 ⟨rfl, hb14⟩
          have GF := GE.below hb14
          have HL14 := Lib.hid GF.low
          by_cases hv : V = 0
          case neg =>
            have hv' : (V != 0) = true := bne_iff_ne.2 hv
            clear GF GE hV hb14 TE
            go_wp2
            go_ret
            exact ⟨rfl, HL14.out⟩
          obtain ⟨_, hFR⟩ := timesE_zero.1 (hV.trans hv)
          subst hv
          have EAR := late_early HLF.out hac HRL.out hlA (fun v hv => (HTR.out (gt times v) (List.mem_of_getElem? (gt_some (by rw [HLT.out]; exact hv)))).1)
          have hX0 : ∀ v, v < nt → 0 ≤ gt X v := fun v hv => by
            have h1 := HLF.out.up v hv
            have h2 := (hFR (gt (addD ds times) v) (List.mem_of_getElem? (gt_some (by omega)))).1
            omega
          have HX0 := Lib.hid hX0
          replace hNL := (hNL.below (hb14.mono hbFw)).mono (Nat.le_trans hbFw hb14.size)
          replace hXw := hXw.below (hb14.mono (Nat.le_trans (Nat.le_of_lt hx7w) hbFw))
          replace k7 := blk hb14 k7
          replace k9 := blk hb14 k9
          replace hFr := (hFr.below hb14).mono hb14.size
          have HFR := Lib.hid hFR
          have HEAR := Lib.hid EAR
          clear hV TE d0 d1 GE hb14 hX0 hFR EAR hgF1 hgF2
          generalize hFF : addD ds times = F at *
          have hx7z : x7 ≤ w14.heap.size := Nat.le_of_lt (Array.getElem?_eq_some_iff.1 k7).1
          have hx9z : x9 < w14.heap.size := (Array.getElem?_eq_some_iff.1 k9).1
          have CPL := fun (W : World) (B : Nat) (h : NetAt W B A5 Al nt c5 ml evs (leftM times X acts)) (hB : B ≤ W.heap.size) => refCopy_any W B A5 Al nt c5 ml cl evs (leftM times X acts) h.le h.la (by omega) (by omega) h.re h.ra hB
          have EAL := fun (W : World) (A1 A2 : Option Addr) (c1 c2 : Nat) (h : NetAt W W.heap.size A1 A2 nt c1 ml evs (leftM times X acts)) (At : Option Addr) (ct : Nat) (ht : Rd W W.heap.size At (intCells F)) => Earliest_large W W.heap.size A1 A2 nt c1 ml c2 evs (leftM times X acts) h (Nat.le_refl _) HRLf.out At ct F hlA ht HFR.out
          rw [HEAR.out] at EAL
          unfold netV at EAL
          obtain ⟨m0, m1⟩ := cells2 k9
          go_wp2_with (go_at_call 10; refine stp ?_)
          unfold Stp
          refine (CPL w14 _ hNL (Nat.le_refl _)).mono ?_
          rintro e w15 ⟨A7, c7, A8, c8, rfl, hc7, hr7, hr8, hb15⟩
          have N15 : NetAt w15 w15.heap.size A7 A8 nt c7 ml evs (leftM times X acts) := ⟨hNL.le, hNL.la, hr7, hr8, HSZ.out, hc7⟩
          have GG := GF.below hb15
          replace hNL := (hNL.below hb15).mono hb15.size
          replace hXw := hXw.below (hb15.mono hx7z)
          replace k7 := blk hb15 k7
          replace k9 := blk hb15 k9
          replace hFr := (hFr.below hb15).mono hb15.size
          clear m0 m1 GF hr7 hr8 hc7 HL14 hx7z hx9z hb15
          go_wp2_with (go_at_call 16; refine stp ?_)
          unfold Stp
          refine (EAL w15 _ _ _ _ N15 _ _ hFr).mono ?_
          rintro e w16 ⟨hE, hb16⟩
          have GH := GG.below hb16
          have HL16 := Lib.hid GH.low
          replace hNL := (hNL.below hb16).mono hb16.size
          replace hXw := hXw.below (hb16.mono (Nat.le_of_lt (Array.getElem?_eq_some_iff.1 k7).1))
          replace k7 := blk hb16 k7
          replace k9 := blk hb16 k9
          clear GG N15 hFr hb16 EAL
          rcases hE with ⟨h9, _⟩ | ⟨_, rfl⟩ | ⟨_, A9, c9, qs, hq, hql, rfl, hr9, hq9⟩
          · cases h9
          · clear GH hNL hXw k7 k9
            go_wp2
            go_ret
            exact ⟨rfl, HL16.out⟩
          have hqX : qs = X := by
            have h9 : X.map some = qs.map some := hq
            have h8 := congrArg (List.map fun o : Option Int => o.getD 0) h9
            rw [List.map_map, List.map_map, show ((fun o : Option Int => o.getD 0) ∘ some) = id from rfl, List.map_id, List.map_id] at h8
            exact h8.symm
          subst hqX
          have hXr : ∀ t ∈ qs, 0 ≤ t ∧ t ≤ 10000000 := fun t ht => by
            obtain ⟨i, hi⟩ := List.mem_iff_getElem?.1 ht
            have hil := (List.getElem?_eq_some_iff.1 hi).1
            have h1 := HX0.out i (by omega)
            rw [gt_at hi] at h1
            exact ⟨h1, hq9 t ht⟩
          have HXR := Lib.hid hXr
          clear hq hq9 hXr
          obtain ⟨e0, e1⟩ := cells2 k7
          have hx7z : x7 ≤ w16.heap.size := Nat.le_of_lt (Array.getElem?_eq_some_iff.1 k7).1
          have IN := Ints_same A9 (some ⟨gA, 0, none⟩) nt c9 cA w16.heap.size x7 qs w16 (by omega) hql hr9 hXw (Nat.le_refl _) hx7z
          go_upto_region 28 with (go_at_call 17; refine IN.mono ?_; rintro e w17 ⟨rfl, hb17⟩)
          have GI := GH.below hb17
          have hNL17 := (hNL.below hb17).mono hb17.size
          have hXw17 := hXw.below (hb17.mono hx7z)
          replace k7 := blk hb17 k7
          replace k9 := blk hb17 k9
          clear IN hNL hXw e0 e1 hr9 hx7z GH HL16 hb17
          have hx7z : x7 ≤ w17.heap.size := Nat.le_of_lt (Array.getElem?_eq_some_iff.1 k7).1
          have CKT := fun (W : World) (A1 A2 : Option Addr) (c1 c2 : Nat) (h : NetAt W W.heap.size A1 A2 nt c1 ml evs (leftM times qs acts)) (At : Option Addr) (ct : Nat) (ht : Rd W W.heap.size At (intCells qs)) => CheckTimes_any W W.heap.size A1 A2 nt c1 ml c2 evs (leftM times qs acts) h (Nat.le_refl _) HRLf.out W.heap.size At ct qs hql ht (Nat.le_refl _) HXR.out
          rw [idxGo_none (leftM times qs acts) 0 (left_kept HLF.out.kp)] at CKT
          have CKT2 : ∀ (W : World) (A1 A2 : Option Addr) (c1 c2 : Nat) (h : NetAt W W.heap.size A1 A2 nt c1 ml evs (leftM times qs acts)) (At : Option Addr) (ct : Nat) (ht : Rd W W.heap.size At (intCells qs)), Calls Tryz.prog 18 #[netV A1 nt c1 A2 ml c2, .slice At nt ct] W (fun e w' => e = .returned (.tuple #[.int .i64 0, .int .i64 0]) ∧ Below W.heap.size W w') := fun W A1 A2 c1 c2 h At ct ht => (CKT W A1 A2 c1 c2 h At ct ht).mono fun e w' hp => ⟨by simpa [CtPost] using hp.1, hp.2⟩
          clear CKT
          unfold netV at CKT2
          have CI2 := fun (W : World) (hb : Below w17.heap.size w17 W) => CopyInts_any W x7 (some ⟨gA, 0, none⟩) nt cA qs hql (by omega) (hXw17.below (hb.mono hx7z)) (Nat.le_trans hx7z hb.size)
          have LA2 := fun (W : World) (hb : Below w17.heap.size w17 W) (A3 : Option Addr) (c3 : Nat) (ht : Rd W W.heap.size A3 (intCells qs)) => Late_again W A5 Al A3 nt c5 ml cl c3 evs acts times qs ((hNL17.below hb).mono hb.size) HRLf.out hac hml30 hql ht HXR.out HLF.out.kp
          unfold netV at LA2
          obtain ⟨e0, e1⟩ := cells2 k7
          obtain ⟨m0, m1⟩ := cells2 k9
          have hbd : Below w17.heap.size w17 w17.drew := (Below.refl _ _).drew
          have x0 := fun z : Xt w17 => z.cell e0
          have x1 := fun z : Xt w17 => z.cell m0
          have x2 := fun z : Xt w17 => z.cell m1
          refine wp_region_eager [10] (fun w' => ∃ x : Xt w17, w' = x.1) (by kernel_rfl) ⟨⟨w17.drew, hbd⟩, rfl⟩ ?_
          refine wpE_reads5 [0, 2, 3] 8 rfl (by kernel_rfl) ?_
          simp only [opsAt_nil, opsAt_cons, consOpt_some, List.getElem?_toArray, List.getElem?_cons_zero, List.getElem?_cons_succ]
          repeat (go_big_quiet_step (fail))
          refine wpQuiet_nil ?_
          show wpE _ _ _ _ _ _ _ _ _ w17.drew
          clear x0 x1 x2 e0 e1 m0 m1
          generalize w17.drew = wd at *
          refine wpE_one (i := 1) rfl (by kernel_rfl) rfl ?_
          unfold wpMid
          simp only [opsAt_nil, opsAt_cons, consOpt_some, List.getElem?_toArray, List.getElem?_cons_zero, List.getElem?_cons_succ]
          go_wp2_with (go_at_call 10; refine (CPL wd _ (hNL17.below hbd) hbd.size).mono ?_; rintro e w18 ⟨A1, c1, A2, c2, rfl, hcc, hr1, hr2, hb18⟩)
          have N18 : NetAt w18 w18.heap.size A1 A2 nt c1 ml evs (leftM times qs acts) := ⟨hNL17.le, hNL17.la, hr1, hr2, HSZ.out, hcc⟩
          have hbe := hbd.trans (hb18.mono hbd.size)
          refine onlyNormal_mk ⟨⟨⟨_, hbe⟩, rfl⟩, ?_⟩
          refine wpE_one (i := 4) rfl (by kernel_rfl) rfl ?_
          unfold wpMid
          simp only [opsAt_nil, opsAt_cons, consOpt_some, List.getElem?_toArray, List.getElem?_cons_zero, List.getElem?_cons_succ]
          go_wp2_with (go_at_call 11; refine (CI2 _ hbe).mono ?_; rintro e w19 ⟨A3, c3, rfl, hr3, hb19⟩)
          have N19 := (N18.below hb19).mono hb19.size
          have hbf := hbe.trans (hb19.mono hbe.size)
          refine onlyNormal_mk ⟨⟨⟨_, hbf⟩, rfl⟩, ?_⟩
          refine wpE_one (i := 5) rfl (by kernel_rfl) rfl ?_
          unfold wpMid
          simp only [opsAt_nil, opsAt_cons, consOpt_some, List.getElem?_toArray, List.getElem?_cons_zero, List.getElem?_cons_succ]
          go_wp2_with (go_at_call 18; refine (CKT2 _ _ _ _ _ N19 _ _ hr3).mono ?_; rintro e w20 ⟨rfl, hb20⟩)
          have hbg := hbf.trans (hb20.mono hbf.size)
          refine onlyNormal_mk ⟨⟨⟨_, hbg⟩, rfl⟩, ?_⟩
          refine wpE_reads [6, 7, 8, 9] 1 rfl (by kernel_rfl) ?_
          simp only [opsAt_nil, opsAt_cons, consOpt_some, List.getElem?_toArray, List.getElem?_cons_zero, List.getElem?_cons_succ]
          repeat (go_big_quiet_step (fail))
          refine wpQuiet_nil ?_
          refine wpE_tail rfl (by kernel_rfl) ?_
          simp only [opsAt_nil, opsAt_cons, consOpt_some, List.getElem?_toArray, List.getElem?_cons_zero, List.getElem?_cons_succ]
          have GJ := GI.below hbg
          replace hNL17 := (hNL17.below hbg).mono hbg.size
          replace hXw17 := hXw17.below (hbg.mono hx7z)
          replace k7 := blk hbg k7
          replace k9 := blk hbg k9
          clear GI CI2 LA2 CKT2 N18 N19 hr1 hr2 hr3 hb18 hb19 hb20 hbd hbe hbf hbg hx7z hcc
          go_wp2
          refine onlyNormal_mk ?_
          go_upto_region 29 with (fail)
          generalize w20 = w17 at *
          have hx7z : x7 ≤ w17.heap.size := Nat.le_of_lt (Array.getElem?_eq_some_iff.1 k7).1
          have CI2 := fun (W : World) (hb : Below w17.heap.size w17 W) => CopyInts_any W x7 (some ⟨gA, 0, none⟩) nt cA qs hql (by omega) (hXw17.below (hb.mono hx7z)) (Nat.le_trans hx7z hb.size)
          have LA2 := fun (W : World) (hb : Below w17.heap.size w17 W) (A3 : Option Addr) (c3 : Nat) (ht : Rd W W.heap.size A3 (intCells qs)) => Late_again W A5 Al A3 nt c5 ml cl c3 evs acts times qs ((hNL17.below hb).mono hb.size) HRLf.out hac hml30 hql ht HXR.out HLF.out.kp
          unfold netV at LA2
          obtain ⟨e0, e1⟩ := cells2 k7
          obtain ⟨m0, m1⟩ := cells2 k9
          go_cut [18, 19] from 158 to 165 (fun s1 s2 wc => LxR w17 nt qs s1 s2 wc)
          case first =>
            have hbx : Below w17.heap.size w17 w17.drew := (Below.refl _ _).drew
            have x0 := fun z : Xt w17 => z.cell e0
            have x1 := fun z : Xt w17 => z.cell m0
            have x2 := fun z : Xt w17 => z.cell m1
            refine wp_region_eager [10] (fun w' => ∃ x : Xt w17, w' = x.1) (by kernel_rfl) ⟨⟨w17.drew, hbx⟩, rfl⟩ ?_
            refine wpE_reads5 [0, 1, 2] 8 rfl (by kernel_rfl) ?_
            simp only [opsAt_nil, opsAt_cons, consOpt_some, List.getElem?_toArray, List.getElem?_cons_zero, List.getElem?_cons_succ]
            repeat (go_big_quiet_step (fail))
            refine wpQuiet_nil ?_
            show wpE _ _ _ _ _ _ _ _ _ w17.drew
            clear x0 x1 x2 e0 e1 m0 m1 k7 k9
            generalize w17.drew = vv at *
            refine wpE_two (i := 3) (k := 8) rfl (by kernel_rfl) rfl rfl ?_ ?_
            · unfold wpMid
              simp only [opsAt_nil, opsAt_cons, consOpt_some, List.getElem?_toArray, List.getElem?_cons_zero, List.getElem?_cons_succ]
              go_wp2_with (go_at_call 11; refine (CI2 _ hbx).mono ?_; rintro e vy ⟨A3, c3, rfl, hr3, hby⟩)
              replace hbx := hbx.trans (hby.mono hbx.size)
              clear hby
              refine onlyNormal_mk ⟨⟨⟨_, hbx⟩, rfl⟩, ?_⟩
              generalize vy = vv at *
              refine wpE_two (i := 4) (k := 8) rfl (by kernel_rfl) rfl rfl ?_ ?_
              · unfold wpMid
                simp only [opsAt_nil, opsAt_cons, consOpt_some, List.getElem?_toArray, List.getElem?_cons_zero, List.getElem?_cons_succ]
                go_wp2_with (go_at_call 9; refine (LA2 _ hbx _ _ hr3).mono ?_; rintro e vy ⟨g1, c1, Ag2, cg2, rfl, hrx, hby⟩)
                replace hbx := hbx.trans (hby.mono hbx.size)
                clear hby
                refine onlyNormal_mk ⟨⟨⟨_, hbx⟩, rfl⟩, ?_⟩
                generalize vy = vv at *
                refine wpE_reads [5, 6, 7] 3 rfl (by kernel_rfl) ?_
                simp only [opsAt_nil, opsAt_cons, consOpt_some, List.getElem?_toArray, List.getElem?_cons_zero, List.getElem?_cons_succ]
                repeat (go_big_quiet_step (fail))
                refine wpQuiet_nil ?_
                refine wpE_one (i := 8) rfl (by kernel_rfl) rfl ?_
                unfold wpMid
                simp only [opsAt_nil, opsAt_cons, consOpt_some, List.getElem?_toArray, List.getElem?_cons_zero, List.getElem?_cons_succ]
                go_wp2
                have k9 : (vv.alloc (.cells #[.slice none 0 0, .slice none 0 0] 34)).heap[vv.heap.size]? = some (.cells #[.slice none 0 0, .slice none 0 0] 34 (0, 0)) := by rw [heapq_alloc, if_pos rfl]
                have hby : Below vv.heap.size vv (vv.alloc (.cells #[.slice none 0 0, .slice none 0 0] 34)) := (Below.refl _ _).alloc (Nat.le_refl _) _
                have hg9 : w17.heap.size ≤ vv.heap.size := hbx.size
                replace hbx := hbx.trans (hby.mono hbx.size)
                replace hrx := (hrx.below hby).mono hby.size
                clear hby
                generalize vv.alloc (.cells #[.slice none 0 0, .slice none 0 0] 34) = vy at *
                generalize vv.heap.size = g9 at *
                refine onlyNormal_mk ⟨⟨⟨_, hbx⟩, rfl⟩, ?_⟩
                generalize vy = vv at *
                refine wpE_one (i := 9) rfl (by kernel_rfl) rfl ?_
                unfold wpMid
                simp only [opsAt_nil, opsAt_cons, consOpt_some, List.getElem?_toArray, List.getElem?_cons_zero, List.getElem?_cons_succ]
                obtain ⟨p0, p1, f0, f1⟩ := res2 k9
                have hbz : Below w17.heap.size w17 ((vv.setCell ⟨g9, 0, none⟩ (.slice (some ⟨g1, 0, none⟩) nt c1)).setCell ⟨g9, 1, none⟩ (.slice Ag2 0 cg2)) := (hbx.setCell (p := ⟨g9, 0, none⟩) hg9 _).setCell (p := ⟨g9, 1, none⟩) hg9 _
                have HBZ := Lib.hid hbz
                have HRZ := Lib.hid (rd_set2 (v0 := .slice (some ⟨g1, 0, none⟩) nt c1) (v1 := .slice Ag2 0 cg2) ⟨hrx, Nat.le_refl _, rd_neI hrx k9 (by simp) (by simp)⟩)
                have HKZ : Hid (((vv.setCell ⟨g9, 0, none⟩ (.slice (some ⟨g1, 0, none⟩) nt c1)).setCell ⟨g9, 1, none⟩ (.slice Ag2 0 cg2)).heap[g9]? = some (.cells #[.slice (some ⟨g1, 0, none⟩) nt c1, .slice Ag2 0 cg2] 34 (0, 0))) := by
                  simp only [Hid, heapq_set, if_pos, k9, Option.map_some]
                  rfl
                clear hbz hrx k9
                go_wp2
                refine onlyNormal_mk ⟨⟨⟨_, HBZ.out⟩, rfl⟩, ?_⟩
                refine wpE_tail rfl (by kernel_rfl) ?_
                simp only [opsAt_nil, opsAt_cons, consOpt_some, List.getElem?_toArray, List.getElem?_cons_zero, List.getElem?_cons_succ]
                go_wp2
                refine onlyNormal_mk ?_
                go_wp2_with fail
                go_meet
                exact ⟨g9, g1, c1, Ag2, cg2, rfl, rfl, HKZ.out, HRZ.out, HBZ.out⟩
              · unfold wpMid
                simp only [opsAt_nil, opsAt_cons, consOpt_some, List.getElem?_toArray, List.getElem?_cons_zero, List.getElem?_cons_succ]
                go_wp2
                have k9 : (vv.alloc (.cells #[.slice none 0 0, .slice none 0 0] 34)).heap[vv.heap.size]? = some (.cells #[.slice none 0 0, .slice none 0 0] 34 (0, 0)) := by rw [heapq_alloc, if_pos rfl]
                have hby : Below vv.heap.size vv (vv.alloc (.cells #[.slice none 0 0, .slice none 0 0] 34)) := (Below.refl _ _).alloc (Nat.le_refl _) _
                have hg9 : w17.heap.size ≤ vv.heap.size := hbx.size
                replace hbx := hbx.trans (hby.mono hbx.size)
                replace hr3 := (hr3.below hby).mono hby.size
                clear hby
                generalize vv.alloc (.cells #[.slice none 0 0, .slice none 0 0] 34) = vy at *
                generalize vv.heap.size = g9 at *
                refine onlyNormal_mk ⟨⟨⟨_, hbx⟩, rfl⟩, ?_⟩
                generalize vy = vv at *
                refine wpE_one (i := 4) rfl (by kernel_rfl) rfl ?_
                unfold wpMid
                simp only [opsAt_nil, opsAt_cons, consOpt_some, List.getElem?_toArray, List.getElem?_cons_zero, List.getElem?_cons_succ]
                go_wp2_with (go_at_call 9; refine (LA2 _ hbx _ _ hr3).mono ?_; rintro e vy ⟨g1, c1, Ag2, cg2, rfl, hrx, hby⟩)
                replace k9 := blk hby k9
                replace hbx := hbx.trans (hby.mono hbx.size)
                clear hby
                refine onlyNormal_mk ⟨⟨⟨_, hbx⟩, rfl⟩, ?_⟩
                generalize vy = vv at *
                refine wpE_reads [5, 6, 7] 2 rfl (by kernel_rfl) ?_
                simp only [opsAt_nil, opsAt_cons, consOpt_some, List.getElem?_toArray, List.getElem?_cons_zero, List.getElem?_cons_succ]
                repeat (go_big_quiet_step (fail))
                refine wpQuiet_nil ?_
                refine wpE_one (i := 9) rfl (by kernel_rfl) rfl ?_
                unfold wpMid
                simp only [opsAt_nil, opsAt_cons, consOpt_some, List.getElem?_toArray, List.getElem?_cons_zero, List.getElem?_cons_succ]
                obtain ⟨p0, p1, f0, f1⟩ := res2 k9
                have hbz : Below w17.heap.size w17 ((vv.setCell ⟨g9, 0, none⟩ (.slice (some ⟨g1, 0, none⟩) nt c1)).setCell ⟨g9, 1, none⟩ (.slice Ag2 0 cg2)) := (hbx.setCell (p := ⟨g9, 0, none⟩) hg9 _).setCell (p := ⟨g9, 1, none⟩) hg9 _
                have HBZ := Lib.hid hbz
                have HRZ := Lib.hid (rd_set2 (v0 := .slice (some ⟨g1, 0, none⟩) nt c1) (v1 := .slice Ag2 0 cg2) ⟨hrx, Nat.le_refl _, rd_neI hrx k9 (by simp) (by simp)⟩)
                have HKZ : Hid (((vv.setCell ⟨g9, 0, none⟩ (.slice (some ⟨g1, 0, none⟩) nt c1)).setCell ⟨g9, 1, none⟩ (.slice Ag2 0 cg2)).heap[g9]? = some (.cells #[.slice (some ⟨g1, 0, none⟩) nt c1, .slice Ag2 0 cg2] 34 (0, 0))) := by
                  simp only [Hid, heapq_set, if_pos, k9, Option.map_some]
                  rfl
                clear hbz hrx k9
                go_wp2
                refine onlyNormal_mk ⟨⟨⟨_, HBZ.out⟩, rfl⟩, ?_⟩
                refine wpE_tail rfl (by kernel_rfl) ?_
                simp only [opsAt_nil, opsAt_cons, consOpt_some, List.getElem?_toArray, List.getElem?_cons_zero, List.getElem?_cons_succ]
                go_wp2
                refine onlyNormal_mk ?_
                go_wp2_with fail
                go_meet
                exact ⟨g9, g1, c1, Ag2, cg2, rfl, rfl, HKZ.out, HRZ.out, HBZ.out⟩
            · unfold wpMid
              simp only [opsAt_nil, opsAt_cons, consOpt_some, List.getElem?_toArray, List.getElem?_cons_zero, List.getElem?_cons_succ]
              go_wp2
              have k9 : (vv.alloc (.cells #[.slice none 0 0, .slice none 0 0] 34)).heap[vv.heap.size]? = some (.cells #[.slice none 0 0, .slice none 0 0] 34 (0, 0)) := by rw [heapq_alloc, if_pos rfl]
              have hby : Below vv.heap.size vv (vv.alloc (.cells #[.slice none 0 0, .slice none 0 0] 34)) := (Below.refl _ _).alloc (Nat.le_refl _) _
              have hg9 : w17.heap.size ≤ vv.heap.size := hbx.size
              replace hbx := hbx.trans (hby.mono hbx.size)
              clear hby
              generalize vv.alloc (.cells #[.slice none 0 0, .slice none 0 0] 34) = vy at *
              generalize vv.heap.size = g9 at *
              refine onlyNormal_mk ⟨⟨⟨_, hbx⟩, rfl⟩, ?_⟩
              generalize vy = vv at *
              refine wpE_one (i := 3) rfl (by kernel_rfl) rfl ?_
              unfold wpMid
              simp only [opsAt_nil, opsAt_cons, consOpt_some, List.getElem?_toArray, List.getElem?_cons_zero, List.getElem?_cons_succ]
              go_wp2_with (go_at_call 11; refine (CI2 _ hbx).mono ?_; rintro e vy ⟨A3, c3, rfl, hr3, hby⟩)
              replace k9 := blk hby k9
              replace hbx := hbx.trans (hby.mono hbx.size)
              clear hby
              refine onlyNormal_mk ⟨⟨⟨_, hbx⟩, rfl⟩, ?_⟩
              generalize vy = vv at *
              refine wpE_one (i := 4) rfl (by kernel_rfl) rfl ?_
              unfold wpMid
              simp only [opsAt_nil, opsAt_cons, consOpt_some, List.getElem?_toArray, List.getElem?_cons_zero, List.getElem?_cons_succ]
              go_wp2_with (go_at_call 9; refine (LA2 _ hbx _ _ hr3).mono ?_; rintro e vy ⟨g1, c1, Ag2, cg2, rfl, hrx, hby⟩)
              replace k9 := blk hby k9
              replace hbx := hbx.trans (hby.mono hbx.size)
              clear hby
              refine onlyNormal_mk ⟨⟨⟨_, hbx⟩, rfl⟩, ?_⟩
              generalize vy = vv at *
              refine wpE_reads [5, 6, 7] 2 rfl (by kernel_rfl) ?_
              simp only [opsAt_nil, opsAt_cons, consOpt_some, List.getElem?_toArray, List.getElem?_cons_zero, List.getElem?_cons_succ]
              repeat (go_big_quiet_step (fail))
              refine wpQuiet_nil ?_
              refine wpE_one (i := 9) rfl (by kernel_rfl) rfl ?_
              unfold wpMid
              simp only [opsAt_nil, opsAt_cons, consOpt_some, List.getElem?_toArray, List.getElem?_cons_zero, List.getElem?_cons_succ]
              obtain ⟨p0, p1, f0, f1⟩ := res2 k9
              have hbz : Below w17.heap.size w17 ((vv.setCell ⟨g9, 0, none⟩ (.slice (some ⟨g1, 0, none⟩) nt c1)).setCell ⟨g9, 1, none⟩ (.slice Ag2 0 cg2)) := (hbx.setCell (p := ⟨g9, 0, none⟩) hg9 _).setCell (p := ⟨g9, 1, none⟩) hg9 _
              have HBZ := Lib.hid hbz
              have HRZ := Lib.hid (rd_set2 (v0 := .slice (some ⟨g1, 0, none⟩) nt c1) (v1 := .slice Ag2 0 cg2) ⟨hrx, Nat.le_refl _, rd_neI hrx k9 (by simp) (by simp)⟩)
              have HKZ : Hid (((vv.setCell ⟨g9, 0, none⟩ (.slice (some ⟨g1, 0, none⟩) nt c1)).setCell ⟨g9, 1, none⟩ (.slice Ag2 0 cg2)).heap[g9]? = some (.cells #[.slice (some ⟨g1, 0, none⟩) nt c1, .slice Ag2 0 cg2] 34 (0, 0))) := by
                simp only [Hid, heapq_set, if_pos, k9, Option.map_some]
                rfl
              clear hbz hrx k9
              go_wp2
              refine onlyNormal_mk ⟨⟨⟨_, HBZ.out⟩, rfl⟩, ?_⟩
              refine wpE_tail rfl (by kernel_rfl) ?_
              simp only [opsAt_nil, opsAt_cons, consOpt_some, List.getElem?_toArray, List.getElem?_cons_zero, List.getElem?_cons_succ]
              go_wp2
              refine onlyNormal_mk ?_
              go_wp2_with fail
              go_meet
              exact ⟨g9, g1, c1, Ag2, cg2, rfl, rfl, HKZ.out, HRZ.out, HBZ.out⟩
          case rest =>
          obtain ⟨g18, g1, c18, Ag2, cg2, rfl, rfl, k18, hrx, hb⟩ := hcut
          have GK := GJ.below hb
          replace k7 := blk hb k7
          have hXw18 := hXw17.below (hb.mono hx7z)
          have hx7y : x7 ≤ wc.heap.size := Nat.le_trans hx7z hb.size
          clear GJ hb CI2 LA2 e0 e1 m0 m1 hNL17 hXw17
          have HLZ := Lib.hid GK.low
          have hsl := GK.low.size
          obtain ⟨e0, e1⟩ := cells2 k7
          obtain ⟨m0, m1⟩ := cells2 k18
          have IN := Ints_same (some ⟨g1, 0, none⟩) (some ⟨gA, 0, none⟩) nt c18 cA wc.heap.size x7 qs wc (by omega) hql hrx hXw18 (Nat.le_refl _) hx7y
          clear GK
          go_wp2_with (go_at_call 17; refine stp ?_)
          unfold Stp
          refine IN.mono ?_
          rintro e w21 ⟨rfl, hb21⟩
          replace m0 := kept hb21 m0
          replace m1 := kept hb21 m1
          have HLY := Lib.hid (HLZ.out.trans (hb21.mono hsl))
          clear hb21 IN e0 e1 hrx hXw18
          go_wp2
          go_ret
          exact ⟨rfl, HLY.out⟩
end Go.Proofs.YtnnnpijepdjanaaGreat
