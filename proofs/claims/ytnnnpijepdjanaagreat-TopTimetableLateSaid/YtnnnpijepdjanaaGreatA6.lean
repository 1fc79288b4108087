/- The reference of nets: where a net is wrong. -/
import Derived.Test.YtnnnpijepdjanaaGreatA5
namespace Go.Proofs.YtnnnpijepdjanaaGreat
open Go.RowKit

def evGo : List ByteArray → List ByteArray → Int
  | _, [] => 0
  | pre, s :: l => if nameB s = false then 4 else if hasT pre s = true then 5 else evGo (pre ++ [s]) l
def actGo (m : Nat) : List Act → Int
  | [] => 0
  | a :: l => if actE m a = 0 then actGo m l else actE m a
def netE (evs : List ByteArray) (acts : List Act) : Int :=
  if evs.length = 0 then 10 else if 16 < evs.length then 8 else if evGo [] evs ≠ 0 then evGo [] evs else if 30 < acts.length then 8 else actGo evs.length acts
/-- a right net -/
structure NetR (evs : List ByteArray) (acts : List Act) : Prop where
  e1 : 1 ≤ evs.length
  e2 : evs.length ≤ 16
  ev : evGo [] evs = 0
  a1 : acts.length ≤ 30
  ac : ∀ a ∈ acts, actR evs.length a
theorem actGo_zero {m : Nat} : ∀ {l : List Act}, actGo m l = 0 ↔ ∀ a ∈ l, actR m a
  | [] => by simp [actGo]
  | a :: l => by
    rw [actGo, List.forall_mem_cons, ← actGo_zero, ← actE_zero]
    by_cases h : actE m a = 0
    · rw [if_pos h]
      simp [h]
    · rw [if_neg h]
      simp [h]
theorem netE_zero {evs : List ByteArray} {acts : List Act} : netE evs acts = 0 ↔ NetR evs acts := by
  unfold netE
  by_cases h1 : evs.length = 0
  · rw [if_pos h1]
    exact ⟨fun h => by omega, fun h => by have := h.e1; omega⟩
  rw [if_neg h1]
  by_cases h2 : 16 < evs.length
  · rw [if_pos h2]
    exact ⟨fun h => by omega, fun h => by have := h.e2; omega⟩
  rw [if_neg h2]
  by_cases h3 : evGo [] evs ≠ 0
  · rw [if_pos h3]
    exact ⟨fun h => absurd h h3, fun h => absurd h.ev h3⟩
  rw [if_neg h3]
  by_cases h4 : 30 < acts.length
  · rw [if_pos h4]
    exact ⟨fun h => by omega, fun h => by have := h.a1; omega⟩
  rw [if_neg h4, actGo_zero]
  exact ⟨fun h => ⟨by omega, by omega, Decidable.byContradiction h3, by omega, h⟩, fun h => h.ac⟩
theorem refIsName_val (s : ByteArray) (b : Bool) (hb : nameB s = b) (hs9 : s.size ≤ 1000000000) (w : World) : Calls Tryz.prog 39 #[.string s] w fun e w' => e = .returned (.bool b) ∧ w = w' := by
  rw [← hb]
  exact refIsName_any s hs9 w
theorem HasText_val (A : Option Addr) (n c B : Nat) (l : List ByteArray) (s : ByteArray) (b : Bool) (hb : hasT l s = b) (w : World) (hn : n ≤ 1000000000) (hl : l.length = n) (h : Rd w B A (strCells l)) :
    Calls Tryz.prog 40 #[.slice A n c, .string s] w fun e w' => e = .returned (.bool b) ∧ w = w' := by
  rw [← hb]
  exact HasText_any A n c B l s w hn hl h
/-- a net in memory -/
structure NetAt (w : World) (B : Nat) (Ae Aa : Option Addr) (ne ce na : Nat) (evs : List ByteArray) (acts : List Act) : Prop where
  le : evs.length = ne
  la : acts.length = na
  re : Rd w B Ae (strCells evs)
  ra : Rd w B Aa (actCells acts)
  hz : ∀ s ∈ evs, s.size ≤ 20
  hc : ne ≤ ce
theorem NetAt.below {w w' : World} {B : Nat} {Ae Aa : Option Addr} {ne ce na : Nat} {evs : List ByteArray} {acts : List Act} (h : NetAt w B Ae Aa ne ce na evs acts) (hb : Below B w w') : NetAt w' B Ae Aa ne ce na evs acts :=
  ⟨h.le, h.la, h.re.below hb, h.ra.below hb, h.hz, h.hc⟩
theorem NetAt.mono {w : World} {B B' : Nat} {Ae Aa : Option Addr} {ne ce na : Nat} {evs : List ByteArray} {acts : List Act} (h : NetAt w B Ae Aa ne ce na evs acts) (hB : B ≤ B') : NetAt w B' Ae Aa ne ce na evs acts :=
  ⟨h.le, h.la, h.re.mono hB, h.ra.mono hB, h.hz, h.hc⟩

theorem cells2 {W : World} {r t : Nat} {a0 a1 : Value} (h : W.heap[r]? = some (.cells #[a0, a1] t (0, 0))) : W.cell? ⟨r, 0, none⟩ = some a0 ∧ W.cell? ⟨r, 1, none⟩ = some a1 := by
  refine ⟨?_, ?_⟩ <;> rw [cell_of_row _ _ _ _ _ _ h] <;> rfl
theorem res2 {W : World} {r t : Nat} {a0 a1 : Value} (h : W.heap[r]? = some (.cells #[a0, a1] t (0, 0))) :
    W.cell? ⟨r, 0, none⟩ = some a0 ∧ W.cell? ⟨r, 1, none⟩ = some a1 ∧ W.frozen? ⟨r, 0, none⟩ = false ∧ W.frozen? ⟨r, 1, none⟩ = false := by
  refine ⟨?_, ?_, frozen_of_row _ _ _ _ _ h, frozen_of_row _ _ _ _ _ h⟩ <;> rw [cell_of_row _ _ _ _ _ _ h] <;> rfl
theorem put2_below {W : World} {B y : Nat} (a0 a1 : Value) (h : B ≤ y) : Below B W ((W.setCell ⟨y, 0, none⟩ a0).setCell ⟨y, 1, none⟩ a1) :=
  ((Below.refl B W).setCell (p := ⟨y, 0, none⟩) h _).setCell (p := ⟨y, 1, none⟩) h _
theorem blk {W W' : World} {b : Nat} {o : Obj} (hb : Below W.heap.size W W') (h : W.heap[b]? = some o) : W'.heap[b]? = some o :=
  (hb.block b (Array.getElem?_eq_some_iff.1 h).1).trans h
/-- an error, beside a mark -/
def MarkPost (w : World) (E : Int) (e : Ending) (w' : World) : Prop := ∃ a b, e = .returned (.tuple #[.agg #[.int .i64 a, .int .i64 b], .int .i64 E]) ∧ Below w.heap.size w w'
def CnRel (w0 : World) (evs : List ByteArray) (n : Nat) (V : Int) (u : Value) (wr : World) : Prop := ∃ k : Nat, k ≤ n ∧ u = .int .i64 k ∧ evGo (evs.take k) (evs.drop k) = V ∧ Below w0.heap.size w0 wr
def CaRel (w0 : World) (acts : List Act) (m n : Nat) (V : Int) (u : Value) (wr : World) : Prop := ∃ k : Nat, k ≤ n ∧ u = .int .i64 k ∧ actGo m (acts.drop k) = V ∧ Below w0.heap.size w0 wr
set_option maxRecDepth 100000 in
set_option maxHeartbeats 4000000 in
theorem refCheckNet_any (w : World) (B : Nat) (Ae Aa : Option Addr) (ne ce na ca : Nat) (evs : List ByteArray) (acts : List Act) (h : NetAt w B Ae Aa ne ce na evs acts) (hB : B ≤ w.heap.size) (hn : ne ≤ 1000000000) (hna : na ≤ 1000000000) :
    Calls Tryz.prog 21 #[netV Ae ne ce Aa na ca] w (MarkPost w (netE evs acts)) := by
  unfold netV
  have HE : Hid (evs.length = ne) := h.le
  have HA : Hid (acts.length = na) := h.la
  have k0 : (((w.alloc (.cells #[.slice Ae ne ce, .slice Aa na ca] 25)).alloc (.cells #[.int .i64 0, .int .i64 0] 58)).alloc (.cells #[.int .i64 0, .int .i64 0] 58)).heap[w.heap.size]? = some (.cells #[.slice Ae ne ce, .slice Aa na ca] 25 (0, 0)) := by
    rw [heapq_alloc, if_neg (by simp; omega), heapq_alloc, if_neg (by simp), heapq_alloc, if_pos rfl]
  have k1 : (((w.alloc (.cells #[.slice Ae ne ce, .slice Aa na ca] 25)).alloc (.cells #[.int .i64 0, .int .i64 0] 58)).alloc (.cells #[.int .i64 0, .int .i64 0] 58)).heap[w.heap.size + 1]? = some (.cells #[.int .i64 0, .int .i64 0] 58 (0, 0)) := by
    rw [heapq_alloc, if_neg (by simp), heapq_alloc, if_pos (by simp)]
  have k2 : (((w.alloc (.cells #[.slice Ae ne ce, .slice Aa na ca] 25)).alloc (.cells #[.int .i64 0, .int .i64 0] 58)).alloc (.cells #[.int .i64 0, .int .i64 0] 58)).heap[w.heap.size + 1 + 1]? = some (.cells #[.int .i64 0, .int .i64 0] 58 (0, 0)) := by
    rw [heapq_alloc, if_pos (by simp)]
  have hb0 : Below w.heap.size w (((w.alloc (.cells #[.slice Ae ne ce, .slice Aa na ca] 25)).alloc (.cells #[.int .i64 0, .int .i64 0] 58)).alloc (.cells #[.int .i64 0, .int .i64 0] 58)) := (((Below.refl _ _).alloc (Nat.le_refl _) _).alloc (by simp) _).alloc (by simp; omega) _
  have hN := h.below (hb0.mono hB)
  have hB0 := Nat.le_trans hB hb0.size
  have hs := hb0.size
  have HB := Lib.hid hb0
  obtain ⟨V, hV⟩ : ∃ V, netE evs acts = V := ⟨_, rfl⟩
  rw [hV]
  have HV := Lib.hid hV
  clear hb0 h hV
  go_enter Tryz.func21, Tryz.ntmps21
  go_upto_region 2 with (fail)
  generalize (((w.alloc (.cells #[.slice Ae ne ce, .slice Aa na ca] 25)).alloc (.cells #[.int .i64 0, .int .i64 0] 58)).alloc (.cells #[.int .i64 0, .int .i64 0] 58)) = w0 at *
  obtain ⟨d0, d1⟩ := cells2 k0
  obtain ⟨r0, r1, q0, q1⟩ := res2 k1
  obtain ⟨n0, n1⟩ := cells2 k2
  by_cases h1 : ne = 0
  · subst h1
    go_wp2
    refine bodyPost_ret (v := .tuple #[.agg #[.int .i64 0, .int .i64 0], .int .i64 10]) (by simp [results, Tryz.results21, go_sem, r0, r1]) rfl ⟨0, 0, ?_, ?_⟩
    · rw [show V = 10 by rw [← HV.out, netE, if_pos HE.out]]
    · exact HB.out.trans (put2_below _ _ (Nat.le_succ _))
  have g1 : ((ne : Int) == 0) = false := beq_eq_false_iff_ne.2 (by omega)
  by_cases h2 : 16 < ne
  · have g2 : (16 : Int) < (ne : Int) := by omega
    go_wp2
    refine bodyPost_ret (v := .tuple #[.agg #[.int .i64 0, .int .i64 0], .int .i64 8]) (by simp [results, Tryz.results21, go_sem, r0, r1]) rfl ⟨0, 0, ?_, ?_⟩
    · rw [show V = 8 by rw [← HV.out, netE, if_neg (by rw [HE.out]; exact h1), if_pos (by rw [HE.out]; exact h2)]]
    · exact HB.out.trans (put2_below _ _ (Nat.le_succ _))
  have g2 : ¬(16 : Int) < (ne : Int) := by omega
  obtain ⟨EV, hEV⟩ : ∃ EV, evGo [] evs = EV := ⟨_, rfl⟩
  have HEV := Lib.hid hEV
  have HV1 : Hid (V = if EV ≠ 0 then EV else if 30 < acts.length then 8 else actGo evs.length acts) := by
    rw [Hid, ← HV.out, netE, if_neg (by rw [HE.out]; exact h1), if_neg (by rw [HE.out]; exact h2), hEV]
  clear HV hEV
  go_wp2
  go_loopw [5] (fun u wr => CnRel w0 evs ne EV u wr) (fun u _ => ne - (intOf u).toNat)
  case atStart => exact ⟨0, Nat.zero_le _, rfl, by rw [List.take_zero, List.drop_zero]; exact HEV.out, Below.refl _ _⟩
  case round =>
    clear HEV
    obtain ⟨k, hk, rfl, hgo, hb⟩ := hrel
    have HGO := Lib.hid hgo
    have HBW := Lib.hid (HB.out.trans (hb.mono hs))
    have HB0 := Lib.hid hb
    have hsz := hb.size
    replace d0 := kept hb d0
    replace d1 := kept hb d1
    replace r0 := kept hb r0
    replace r1 := kept hb r1
    replace n0 := kept hb n0
    replace n1 := kept hb n1
    replace k1 := blk hb k1
    replace q0 := (res2 k1).2.2.1
    replace q1 := (res2 k1).2.2.2
    have hN1 := hN.below (hb.mono hB0)
    clear hgo hb
    by_cases hlt : k < ne
    · have hkl : k < evs.length := by rw [HE.out]; exact hlt
      obtain ⟨x, hx⟩ : ∃ x, evs[k]? = some x := ⟨_, List.getElem?_eq_getElem hkl⟩
      obtain ⟨b, off, hAe, _, hc⟩ := hN1.re.at_ (k := k) (u := .string x) (by simp [strCells, hx])
      have hz : x.size ≤ 1000000000 := by
        have := hN.hz x (List.mem_of_getElem? hx)
        omega
      have hRt : Rd wr B Ae (strCells (evs.take k)) := fun j u hu => hN1.re j u (by
        unfold strCells at hu ⊢
        rw [List.getElem?_map] at hu ⊢
        rw [List.getElem?_take] at hu
        split at hu
        · exact hu
        · simp at hu)
      have HD := Lib.hid (drop_consE hx)
      have HT : Hid (evs.take k ++ [x] = evs.take (k + 1)) := by
        rw [Hid, List.take_add_one, hx]
        rfl
      have htl : (evs.take k).length = k := by rw [List.length_take]; omega
      have HTL := Lib.hid htl
      subst hAe
      clear hx hkl htl
      obtain ⟨bn, hbn⟩ : ∃ b, nameB x = b := ⟨_, rfl⟩
      have NM := fun W => refIsName_val x bn hbn hz W
      have HBN := Lib.hid hbn
      clear hbn
      cases bn with
      | false =>
        have HF : Hid (EV = 4) := by rw [Hid, ← HGO.out, HD.out, evGo, if_pos HBN.out]
        clear HGO
        go_wp2_with (go_at_call 39; refine (NM _).mono ?_; rintro e w' ⟨rfl, rfl⟩)
        refine bodyPost_ret (v := .tuple #[.agg #[.int .i64 1, .int .i64 k], .int .i64 4]) (by simp [results, Tryz.results21, go_sem, r0, r1]) rfl ⟨1, k, ?_, ?_⟩
        · rw [show V = 4 by rw [HV1.out, HF.out]; rfl]
        · exact HBW.out.trans (put2_below _ _ (Nat.le_succ _))
      | true =>
        obtain ⟨bt, hbt⟩ : ∃ b, hasT (evs.take k) x = b := ⟨_, rfl⟩
        have HBT := Lib.hid hbt
        have TX := fun (y : Xt wr) (c : Nat) => HasText_val (some ⟨b, off, none⟩) k c B (evs.take k) x bt hbt y.1 (by omega) HTL.out (hRt.below (y.2.mono (by omega)))
        have hkc : k ≤ ce := Nat.le_trans hk hN1.hc
        have x0 := fun y : Xt wr => y.cell d0
        have x1 := fun y : Xt wr => y.cell d1
        have x2 := fun y : Xt wr => y.cell hc
        clear hbt
        go_upto_region 11 with (go_at_call 39; refine (NM _).mono ?_; rintro e w' ⟨rfl, rfl⟩)
        refine wp_region_xt (by kernel_rfl) (by kernel_rfl) ?_
        repeat (go_big_quiet_step (first | (go_at_call 40; exact Xt.calls_same (TX _ _))))
        refine wpQuiet_nil ?_
        intro w1 hx
        have hb1 := Xt.below hx
        clear hx x0 x1 x2 TX NM
        replace r0 := kept hb1 r0
        replace r1 := kept hb1 r1
        replace k1 := blk hb1 k1
        replace q0 := (res2 k1).2.2.1
        replace q1 := (res2 k1).2.2.2
        have hsz2 := Nat.le_trans hs hsz
        replace HBW := Lib.hid (HBW.out.trans (hb1.mono hsz2))
        replace HB0 := Lib.hid (HB0.out.trans (hb1.mono hsz))
        clear hb1
        cases bt with
        | true =>
          have HF : Hid (EV = 5) := by rw [Hid, ← HGO.out, HD.out, evGo, if_neg (by rw [HBN.out]; decide), if_pos HBT.out]
          clear HGO
          go_wp2
          refine bodyPost_ret (v := .tuple #[.agg #[.int .i64 1, .int .i64 k], .int .i64 5]) (by simp [results, Tryz.results21, go_sem, r0, r1]) rfl ⟨1, k, ?_, ?_⟩
          · rw [show V = 5 by rw [HV1.out, HF.out]; rfl]
          · exact HBW.out.trans (put2_below _ _ (Nat.le_succ _))
        | false =>
          have HF : Hid (evGo (evs.take (k + 1)) (evs.drop (k + 1)) = EV) := by
            rw [Hid, ← HGO.out, HD.out, evGo, if_neg (by rw [HBN.out]; decide), if_neg (by rw [HBT.out]; decide), HT.out]
          clear HGO
          go_wp2
          go_roundw
          case rel => exact ⟨k + 1, by omega, by go_num, HF.out, HB0.out⟩
          case measure => simp [intOf]; omega
    · have hV0 : EV = 0 := by
        rw [← HGO.out, List.drop_eq_nil_iff.2 (by rw [HE.out]; omega)]
        rfl
      have HV2 : Hid (V = if 30 < na then 8 else actGo ne acts) := by
        rw [Hid, HV1.out, if_neg (fun h => h hV0), HA.out, HE.out]
      clear HGO HV1 hV0 HB0 hN
      by_cases h3 : 30 < na
      · have g3 : (30 : Int) < (na : Int) := by omega
        go_wp2
        refine bodyPost_ret (v := .tuple #[.agg #[.int .i64 0, .int .i64 0], .int .i64 8]) (by simp [results, Tryz.results21, go_sem, r0, r1]) rfl ⟨0, 0, ?_, ?_⟩
        · rw [show V = 8 by rw [HV2.out, if_pos h3]]
        · exact HBW.out.trans (put2_below _ _ (Nat.le_succ _))
      · have g3 : ¬(30 : Int) < (na : Int) := by omega
        have HV3 : Hid (actGo ne acts = V) := by rw [Hid, HV2.out, if_neg h3]
        have hs9 := Nat.le_trans hs hsz
        have hB9 := Nat.le_trans hB0 hsz
        clear HV2
        go_wp2
        go_loopw [6] (fun u wr2 => CaRel wr acts ne na V u wr2) (fun u _ => na - (intOf u).toNat)
        case atStart => exact ⟨0, Nat.zero_le _, rfl, by rw [List.drop_zero]; exact HV3.out, Below.refl _ _⟩
        case round =>
          clear HV3
          obtain ⟨j, hj, rfl, hgo, hb⟩ := hrel
          have HGO := Lib.hid hgo
          replace HBW := Lib.hid (HBW.out.trans (hb.mono hs9))
          have HB0 := Lib.hid hb
          have hsz3 := hb.size
          replace d0 := kept hb d0
          replace d1 := kept hb d1
          replace r0 := kept hb r0
          replace r1 := kept hb r1
          replace n0 := kept hb n0
          replace n1 := kept hb n1
          replace k1 := blk hb k1
          replace q0 := (res2 k1).2.2.1
          replace q1 := (res2 k1).2.2.2
          replace hN1 := hN1.below (hb.mono hB9)
          clear hgo hb
          by_cases hlt2 : j < na
          · have hjl : j < acts.length := by rw [HA.out]; exact hlt2
            obtain ⟨y, hy⟩ : ∃ y, acts[j]? = some y := ⟨_, List.getElem?_eq_getElem hjl⟩
            obtain ⟨b, off, hAa, _, c0, c1, c2, c3, c4, c5⟩ := hN1.ra.act hy
            have HD := Lib.hid (drop_consE hy)
            subst hAa
            obtain ⟨y0, y1, y2, y3, y4, y5⟩ := y
            simp only at c0 c1 c2 c3 c4 c5
            obtain ⟨AE, hAE⟩ : ∃ e, actE ne ⟨y0, y1, y2, y3, y4, y5⟩ = e := ⟨_, rfl⟩
            have HAE := Lib.hid hAE
            have TA := fun W => refActivityErr_any W Ae ne ce (some ⟨b, off, none⟩) na ca ⟨y0, y1, y2, y3, y4, y5⟩ hn
            rw [hAE] at TA
            simp only [netV, actV] at TA
            have x0 := fun q : Xt wr => q.cell d0
            have x1 := fun q : Xt wr => q.cell d1
            have x2 := fun q : Xt wr => q.cell c0
            have x3 := fun q : Xt wr => q.cell c1
            have x4 := fun q : Xt wr => q.cell c2
            have x5 := fun q : Xt wr => q.cell c3
            have x6 := fun q : Xt wr => q.cell c4
            have x7 := fun q : Xt wr => q.cell c5
            clear hAE hy hjl
            go_upto_region 18 with (fail)
            refine wp_region_xt (by kernel_rfl) (by kernel_rfl) ?_
            repeat (go_big_quiet_step (first | (go_at_call 41; exact Xt.calls (TA _))))
            refine wpQuiet_nil ?_
            intro w1 hx
            have hb1 := Xt.below hx
            clear hx x0 x1 x2 x3 x4 x5 x6 x7 TA c0 c1 c2 c3 c4 c5
            replace r0 := kept hb1 r0
            replace r1 := kept hb1 r1
            replace k1 := blk hb1 k1
            replace q0 := (res2 k1).2.2.1
            replace q1 := (res2 k1).2.2.2
            replace HBW := Lib.hid (HBW.out.trans (hb1.mono (Nat.le_trans hs9 hsz3)))
            replace HB0 := Lib.hid (HB0.out.trans (hb1.mono hsz3))
            clear hb1
            by_cases hA0 : AE = 0
            · subst hA0
              have HF : Hid (actGo ne (acts.drop (j + 1)) = V) := by
                rw [Hid, ← HGO.out, HD.out, actGo, if_pos HAE.out]
              clear HGO
              go_wp2
              go_roundw
              case rel => exact ⟨j + 1, by omega, by go_num, HF.out, HB0.out⟩
              case measure => simp [intOf]; omega
            · have HF : Hid (AE = V) := by
                rw [Hid, ← HGO.out, HD.out, actGo, HAE.out, if_neg hA0]
              have g9 : (AE != 0) = true := bne_iff_ne.2 hA0
              clear HGO
              go_wp2
              refine bodyPost_ret (v := .tuple #[.agg #[.int .i64 2, .int .i64 j], .int .i64 AE]) (by simp [results, Tryz.results21, go_sem, r0, r1]) rfl ⟨2, j, ?_, ?_⟩
              · rw [HF.out]
              · exact HBW.out.trans (put2_below _ _ (Nat.le_succ _))
          · have hV0 : V = 0 := by
              rw [← HGO.out, List.drop_eq_nil_iff.2 (by rw [HA.out]; omega)]
              rfl
            have HV0 := Lib.hid hV0
            clear hV0 HGO
            go_wp2
            refine bodyPost_ret (v := .tuple #[.agg #[.int .i64 0, .int .i64 0], .int .i64 0]) (by simp [results, Tryz.results21, go_sem, r0, r1]) rfl ⟨0, 0, ?_, ?_⟩
            · rw [HV0.out]
            · exact HBW.out.trans (put2_below _ _ (Nat.le_succ _))
end Go.Proofs.YtnnnpijepdjanaaGreat
