/- The ways of a net, handed on one by one. -/
import Derived.Test.YtnnnpijepdjanaaGreatB5
namespace Go.Proofs.YtnnnpijepdjanaaGreat
open Go Go.RowKit Go.Shelf
attribute [local go_sem] Oper.semAt_some

/-- a step: its activity, its direction, its way -/
abbrev Stp3 := Nat × Bool × Wy
def backS (i : Nat) (a : Act) : List Stp3 := if a.most = -1 then [] else [(i, true, backW a)]
def stepsGo : Nat → List Act → List Stp3
  | _, [] => []
  | i, a :: l => (i, false, fwdW a) :: (backS i a ++ stepsGo (i + 1) l)
def stepsM (l : List Act) : List Stp3 := stepsGo 0 l
theorem stepsGo_ways : ∀ (l : List Act) (i : Nat), (stepsGo i l).map (fun s => s.2.2) = waysM l
  | [], _ => rfl
  | a :: l, i => by
    have ih := stepsGo_ways l (i + 1)
    unfold waysM at ih ⊢
    rw [stepsGo, List.map_cons, List.map_append, ih, List.flatMap_cons, waysA, backS]
    split <;> rfl
theorem steps_ways (l : List Act) : (stepsM l).map (fun s => s.2.2) = waysM l := stepsGo_ways l 0
theorem stepsGo_len : ∀ (l : List Act) (i : Nat), (stepsGo i l).length ≤ 2 * l.length
  | [], _ => Nat.zero_le _
  | a :: l, i => by
    have := stepsGo_len l (i + 1)
    rw [stepsGo, List.length_cons, List.length_append, List.length_cons, backS]
    split <;> simp <;> omega
theorem drop_next {α : Type} {xs : List α} {k : Nat} {x : α} {t : List α} (h : xs.drop k = x :: t) : xs[k]? = some x ∧ xs.drop (k + 1) = t := by
  have hk : k < xs.length := by
    rcases Nat.lt_or_ge k xs.length with h1 | h1
    · exact h1
    · rw [List.drop_eq_nil_iff.2 h1] at h
      cases h
  rw [List.drop_eq_getElem_cons hk] at h
  simp only [List.cons.injEq] at h
  exact ⟨by rw [List.getElem?_eq_getElem hk, h.1], h.2⟩
def stEnc (s : Stp3) : Array Value := #[wayV s.1 s.2.1 s.2.2]
/-- what a round keeps: all below a bound, and boxes of nets -/
def KpW (B : Nat) (W W' : World) : Prop := Below B W W' ∧ ∀ (b : Nat) (cur : Array Value), W.heap[b]? = some (.cells cur 66 (0, 0)) → W'.heap[b]? = some (.cells cur 66 (0, 0))
theorem kpW_t {B : Nat} {X Y Z : World} (h : KpW B X Y) (k : KpW B Y Z) : KpW B X Z := ⟨h.1.trans k.1, fun b cur hb => k.2 b cur (h.2 b cur hb)⟩
theorem kpW_below {B : Nat} {W W' : World} (hB : B ≤ W.heap.size) (h : Below W.heap.size W W') : KpW B W W' := ⟨h.mono hB, fun _ _ hb => (h.block _ (Array.getElem?_eq_some_iff.1 hb).1).trans hb⟩
/-- new blocks, and nothing of the old has turned -/
def WayS (B y : Nat) (J : Nat → World → Prop) (Ae Aa : Option Addr) (ne ce na ca : Nat) (evs : List ByteArray) (acts : List Act) (k : Nat) (W : World) : Prop :=
  J k W ∧ W.heap[y]? = some (.cells #[.slice Ae ne ce, .slice Aa na ca] 66 (0, 0)) ∧ NetAt W B Ae Aa ne ce na evs acts ∧ B ≤ W.heap.size
theorem WayS.below {B y : Nat} {J : Nat → World → Prop} {Ae Aa : Option Addr} {ne ce na ca : Nat} {evs : List ByteArray} {acts : List Act} {k : Nat} {W W' : World} (hJ : ∀ k X Y, J k X → X.grownBy Y none → J k Y)
    (h : WayS B y J Ae Aa ne ce na ca evs acts k W) (hb : Below W.heap.size W W') : WayS B y J Ae Aa ne ce na ca evs acts k W' :=
  ⟨hJ _ _ _ h.1 (grown_of_below hb), blk hb h.2.1, h.2.2.1.below (hb.mono h.2.2.2), Nat.le_trans h.2.2.2 hb.size⟩
def WoRel (B y : Nat) (J : Nat → World → Prop) (Ae Aa : Option Addr) (ne ce na ca : Nat) (evs : List ByteArray) (acts : List Act) (u13 : Value) (wr : World) : Prop :=
  ∃ i k : Nat, i ≤ na ∧ u13 = .int .i64 i ∧ (stepsM acts).drop k = stepsGo i (acts.drop i) ∧ k ≤ (stepsM acts).length ∧ WayS B y J Ae Aa ne ce na ca evs acts k wr
def tailS (i : Nat) (a : Act) (l : List Act) : Nat → List Stp3
  | 0 => (i, false, fwdW a) :: (backS i a ++ stepsGo (i + 1) l)
  | 1 => backS i a ++ stepsGo (i + 1) l
  | _ => stepsGo (i + 1) l
def WiRel (B y : Nat) (J : Nat → World → Prop) (Ae Aa : Option Addr) (ne ce na ca : Nat) (evs : List ByteArray) (acts : List Act) (i : Nat) (a : Act) (u17 : Value) (wr : World) : Prop :=
  ∃ k : Nat, k ≤ (stepsM acts).length ∧ WayS B y J Ae Aa ne ce na ca evs acts k wr ∧ ((u17 = .int .i64 0 ∧ (stepsM acts).drop k = tailS i a (acts.drop (i + 1)) 0) ∨ (u17 = .int .i64 1 ∧ (stepsM acts).drop k = tailS i a (acts.drop (i + 1)) 1) ∨
    (u17 = .int .i64 2 ∧ (stepsM acts).drop k = tailS i a (acts.drop (i + 1)) 2))
theorem run_index0 (W : World) : Sem.run Tryz.prog (Instr.index 156 (.agg #[.bool false, .bool true]) (.int .i64 0)) W = .ok (.bool false) W := by kernel_rfl
theorem run_index1 (W : World) : Sem.run Tryz.prog (Instr.index 156 (.agg #[.bool false, .bool true]) (.int .i64 1)) W = .ok (.bool true) W := by kernel_rfl

set_option maxRecDepth 100000 in
set_option maxHeartbeats 8000000 in
theorem ways_gives (n : Nat) (hn : 1 ≤ n) (w : World) (B : Nat) (Ae Aa : Option Addr) (ne ce na ca : Nat) (evs : List ByteArray) (acts : List Act) (h : NetAt w B Ae Aa ne ce na evs acts) (hB : B ≤ w.heap.size) (hna : na ≤ 1000) (hR : ∀ a ∈ acts, actR ne a) :
    SeqAll Fence.wide n Tryz.prog 77 #[.agg #[.slice Ae ne ce, .slice Aa na ca]] stEnc (stepsM acts) (KpW B) w := by
  intro l J W hW hJ hY hJ0
  have HA : Hid (acts.length = na) := h.la
  have hro : Fence.wide.round = none := rfl
  have hb0 : Below W.heap.size W (W.alloc (.cells #[.slice Ae ne ce, .slice Aa na ca] 66)) := (Below.refl _ _).alloc (Nat.le_refl _) _
  have k0 : (W.alloc (.cells #[.slice Ae ne ce, .slice Aa na ca] 66)).heap[W.heap.size]? = some (.cells #[.slice Ae ne ce, .slice Aa na ca] 66 (0, 0)) := by rw [heapq_alloc, if_pos rfl]
  have hBW := Nat.le_trans hB hW.size
  have h0 : WayS B W.heap.size J Ae Aa ne ce na ca evs acts 0 (W.alloc (.cells #[.slice Ae ne ce, .slice Aa na ca] 66)) :=
    ⟨hJ _ _ _ hJ0 (grown_of_below hb0), k0, (h.below (hW.mono hB)).below (hb0.mono hBW), Nat.le_trans hBW hb0.size⟩
  have HS0 := Lib.hid h0
  obtain ⟨d0, d1⟩ := cells2 k0
  clear h hb0 k0 h0 hJ0
  refine callsIn_of_wp Tryz.func77 rfl trivial ?_ hro
  simp only [Tryz.ntmps77, List.size_toArray, List.length_cons, List.length_nil, Nat.reduceAdd, Nat.reduceSub, Array.replicate_succ, Array.replicate_zero, List.push_toArray, List.append_toArray, List.nil_append, List.cons_append]
  gi_wp2
  generalize W.alloc (.cells #[.slice Ae ne ce, .slice Aa na ca] 66) = w0 at *
  generalize W.heap.size = y at *
  clear d0 d1
  gi_loopw [13] (fun u13 wr => WoRel B y J Ae Aa ne ce na ca evs acts u13 wr) (fun u13 _ => na - (intOf u13).toNat)
  case atStart => exact ⟨0, 0, Nat.zero_le _, rfl, by rw [List.drop_zero, List.drop_zero]; rfl, Nat.zero_le _, HS0.out⟩
  case round =>
    clear HS0
    obtain ⟨i, k, hi, rfl, hdr, hkl, hst⟩ := hrel
    have HDR := Lib.hid hdr
    have HST := Lib.hid hst
    clear hdr hst
    by_cases hlt : i < na
    · have hil : i < acts.length := by rw [HA.out]; exact hlt
      obtain ⟨a, ha⟩ : ∃ a, acts[i]? = some a := ⟨_, List.getElem?_eq_getElem hil⟩
      have HREL : Hid (WiRel B y J Ae Aa ne ce na ca evs acts i a (.int .i64 0) wr) := ⟨k, hkl, HST.out, .inl ⟨rfl, by rw [HDR.out, drop_consE ha]; rfl⟩⟩
      have hRa := hR a (List.mem_of_getElem? ha)
      have HIA := Lib.hid ha
      clear hil ha
      gi_wp2
      gi_loopw [17] (fun u17 wr => WiRel B y J Ae Aa ne ce na ca evs acts i a u17 wr) (fun u17 _ => 2 - (intOf u17).toNat)
      case atStart => exact HREL.out
      case round =>
        clear HREL
        obtain ⟨k, hkl, hst, hc⟩ := hrel
        have HST := Lib.hid hst
        obtain ⟨d0, d1⟩ := cells2 hst.2.1
        have ix0 := run_index0
        have ix1 := run_index1
        rcases hc with ⟨rfl, hdr⟩ | ⟨rfl, hdr⟩ | ⟨rfl, hdr⟩
        · have WA := way_any wr B Ae Aa ne ce na ca evs acts hst.2.2.1 hst.2.2.2 i a false HIA.out hRa
          rw [show stepB a false = true from rfl, show stepW a false = fwdW a from rfl] at WA
          clear hst
          rw [tailS] at hdr
          obtain ⟨q, hq⟩ : ∃ q, fwdW a = q := ⟨_, rfl⟩
          obtain ⟨q1, q2, q3⟩ := q
          obtain ⟨hx, hdr'⟩ := drop_next hdr
          rw [hq] at hx WA
          have HDN := Lib.hid hdr'
          have hlt9 : k < (stepsM acts).length := (List.getElem?_eq_some_iff.1 hx).1
          unfold WayPost wayV at WA
          simp only at WA
          clear hdr hdr' hq
          gi_wp2_with (refine ⟨trivial, ?_⟩; gi_at_call 102; refine (callsIn_wide.2 WA).mono ?_; rintro e w2 ⟨rfl, hb2⟩; have hb3 : Below wr.heap.size wr (w2.alloc (.cells #[.int .i64 (i : Int), .bool false, .int .i64 (q1 : Int), .int .i64 (q2 : Int), .int .i64 q3] 81)) := hb2.alloc hb2.size _; have hst3 := HST.out.below hJ hb3; obtain ⟨fn, tmps, assign, body, hy, hR⟩ := hY k (i, false, (q1, q2, q3)) _ hx hst3.1; simp only [stEnc, wayV] at hy; have HST3 := Lib.hid hst3; clear hst3 hb3 WA)
          refine hR.mono ?_
          rintro e W3 ⟨rfl, hJ3, hk3⟩
          have HST4 : Hid (WayS B y J Ae Aa ne ce na ca evs acts (k + 1) W3) := ⟨hJ3, hk3.2 _ _ HST3.out.2.1, HST3.out.2.2.1.below hk3.1, Nat.le_trans HST3.out.2.2.2 hk3.1.size⟩
          gi_wp2
          go_roundw
          case rel =>
            have HREL : Hid (WiRel B y J Ae Aa ne ce na ca evs acts i a (.int .i64 1) W3) := ⟨k + 1, by omega, HST4.out, .inr (.inl ⟨rfl, HDN.out⟩)⟩
            first
              | exact HREL.out
              | (repeat apply Exists.intro
                 exact ⟨HREL.out, rfl⟩)
          case measure => simp [intOf]
        · have WA := way_any wr B Ae Aa ne ce na ca evs acts hst.2.2.1 hst.2.2.2 i a true HIA.out hRa
          rw [show stepW a true = backW a from rfl] at WA
          clear hst
          rw [tailS] at hdr
          by_cases hm : a.most = -1
          · rw [show stepB a true = false by simp [stepB, hm]] at WA
            rw [backS, if_pos hm, List.nil_append] at hdr
            have HDN := Lib.hid hdr
            obtain ⟨q, hq⟩ : ∃ q, backW a = q := ⟨_, rfl⟩
            obtain ⟨q1, q2, q3⟩ := q
            rw [hq] at WA
            unfold WayPost wayV at WA
            simp only at WA
            clear hdr hq hm
            gi_wp2_with (refine ⟨trivial, ?_⟩; gi_at_call 102; refine (callsIn_wide.2 WA).mono ?_; rintro e w2 ⟨rfl, hb2⟩; have hb3 : Below wr.heap.size wr (w2.alloc (.cells #[.int .i64 (i : Int), .bool true, .int .i64 (q1 : Int), .int .i64 (q2 : Int), .int .i64 q3] 81)) := hb2.alloc hb2.size _; have HST3 := Lib.hid (HST.out.below hJ hb3); clear hb3 WA)
            refine ⟨by simp, ?_⟩
            gi_wp2
            go_roundw
            case rel =>
              have HREL : Hid (WiRel B y J Ae Aa ne ce na ca evs acts i a (.int .i64 2) (w2.alloc (.cells #[.int .i64 (i : Int), .bool true, .int .i64 (q1 : Int), .int .i64 (q2 : Int), .int .i64 q3] 81))) := ⟨k, hkl, HST3.out, .inr (.inr ⟨rfl, HDN.out⟩)⟩
              first
                | exact HREL.out
                | (repeat apply Exists.intro
                   exact ⟨HREL.out, rfl⟩)
            case measure => simp [intOf]
          · rw [show stepB a true = true by simp [stepB, hm]] at WA
            rw [backS, if_neg hm, List.cons_append, List.nil_append] at hdr
            obtain ⟨q, hq⟩ : ∃ q, backW a = q := ⟨_, rfl⟩
            obtain ⟨q1, q2, q3⟩ := q
            obtain ⟨hx, hdr'⟩ := drop_next hdr
            rw [hq] at hx WA
            have HDN := Lib.hid hdr'
            have hlt9 : k < (stepsM acts).length := (List.getElem?_eq_some_iff.1 hx).1
            unfold WayPost wayV at WA
            simp only at WA
            clear hdr hdr' hq
            gi_wp2_with (refine ⟨trivial, ?_⟩; gi_at_call 102; refine (callsIn_wide.2 WA).mono ?_; rintro e w2 ⟨rfl, hb2⟩; have hb3 : Below wr.heap.size wr (w2.alloc (.cells #[.int .i64 (i : Int), .bool true, .int .i64 (q1 : Int), .int .i64 (q2 : Int), .int .i64 q3] 81)) := hb2.alloc hb2.size _; have hst3 := HST.out.below hJ hb3; obtain ⟨fn, tmps, assign, body, hy, hR⟩ := hY k (i, true, (q1, q2, q3)) _ hx hst3.1; simp only [stEnc, wayV] at hy; have HST3 := Lib.hid hst3; clear hst3 hb3 WA)
            refine hR.mono ?_
            rintro e W3 ⟨rfl, hJ3, hk3⟩
            have HST4 : Hid (WayS B y J Ae Aa ne ce na ca evs acts (k + 1) W3) := ⟨hJ3, hk3.2 _ _ HST3.out.2.1, HST3.out.2.2.1.below hk3.1, Nat.le_trans HST3.out.2.2.2 hk3.1.size⟩
            gi_wp2
            go_roundw
            case rel =>
              have HREL : Hid (WiRel B y J Ae Aa ne ce na ca evs acts i a (.int .i64 2) W3) := ⟨k + 1, by omega, HST4.out, .inr (.inr ⟨rfl, HDN.out⟩)⟩
              first
                | exact HREL.out
                | (repeat apply Exists.intro
                   exact ⟨HREL.out, rfl⟩)
            case measure => simp [intOf]
        · have HDN := Lib.hid hdr
          clear hst hdr d0 d1
          gi_wp2
          go_roundw
          case rel =>
            have HREL : Hid (WoRel B y J Ae Aa ne ce na ca evs acts (.int .i64 ((i : Int) + 1)) wr) := ⟨i + 1, k, by omega, by simp, HDN.out, hkl, HST.out⟩
            first
              | exact HREL.out
              | (repeat apply Exists.intro
                 exact ⟨HREL.out, rfl⟩)
          case measure => simp [intOf]; omega
    · have hke : k = (stepsM acts).length := by
        have h9 := HDR.out
        rw [List.drop_eq_nil_iff.2 (show acts.length ≤ i by rw [HA.out]; omega), stepsGo, List.drop_eq_nil_iff] at h9
        omega
      have HJ := Lib.hid HST.out.1
      clear HDR
      gi_wp2
      go_end0
      exact ⟨⟨_, rfl⟩, by rw [← hke]; exact HJ.out⟩
end Go.Proofs.YtnnnpijepdjanaaGreat
