/- Labels: in memory; those at the start. -/
import Derived.Test.YtnnnpijepdjanaaGreatB2
import Derived.Deep.AppendLies
namespace Go.Proofs.YtnnnpijepdjanaaGreat
open Go.RowKit

/-- every label stays as it lies -/
def KpL (W W' : World) : Prop := ∀ (b : Nat) (cur : Array Value), W.heap[b]? = some (.cells cur 83 (0, 0)) → W'.heap[b]? = some (.cells cur 83 (0, 0))
theorem kpL_t {A B C : World} (h : KpL A B) (k : KpL B C) : KpL A C := fun b cur hb => k b cur (h b cur hb)
theorem kpL_below {W W' : World} (h : Below W.heap.size W W') : KpL W W' := fun b _ hb => (h.block b (Array.getElem?_eq_some_iff.1 hb).1).trans hb
theorem kpL_grown {W W' : World} {row : Option Nat} (h : W.grownBy W' row) (hr : ∀ r, row = some r → ∀ cur, W.heap[r]? ≠ some (.cells cur 83 (0, 0))) : KpL W W' := fun b cur hb => (h.block b (Array.getElem?_eq_some_iff.1 hb).1 (fun e => hr b e.symm cur hb)).trans hb
/-- a label: how far it is, and how many are ahead of it -/
inductive Lab (w : World) : Value → Int → Nat → Prop
  | root {g : Nat} {u a x y z : Int} {b : Bool} : w.heap[g]? = some (.cells #[.int .i64 u, .int .i64 a, .bool b, .int .i64 x, .int .i64 y, .int .i64 z, .pointer none] 83 (0, 0)) → Lab w (.pointer (some ⟨g, 0, none⟩)) u 0
  | step {g : Nat} {u a x y z v : Int} {b : Bool} {p : Value} {n : Nat} : w.heap[g]? = some (.cells #[.int .i64 u, .int .i64 a, .bool b, .int .i64 x, .int .i64 y, .int .i64 z, p] 83 (0, 0)) → Lab w p v n → Lab w (.pointer (some ⟨g, 0, none⟩)) u (n + 1)
theorem Lab.kp {w w' : World} {p : Value} {u : Int} {n : Nat} (h : Lab w p u n) (hk : KpL w w') : Lab w' p u n := by
  induction h with
  | root h => exact .root (hk _ _ h)
  | step h _ ih => exact .step (hk _ _ h) ih
/-- a label or none -/
def LabO (w : World) (d : Nat) (v : Value) (o : Option Int) : Prop := (v = .pointer none ∧ o = none) ∨ ∃ u n, n ≤ d ∧ o = some u ∧ Lab w v u n
theorem LabO.kp {w w' : World} {d : Nat} {v : Value} {o : Option Int} (h : LabO w d v o) (hk : KpL w w') : LabO w' d v o := by
  rcases h with h | ⟨u, n, hn, h, hl⟩
  · exact .inl h
  · exact .inr ⟨u, n, hn, h, hl.kp hk⟩
theorem LabO.mono {w : World} {d d' : Nat} {v : Value} {o : Option Int} (h : LabO w d v o) (hd : d ≤ d') : LabO w d' v o := by
  rcases h with h | ⟨u, n, hn, h, hl⟩
  · exact .inl h
  · exact .inr ⟨u, n, Nat.le_trans hn hd, h, hl⟩
/-- labels of all events -/
def LabsAt (w : World) (d : Nat) (vs : List Value) (l : Far) : Prop := vs.length = l.length ∧ ∀ (i : Nat) (v : Value) (o : Option Int), vs[i]? = some v → l[i]? = some o → LabO w d v o
theorem LabsAt.mono {w : World} {d d' : Nat} {vs : List Value} {l : Far} (h : LabsAt w d vs l) (hd : d ≤ d') : LabsAt w d' vs l := ⟨h.1, fun i v o hv ho => (h.2 i v o hv ho).mono hd⟩
theorem LabsAt.kp {w w' : World} {d : Nat} {vs : List Value} {l : Far} (h : LabsAt w d vs l) (hk : KpL w w') : LabsAt w' d vs l := ⟨h.1, fun i v o hv ho => (h.2 i v o hv ho).kp hk⟩
theorem LabsAt.snoc {w : World} {d : Nat} {vs : List Value} {l : Far} {v : Value} {o : Option Int} (h : LabsAt w d vs l) (hv : LabO w d v o) : LabsAt w d (vs ++ [v]) (l ++ [o]) := by
  refine ⟨by simp [h.1], fun i u q hu hq => ?_⟩
  rcases Nat.lt_or_ge i vs.length with hi | hi
  · rw [List.getElem?_append_left hi] at hu
    rw [List.getElem?_append_left (by rw [← h.1]; exact hi)] at hq
    exact h.2 i u q hu hq
  · rw [List.getElem?_append_right hi] at hu
    rw [List.getElem?_append_right (by rw [← h.1]; exact hi)] at hq
    rw [← h.1] at hq
    cases hd : i - vs.length with
    | zero =>
      rw [hd] at hu hq
      simp at hu hq
      subst hu hq
      exact hv
    | succ j =>
      rw [hd] at hu
      simp at hu
theorem info74 : (Tryz.prog.info? 74).map (fun i => (i.zero, i.size, i.bytes)) = some (some (.pointer none), 1, 8) := by kernel_rfl
theorem news1 {X : World} {k : Nat} {x : Value} (h : X.cell? ⟨k, 0, none⟩ = some x) : ∀ j u, [x][j]? = some u → X.cell? ((⟨k, 0, none⟩ : Addr).add j) = some u := by
  intro j u hu
  cases j with
  | zero =>
    simp at hu
    subst hu
    exact h
  | succ j => simp at hu
/-- an own slice of labels, and they -/
def LabsPost (w : World) (l : Far) (n : Nat) (e : Ending) (w' : World) : Prop :=
  ∃ A c vs, e = .returned (.slice A n c) ∧ Rd w' w'.heap.size A vs ∧ LabsAt w' 0 vs l ∧ Below w.heap.size w w'
def StRel (w0 : World) (l : List Int) (n : Nat) (u3 u8 : Value) (wr : World) : Prop :=
  ∃ (k : Nat) (vs : List Value), k ≤ n ∧ u8 = .int .i64 k ∧ wr.ownsRow w0.heap.size 74 1 u3 k vs ∧ LabsAt wr 0 vs ((l.take k).map some) ∧ Below w0.heap.size w0 wr
set_option maxRecDepth 100000 in
set_option maxHeartbeats 4000000 in
theorem starts_any (w : World) (B : Nat) (A : Option Addr) (n c : Nat) (l : List Int) (hl : l.length = n) (hn : n ≤ 1000) (h : Rd w B A (intCells l)) (hB : B ≤ w.heap.size) :
    Calls Tryz.prog 31 #[.slice A n c] w (LabsPost w (l.map some) n) := by
  obtain ⟨i1, hi1, hy0, hy1, hy2⟩ := info_parts info74
  have HL := Lib.hid hl
  clear hl
  go_enter Tryz.func31, Tryz.ntmps31
  go_wp2
  go_loopw [3, 8] (fun u3 u8 wr => StRel w l n u3 u8 wr) (fun _ u8 _ => n - (intOf u8).toNat)
  case atStart => exact ⟨0, [], Nat.zero_le _, rfl, ⟨rfl, .inl ⟨rfl, rfl⟩⟩, ⟨rfl, fun i v o hv _ => by simp at hv⟩, Below.refl _ _⟩
  case round =>
    obtain ⟨k, vs, hk, rfl, hown, hlab, hb⟩ := hrel
    have HOWN := Lib.hid hown
    have HLAB := Lib.hid hlab
    obtain ⟨Au, cu, rfl⟩ := rowForm hown
    have HBW := Lib.hid hb
    have hsz := hb.size
    have h1 := h.below (hb.mono hB)
    clear hb hown hlab
    by_cases hlt : k < n
    · have hkl : k < l.length := by rw [HL.out]; exact hlt
      obtain ⟨x, hx⟩ : ∃ x, l[k]? = some x := ⟨_, List.getElem?_eq_getElem hkl⟩
      obtain ⟨b, off, hA, _, hc⟩ := h1.at_ (k := k) (u := .int .i64 x) (by simp [intCells, hx])
      have HT : Hid ((l.take (k + 1)).map some = (l.take k).map some ++ [some x]) := by
        rw [Hid, List.take_add_one, hx, List.map_append]
        rfl
      subst hA
      clear hx hkl
      have hbn : Below wr.heap.size wr (wr.alloc (.cells #[.int .i64 x, .int .i64 0, .bool false, .int .i64 0, .int .i64 0, .int .i64 0, .pointer none] 83)) := (Below.refl _ _).alloc (Nat.le_refl _) _
      have hbn2 : Below wr.heap.size wr ((wr.alloc (.cells #[.int .i64 x, .int .i64 0, .bool false, .int .i64 0, .int .i64 0, .int .i64 0, .pointer none] 83)).alloc (.cells #[.pointer (some ⟨wr.heap.size, 0, none⟩)] 74)) := hbn.alloc hbn.size _
      have hlb : ((wr.alloc (.cells #[.int .i64 x, .int .i64 0, .bool false, .int .i64 0, .int .i64 0, .int .i64 0, .pointer none] 83)).alloc (.cells #[.pointer (some ⟨wr.heap.size, 0, none⟩)] 74)).heap[wr.heap.size]? = some (.cells #[.int .i64 x, .int .i64 0, .bool false, .int .i64 0, .int .i64 0, .int .i64 0, .pointer none] 83 (0, 0)) := by
        rw [heapq_alloc, if_neg (by simp), heapq_alloc, if_pos rfl]
      have HBN := Lib.hid hbn2
      have HLB := Lib.hid hlb
      clear hbn hbn2 hlb
      go_wp2_with (at_builtin; refine stp ?_)
      unfold Stp
      refine wpList_append_lies _ rfl _ _ 73 rfl w.heap.size 74 i1 _ 1 8 Tryz.underlying73 hi1 hy0 hy1 hy2 rfl (by omega) (.slice Au k cu) k vs rfl ((HOWN.out.alloc _).alloc _) ⟨wr.heap.size + 1, 0, none⟩ 1 1 [.pointer (some ⟨wr.heap.size, 0, none⟩)] rfl rfl (news1 (by simp)) (by simp [Value.oneCell']) (by omega) (by simp only [maxLen]; omega) (by omega) (by simp; omega) _ rfl ?_
      intro gg cap w3 hown1 hgrow hat hlt9
      have hb9 : Below w.heap.size w w3 := (HBW.out.trans (HBN.out.mono hsz)).grown hgrow (by have := HBN.out.size; omega) (fun k hk => (ownBlk HOWN.out hk).1)
      have hkp : KpL ((wr.alloc (.cells #[.int .i64 x, .int .i64 0, .bool false, .int .i64 0, .int .i64 0, .int .i64 0, .pointer none] 83)).alloc (.cells #[.pointer (some ⟨wr.heap.size, 0, none⟩)] 74)) w3 := kpL_grown hgrow (fun r e cur hr => by
        obtain ⟨_, hlr, cu', hcu⟩ := ownBlk HOWN.out e
        rw [heapq_alloc, if_neg (by simp; omega), heapq_alloc, if_neg (by omega), hcu] at hr
        simp at hr)
      have HLAB1 : Hid (LabsAt w3 0 (vs ++ [.pointer (some ⟨wr.heap.size, 0, none⟩)]) ((l.take (k + 1)).map some)) := by
        rw [Hid, HT.out]
        exact ((HLAB.out.kp (kpL_below HBN.out)).kp hkp).snoc (.inr ⟨x, 0, Nat.le_refl _, rfl, .root (hkp _ _ HLB.out)⟩)
      have HOWN1 := Lib.hid hown1
      have HB9 := Lib.hid hb9
      clear hown1 hgrow hat hlt9 hb9 hkp
      go_wp2
      go_roundw
      case rel => exact ⟨k + 1, _, by omega, by go_num, HOWN1.out, HLAB1.out, HB9.out⟩
      case measure => simp [intOf]; omega
    · obtain rfl : k = n := by omega
      have HF : Hid ((l.take k).map some = l.map some) := by
        rw [Hid, ← HL.out, List.take_length]
      go_wp2
      go_ret
      exact ⟨_, _, _, rfl, rd_own HOWN.out, by rw [← HF.out]; exact HLAB.out, HBW.out⟩
end Go.Proofs.YtnnnpijepdjanaaGreat
