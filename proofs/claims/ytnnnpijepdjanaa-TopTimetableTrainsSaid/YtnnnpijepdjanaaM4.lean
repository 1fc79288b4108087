/- Labels that know by which ways they came: in memory. One round of the labels that know their ways. The labels, round by round, until nothing grows. The net of two events that has a cycle: how its labels grow. Three ways, the first one as the last one: turned round they are the same. The cycle of the net of two events. The walk of two steps round the cycle. The laws of the cycle: FindCycle and CheckCycle. -/
import Derived.Test.YtnnnpijepdjanaaE2
import Derived.LaidEql
namespace Go.Proofs.Ytnnnpijepdjanaa
open Go Go.RowKit Go.Shelf

/-- a label: how far it is, how many are ahead of it, and at which event; each step is one of the given ones -/
inductive LabW (l0 : Far) (sts : List Stp3) (w : World) : Value → Int → Nat → Nat → Prop
  | root {g ev : Nat} {u a x y z : Int} {b : Bool} : w.heap[g]? = some (.cells #[.int .i64 u, .int .i64 a, .bool b, .int .i64 x, .int .i64 y, .int .i64 z, .pointer none] 89 (0, 0)) → farAt l0 ev = some u → LabW l0 sts w (.pointer (some ⟨g, 0, none⟩)) u 0 ev
  | step {g si x y : Nat} {v z : Int} {b : Bool} {p : Value} {n : Nat} : w.heap[g]? = some (.cells #[.int .i64 (v + z), .int .i64 (si : Int), .bool b, .int .i64 (x : Int), .int .i64 (y : Int), .int .i64 z, p] 89 (0, 0)) → (si, b, x, y, z) ∈ sts → LabW l0 sts w p v n x → LabW l0 sts w (.pointer (some ⟨g, 0, none⟩)) (v + z) (n + 1) y
theorem LabW.kp {l0 : Far} {sts : List Stp3} {w w' : World} {p : Value} {u : Int} {n ev : Nat} (h : LabW l0 sts w p u n ev) (hk : KpL w w') : LabW l0 sts w' p u n ev := by
  induction h with
  | root h h2 => exact .root (hk _ _ h) h2
  | step h hm _ ih => exact .step (hk _ _ h) hm ih
theorem LabW.cell {l0 : Far} {sts : List Stp3} {w : World} {p : Value} {u : Int} {n ev : Nat} (h : LabW l0 sts w p u n ev) : ∃ g, p = .pointer (some ⟨g, 0, none⟩) ∧ ∃ cur : Array Value, w.heap[g]? = some (.cells cur 89 (0, 0)) ∧ cur[0]? = some (.int .i64 u) := by
  cases h with
  | root h _ => exact ⟨_, rfl, _, h, rfl⟩
  | step h _ _ => exact ⟨_, rfl, _, h, rfl⟩
theorem LabW.lt {l0 : Far} {sts : List Stp3} {w : World} {p : Value} {u : Int} {n ev : Nat} (h : LabW l0 sts w p u n ev) : ∃ g, p = .pointer (some ⟨g, 0, none⟩) ∧ g < w.heap.size := by
  obtain ⟨g, e, cur, hc, _⟩ := h.cell
  exact ⟨g, e, (Array.getElem?_eq_some_iff.1 hc).1⟩
def LabOW (l0 : Far) (sts : List Stp3) (w : World) (d : Nat) (v : Value) (o : Option Int) (ev : Nat) : Prop := (v = .pointer none ∧ o = none) ∨ ∃ u n, n ≤ d ∧ o = some u ∧ LabW l0 sts w v u n ev
theorem LabOW.kp {l0 : Far} {sts : List Stp3} {w w' : World} {d ev : Nat} {v : Value} {o : Option Int} (h : LabOW l0 sts w d v o ev) (hk : KpL w w') : LabOW l0 sts w' d v o ev := by
  rcases h with h | ⟨u, n, hn, h, hl⟩
  · exact .inl h
  · exact .inr ⟨u, n, hn, h, hl.kp hk⟩
theorem LabOW.mono {l0 : Far} {sts : List Stp3} {w : World} {d d' ev : Nat} {v : Value} {o : Option Int} (h : LabOW l0 sts w d v o ev) (hd : d ≤ d') : LabOW l0 sts w d' v o ev := by
  rcases h with h | ⟨u, n, hn, h, hl⟩
  · exact .inl h
  · exact .inr ⟨u, n, Nat.le_trans hn hd, h, hl⟩
def LabsW (l0 : Far) (sts : List Stp3) (w : World) (d : Nat) (vs : List Value) (l : Far) : Prop := vs.length = l.length ∧ ∀ (i : Nat) (v : Value) (o : Option Int), vs[i]? = some v → l[i]? = some o → LabOW l0 sts w d v o i
theorem LabsW.mono {l0 : Far} {sts : List Stp3} {w : World} {d d' : Nat} {vs : List Value} {l : Far} (h : LabsW l0 sts w d vs l) (hd : d ≤ d') : LabsW l0 sts w d' vs l := ⟨h.1, fun i v o hv ho => (h.2 i v o hv ho).mono hd⟩
theorem LabsW.kp {l0 : Far} {sts : List Stp3} {w w' : World} {d : Nat} {vs : List Value} {l : Far} (h : LabsW l0 sts w d vs l) (hk : KpL w w') : LabsW l0 sts w' d vs l := ⟨h.1, fun i v o hv ho => (h.2 i v o hv ho).kp hk⟩
theorem LabsW.snoc {l0 : Far} {sts : List Stp3} {w : World} {d : Nat} {vs : List Value} {l : Far} {v : Value} {o : Option Int} (h : LabsW l0 sts w d vs l) (hv : LabOW l0 sts w d v o vs.length) : LabsW l0 sts w d (vs ++ [v]) (l ++ [o]) := by
  refine ⟨by simp [h.1], fun i u q hu hq => ?_⟩
  rcases Nat.lt_or_ge i vs.length with hi | hi
  · rw [List.getElem?_append_left hi] at hu
    rw [List.getElem?_append_left (by rw [← h.1]; exact hi)] at hq
    exact h.2 i u q hu hq
  · rw [List.getElem?_append_right hi] at hu
    rw [List.getElem?_append_right (by rw [← h.1]; exact hi)] at hq
    rw [← h.1] at hq
    cases hd : i - vs.length with
    | zero =>
      rw [hd] at hu hq
      simp at hu hq
      subst hu hq
      rw [show i = vs.length by omega]
      exact hv
    | succ j =>
      rw [hd] at hu
      simp at hu
theorem lab_oneW {l0 : Far} {sts : List Stp3} {w : World} {d : Nat} {vs : List Value} {l : Far} (h : LabsW l0 sts w d vs l) : ∀ u ∈ vs, u.oneCell' = true := by
  intro u hu
  obtain ⟨i, hi⟩ := List.mem_iff_getElem?.1 hu
  have hlt : i < vs.length := (List.getElem?_eq_some_iff.1 hi).1
  obtain ⟨o, ho⟩ : ∃ o, l[i]? = some o := ⟨_, List.getElem?_eq_getElem (by rw [← h.1]; exact hlt)⟩
  rcases h.2 i u o hi ho with ⟨rfl, _⟩ | ⟨_, _, _, _, hl⟩
  · rfl
  · cases hl <;> rfl
theorem LabsW.set {l0 : Far} {sts : List Stp3} {w : World} {d : Nat} {vs : List Value} {l : Far} (h : LabsW l0 sts w d vs l) {i n : Nat} {p : Value} {u : Int} (hp : LabW l0 sts w p u n i) (hn : n ≤ d) : LabsW l0 sts w d (vs.set i p) (l.set i (some u)) := by
  refine ⟨by rw [List.length_set, List.length_set, h.1], fun j v o hv ho => ?_⟩
  rw [List.getElem?_set] at hv
  by_cases hij : i = j
  · subst hij
    rw [if_pos rfl] at hv
    split at hv
    · rename_i hlt
      cases hv
      rw [List.getElem?_set_self (by rw [← h.1]; exact hlt)] at ho
      cases ho
      exact .inr ⟨u, n, hn, rfl, hp⟩
    · cases hv
  · rw [if_neg hij] at hv
    rw [List.getElem?_set_ne hij] at ho
    exact h.2 j v o hv ho

/-- behind some ways: the new labels, whether something grew, and what is not to be turned -/
structure FaIW (l0 : Far) (sts : List Stp3) (w : World) (d : Nat) (x y g c ne : Nat) (Al : Option Addr) (cl : Nat) (vs : List Value) (l acc : Far) (more : Bool) (W : World) : Prop where
  b6 : W.heap[y]? = some (.cells #[.slice (some ⟨g, 0, none⟩) ne c] 79 (0, 0))
  b7 : W.heap[y + 1]? = some (.cells #[.bool more] 4 (0, 0))
  b3 : W.heap[x + 1]? = some (.cells #[.slice Al ne cl] 79 (0, 0))
  row : ∃ vsN, W.ownsRow (x + 2) 80 1 (.slice (some ⟨g, 0, none⟩) ne c) ne vsN ∧ LabsW l0 sts W d vsN acc ∧ PDiff x vs vsN l acc
  below : Below x w W
  hx : w.heap.size = x
  hy : x + 2 ≤ y
theorem FaIW.grown {l0 : Far} {sts : List Stp3} {w : World} {d x y g c ne : Nat} {Al : Option Addr} {cl : Nat} {vs : List Value} {l acc : Far} {more : Bool} {W W' : World} {row : Option Nat} (h : FaIW l0 sts w d x y g c ne Al cl vs l acc more W) (hg : W.grownBy W' row)
    (hr : ∀ r, row = some r → x ≤ r ∧ ∃ o : Obj, W.heap[r]? = some o ∧ o.isCells = false) : FaIW l0 sts w d x y g c ne Al cl vs l acc more W' := by
  have kc : ∀ (b : Nat) (cur : Array Value) (t : TypeId), W.heap[b]? = some (.cells cur t (0, 0)) → W'.heap[b]? = some (.cells cur t (0, 0)) := fun b cur t hb => (hg.block b (Array.getElem?_eq_some_iff.1 hb).1 (fun e => by
    obtain ⟨_, o, ho, hc⟩ := hr b e.symm
    rw [hb] at ho
    cases ho
    simp [Obj.isCells] at hc)).trans hb
  obtain ⟨vsN, r1, r2, r3⟩ := h.row
  exact ⟨kc _ _ _ h.b6, kc _ _ _ h.b7, kc _ _ _ h.b3, ⟨vsN, own_keep r1 (fun k cur hk => (kc _ _ _ hk).trans hk.symm), r2.kp (fun b cur hb => kc _ _ _ hb), r3⟩,
    h.below.grown hg (by have := h.below.size; have := h.hx; omega) (fun k e => (hr k e).1), h.hx, h.hy⟩
theorem FaIW.more_below {l0 : Far} {sts : List Stp3} {w : World} {d x y g c ne : Nat} {Al : Option Addr} {cl : Nat} {vs : List Value} {l acc : Far} {more : Bool} {W W' : World} (h : FaIW l0 sts w d x y g c ne Al cl vs l acc more W) (hb : Below W.heap.size W W') : FaIW l0 sts w d x y g c ne Al cl vs l acc more W' :=
  h.grown (grown_of_below hb) (fun r e => by cases e)
/-- a label takes the place of another one -/
theorem FaIW.set {l0 : Far} {sts : List Stp3} {w : World} {d x y g c ne : Nat} {Al : Option Addr} {cl : Nat} {vs : List Value} {l acc : Far} {more : Bool} {W : World} (h : FaIW l0 sts w d x y g c ne Al cl vs l acc more W) {i q : Nat} {u : Int} {n : Nat} (hi : i < acc.length) (hq : x ≤ q)
    (hl : LabW l0 sts W (.pointer (some ⟨q, 0, none⟩)) u n i) (hn : n ≤ d) (hu : ∀ u0 : Int, l[i]? = some (some u0) → u0 < u) :
    FaIW l0 sts w d x y g c ne Al cl vs l (acc.set i (some u)) true ((W.setCell ⟨g, i, none⟩ (.pointer (some ⟨q, 0, none⟩))).setCell ⟨y + 1, 0, none⟩ (.bool true)) := by
  obtain ⟨vsN, r1, r2, r3⟩ := h.row
  obtain ⟨hg1, _, cur, hcur⟩ := ownBlk r1 rfl
  have hg2 : x + 2 ≤ g := hg1
  have hy := h.hy
  have ng : ∀ {b : Nat} {cu : Array Value} {t : TypeId}, t ≠ 80 → W.heap[b]? = some (.cells cu t (0, 0)) → b ≠ g := fun ht hb e => by
    subst e
    rw [hcur] at hb
    cases hb
    exact ht rfl
  have ny : ∀ {b : Nat} {cu : Array Value} {t : TypeId}, t ≠ 4 → W.heap[b]? = some (.cells cu t (0, 0)) → b ≠ y + 1 := fun ht hb e => by
    subst e
    rw [h.b7] at hb
    cases hb
    exact ht rfl
  have kc : ∀ (b : Nat) (cu : Array Value) (t : TypeId), t ≠ 80 → t ≠ 4 → W.heap[b]? = some (.cells cu t (0, 0)) → ((W.setCell ⟨g, i, none⟩ (.pointer (some ⟨q, 0, none⟩))).setCell ⟨y + 1, 0, none⟩ (.bool true)).heap[b]? = some (.cells cu t (0, 0)) := fun b cu t h1 h2 hb => by
    rw [heapq_set, if_neg (ny h2 hb), heapq_set, if_neg (ng h1 hb)]
    exact hb
  have kl : KpL W ((W.setCell ⟨g, i, none⟩ (.pointer (some ⟨q, 0, none⟩))).setCell ⟨y + 1, 0, none⟩ (.bool true)) := fun b cu hb => kc b cu 89 (by decide) (by decide) hb
  refine ⟨kc _ _ _ (by decide) (by decide) h.b6, ?_, kc _ _ _ (by decide) (by decide) h.b3, ⟨_, ownsRow_setCell_other (own_set r1 _) (by simp [Value.ownBlock]; exact (ng (by decide) h.b7).symm) _, (r2.kp kl).set (hl.kp kl) hn, r3.set hi hq hu⟩, ?_, h.hx, h.hy⟩
  · rw [heapq_set, if_pos rfl, heapq_set, if_neg (ng (by decide) h.b7), h.b7]
    rfl
  · exact (h.below.setCell (p := ⟨g, i, none⟩) (by show x ≤ g; omega) _).setCell (p := ⟨y + 1, 0, none⟩) (by show x ≤ y + 1; omega) _
/-- an own slice of labels, and they -/
def LabsPostW (sts : List Stp3) (w : World) (l : Far) (n : Nat) (e : Ending) (w' : World) : Prop :=
  ∃ A c vs, e = .returned (.slice A n c) ∧ Rd w' w'.heap.size A vs ∧ LabsW l sts w' 0 vs l ∧ Below w.heap.size w w'
def StRelW (sts : List Stp3) (w0 : World) (l : List Int) (n : Nat) (u3 u8 : Value) (wr : World) : Prop :=
  ∃ (k : Nat) (vs : List Value), k ≤ n ∧ u8 = .int .i64 k ∧ wr.ownsRow w0.heap.size 80 1 u3 k vs ∧ LabsW (l.map some) sts wr 0 vs ((l.take k).map some) ∧ Below w0.heap.size w0 wr
set_option maxRecDepth 100000 in
set_option maxHeartbeats 4000000 in
theorem starts_w (sts : List Stp3) (w : World) (B : Nat) (A : Option Addr) (n c : Nat) (l : List Int) (hl : l.length = n) (hn : n ≤ 1000) (h : Rd w B A (intCells l)) (hB : B ≤ w.heap.size) :
    Calls Try.prog 31 #[.slice A n c] w (LabsPostW sts w (l.map some) n) := by
  obtain ⟨i1, hi1, hy0, hy1, hy2⟩ := info_parts info80
  have HL := Lib.hid hl
  clear hl
  go_enter Try.func31, Try.ntmps31
  go_wp2
  go_loopw [3, 8] (fun u3 u8 wr => StRelW sts w l n u3 u8 wr) (fun _ u8 _ => n - (intOf u8).toNat)
  case atStart => exact ⟨0, [], Nat.zero_le _, rfl, ⟨rfl, .inl ⟨rfl, rfl⟩⟩, ⟨rfl, fun i v o hv _ => by simp at hv⟩, Below.refl _ _⟩
  case round =>
    obtain ⟨k, vs, hk, rfl, hown, hlab, hb⟩ := hrel
    have HOWN := Lib.hid hown
    have HLAB := Lib.hid hlab
    obtain ⟨Au, cu, rfl⟩ := rowForm hown
    have HBW := Lib.hid hb
    have hsz := hb.size
    have h1 := h.below (hb.mono hB)
    clear hb hown hlab
    by_cases hlt : k < n
    · have hkl : k < l.length := by rw [HL.out]; exact hlt
      obtain ⟨x, hx⟩ : ∃ x, l[k]? = some x := ⟨_, List.getElem?_eq_getElem hkl⟩
      obtain ⟨b, off, hA, _, hc⟩ := h1.at_ (k := k) (u := .int .i64 x) (by simp [intCells, hx])
      have HT : Hid ((l.take (k + 1)).map some = (l.take k).map some ++ [some x]) := by
        rw [Hid, List.take_add_one, hx, List.map_append]
        rfl
      have HFX : Hid (farAt (l.map some) ((l.take k).map some).length = some x) := by
        rw [Hid, List.length_map, List.length_take, show min k l.length = k by omega, farAt_map]
        exact hx
      subst hA
      clear hx hkl
      have hbn : Below wr.heap.size wr (wr.alloc (.cells #[.int .i64 x, .int .i64 0, .bool false, .int .i64 0, .int .i64 0, .int .i64 0, .pointer none] 89)) := (Below.refl _ _).alloc (Nat.le_refl _) _
      have hbn2 : Below wr.heap.size wr ((wr.alloc (.cells #[.int .i64 x, .int .i64 0, .bool false, .int .i64 0, .int .i64 0, .int .i64 0, .pointer none] 89)).alloc (.cells #[.pointer (some ⟨wr.heap.size, 0, none⟩)] 80)) := hbn.alloc hbn.size _
      have hlb : ((wr.alloc (.cells #[.int .i64 x, .int .i64 0, .bool false, .int .i64 0, .int .i64 0, .int .i64 0, .pointer none] 89)).alloc (.cells #[.pointer (some ⟨wr.heap.size, 0, none⟩)] 80)).heap[wr.heap.size]? = some (.cells #[.int .i64 x, .int .i64 0, .bool false, .int .i64 0, .int .i64 0, .int .i64 0, .pointer none] 89 (0, 0)) := by
        rw [heapq_alloc, if_neg (by simp), heapq_alloc, if_pos rfl]
      have HBN := Lib.hid hbn2
      have HLB := Lib.hid hlb
      clear hbn hbn2 hlb
      go_wp2_with (at_builtin; refine stp ?_)
      unfold Stp
      refine wpList_append_lies _ rfl _ _ 79 rfl w.heap.size 80 i1 _ 1 8 Try.underlying79 hi1 hy0 hy1 hy2 rfl (by omega) (.slice Au k cu) k vs rfl ((HOWN.out.alloc _).alloc _) ⟨wr.heap.size + 1, 0, none⟩ 1 1 [.pointer (some ⟨wr.heap.size, 0, none⟩)] rfl rfl (news1 (by simp)) (by simp [Value.oneCell']) (by omega) (by simp only [maxLen]; omega) (by omega) (by simp; omega) _ rfl ?_
      intro gg cap w3 hown1 hgrow hat hlt9
      have hb9 : Below w.heap.size w w3 := (HBW.out.trans (HBN.out.mono hsz)).grown hgrow (by have := HBN.out.size; omega) (fun k hk => (ownBlk HOWN.out hk).1)
      have hkp : KpL ((wr.alloc (.cells #[.int .i64 x, .int .i64 0, .bool false, .int .i64 0, .int .i64 0, .int .i64 0, .pointer none] 89)).alloc (.cells #[.pointer (some ⟨wr.heap.size, 0, none⟩)] 80)) w3 := kpL_grown hgrow (fun r e cur hr => by
        obtain ⟨_, hlr, cu', hcu⟩ := ownBlk HOWN.out e
        rw [heapq_alloc, if_neg (by simp; omega), heapq_alloc, if_neg (by omega), hcu] at hr
        simp at hr)
      have HLAB1 : Hid (LabsW (l.map some) sts w3 0 (vs ++ [.pointer (some ⟨wr.heap.size, 0, none⟩)]) ((l.take (k + 1)).map some)) := by
        rw [Hid, HT.out]
        exact ((HLAB.out.kp (kpL_below HBN.out)).kp hkp).snoc (.inr ⟨x, 0, Nat.le_refl _, rfl, .root (hkp _ _ HLB.out) (by rw [HLAB.out.1]; exact HFX.out)⟩)
      have HOWN1 := Lib.hid hown1
      have HB9 := Lib.hid hb9
      clear hown1 hgrow hat hlt9 hb9 hkp
      go_wp2
      go_roundw
      case rel => exact ⟨k + 1, _, by omega, by go_num, HOWN1.out, HLAB1.out, HB9.out⟩
      case measure => simp [intOf]; omega
    · obtain rfl : k = n := by omega
      have HF : Hid ((l.take k).map some = l.map some) := by
        rw [Hid, ← HL.out, List.take_length]
      go_wp2
      go_ret
      exact ⟨_, _, _, rfl, rd_own HOWN.out, by have h9 := HLAB.out; rw [HF.out] at h9; exact h9, HBW.out⟩
end Go.Proofs.Ytnnnpijepdjanaa

namespace Go.Proofs.Ytnnnpijepdjanaa
open Go Go.RowKit Go.Shelf
attribute [local go_sem] Oper.semAt_some

def FartherW (l0 : Far) (sts : List Stp3) (w : World) (d : Nat) (vs : List Value) (ne : Nat) (l acc : Far) (more : Bool) (e : Ending) (w' : World) : Prop :=
  ∃ A c vsN, e = .returned (.tuple #[.slice A ne c, .bool more]) ∧ Rd w' w'.heap.size A vsN ∧ LabsW l0 sts w' (d + 1) vsN acc ∧ PDiff w.heap.size vs vsN l acc ∧ Below w.heap.size w w'
set_option maxRecDepth 100000 in
set_option maxHeartbeats 8000000 in
theorem farther_w (w : World) (B : Nat) (Ae Aa : Option Addr) (ne ce na ca : Nat) (evs : List ByteArray) (acts : List Act) (h : NetAt w B Ae Aa ne ce na evs acts) (hB : B ≤ w.heap.size) (hna : na ≤ 1000) (hR : ∀ a ∈ acts, actR ne a)
    (Al : Option Addr) (cl d : Nat) (vs : List Value) (l : Far) (hl : l.length = ne) (h1 : 1 ≤ ne) (h16 : ne ≤ 16) (l0 : Far) (hv : LabsW l0 (stepsM acts) w d vs l) (hrd : Rd w w.heap.size Al vs) (hbd : ∀ i u, farAt l i = some u → -100000000 ≤ u ∧ u ≤ 100000000) :
    Calls Try.prog 64 #[.agg #[.slice Ae ne ce, .slice Aa na ca], .slice Al ne cl] w (FartherW l0 (stepsM acts) w d vs ne l (farM (waysM acts) l) (moreGo l l (waysM acts))) := by
  have hb0 : Below w.heap.size w ((w.alloc (.cells #[.slice Ae ne ce, .slice Aa na ca] 74)).alloc (.cells #[.slice Al ne cl] 79)) := ((Below.refl _ _).alloc (Nat.le_refl _) _).alloc (by simp) _
  have k0 : ((w.alloc (.cells #[.slice Ae ne ce, .slice Aa na ca] 74)).alloc (.cells #[.slice Al ne cl] 79)).heap[w.heap.size]? = some (.cells #[.slice Ae ne ce, .slice Aa na ca] 74 (0, 0)) := by
    rw [heapq_alloc, if_neg (by simp), heapq_alloc, if_pos rfl]
  have k1 : ((w.alloc (.cells #[.slice Ae ne ce, .slice Aa na ca] 74)).alloc (.cells #[.slice Al ne cl] 79)).heap[w.heap.size + 1]? = some (.cells #[.slice Al ne cl] 79 (0, 0)) := by
    rw [heapq_alloc, if_pos (by simp)]
  have hs0 : ((w.alloc (.cells #[.slice Ae ne ce, .slice Aa na ca] 74)).alloc (.cells #[.slice Al ne cl] 79)).heap.size = w.heap.size + 2 := by simp
  have hvl : vs.length = ne := hv.1.trans hl
  have CL := CloneL_any ((w.alloc (.cells #[.slice Ae ne ce, .slice Aa na ca] 74)).alloc (.cells #[.slice Al ne cl] 79)) w.heap.size Al ne cl vs hvl h1 (by omega) (hrd.below hb0) hb0.size (lab_oneW hv)
  have c0 : ((w.alloc (.cells #[.slice Ae ne ce, .slice Aa na ca] 74)).alloc (.cells #[.slice Al ne cl] 79)).cell? ⟨w.heap.size + 1, 0, none⟩ = some (.slice Al ne cl) := (cell_of_row _ _ 0 _ _ _ k1).trans rfl
  refine (callsIn_wide (n := 3)).1 ?_
  refine callsIn_of_wp_marks Try.func64 rfl trivial ?_ rfl
  simp only [Try.ntmps64, List.size_toArray, List.length_cons, List.length_nil, Nat.reduceAdd, Nat.reduceSub, Array.replicate_succ, Array.replicate_zero, List.push_toArray, List.append_toArray, List.nil_append, List.cons_append]
  gi_wp2_with (refine ⟨trivial, ?_⟩; gi_at_call 90; refine (callsIn_wide.2 CL).mono ?_; rintro e w2 ⟨g, c, rfl, hown, hb2⟩; have hz : Below w2.heap.size w2 ((w2.alloc (.cells #[.slice (some ⟨g, 0, none⟩) ne c] 79)).alloc (.cells #[.bool false] 4)) := ((Below.refl _ _).alloc (Nat.le_refl _) _).alloc (by simp) _; have hb3 := hb2.trans (hz.mono hb2.size); have d0 := kept hb3 (cells2 k0).1; have d1 := kept hb3 (cells2 k0).2)
  have kb6 : ((w2.alloc (.cells #[.slice (some ⟨g, 0, none⟩) ne c] 79)).alloc (.cells #[.bool false] 4)).heap[w2.heap.size]? = some (.cells #[.slice (some ⟨g, 0, none⟩) ne c] 79 (0, 0)) := by rw [heapq_alloc, if_neg (by simp), heapq_alloc, if_pos rfl]
  have kb7 : ((w2.alloc (.cells #[.slice (some ⟨g, 0, none⟩) ne c] 79)).alloc (.cells #[.bool false] 4)).heap[w2.heap.size + 1]? = some (.cells #[.bool false] 4 (0, 0)) := by rw [heapq_alloc, if_pos (by simp)]
  have hbW := hb0.trans (hb3.mono hb0.size)
  have k1' := blk hb3 k1
  have hy : w.heap.size + 2 ≤ w2.heap.size := by have := hb2.size; omega
  rw [hs0] at hown
  have hown3 := ownsRow_below hown hz
  have hN := h.below (hbW.mono hB)
  have hws : WaysIn ne (waysM acts) := ways_in hR
  have hwl := ways_len hR
  have HV := Lib.hid hv
  have HRD := Lib.hid hrd
  clear hown hz hb3 hb2 hb0 k0 k1 hv h hrd d0 d1 c0 CL
  generalize ((w2.alloc (.cells #[.slice (some ⟨g, 0, none⟩) ne c] 79)).alloc (.cells #[.bool false] 4)) = w3 at *
  generalize w2.heap.size = y at *
  generalize hx : w.heap.size = x at *
  have HX := Lib.hid hx
  clear hx hs0
  have hBs : B ≤ w3.heap.size := by have := hbW.size; have := HX.out; omega
  have h0 : FaIW l0 (stepsM acts) w (d + 1) x y g c ne Al cl vs l (relaxGo l l ((waysM acts).take 0)) (moreGo l l ((waysM acts).take 0)) w3 :=
    ⟨kb6, kb7, k1', ⟨vs, hown3, HV.out.kp (fun b cur hb => (hbW.block b (by have := (Array.getElem?_eq_some_iff.1 hb).1; have := HX.out; omega)).trans hb) |>.mono (Nat.le_succ d), fun i v hv => .inl ⟨hv, rfl⟩⟩, hbW, HX.out, hy⟩
  refine wpIn_range_all (F := Fence.wide) rfl (by omega) (gf := 91) (fb := #[.agg #[.slice Ae ne ce, .slice Aa na ca]]) rfl trivial (enters_of Try.func91 (by kernel_rfl) rfl)
    (ways_gives (3 - 1) (by omega) w3 B Ae Aa ne ce na ca evs acts hN hBs hna hR) (Below.refl _ _) (fun _ => rfl) kpW_t
    (fun W q o o' hq ho hc => ⟨(Below.refl B W).grown (grownBy_putObj' W q o') (by have := (Array.getElem?_eq_some_iff.1 ho).1; omega) (fun k e => by cases e; omega), fun b cur hb => put_cells ho hc hb⟩)
    (fun k W => FaIW l0 (stepsM acts) w (d + 1) x y g c ne Al cl vs l (relaxGo l l ((waysM acts).take k)) (moreGo l l ((waysM acts).take k)) W)
    (fun k W W' row hs hg hr => hs.grown hg (fun r e => ⟨by have := (hr r e).1; have := hbW.size; have := HX.out; omega, (hr r e).2⟩))
    h0 ?round ?done
  case round =>
    rintro q k ⟨si, sb, q1, q2, q3⟩ W hq hx hI
    have hxw : (waysM acts)[k]? = some (q1, q2, q3) := by
      rw [← steps_ways, List.getElem?_map, hx]
      rfl
    have HMEM := Lib.hid (List.mem_of_getElem? hx)
    obtain ⟨hq1, hq2⟩ := hws _ (List.mem_of_getElem? hxw)
    obtain ⟨hq3, hq4⟩ := hwl _ (List.mem_of_getElem? hxw)
    simp only at hq1 hq2 hq3 hq4
    simp only [stEnc, wayV]
    gi_wp2
    have hba : Below W.heap.size W (W.alloc (.cells #[.int .i64 (si : Int), .bool sb, .int .i64 (q1 : Int), .int .i64 (q2 : Int), .int .i64 q3] 87)) := (Below.refl _ _).alloc (Nat.le_refl _) _
    have kt : (W.alloc (.cells #[.int .i64 (si : Int), .bool sb, .int .i64 (q1 : Int), .int .i64 (q2 : Int), .int .i64 q3] 87)).heap[W.heap.size]? = some (.cells #[.int .i64 (si : Int), .bool sb, .int .i64 (q1 : Int), .int .i64 (q2 : Int), .int .i64 q3] 87 (0, 0)) := by rw [heapq_alloc, if_pos rfl]
    have hBW : B ≤ W.heap.size := by have := hI.below.size; have := HX.out; omega
    refine ⟨(KeepsOthers.alloc _ _).from _, kpW_below hBW hba, ?_⟩
    have hI1 := hI.more_below hba
    clear hI
    generalize W.alloc (.cells #[.int .i64 (si : Int), .bool sb, .int .i64 (q1 : Int), .int .i64 (q2 : Int), .int .i64 q3] 87) = W1 at *
    generalize W.heap.size = z at *
    intro o o' ho hc
    have hI2 := hI1.grown (grownBy_putObj' W1 q o') (fun r e => by cases e; exact ⟨by have := hbW.size; have := HX.out; omega, o, ho, hc⟩)
    replace kt := put_cells (o' := o') ho hc kt
    generalize W1.putObj q o' = W2 at *
    clear hI1 ho hc hba
    obtain ⟨vsN, r1, r2, r3⟩ := hI2.row
    have b6 := hI2.b6
    have b7 := hI2.b7
    have b3 := hI2.b3
    have kw : KpL w W2 := fun b cur hb => (hI2.below.block b (by have := (Array.getElem?_eq_some_iff.1 hb).1; have := HX.out; omega)).trans hb
    obtain ⟨p, hp⟩ : ∃ p, vs[q1]? = some p := ⟨_, List.getElem?_eq_getElem (by rw [hvl]; exact hq1)⟩
    obtain ⟨ba, offa, hAl, _, cp⟩ := (HRD.out.below hI2.below) q1 p hp
    obtain ⟨ol, hol⟩ : ∃ o, l[q1]? = some o := ⟨_, List.getElem?_eq_getElem (by rw [hl]; exact hq1)⟩
    have c3 := cell_of_row W2 (x + 1) 0 _ _ _ b3
    have c2 := cell_of_row W2 z 2 _ _ _ kt
    simp at c3 c2
    subst hAl
    rcases (HV.out.kp kw).2 q1 p ol hp hol with ⟨rfl, rfl⟩ | ⟨u, n, hnd, rfl, hlab⟩
    · gi_wp2_with (fail)
      refine wpIn_region_xt (by kernel_rfl) (by kernel_rfl) (by kernel_rfl) ?_
      repeat (go_big_quiet_step (fail))
      refine wpQuiet_nil ?_
      intro w5 hx5
      have hb5 := Xt.below hx5
      clear hx5
      gi_wp2
      have HG : Hid (grows l (relaxGo l l ((waysM acts).take k)) (q1, q2, q3) = false) := by
        rw [Hid, grows]
        simp only [far_get hol]
      refine ⟨KeepsFrom.of_grownBy (grown_of_below hb5) (fun r e => by cases e), kpW_below (by have := hI2.below.size; have := HX.out; omega) hb5, ?_⟩
      rw [take_snoc hxw, relaxGo_snoc, moreGo_snoc, relax_no HG.out, HG.out, Bool.or_false]
      exact hI2.more_below hb5
    · obtain ⟨p2, hp2⟩ : ∃ p, vsN[q2]? = some p := ⟨_, List.getElem?_eq_getElem (by have := r1.1; omega)⟩
      have hal : (relaxGo l l ((waysM acts).take k)).length = ne := by rw [relaxGo_len, hl]
      obtain ⟨o2, ho2⟩ : ∃ o, (relaxGo l l ((waysM acts).take k))[q2]? = some o := ⟨_, List.getElem?_eq_getElem (by rw [hal]; exact hq2)⟩
      obtain ⟨cg, fg, hg1, hg2⟩ := own_cell r1 hp2
      obtain ⟨gl, rfl, curl, hcl, hc0⟩ := hlab.cell
      have hu := hbd q1 u (far_get hol)
      have c6 := cell_of_row W2 y 0 _ _ _ b6
      have c3' := cell_of_row W2 z 3 _ _ _ kt
      have c4' := cell_of_row W2 z 4 _ _ _ kt
      have cl0 := (cell_of_row W2 gl 0 _ _ _ hcl).trans hc0
      simp at c6 c3' c4'
      have x6 := fun y : Xt W2 => y.cell c6
      have x2 := fun y : Xt W2 => y.cell c2
      have x3 := fun y : Xt W2 => y.cell c3'
      have x4 := fun y : Xt W2 => y.cell c4'
      have xg := fun y : Xt W2 => y.cell cg
      have xl := fun y : Xt W2 => y.cell cl0
      rcases r2.2 q2 p2 o2 hp2 ho2 with ⟨rfl, rfl⟩ | ⟨v, n2, _, rfl, hlab2⟩
      · gi_wp2_with (fail)
        refine wpIn_region_xt (by kernel_rfl) (by kernel_rfl) (by kernel_rfl) ?_
        repeat (go_big_quiet_step (fail))
        refine wpQuiet_nil ?_
        intro w5 hx5
        have hb5 := Xt.below hx5
        clear hx5
        have HG : Hid (grows l (relaxGo l l ((waysM acts).take k)) (q1, q2, q3) = true) := by
          rw [Hid, grows]
          simp only [far_get hol, far_get ho2, beats]
        have hgt : ∀ u0 : Int, l[q2]? = some (some u0) → u0 < u + q3 := fun u0 h9 => by
          obtain ⟨v', hv', _⟩ := pre_ge (ws := waysM acts) (by rw [hl]; exact hws) k q2 u0 (far_get h9)
          rw [far_get ho2] at hv'
          cases hv'
        gi_wp2_with (fail)
        have hI5 := hI2.more_below hb5
        have kt5 := blk hb5 kt
        have kl5 := blk hb5 hcl
        have hlab5 := hlab.kp (kpL_below hb5)
        haveI : Nonempty (KeepT w5) := ⟨⟨w5, fun _ _ _ _ _ h => h⟩⟩
        have f6 := fun y' : KeepT w5 => y'.cell (by decide) (by decide) hI5.b6 (j := 0) rfl
        have f0 := fun y' : KeepT w5 => y'.cell (by decide) (by decide) kt5 (j := 0) rfl
        have f1 := fun y' : KeepT w5 => y'.cell (by decide) (by decide) kt5 (j := 1) rfl
        have f2 := fun y' : KeepT w5 => y'.cell (by decide) (by decide) kt5 (j := 2) rfl
        have f3 := fun y' : KeepT w5 => y'.cell (by decide) (by decide) kt5 (j := 3) rfl
        have f4 := fun y' : KeepT w5 => y'.cell (by decide) (by decide) kt5 (j := 4) rfl
        have fl := fun y' : KeepT w5 => y'.cell (by decide) (by decide) kl5 (j := 0) hc0
        refine wpIn_region_eager [16] (fun w' => ∃ y' : KeepT w5, w' = y'.v) (by kernel_rfl) (by kernel_rfl) ⟨keepT_below ((Below.refl w5.heap.size w5).drew), rfl⟩ ?_
        refine wpE_reads5 [0, 1, 2, 3, 4, 5, 6, 7, 8, 9, 10, 11, 12] 4 rfl (by kernel_rfl) ?_
        simp only [opsAt_nil, opsAt_cons, consOpt_some, List.getElem?_toArray, List.getElem?_cons_zero, List.getElem?_cons_succ]
        repeat (go_big_quiet_step (fail))
        refine wpQuiet_nil ?_
        have hbd5 : Below w5.heap.size w5 w5.drew := (Below.refl _ _).drew
        show wpE _ _ _ _ _ _ _ _ _ w5.drew
        generalize w5.drew = wd at *
        refine wpE_one (i := 13) rfl (by kernel_rfl) rfl ?_
        unfold wpMid
        simp only [opsAt_nil, opsAt_cons, consOpt_some, List.getElem?_toArray, List.getElem?_cons_zero, List.getElem?_cons_succ]
        go_wp2
        have hb7 : Below w5.heap.size w5 (wd.alloc (.cells #[.int .i64 (u + q3), .int .i64 (si : Int), .bool sb, .int .i64 (q1 : Int), .int .i64 (q2 : Int), .int .i64 q3, .pointer (some ⟨gl, 0, none⟩)] 89)) := hbd5.alloc hbd5.size _
        have kL : (wd.alloc (.cells #[.int .i64 (u + q3), .int .i64 (si : Int), .bool sb, .int .i64 (q1 : Int), .int .i64 (q2 : Int), .int .i64 q3, .pointer (some ⟨gl, 0, none⟩)] 89)).heap[wd.heap.size]? = some (.cells #[.int .i64 (u + q3), .int .i64 (si : Int), .bool sb, .int .i64 (q1 : Int), .int .i64 (q2 : Int), .int .i64 q3, .pointer (some ⟨gl, 0, none⟩)] 89 (0, 0)) := by rw [heapq_alloc, if_pos rfl]
        have hqx : x ≤ wd.heap.size := by have := hI5.below.size; have := hbd5.size; have := HX.out; omega
        refine onlyNormal_mk ⟨⟨keepT_below hb7, rfl⟩, ?_⟩
        have hI7 := hI5.more_below hb7
        have lab7 : LabW l0 (stepsM acts) (wd.alloc (.cells #[.int .i64 (u + q3), .int .i64 (si : Int), .bool sb, .int .i64 (q1 : Int), .int .i64 (q2 : Int), .int .i64 q3, .pointer (some ⟨gl, 0, none⟩)] 89)) (.pointer (some ⟨wd.heap.size, 0, none⟩)) (u + q3) (n + 1) q2 := .step kL HMEM.out (hlab5.kp (kpL_below hb7))
        generalize wd.alloc (.cells #[.int .i64 (u + q3), .int .i64 (si : Int), .bool sb, .int .i64 (q1 : Int), .int .i64 (q2 : Int), .int .i64 q3, .pointer (some ⟨gl, 0, none⟩)] 89) = w7 at *
        generalize wd.heap.size = q6 at *
        clear f6 f0 f1 f2 f3 f4 fl kL
        refine wpE_reads [14] 2 rfl (by kernel_rfl) ?_
        simp only [opsAt_nil, opsAt_cons, consOpt_some, List.getElem?_toArray, List.getElem?_cons_zero, List.getElem?_cons_succ]
        repeat (go_big_quiet_step (fail))
        refine wpQuiet_nil ?_
        obtain ⟨vs7, r17, _, _⟩ := hI7.row
        obtain ⟨p7, hp7⟩ : ∃ p, vs7[q2]? = some p := ⟨_, List.getElem?_eq_getElem (by have := r17.1; omega)⟩
        obtain ⟨cg7, fg7, hgx, _⟩ := own_cell r17 hp7
        obtain ⟨_, _, curg, hcurg⟩ := ownBlk r17 rfl
        have hyg : y + 1 ≠ g := fun e => by
          have h9 := hI7.b7
          rw [e] at h9
          rw [hcurg] at h9
          simp at h9
        have FS := hI7.set (i := q2) (by rw [hal]; exact hq2) hqx lab7 (by omega) hgt
        have KW := kpW_set2 (B := B) (i := q2) (v1 := .pointer (some ⟨q6, 0, none⟩)) (v2 := .bool true) hcurg hI7.b7 (by omega) (by have := hI7.hy; omega)
        have b78 : (w7.setCell ⟨g, q2, none⟩ (.pointer (some ⟨q6, 0, none⟩))).heap[y + 1]? = some (.cells #[.bool (moreGo l l ((waysM acts).take k))] 4 (0, 0)) := by
          rw [heapq_set, if_neg hyg]
          exact hI7.b7
        have KF : KeepsFrom w3.heap.size w7 (w7.setCell ⟨g, q2, none⟩ (.pointer (some ⟨q6, 0, none⟩))) := (KeepsOthers.setCell _ _ _).from _
        refine wpE_one (i := 15) rfl (by kernel_rfl) rfl ?_
        unfold wpMid
        simp only [opsAt_nil, opsAt_cons, consOpt_some, List.getElem?_toArray, List.getElem?_cons_zero, List.getElem?_cons_succ]
        go_wp2
        refine onlyNormal_mk ⟨⟨keepT_set hb7 hcurg q2 (.pointer (some ⟨q6, 0, none⟩)), rfl⟩, ?_⟩
        have c78 := cell_of_row _ (y + 1) 0 _ _ _ b78
        have q78 := frozen_of_row _ (y + 1) 0 _ _ b78
        simp at c78
        generalize w7.setCell ⟨g, q2, none⟩ (.pointer (some ⟨q6, 0, none⟩)) = w8 at *
        refine wpE_tail rfl (by kernel_rfl) ?_
        simp only [opsAt_nil, opsAt_cons, consOpt_some, List.getElem?_toArray, List.getElem?_cons_zero, List.getElem?_cons_succ]
        go_wp2
        refine onlyNormal_mk ?_
        gi_wp2
        refine ⟨?_, ?_, ?_⟩
        · exact ((KeepsFrom.of_grownBy (grown_of_below hb5) (fun r e => by cases e)).trans (KeepsFrom.of_grownBy (grown_of_below hb7) (fun r e => by cases e))).trans (KF.trans ((KeepsOthers.setCell _ _ _).from _))
        · exact kpW_t (kpW_below (by have := hI2.below.size; have := HX.out; omega) hb5) (kpW_t (kpW_below (by have := hI5.below.size; have := HX.out; omega) hb7) KW)
        · rw [take_snoc hxw, relaxGo_snoc, moreGo_snoc, relax_yes (far_get hol) HG.out, HG.out, Bool.or_true]
          exact FS
      · obtain ⟨gl2, rfl, curl2, hcl2, hc02⟩ := hlab2.cell
        have cl2 := (cell_of_row W2 gl2 0 _ _ _ hcl2).trans hc02
        have xl2 := fun y : Xt W2 => y.cell cl2
        have HG9 : Hid (grows l (relaxGo l l ((waysM acts).take k)) (q1, q2, q3) = decide (v < u + q3)) := by
          rw [Hid, grows]
          simp only [far_get hol, far_get ho2, beats]
        by_cases hlt : v < u + q3
        · have hd : decide (v < u + q3) = true := decide_eq_true hlt
          gi_wp2_with (fail)
          refine wpIn_region_xt (by kernel_rfl) (by kernel_rfl) (by kernel_rfl) ?_
          repeat (go_big_quiet_step (fail))
          refine wpQuiet_nil ?_
          intro w5 hx5
          have hb5 := Xt.below hx5
          clear hx5
          have HG : Hid (grows l (relaxGo l l ((waysM acts).take k)) (q1, q2, q3) = true) := HG9.out.trans hd
          have hgt : ∀ u0 : Int, l[q2]? = some (some u0) → u0 < u + q3 := fun u0 h9 => by
            obtain ⟨v', hv', hle⟩ := pre_ge (ws := waysM acts) (by rw [hl]; exact hws) k q2 u0 (far_get h9)
            rw [far_get ho2] at hv'
            cases hv'
            omega
          gi_wp2_with (fail)
          have hI5 := hI2.more_below hb5
          have kt5 := blk hb5 kt
          have kl5 := blk hb5 hcl
          have hlab5 := hlab.kp (kpL_below hb5)
          haveI : Nonempty (KeepT w5) := ⟨⟨w5, fun _ _ _ _ _ h => h⟩⟩
          have f6 := fun y' : KeepT w5 => y'.cell (by decide) (by decide) hI5.b6 (j := 0) rfl
          have f0 := fun y' : KeepT w5 => y'.cell (by decide) (by decide) kt5 (j := 0) rfl
          have f1 := fun y' : KeepT w5 => y'.cell (by decide) (by decide) kt5 (j := 1) rfl
          have f2 := fun y' : KeepT w5 => y'.cell (by decide) (by decide) kt5 (j := 2) rfl
          have f3 := fun y' : KeepT w5 => y'.cell (by decide) (by decide) kt5 (j := 3) rfl
          have f4 := fun y' : KeepT w5 => y'.cell (by decide) (by decide) kt5 (j := 4) rfl
          have fl := fun y' : KeepT w5 => y'.cell (by decide) (by decide) kl5 (j := 0) hc0
          refine wpIn_region_eager [16] (fun w' => ∃ y' : KeepT w5, w' = y'.v) (by kernel_rfl) (by kernel_rfl) ⟨keepT_below ((Below.refl w5.heap.size w5).drew), rfl⟩ ?_
          refine wpE_reads5 [0, 1, 2, 3, 4, 5, 6, 7, 8, 9, 10, 11, 12] 4 rfl (by kernel_rfl) ?_
          simp only [opsAt_nil, opsAt_cons, consOpt_some, List.getElem?_toArray, List.getElem?_cons_zero, List.getElem?_cons_succ]
          repeat (go_big_quiet_step (fail))
          refine wpQuiet_nil ?_
          have hbd5 : Below w5.heap.size w5 w5.drew := (Below.refl _ _).drew
          show wpE _ _ _ _ _ _ _ _ _ w5.drew
          generalize w5.drew = wd at *
          refine wpE_one (i := 13) rfl (by kernel_rfl) rfl ?_
          unfold wpMid
          simp only [opsAt_nil, opsAt_cons, consOpt_some, List.getElem?_toArray, List.getElem?_cons_zero, List.getElem?_cons_succ]
          go_wp2
          have hb7 : Below w5.heap.size w5 (wd.alloc (.cells #[.int .i64 (u + q3), .int .i64 (si : Int), .bool sb, .int .i64 (q1 : Int), .int .i64 (q2 : Int), .int .i64 q3, .pointer (some ⟨gl, 0, none⟩)] 89)) := hbd5.alloc hbd5.size _
          have kL : (wd.alloc (.cells #[.int .i64 (u + q3), .int .i64 (si : Int), .bool sb, .int .i64 (q1 : Int), .int .i64 (q2 : Int), .int .i64 q3, .pointer (some ⟨gl, 0, none⟩)] 89)).heap[wd.heap.size]? = some (.cells #[.int .i64 (u + q3), .int .i64 (si : Int), .bool sb, .int .i64 (q1 : Int), .int .i64 (q2 : Int), .int .i64 q3, .pointer (some ⟨gl, 0, none⟩)] 89 (0, 0)) := by rw [heapq_alloc, if_pos rfl]
          have hqx : x ≤ wd.heap.size := by have := hI5.below.size; have := hbd5.size; have := HX.out; omega
          refine onlyNormal_mk ⟨⟨keepT_below hb7, rfl⟩, ?_⟩
          have hI7 := hI5.more_below hb7
          have lab7 : LabW l0 (stepsM acts) (wd.alloc (.cells #[.int .i64 (u + q3), .int .i64 (si : Int), .bool sb, .int .i64 (q1 : Int), .int .i64 (q2 : Int), .int .i64 q3, .pointer (some ⟨gl, 0, none⟩)] 89)) (.pointer (some ⟨wd.heap.size, 0, none⟩)) (u + q3) (n + 1) q2 := .step kL HMEM.out (hlab5.kp (kpL_below hb7))
          generalize wd.alloc (.cells #[.int .i64 (u + q3), .int .i64 (si : Int), .bool sb, .int .i64 (q1 : Int), .int .i64 (q2 : Int), .int .i64 q3, .pointer (some ⟨gl, 0, none⟩)] 89) = w7 at *
          generalize wd.heap.size = q6 at *
          clear f6 f0 f1 f2 f3 f4 fl kL
          refine wpE_reads [14] 2 rfl (by kernel_rfl) ?_
          simp only [opsAt_nil, opsAt_cons, consOpt_some, List.getElem?_toArray, List.getElem?_cons_zero, List.getElem?_cons_succ]
          repeat (go_big_quiet_step (fail))
          refine wpQuiet_nil ?_
          obtain ⟨vs7, r17, _, _⟩ := hI7.row
          obtain ⟨p7, hp7⟩ : ∃ p, vs7[q2]? = some p := ⟨_, List.getElem?_eq_getElem (by have := r17.1; omega)⟩
          obtain ⟨cg7, fg7, hgx, _⟩ := own_cell r17 hp7
          obtain ⟨_, _, curg, hcurg⟩ := ownBlk r17 rfl
          have hyg : y + 1 ≠ g := fun e => by
            have h9 := hI7.b7
            rw [e] at h9
            rw [hcurg] at h9
            simp at h9
          have FS := hI7.set (i := q2) (by rw [hal]; exact hq2) hqx lab7 (by omega) hgt
          have KW := kpW_set2 (B := B) (i := q2) (v1 := .pointer (some ⟨q6, 0, none⟩)) (v2 := .bool true) hcurg hI7.b7 (by omega) (by have := hI7.hy; omega)
          have b78 : (w7.setCell ⟨g, q2, none⟩ (.pointer (some ⟨q6, 0, none⟩))).heap[y + 1]? = some (.cells #[.bool (moreGo l l ((waysM acts).take k))] 4 (0, 0)) := by
            rw [heapq_set, if_neg hyg]
            exact hI7.b7
          have KF : KeepsFrom w3.heap.size w7 (w7.setCell ⟨g, q2, none⟩ (.pointer (some ⟨q6, 0, none⟩))) := (KeepsOthers.setCell _ _ _).from _
          refine wpE_one (i := 15) rfl (by kernel_rfl) rfl ?_
          unfold wpMid
          simp only [opsAt_nil, opsAt_cons, consOpt_some, List.getElem?_toArray, List.getElem?_cons_zero, List.getElem?_cons_succ]
          go_wp2
          refine onlyNormal_mk ⟨⟨keepT_set hb7 hcurg q2 (.pointer (some ⟨q6, 0, none⟩)), rfl⟩, ?_⟩
          have c78 := cell_of_row _ (y + 1) 0 _ _ _ b78
          have q78 := frozen_of_row _ (y + 1) 0 _ _ b78
          simp at c78
          generalize w7.setCell ⟨g, q2, none⟩ (.pointer (some ⟨q6, 0, none⟩)) = w8 at *
          refine wpE_tail rfl (by kernel_rfl) ?_
          simp only [opsAt_nil, opsAt_cons, consOpt_some, List.getElem?_toArray, List.getElem?_cons_zero, List.getElem?_cons_succ]
          go_wp2
          refine onlyNormal_mk ?_
          gi_wp2
          refine ⟨?_, ?_, ?_⟩
          · exact ((KeepsFrom.of_grownBy (grown_of_below hb5) (fun r e => by cases e)).trans (KeepsFrom.of_grownBy (grown_of_below hb7) (fun r e => by cases e))).trans (KF.trans ((KeepsOthers.setCell _ _ _).from _))
          · exact kpW_t (kpW_below (by have := hI2.below.size; have := HX.out; omega) hb5) (kpW_t (kpW_below (by have := hI5.below.size; have := HX.out; omega) hb7) KW)
          · rw [take_snoc hxw, relaxGo_snoc, moreGo_snoc, relax_yes (far_get hol) HG.out, HG.out, Bool.or_true]
            exact FS
        · have hd : decide (v < u + q3) = false := decide_eq_false hlt
          have HG : Hid (grows l (relaxGo l l ((waysM acts).take k)) (q1, q2, q3) = false) := HG9.out.trans hd
          gi_wp2_with (fail)
          refine wpIn_region_xt (by kernel_rfl) (by kernel_rfl) (by kernel_rfl) ?_
          repeat (go_big_quiet_step (fail))
          refine wpQuiet_nil ?_
          intro w5 hx5
          have hb5 := Xt.below hx5
          clear hx5
          gi_wp2
          refine ⟨KeepsFrom.of_grownBy (grown_of_below hb5) (fun r e => by cases e), kpW_below (by have := hI2.below.size; have := HX.out; omega) hb5, ?_⟩
          rw [take_snoc hxw, relaxGo_snoc, moreGo_snoc, relax_no HG.out, HG.out, Bool.or_false]
          exact hI2.more_below hb5
  case done =>
    rintro D W hD hI hK
    have hsl : (stepsM acts).length = (waysM acts).length := by rw [← steps_ways, List.length_map]
    rw [hsl, List.take_length] at hI
    have c6 := cell_of_row W y 0 _ _ _ hI.b6
    have c7 := cell_of_row W (y + 1) 0 _ _ _ hI.b7
    simp at c6 c7
    gi_wp2_with (fail)
    refine wpIn_wide.2 ?_
    have x6 := fun y' : Xt W => y'.cell c6
    have x7 := fun y' : Xt W => y'.cell c7
    refine wp_region_xt (by kernel_rfl) (by kernel_rfl) ?_
    repeat (go_big_quiet_step (fail))
    refine wpQuiet_nil ?_
    intro w5 hx5
    have hb5 := Xt.below hx5
    clear hx5 x6 x7 c6 c7
    have hI5 := hI.more_below hb5
    have hK5 := blk hb5 hK
    gi_wp2
    refine ⟨by simp, .inl ⟨_, _, rfl, run_takeDeferred hK5, ?_⟩⟩
    obtain ⟨vsN, r1, r2, r3⟩ := hI5.row
    have hDx : x ≤ D := by have := hbW.size; have := HX.out; omega
    refine ⟨_, by simp [results, Try.results64, go_sem], some ⟨g, 0, none⟩, c, vsN, rfl, rd_own (ownsRow_putObj r1 _ hK5 rfl), r2.kp (fun b cur hb => put_cells hK5 rfl hb), by rw [HX.out]; exact r3, ?_⟩
    rw [HX.out]
    exact hI5.below.trans ((Below.refl x w5).grown (grownBy_putObj' w5 D _) (by have := hI5.below.size; have := HX.out; omega) (fun k e => by cases e; omega))
end Go.Proofs.Ytnnnpijepdjanaa

namespace Go.Proofs.Ytnnnpijepdjanaa
open Go.RowKit

/-- labels, and one that still grows or none: it is at an event that is farther by one round more -/
def LongW (l0 : Far) (sts : List Stp3) (ws : List Wy) (w : World) (ne d : Nat) (r : Far × Bool) (e : Ending) (w' : World) : Prop :=
  ∃ A c vs p, e = .returned (.tuple #[.slice A ne c, p]) ∧ Rd w' w'.heap.size A vs ∧ LabsW l0 sts w' (ne + d) vs r.1 ∧ (r.2 = false → p = .pointer none) ∧ (r.2 = true → ∃ i u n, n ≤ ne + d + 1 ∧ farAt (farM ws r.1) i = some u ∧ farAt r.1 i ≠ some u ∧ LabW l0 sts w' p u n i) ∧ Below w.heap.size w w'
def LoRelW (l0 : Far) (sts : List Stp3) (w0 : World) (d : Nat) (ws : List Wy) (l : Far) (ne : Nat) (r : Far × Bool) (u1 u16 : Value) (wr : World) : Prop :=
  ∃ (k : Nat) (A : Option Addr) (c : Nat) (vs : List Value), k ≤ ne ∧ u16 = .int .i64 k ∧ u1 = .slice A ne c ∧ longM ws (ne - k) (iterF ws k l) = r ∧ Rd wr wr.heap.size A vs ∧ LabsW l0 sts wr (k + d) vs (iterF ws k l) ∧ Below w0.heap.size w0 wr
set_option maxRecDepth 100000 in
set_option maxHeartbeats 8000000 in
theorem longest_w (w : World) (B : Nat) (Ae Aa : Option Addr) (ne ce na ca : Nat) (evs : List ByteArray) (acts : List Act) (h : NetAt w B Ae Aa ne ce na evs acts) (hB : B ≤ w.heap.size) (hna : na ≤ 1000) (hR : ∀ a ∈ acts, actR ne a)
    (Al : Option Addr) (cl d : Nat) (vs : List Value) (l : Far) (hl : l.length = ne) (h1 : 1 ≤ ne) (h16 : ne ≤ 16) (l0 : Far) (hv : LabsW l0 (stepsM acts) w d vs l) (hrd : Rd w w.heap.size Al vs) (hbd : ∀ i u, farAt l i = some u → -10000000 ≤ u ∧ u ≤ 10000000) :
    Calls Try.prog 30 #[.agg #[.slice Ae ne ce, .slice Aa na ca], .slice Al ne cl] w (LongW l0 (stepsM acts) (waysM acts) w ne d (longM (waysM acts) ne l)) := by
  obtain ⟨r, hr⟩ : ∃ r, longM (waysM acts) ne l = r := ⟨_, rfl⟩
  rw [hr]
  have hws : WaysIn ne (waysM acts) := ways_in hR
  have hwl := ways_len hR
  have hk2 : ∀ k i u, k ≤ ne → farAt (iterF (waysM acts) k l) i = some u → -100000000 ≤ u ∧ u ≤ 100000000 := fun k i u hk hu => by
    have a1 := iter_up (ws := waysM acts) (l := l) (M := 10000000) (C := 100000) (by rw [hl]; exact hws) (fun w hw => (hwl w hw).2) (by omega) (fun i u h => (hbd i u h).2) k i u hu
    have a2 := iter_down (ws := waysM acts) (l := l) (M := -10000000) (C := 100000) (by rw [hl]; exact hws) (fun w hw => (hwl w hw).1) (by omega) (fun i u h => (hbd i u h).1) k i u hu
    omega
  have hb0 : Below w.heap.size w (w.alloc (.cells #[.slice Ae ne ce, .slice Aa na ca] 74)) := (Below.refl _ _).alloc (Nat.le_refl _) _
  have k0 : (w.alloc (.cells #[.slice Ae ne ce, .slice Aa na ca] 74)).heap[w.heap.size]? = some (.cells #[.slice Ae ne ce, .slice Aa na ca] 74 (0, 0)) := by rw [heapq_alloc, if_pos rfl]
  have HREL : Hid (LoRelW l0 (stepsM acts) (w.alloc (.cells #[.slice Ae ne ce, .slice Aa na ca] 74)) d (waysM acts) l ne r (.slice Al ne cl) (.int .i64 0) (w.alloc (.cells #[.slice Ae ne ce, .slice Aa na ca] 74))) :=
    ⟨0, Al, cl, vs, Nat.zero_le _, rfl, rfl, hr, (hrd.below hb0).mono hb0.size, (hv.kp (kpL_below hb0)).mono (by omega), Below.refl _ _⟩
  have hN := h.below (hb0.mono hB)
  have hB0 := Nat.le_trans hB hb0.size
  have hs := hb0.size
  have HB := Lib.hid hb0
  obtain ⟨d0, d1⟩ := cells2 k0
  have HK2 := Lib.hid hk2
  have HBD := Lib.hid hbd
  have HHL := Lib.hid hl
  clear hb0 k0 h hv hrd hr hk2 hbd hl
  go_enter Try.func30, Try.ntmps30
  go_upto_region 1 with (fail)
  generalize (w.alloc (.cells #[.slice Ae ne ce, .slice Aa na ca] 74)) = w0 at *
  go_wp2
  go_loopw [1, 16] (fun u1 u16 wr => LoRelW l0 (stepsM acts) w0 d (waysM acts) l ne r u1 u16 wr) (fun _ u16 _ => ne - (intOf u16).toNat)
  case atStart => exact HREL.out
  case round =>
    clear HREL
    obtain ⟨k, A, c, vk, hk, rfl, rfl, hlong, hrd, hlab, hb⟩ := hrel
    have HLO := Lib.hid hlong
    have HLAB := Lib.hid hlab
    have HRD := Lib.hid hrd
    have HB0 := Lib.hid hb
    have hsz := hb.size
    replace d0 := kept hb d0
    replace d1 := kept hb d1
    have hN1 := hN.below (hb.mono hB0)
    have hB1 := Nat.le_trans hB0 hsz
    have hll : (iterF (waysM acts) k l).length = ne := by rw [iterF_len, HHL.out]
    have FA := farther_w wr B Ae Aa ne ce na ca evs acts hN1 hB1 hna hR A c (k + d) vk (iterF (waysM acts) k l) hll h1 h16 l0 hlab hrd (fun i u hu => HK2.out k i u hk hu)
    unfold FartherPost at FA
    have hmf := more_false (ws := waysM acts) (l := iterF (waysM acts) k l) (by rw [hll]; exact hws)
    obtain ⟨mo, hmo⟩ : ∃ b, moreGo (iterF (waysM acts) k l) (iterF (waysM acts) k l) (waysM acts) = b := ⟨_, rfl⟩
    rw [hmo] at hmf FA
    have HMF := Lib.hid hmf
    clear hlong hlab hrd hb hmo hmf hll
    by_cases hlt : k < ne
    · obtain ⟨j, hj⟩ : ∃ j, ne - k = j + 1 := ⟨ne - k - 1, by omega⟩
      have HJ := Lib.hid hj
      clear hj
      cases mo with
      | false =>
        have HR2 : Hid (r = (iterF (waysM acts) k l, false)) := by
          rw [Hid, ← HLO.out, HJ.out, longM, if_pos (HMF.out.1 rfl)]
        go_wp2_with (go_at_call 64; refine FA.mono ?_; rintro e w2 ⟨A2, c2, vs2, rfl, hrd2, hlab2, hpd, hb2⟩)
        go_ret2
        refine ⟨A, c, vk, _, rfl, (HRD.out.below hb2).mono hb2.size, ?_, fun _ => rfl, (fun h9 => by rw [HR2.out] at h9; cases h9), HB.out.trans ((HB0.out.trans (hb2.mono hsz)).mono hs)⟩
        rw [HR2.out]
        exact (HLAB.out.kp (kpL_below hb2)).mono (by omega)
      | true =>
        have HR2 : Hid (longM (waysM acts) (ne - (k + 1)) (iterF (waysM acts) (k + 1) l) = r) := by
          rw [Hid, ← HLO.out, HJ.out, longM, if_neg (fun e => by have := HMF.out.2 e; cases this), show ne - (k + 1) = j by have := HJ.out; omega]
          rfl
        go_wp2_with (go_at_call 64; refine FA.mono ?_; rintro e w2 ⟨A2, c2, vs2, rfl, hrd2, hlab2, hpd, hb2⟩)
        go_roundw
        case rel => exact ⟨k + 1, A2, c2, vs2, by omega, by go_num, rfl, HR2.out, hrd2, hlab2.mono (by omega), HB0.out.trans (hb2.mono hsz)⟩
        case measure => simp [intOf]; omega
    · obtain rfl : k = ne := by omega
      obtain ⟨lk, hlk⟩ : ∃ q, iterF (waysM acts) k l = q := ⟨_, rfl⟩
      obtain ⟨acc, hacc⟩ : ∃ q, farM (waysM acts) lk = q := ⟨_, rfl⟩
      rw [hlk] at FA HLAB HLO
      rw [hacc] at FA
      have hlkl : lk.length = k := by rw [← hlk, iterF_len, HHL.out]
      have HR0 : Hid (r = (lk, acc != lk)) := by
        rw [Hid, ← HLO.out, Nat.sub_self, longM, hacc]
      have hal : acc.length = k := by rw [← hacc, farM_len, hlkl]
      have HACC := Lib.hid hacc
      clear hlk hacc HMF HLO
      go_wp2_with (go_at_call 64; refine FA.mono ?_; rintro e w2 ⟨A2, c2, vs2, rfl, hrd2, hlab2, hpd, hb2⟩)
      have HRD2 := Lib.hid hrd2
      have HLAB2 := Lib.hid hlab2
      have HPD := Lib.hid hpd
      clear hrd2 hlab2 hpd FA
      go_loopw [37] (fun u37 wr => L2Rel w2 lk acc k u37 wr) (fun u37 _ => k - (intOf u37).toNat)
      case atStart => exact ⟨0, Nat.zero_le _, rfl, fun j hj => by omega, Below.refl _ _⟩
      case round =>
        obtain ⟨i, hi, rfl, hj2, hb3⟩ := hrel
        have HJJ := Lib.hid hj2
        have HB3 := Lib.hid hb3
        clear hj2
        by_cases hlt2 : i < k
        · obtain ⟨v2, hv2⟩ : ∃ v, vs2[i]? = some v := ⟨_, List.getElem?_eq_getElem (by rw [HLAB2.out.1, hal]; exact hlt2)⟩
          obtain ⟨v1, hv1⟩ : ∃ v, vk[i]? = some v := ⟨_, List.getElem?_eq_getElem (by rw [HLAB.out.1, hlkl]; exact hlt2)⟩
          obtain ⟨o1, ho1⟩ : ∃ o, lk[i]? = some o := ⟨_, List.getElem?_eq_getElem (by rw [hlkl]; exact hlt2)⟩
          obtain ⟨b2, off2, hA2, _, e2⟩ := (HRD2.out.below hb3) i v2 hv2
          obtain ⟨b1, off1, hA1, _, e1⟩ := ((HRD.out.below hb2).mono hb2.size |>.below hb3) i v1 hv1
          subst hA2 hA1
          rcases HPD.out i v2 hv2 with ⟨hs1, hs2⟩ | ⟨⟨g2, rfl, hg2⟩, u, hacc, hu⟩
          · have hvv : v1 = v2 := Option.some.inj (hv1.symm.trans hs1)
            subst hvv
            have HJ2 : Hid (∀ j, j < i + 1 → acc[j]? = lk[j]?) := fun j hj => by
              rcases Nat.lt_or_ge j i with h9 | h9
              · exact HJJ.out j h9
              · rw [show j = i by omega]
                exact hs2
            have HO := HLAB.out.2 i v1 o1 hv1 ho1
            clear hs1 hs2 hv1 hv2
            rcases HO with ⟨rfl, rfl⟩ | ⟨u, n, _, rfl, hl1⟩
            · go_wp2
              go_roundw
              case rel => exact ⟨i + 1, by omega, by go_num, HJ2.out, HB3.out⟩
              case measure => simp [intOf]; omega
            · obtain ⟨g1, rfl, hg1⟩ := hl1.lt
              have qs := run_neq_same g1
              clear hl1
              go_wp2
              go_roundw
              case rel => exact ⟨i + 1, by omega, by go_num, HJ2.out, HB3.out⟩
              case measure => simp [intOf]; omega
          · have HU := Lib.hid hu
            obtain ⟨nv, hnv, hlabv⟩ : ∃ n, n ≤ k + d + 1 ∧ LabW l0 (stepsM acts) wr (.pointer (some ⟨g2, 0, none⟩)) u n i := by
              rcases (HLAB2.out.kp (kpL_below hb3)).2 i _ _ hv2 hacc with ⟨h9, _⟩ | ⟨u', n', hn9, h9, h8⟩
              · cases h9
              · cases h9
                exact ⟨n', hn9, h8⟩
            have HNV := Lib.hid hnv
            have HFA : Hid (farAt (farM (waysM acts) lk) i = some u) := by
              rw [Hid, HACC.out, far_get hacc]
            have HFB : Hid (farAt lk i ≠ some u) := fun h9 => by
              rw [far_get ho1] at h9
              rw [h9] at ho1
              have := HU.out u ho1
              omega
            have HO := HLAB.out.2 i v1 o1 hv1 ho1
            clear hu hv2 hv1 hnv
            rcases HO with ⟨rfl, rfl⟩ | ⟨u1, n1, _, rfl, hl1⟩
            · have HF := Lib.hid hlabv
              have HB9 := Lib.hid (HB.out.trans ((HB0.out.trans ((hb2.trans (hb3.mono hb2.size)).mono hsz)).mono hs))
              have HRD9 := Lib.hid (((HRD.out.below hb2).mono hb2.size).below hb3 |>.mono hb3.size)
              go_wp2
              go_ret2
              refine ⟨_, c, vk, _, rfl, HRD9.out, ?_, fun h9 => ?_, fun _ => by rw [HR0.out]; exact ⟨i, u, nv, HNV.out, HFA.out, HFB.out, HF.out⟩, HB9.out⟩
              · rw [HR0.out]
                exact (HLAB.out.kp (kpL_below hb2)).kp (kpL_below hb3)
              · rw [HR0.out] at h9
                simp only [bne_eq_false_iff_eq] at h9
                have h8 := HU.out
                rw [h9] at hacc
                have := h8 u hacc
                omega
            · obtain ⟨_, hlabe, curl, hcurl, _⟩ := hlabv.cell
              cases hlabe
              obtain ⟨g1, rfl, curk, hcurk, _⟩ := hl1.cell
              have hg1 := (Array.getElem?_eq_some_iff.1 hcurk).1
              have qs := run_neq_other (W := wr) (show g2 ≠ g1 by omega) hcurl (blk hb3 (blk hb2 hcurk))
              clear hl1 hcurl hcurk
              have HF := Lib.hid hlabv
              have HB9 := Lib.hid (HB.out.trans ((HB0.out.trans ((hb2.trans (hb3.mono hb2.size)).mono hsz)).mono hs))
              have HRD9 := Lib.hid (((HRD.out.below hb2).mono hb2.size).below hb3 |>.mono hb3.size)
              go_wp2
              go_ret2
              refine ⟨_, c, vk, _, rfl, HRD9.out, ?_, fun h9 => ?_, fun _ => by rw [HR0.out]; exact ⟨i, u, nv, HNV.out, HFA.out, HFB.out, HF.out⟩, HB9.out⟩
              · rw [HR0.out]
                exact (HLAB.out.kp (kpL_below hb2)).kp (kpL_below hb3)
              · rw [HR0.out] at h9
                simp only [bne_eq_false_iff_eq] at h9
                have h8 := HU.out
                rw [h9] at hacc
                have := h8 u hacc
                omega
        · have hke : i = k := by omega
          have hae : acc = lk := List.ext_getElem? fun j => by
            rcases Nat.lt_or_ge j i with h9 | h9
            · exact HJJ.out j h9
            · rw [List.getElem?_eq_none (by omega), List.getElem?_eq_none (by omega)]
          have HR1 : Hid (r = (lk, false)) := by
            rw [Hid, HR0.out, hae]
            simp
          have HB9 := Lib.hid (HB.out.trans ((HB0.out.trans ((hb2.trans (hb3.mono hb2.size)).mono hsz)).mono hs))
          have HRD9 := Lib.hid (((HRD.out.below hb2).mono hb2.size).below hb3 |>.mono hb3.size)
          clear hae hke
          go_wp2
          go_ret2
          refine ⟨_, c, vk, _, rfl, HRD9.out, ?_, fun _ => rfl, (fun h9 => by rw [HR1.out] at h9; cases h9), HB9.out⟩
          rw [HR1.out]
          exact (HLAB.out.kp (kpL_below hb2)).kp (kpL_below hb3)
end Go.Proofs.Ytnnnpijepdjanaa

namespace Go.Proofs.Ytnnnpijepdjanaa

def acts2 (L : Int) : List Act := [⟨0, 0, 1, L, -1, 0⟩, ⟨3, 0, 1, 1, L - 1, 0⟩]
theorem ways2 {L : Int} (hL : 2 ≤ L) : waysM (acts2 L) = [(0, 1, L), (0, 1, 1), (1, 0, -(L - 1))] := by
  have : L - 1 ≠ -1 := by omega
  simp [waysM, acts2, waysA, fwdW, backW, this]
theorem steps2 {L : Int} (hL : 2 ≤ L) : stepsM (acts2 L) = [(0, false, 0, 1, L), (1, false, 0, 1, 1), (1, true, 1, 0, -(L - 1))] := by
  have : L - 1 ≠ -1 := by omega
  simp [stepsM, stepsGo, acts2, backS, fwdW, backW, this]
theorem relax_at {l acc : Far} {a b : Nat} {z u v : Int} (hu : farAt l a = some u) (hv : farAt acc b = some v) : relax l acc (a, b, z) = if v < u + z then acc.set b (some (u + z)) else acc := by
  simp [relax, hu, hv, beats]
theorem far2a {L : Int} (hL : 2 ≤ L) : farM (waysM (acts2 L)) [some 0, some 0] = [some 0, some L] := by
  rw [ways2 hL, farM, relaxGo, relaxGo, relaxGo, relaxGo, relax_at (acc := [some 0, some 0]) (a := 0) (b := 1) (u := 0) (v := 0) rfl rfl, if_pos (by omega)]
  show relax _ (relax _ [some 0, some (0 + L)] _) _ = _
  rw [Int.zero_add, relax_at (acc := [some 0, some L]) (a := 0) (b := 1) (u := 0) (v := L) rfl rfl, if_neg (by omega), relax_at (acc := [some 0, some L]) (a := 1) (b := 0) (u := 0) (v := 0) rfl rfl, if_neg (by omega)]
theorem far2b {L : Int} (hL : 2 ≤ L) : farM (waysM (acts2 L)) [some 0, some L] = [some 1, some L] := by
  rw [ways2 hL, farM, relaxGo, relaxGo, relaxGo, relaxGo, relax_at (acc := [some 0, some L]) (a := 0) (b := 1) (u := 0) (v := L) rfl rfl, if_neg (by omega), relax_at (acc := [some 0, some L]) (a := 0) (b := 1) (u := 0) (v := L) rfl rfl, if_neg (by omega), relax_at (acc := [some 0, some L]) (a := 1) (b := 0) (u := L) (v := 0) rfl rfl, if_pos (by omega), show L + -(L - 1) = 1 by omega]
  rfl
theorem far2c {L : Int} (hL : 2 ≤ L) : farM (waysM (acts2 L)) [some 1, some L] = [some 1, some (1 + L)] := by
  rw [ways2 hL, farM, relaxGo, relaxGo, relaxGo, relaxGo, relax_at (acc := [some 1, some L]) (a := 0) (b := 1) (u := 1) (v := L) rfl rfl, if_pos (by omega)]
  show relax _ (relax _ [some 1, some (1 + L)] _) _ = _
  rw [relax_at (acc := [some 1, some (1 + L)]) (a := 0) (b := 1) (u := 1) (v := 1 + L) rfl rfl, if_neg (by omega), relax_at (acc := [some 1, some (1 + L)]) (a := 1) (b := 0) (u := L) (v := 1) rfl rfl, if_neg (by omega)]
theorem long2 {L : Int} (hL : 2 ≤ L) : longM (waysM (acts2 L)) 2 (zerosF 2) = ([some 1, some L], true) := by
  have h0 : zerosF 2 = [some 0, some 0] := rfl
  have n1 : ¬ ([some 0, some L] : Far) = [some 0, some 0] := by simp; omega
  have n2 : ¬ ([some 1, some L] : Far) = [some 0, some L] := by simp
  have n3 : (([some 1, some (1 + L)] : Far) != [some 1, some L]) = true := by
    rw [bne_iff_ne]
    simp
    omega
  rw [h0, longM, far2a hL, if_neg n1, longM, far2b hL, if_neg n2, longM, far2c hL, n3]
/-- the walk of the label that still grows -/
def Chain2 (w : World) (p : Value) (L : Int) : Prop :=
  ∃ (g0 g1 g2 g3 : Nat) (a x y z : Int) (b : Bool), p = .pointer (some ⟨g3, 0, none⟩) ∧
    w.heap[g3]? = some (.cells #[.int .i64 (1 + L), .int .i64 0, .bool false, .int .i64 0, .int .i64 1, .int .i64 L, .pointer (some ⟨g2, 0, none⟩)] 89 (0, 0)) ∧
    w.heap[g2]? = some (.cells #[.int .i64 1, .int .i64 1, .bool true, .int .i64 1, .int .i64 0, .int .i64 (-(L - 1)), .pointer (some ⟨g1, 0, none⟩)] 89 (0, 0)) ∧
    w.heap[g1]? = some (.cells #[.int .i64 L, .int .i64 0, .bool false, .int .i64 0, .int .i64 1, .int .i64 L, .pointer (some ⟨g0, 0, none⟩)] 89 (0, 0)) ∧
    w.heap[g0]? = some (.cells #[.int .i64 0, .int .i64 a, .bool b, .int .i64 x, .int .i64 y, .int .i64 z, .pointer none] 89 (0, 0))
/-- a label is a root, or its last step is one of three -/
theorem lab2_inv {L u : Int} {w : World} {p : Value} {n ev : Nat} (hL : 2 ≤ L) (h : LabW (zerosF 2) (stepsM (acts2 L)) w p u n ev) :
    (u = 0 ∧ ∃ (g : Nat) (a x y z : Int) (b : Bool), p = .pointer (some ⟨g, 0, none⟩) ∧ w.heap[g]? = some (.cells #[.int .i64 0, .int .i64 a, .bool b, .int .i64 x, .int .i64 y, .int .i64 z, .pointer none] 89 (0, 0))) ∨
    (∃ (g si x : Nat) (b : Bool) (z : Int) (q : Value) (m : Nat), n = m + 1 ∧ p = .pointer (some ⟨g, 0, none⟩) ∧ w.heap[g]? = some (.cells #[.int .i64 u, .int .i64 (si : Int), .bool b, .int .i64 (x : Int), .int .i64 (ev : Int), .int .i64 z, q] 89 (0, 0)) ∧
      LabW (zerosF 2) (stepsM (acts2 L)) w q (u - z) m x ∧ ((ev = 1 ∧ si = 0 ∧ b = false ∧ x = 0 ∧ z = L) ∨ (ev = 1 ∧ si = 1 ∧ b = false ∧ x = 0 ∧ z = 1) ∨ (ev = 0 ∧ si = 1 ∧ b = true ∧ x = 1 ∧ z = -(L - 1)))) := by
  cases h with
  | root h h2 =>
    have hu : u = 0 := by
      match ev with
      | 0 => simp [farAt, zerosF] at h2; omega
      | 1 => simp [farAt, zerosF] at h2; omega
      | e + 2 => simp [farAt, zerosF] at h2
    subst hu
    exact .inl ⟨rfl, _, _, _, _, _, _, rfl, h⟩
  | step h hm hl =>
    rename_i g si x v z b q m
    rw [steps2 hL] at hm
    simp only [List.mem_cons, Prod.mk.injEq, List.not_mem_nil, or_false] at hm
    refine .inr ⟨g, si, x, b, z, q, m, rfl, rfl, h, by rw [show v + z - z = v by omega]; exact hl, ?_⟩
    rcases hm with ⟨rfl, rfl, rfl, rfl, rfl⟩ | ⟨rfl, rfl, rfl, rfl, rfl⟩ | ⟨rfl, rfl, rfl, rfl, rfl⟩
    · exact .inl ⟨rfl, rfl, rfl, rfl, rfl⟩
    · exact .inr (.inl ⟨rfl, rfl, rfl, rfl, rfl⟩)
    · exact .inr (.inr ⟨rfl, rfl, rfl, rfl, rfl⟩)
theorem chain2_of {L : Int} {w : World} {p : Value} {n : Nat} (hL : 2 ≤ L) (hn : n ≤ 3) (h : LabW (zerosF 2) (stepsM (acts2 L)) w p (1 + L) n 1) : Chain2 w p L := by
  rcases lab2_inv hL h with ⟨h0, _⟩ | ⟨g3, si, x, b, z, q, m, rfl, rfl, k3, l3, ⟨-, rfl, rfl, rfl, rfl⟩ | ⟨-, rfl, rfl, rfl, rfl⟩ | ⟨h9, _⟩⟩
  · omega
  · rw [show 1 + z - z = 1 by omega] at l3
    rcases lab2_inv hL l3 with ⟨h0, _⟩ | ⟨g2, si2, x2, b2, z2, q2, m2, rfl, rfl, k2, l2, ⟨h9, _⟩ | ⟨h9, _⟩ | ⟨-, rfl, rfl, rfl, rfl⟩⟩
    · omega
    · omega
    · omega
    · rw [show 1 - -(z - 1) = z by omega] at l2
      rcases lab2_inv hL l2 with ⟨h0, _⟩ | ⟨g1, si1, x1, b1, z1, q1, m1, rfl, rfl, k1, l1, ⟨-, rfl, rfl, rfl, hz⟩ | ⟨-, rfl, rfl, rfl, rfl⟩ | ⟨h9, _⟩⟩
      · omega
      · subst hz
        rw [Int.sub_self] at l1
        rcases lab2_inv hL l1 with ⟨_, g0, a, x, y, z', b, rfl, k0⟩ | ⟨_, _, _, _, _, _, m0, h9, _⟩
        · exact ⟨g0, g1, g2, g3, a, x, y, z', b, rfl, k3, k2, k1, k0⟩
        · omega
      · rcases lab2_inv hL l1 with ⟨h0, _⟩ | ⟨_, _, _, _, _, _, m0, h9, _⟩
        · omega
        · omega
      · omega
  · rw [show 1 + L - 1 = L by omega] at l3
    rcases lab2_inv hL l3 with ⟨h0, _⟩ | ⟨g2, si2, x2, b2, z2, q2, m2, rfl, rfl, k2, l2, ⟨h9, _⟩ | ⟨h9, _⟩ | ⟨-, rfl, rfl, rfl, rfl⟩⟩
    · omega
    · omega
    · omega
    · rcases lab2_inv hL l2 with ⟨h0, _⟩ | ⟨g1, si1, x1, b1, z1, q1, m1, rfl, rfl, k1, l1, ⟨-, rfl, rfl, rfl, rfl⟩ | ⟨-, rfl, rfl, rfl, rfl⟩ | ⟨h9, _⟩⟩
      · omega
      · rcases lab2_inv hL l1 with ⟨h0, _⟩ | ⟨_, _, _, _, _, _, m0, h9, _⟩
        · omega
        · omega
      · rcases lab2_inv hL l1 with ⟨h0, _⟩ | ⟨_, _, _, _, _, _, m0, h9, _⟩
        · omega
        · omega
      · omega
  · omega
end Go.Proofs.Ytnnnpijepdjanaa

namespace Go.Proofs.Ytnnnpijepdjanaa
open Go.RowKit

def wy5 (a : Int) (b : Bool) (x y z : Int) : List Value := [.int .i64 a, .bool b, .int .i64 x, .int .i64 y, .int .i64 z]
def RevRel3 (w0 : World) (base g c : Nat) (xs : List Value) (u2 u3 : Value) (wr : World) : Prop :=
  ∃ i j : Int, u2 = .int .i64 i ∧ u3 = .int .i64 j ∧ ((i = 0 ∧ j = 2) ∨ (i = 1 ∧ j = 1)) ∧ wr.ownsRow base 87 5 (.slice (some ⟨g, 0, none⟩) 3 c) 3 xs ∧ Below base w0 wr
def RevPost3 (w : World) (base g c : Nat) (xs : List Value) (e : Ending) (w' : World) : Prop := (∃ v, e = .returned v) ∧ w'.ownsRow base 87 5 (.slice (some ⟨g, 0, none⟩) 3 c) 3 xs ∧ Below base w w'
set_option maxRecDepth 100000 in
set_option maxHeartbeats 4000000 in
theorem Reverse3 (w : World) (base g c : Nat) (a x y z a' x' y' z' : Int) (b b' : Bool) (h : w.ownsRow base 87 5 (.slice (some ⟨g, 0, none⟩) 3 c) 3 (wy5 a b x y z ++ wy5 a' b' x' y' z' ++ wy5 a b x y z)) :
    Calls Try.prog 65 #[.slice (some ⟨g, 0, none⟩) 3 c] w (RevPost3 w base g c (wy5 a b x y z ++ wy5 a' b' x' y' z' ++ wy5 a b x y z)) := by
  have HW := Lib.hid h
  clear h
  go_enter Try.func65, Try.ntmps65
  go_wp2
  go_loopw [2, 3] (fun u2 u3 wr => RevRel3 w base g c (wy5 a b x y z ++ wy5 a' b' x' y' z' ++ wy5 a b x y z) u2 u3 wr) (fun u2 _ _ => 3 - (intOf u2).toNat)
  case atStart => exact ⟨0, 2, rfl, rfl, .inl ⟨rfl, rfl⟩, HW.out, Below.refl _ _⟩
  case round =>
    clear HW
    obtain ⟨i, j, rfl, rfl, hij, hown, hb⟩ := hrel
    rcases hij with ⟨rfl, rfl⟩ | ⟨rfl, rfl⟩
    · obtain ⟨a0, f0, hg, _⟩ := own_cell hown (i := 0) (v := .int .i64 a) rfl
      obtain ⟨a1, f1, _, _⟩ := own_cell hown (i := 1) (v := .bool b) rfl
      obtain ⟨a2, f2, _, _⟩ := own_cell hown (i := 2) (v := .int .i64 x) rfl
      obtain ⟨a3, f3, _, _⟩ := own_cell hown (i := 3) (v := .int .i64 y) rfl
      obtain ⟨a4, f4, _, _⟩ := own_cell hown (i := 4) (v := .int .i64 z) rfl
      obtain ⟨b0, q0, _, _⟩ := own_cell hown (i := 10) (v := .int .i64 a) rfl
      obtain ⟨b1, q1, _, _⟩ := own_cell hown (i := 11) (v := .bool b) rfl
      obtain ⟨b2, q2, _, _⟩ := own_cell hown (i := 12) (v := .int .i64 x) rfl
      obtain ⟨b3, q3, _, _⟩ := own_cell hown (i := 13) (v := .int .i64 y) rfl
      obtain ⟨b4, q4, _, _⟩ := own_cell hown (i := 14) (v := .int .i64 z) rfl
      have HB0 := Lib.hid hb
      have HOW := Lib.hid hown
      have hsz : base ≤ wr.heap.size := by
        have := (ownBlk hown rfl).2.1
        have := (ownBlk hown rfl).1
        omega
      clear hown hb
      go_upto_region 3 with (fail)
      have z0 := fun y : Xt wr => y.cell a0
      have z1 := fun y : Xt wr => y.cell a1
      have z2 := fun y : Xt wr => y.cell a2
      have z3 := fun y : Xt wr => y.cell a3
      have z4 := fun y : Xt wr => y.cell a4
      have y0 := fun y : Xt wr => y.cell b0
      have y1 := fun y : Xt wr => y.cell b1
      have y2 := fun y : Xt wr => y.cell b2
      have y3 := fun y : Xt wr => y.cell b3
      have y4 := fun y : Xt wr => y.cell b4
      refine wp_region_cut [2, 3] [0, 1, 4, 5, 6, 7, 8, 9, 10, 11, 12] 13 [14, 15] (fun w' => ∃ y : Xt wr, w' = y.1) (by kernel_rfl) (by kernel_rfl) ⟨⟨wr.drew, (Below.refl _ _).drew⟩, rfl⟩ ?_
      simp only [opsAt_nil, opsAt_cons, consOpt_some, List.getElem?_toArray, List.getElem?_cons_zero, List.getElem?_cons_succ]
      repeat (go_big_quiet_step (fail))
      refine wpQuiet_nil ?_
      show wpQuiet _ _ _ _ _ _
      repeat (go_big_quiet_step (fail))
      refine wpQuiet_nil ?_
      intro w1 hx1
      have hb1 := Xt.below hx1
      clear hx1 z0 z1 z2 z3 z4 y0 y1 y2 y3 y4 a0 a1 a2 a3 a4 b0 b1 b2 b3 b4 f0 f1 f2 f3 f4 q0 q1 q2 q3 q4
      have how := ownsRow_below HOW.out hb1
      have HO1 := Lib.hid how
      obtain ⟨a0, f0, _, _⟩ := own_cell how (i := 0) (v := .int .i64 a) rfl
      obtain ⟨a1, f1, _, _⟩ := own_cell how (i := 1) (v := .bool b) rfl
      obtain ⟨a2, f2, _, _⟩ := own_cell how (i := 2) (v := .int .i64 x) rfl
      obtain ⟨a3, f3, _, _⟩ := own_cell how (i := 3) (v := .int .i64 y) rfl
      obtain ⟨a4, f4, _, _⟩ := own_cell how (i := 4) (v := .int .i64 z) rfl
      obtain ⟨b0, q0, _, _⟩ := own_cell how (i := 10) (v := .int .i64 a) rfl
      obtain ⟨b1, q1, _, _⟩ := own_cell how (i := 11) (v := .bool b) rfl
      obtain ⟨b2, q2, _, _⟩ := own_cell how (i := 12) (v := .int .i64 x) rfl
      obtain ⟨b3, q3, _, _⟩ := own_cell how (i := 13) (v := .int .i64 y) rfl
      obtain ⟨b4, q4, _, _⟩ := own_cell how (i := 14) (v := .int .i64 z) rfl
      have how4 : Hid (((((((((((w1.setCell ⟨g, 0, none⟩ (.int .i64 a)).setCell ⟨g, 1, none⟩ (.bool b)).setCell ⟨g, 2, none⟩ (.int .i64 x)).setCell ⟨g, 3, none⟩ (.int .i64 y)).setCell ⟨g, 4, none⟩ (.int .i64 z)).setCell ⟨g, 10, none⟩ (.int .i64 a)).setCell ⟨g, 11, none⟩ (.bool b)).setCell ⟨g, 12, none⟩ (.int .i64 x)).setCell ⟨g, 13, none⟩ (.int .i64 y)).setCell ⟨g, 14, none⟩ (.int .i64 z)).ownsRow base 87 5 (.slice (some ⟨g, 0, none⟩) 3 c) 3 (wy5 a b x y z ++ wy5 a' b' x' y' z' ++ wy5 a b x y z)) :=
        own_set (own_set (own_set (own_set (own_set (own_set (own_set (own_set (own_set (own_set HO1.out _) _) _) _) _) _) _) _) _) _
      have hb4 : Hid (Below base w ((((((((((w1.setCell ⟨g, 0, none⟩ (.int .i64 a)).setCell ⟨g, 1, none⟩ (.bool b)).setCell ⟨g, 2, none⟩ (.int .i64 x)).setCell ⟨g, 3, none⟩ (.int .i64 y)).setCell ⟨g, 4, none⟩ (.int .i64 z)).setCell ⟨g, 10, none⟩ (.int .i64 a)).setCell ⟨g, 11, none⟩ (.bool b)).setCell ⟨g, 12, none⟩ (.int .i64 x)).setCell ⟨g, 13, none⟩ (.int .i64 y)).setCell ⟨g, 14, none⟩ (.int .i64 z))) := (((((((((((HB0.out.trans (hb1.mono hsz)).setCell (p := ⟨g, 0, none⟩) hg _).setCell (p := ⟨g, 1, none⟩) hg _).setCell (p := ⟨g, 2, none⟩) hg _).setCell (p := ⟨g, 3, none⟩) hg _).setCell (p := ⟨g, 4, none⟩) hg _).setCell (p := ⟨g, 10, none⟩) hg _).setCell (p := ⟨g, 11, none⟩) hg _).setCell (p := ⟨g, 12, none⟩) hg _).setCell (p := ⟨g, 13, none⟩) hg _).setCell (p := ⟨g, 14, none⟩) hg _)
      clear how
      go_wp2
      refine onlyNormal_mk ?_
      generalize ((((((((((w1.setCell ⟨g, 0, none⟩ (.int .i64 a)).setCell ⟨g, 1, none⟩ (.bool b)).setCell ⟨g, 2, none⟩ (.int .i64 x)).setCell ⟨g, 3, none⟩ (.int .i64 y)).setCell ⟨g, 4, none⟩ (.int .i64 z)).setCell ⟨g, 10, none⟩ (.int .i64 a)).setCell ⟨g, 11, none⟩ (.bool b)).setCell ⟨g, 12, none⟩ (.int .i64 x)).setCell ⟨g, 13, none⟩ (.int .i64 y)).setCell ⟨g, 14, none⟩ (.int .i64 z)) = w2 at *
      clear a0 a1 a2 a3 a4 b0 b1 b2 b3 b4 f0 f1 f2 f3 f4 q0 q1 q2 q3 q4 hb1 HO1 HOW HB0
      go_wp2
      go_roundw
      case rel => exact ⟨1, 1, by go_num, by go_num, .inr ⟨rfl, rfl⟩, how4.out, hb4.out⟩
      case measure => simp [intOf]
    · go_wp2
      go_end0
      exact ⟨⟨_, rfl⟩, hown, hb⟩
end Go.Proofs.Ytnnnpijepdjanaa

namespace Go.Proofs.Ytnnnpijepdjanaa
open Go.RowKit

theorem cells7 {W : World} {r t : Nat} {a0 a1 a2 a3 a4 a5 a6 : Value} (h : W.heap[r]? = some (.cells #[a0, a1, a2, a3, a4, a5, a6] t (0, 0))) :
    W.cell? ⟨r, 0, none⟩ = some a0 ∧ W.cell? ⟨r, 1, none⟩ = some a1 ∧ W.cell? ⟨r, 2, none⟩ = some a2 ∧ W.cell? ⟨r, 3, none⟩ = some a3 ∧ W.cell? ⟨r, 4, none⟩ = some a4 ∧ W.cell? ⟨r, 5, none⟩ = some a5 ∧ W.cell? ⟨r, 6, none⟩ = some a6 := by
  refine ⟨?_, ?_, ?_, ?_, ?_, ?_, ?_⟩ <;> rw [cell_of_row _ _ _ _ _ _ h] <;> rfl
theorem cells5y {W : World} {r t : Nat} {a0 a1 a2 a3 a4 : Value} (h : W.heap[r]? = some (.cells #[a0, a1, a2, a3, a4] t (0, 0))) :
    W.cell? ⟨r, 0, none⟩ = some a0 ∧ W.cell? ⟨r, 1, none⟩ = some a1 ∧ W.cell? ⟨r, 2, none⟩ = some a2 ∧ W.cell? ⟨r, 3, none⟩ = some a3 ∧ W.cell? ⟨r, 4, none⟩ = some a4 := by
  refine ⟨?_, ?_, ?_, ?_, ?_⟩ <;> rw [cell_of_row _ _ _ _ _ _ h] <;> rfl
theorem info87 : (Try.prog.info? 87).map (fun i => (i.zero, i.size, i.bytes)) = some (some (.agg #[.int .i64 0, .bool false, .int .i64 0, .int .i64 0, .int .i64 0]), 5, 40) := by kernel_rfl
def nodeP (g0 g1 g2 g3 : Nat) : Nat → Value
  | 0 => .pointer (some ⟨g3, 0, none⟩)
  | 1 => .pointer (some ⟨g2, 0, none⟩)
  | 2 => .pointer (some ⟨g1, 0, none⟩)
  | _ => .pointer (some ⟨g0, 0, none⟩)
def rowP (L : Int) : Nat → List Value
  | 0 => []
  | 1 => (wy5 0 false 0 1 L)
  | 2 => (wy5 0 false 0 1 L ++ wy5 1 true 1 0 (-(L - 1)))
  | _ => (wy5 0 false 0 1 L ++ wy5 1 true 1 0 (-(L - 1)) ++ wy5 0 false 0 1 L)
def BackRel (w3 : World) (L : Int) (g0 g1 g2 g3 : Nat) (u4 u5 : Value) (wr : World) : Prop :=
  ∃ k : Nat, k ≤ 3 ∧ u4 = nodeP g0 g1 g2 g3 k ∧ wr.ownsRow w3.heap.size 87 5 u5 k (rowP L k) ∧ Below w3.heap.size w3 wr
def CycPost (w : World) (e : Ending) (w' : World) : Prop :=
  ∃ b c, e = .returned (.slice (some ⟨b, 0, none⟩) 2 c) ∧ Rd w' w'.heap.size (some ⟨b, 0, none⟩) (sCells [(0, false), (1, true)]) ∧ Below w.heap.size w w'
set_option maxRecDepth 100000 in
set_option maxHeartbeats 8000000 in
theorem cycle_two (w : World) (B : Nat) (Ae Aa : Option Addr) (ce ca : Nat) (evs : List ByteArray) (L : Int) (hL : 2 ≤ L) (hL9 : L ≤ 100000) (h : NetAt w B Ae Aa 2 ce 2 evs (acts2 L)) (hB : B ≤ w.heap.size) (hR : NetR evs (acts2 L)) :
    Calls Try.prog 35 #[.agg #[.slice Ae 2 ce, .slice Aa 2 ca]] w (CycPost w) := by
  have hac : ∀ a ∈ acts2 L, actR 2 a := by have h9 := hR.ac; rw [h.le] at h9; exact h9
  obtain ⟨i7, hi7, h70, h71, h72⟩ := info_parts info87
  obtain ⟨i5, hi5, h50, h51, h52⟩ := info_parts info85
  have hmk : ∀ w : World, Sem.run Try.prog (Instr.makeSlice 30 (.int .i64 2) (.int .i64 2)) w = .ok (.slice (some ⟨w.heap.size, 0, none⟩) 2 2) (w.alloc (.cells (madeCells #[.int .i64 0] 2) 3)) := run_make_row' (P := Try.prog) 30 3 (.int .i64 0) 8 Try.underlying30 info3 rfl .i64 .i64 2 (by omega) (by omega)
  have hb0 : Below w.heap.size w (w.alloc (.cells #[.slice Ae 2 ce, .slice Aa 2 ca] 74)) := (Below.refl _ _).alloc (Nat.le_refl _) _
  have k0 : (w.alloc (.cells #[.slice Ae 2 ce, .slice Aa 2 ca] 74)).heap[w.heap.size]? = some (.cells #[.slice Ae 2 ce, .slice Aa 2 ca] 74 (0, 0)) := by rw [heapq_alloc, if_pos rfl]
  have hN := h.below (hb0.mono hB)
  have hB0 := Nat.le_trans hB hb0.size
  have hs := hb0.size
  have HB := Lib.hid hb0
  obtain ⟨d0, d1⟩ := cells2 k0
  clear hb0 h hR
  go_enter Try.func35, Try.ntmps35
  go_upto_region 1 with (fail)
  generalize (w.alloc (.cells #[.slice Ae 2 ce, .slice Aa 2 ca] 74)) = w0 at *
  have x0 := fun x : Xt w0 => x.cell d0
  have x1 := fun x : Xt w0 => x.cell d1
  refine wp_region_eager [12] (fun w' => ∃ x : Xt w0, w' = x.1) (by kernel_rfl) ⟨⟨w0.drew, (Below.refl _ _).drew⟩, rfl⟩ ?_
  refine wpE_reads3 [0, 1, 2, 3, 4] 8 rfl (by kernel_rfl) ?_
  simp only [opsAt_nil, opsAt_cons, consOpt_some, List.getElem?_toArray, List.getElem?_cons_zero, List.getElem?_cons_succ]
  repeat (go_big_quiet_step (fail))
  refine wpQuiet_nil ?_
  have hbd : Below w0.heap.size w0 w0.drew := (Below.refl _ _).drew
  show wpE _ _ _ _ _ _ _ _ _ w0.drew
  generalize w0.drew = wd at *
  refine wpE_one (i := 5) rfl (by kernel_rfl) rfl ?_
  unfold wpMid
  simp only [opsAt_nil, opsAt_cons, consOpt_some, List.getElem?_toArray, List.getElem?_cons_zero, List.getElem?_cons_succ]
  go_wp2
  have hb1 := hbd.alloc hbd.size (.cells (madeCells #[.int .i64 0] 2) 3)
  have hz1 : Rd (wd.alloc (.cells (madeCells #[.int .i64 0] 2) 3)) (wd.alloc (.cells (madeCells #[.int .i64 0] 2) 3)).heap.size (some ⟨wd.heap.size, 0, none⟩) (intCells (List.replicate 2 0)) := by
    have := rd_made (w := wd.alloc (.cells (madeCells #[.int .i64 0] 2) 3)) (g := wd.heap.size) (n := 2) (z := .int .i64 0) (t := 3) (by rw [heapq_alloc, if_pos rfl])
    rw [intCells, List.map_replicate]
    exact this
  generalize wd.alloc (.cells (madeCells #[.int .i64 0] 2) 3) = w1 at *
  generalize wd.heap.size = gz at *
  refine onlyNormal_mk ⟨⟨⟨_, hb1⟩, rfl⟩, ?_⟩
  have ST := starts_w (stepsM (acts2 L)) w1 w1.heap.size (some ⟨gz, 0, none⟩) 2 2 (List.replicate 2 0) (by simp) (by omega) hz1 (Nat.le_refl _)
  rw [zeros_map] at ST
  refine wpE_one (i := 6) rfl (by kernel_rfl) rfl ?_
  unfold wpMid
  simp only [opsAt_nil, opsAt_cons, consOpt_some, List.getElem?_toArray, List.getElem?_cons_zero, List.getElem?_cons_succ]
  go_wp2_with (go_at_call 31; refine ST.mono ?_; rintro e w2 ⟨A2, c2, vs, rfl, hrd2, hlab2, hb12⟩)
  have hb2 := hb1.trans (hb12.mono hb1.size)
  refine onlyNormal_mk ⟨⟨⟨_, hb2⟩, rfl⟩, ?_⟩
  have LG := longest_w w2 B Ae Aa 2 ce 2 ca evs (acts2 L) (hN.below (hb2.mono hB0)) (Nat.le_trans hB0 hb2.size) (by omega) hac A2 c2 0 vs (zerosF 2) (by simp [zerosF]) (by omega) (by omega) (zerosF 2) hlab2 hrd2 (zeros_bound 2)
  rw [long2 hL] at LG
  refine wpE_one (i := 7) rfl (by kernel_rfl) rfl ?_
  unfold wpMid
  simp only [opsAt_nil, opsAt_cons, consOpt_some, List.getElem?_toArray, List.getElem?_cons_zero, List.getElem?_cons_succ]
  go_wp2_with (go_at_call 30; refine LG.mono ?_; rintro e w3 ⟨A3, c3, vs3, p, rfl, _, _, _, hp, hb23⟩)
  have HCH : Hid (Chain2 w3 p L) := by
    obtain ⟨i, u, n, hn, hu1, hu2, hlab⟩ := hp trivial
    rw [far2c hL] at hu1
    have hi : i = 1 ∧ u = 1 + L := by
      match i with
      | 0 =>
        simp [farAt] at hu1 hu2
        omega
      | 1 =>
        simp [farAt] at hu1
        omega
      | i + 2 => simp [farAt] at hu1
    obtain ⟨rfl, rfl⟩ := hi
    exact chain2_of hL (by omega) hlab
  clear hp
  have hb3 := hb2.trans (hb23.mono hb2.size)
  refine onlyNormal_mk ⟨⟨⟨_, hb3⟩, rfl⟩, ?_⟩
  refine wpE_reads [8, 9, 10, 11] 1 rfl (by kernel_rfl) ?_
  simp only [opsAt_nil, opsAt_cons, consOpt_some, List.getElem?_toArray, List.getElem?_cons_zero, List.getElem?_cons_succ]
  repeat (go_big_quiet_step (fail))
  refine wpQuiet_nil ?_
  refine wpE_tail rfl (by kernel_rfl) ?_
  simp only [opsAt_nil, opsAt_cons, consOpt_some, List.getElem?_toArray, List.getElem?_cons_zero, List.getElem?_cons_succ]
  obtain ⟨g0, g1, g2, g3, ra, rx, ry, rz, rb, rfl, kk3, kk2, kk1, kk0⟩ := HCH.out
  go_wp2
  refine onlyNormal_mk ?_
  replace k0 := blk hb3 k0
  have HB3 := Lib.hid (HB.out.trans (hb3.mono hs))
  have hs3 := Nat.le_trans hs hb3.size
  clear hb3 hb2 hb1 hb12 hb23 hbd LG ST hmk x0 x1 d0 d1 hrd2 hlab2 hz1 hN HCH
  go_wp2
  go_loopw [4, 5] (fun u4 u5 wr => BackRel w3 L g0 g1 g2 g3 u4 u5 wr) (fun _ u5 _ => 3 - lenOf u5)
  case atStart => exact ⟨0, by omega, rfl, ⟨rfl, .inl ⟨rfl, rfl⟩⟩, Below.refl _ _⟩
  case round =>
    obtain ⟨k, hk, rfl, hown, hb⟩ := hrel
    have HBR := Lib.hid hb
    have hsr := hb.size
    have kg3 := blk hb kk3
    have kg2 := blk hb kk2
    have kg1 := blk hb kk1
    have kg0 := blk hb kk0
    clear hb
    match k, hk with
    | 0, _ =>
      simp only [nodeP, rowP] at hown ⊢
      · have HOWN := Lib.hid hown
        obtain ⟨Au, cu, rfl⟩ := rowForm hown
        obtain ⟨c0, c1, c2, c3, c4, c5, c6⟩ := cells7 kg3
        have hba : Below wr.heap.size wr (wr.alloc (.cells #[.int .i64 0, .bool false, .int .i64 0, .int .i64 1, .int .i64 L] 87)) := (Below.refl _ _).alloc (Nat.le_refl _) _
        clear hown
        go_wp2_with (at_builtin; refine stp ?_)
        unfold Stp
        refine wpList_append_lies _ rfl _ _ 129 rfl w3.heap.size 87 i7 _ 5 40 Try.underlying129 hi7 h70 h71 h72 rfl (by omega) (.slice Au 0 cu) 0 [] rfl (HOWN.out.alloc _) ⟨wr.heap.size, 0, none⟩ 1 1 [.int .i64 0, .bool false, .int .i64 0, .int .i64 1, .int .i64 L] rfl rfl (news_at (by rw [heapq_alloc, if_pos rfl])) (by simp [Value.oneCell']) (by omega) (by simp only [maxLen]; omega) (by omega) (by simp; omega) _ rfl ?_
        intro gg cap w9 hown1 hgrow hat hlt9
        have hb9 : Below w3.heap.size w3 w9 := (HBR.out.trans (hba.mono hsr)).grown hgrow (by have := hba.size; omega) (fun k hk => (ownBlk HOWN.out hk).1)
        have HOWN1 : Hid (w9.ownsRow w3.heap.size 87 5 (.slice (some ⟨gg, 0, none⟩) 1 cap) 1 (wy5 0 false 0 1 L)) := hown1
        have HB9 := Lib.hid hb9
        have k9 := (hb9.block g3 (by have := (Array.getElem?_eq_some_iff.1 kk3).1; exact this)).trans kk3
        clear hown1 hgrow hat hlt9 hb9 hba c0 c1 c2 c3 c4 c5 c6
        obtain ⟨c0, c1, c2, c3, c4, c5, c6⟩ := cells7 k9
        go_wp2
        go_roundw
        case rel => exact ⟨1, by omega, rfl, HOWN1.out, HB9.out⟩
        case measure => simp [lenOf]
    | 1, _ =>
      simp only [nodeP, rowP] at hown ⊢
      · have HOWN := Lib.hid hown
        obtain ⟨Au, cu, rfl⟩ := rowForm hown
        obtain ⟨c0, c1, c2, c3, c4, c5, c6⟩ := cells7 kg2
        have hba : Below wr.heap.size wr (wr.alloc (.cells #[.int .i64 1, .bool true, .int .i64 1, .int .i64 0, .int .i64 (-(L - 1))] 87)) := (Below.refl _ _).alloc (Nat.le_refl _) _
        clear hown
        go_wp2_with (at_builtin; refine stp ?_)
        unfold Stp
        refine wpList_append_lies _ rfl _ _ 129 rfl w3.heap.size 87 i7 _ 5 40 Try.underlying129 hi7 h70 h71 h72 rfl (by omega) (.slice Au 1 cu) 1 (wy5 0 false 0 1 L) rfl (HOWN.out.alloc _) ⟨wr.heap.size, 0, none⟩ 1 1 [.int .i64 1, .bool true, .int .i64 1, .int .i64 0, .int .i64 (-(L - 1))] rfl rfl (news_at (by rw [heapq_alloc, if_pos rfl])) (by simp [Value.oneCell']) (by omega) (by simp only [maxLen]; omega) (by omega) (by simp; omega) _ rfl ?_
        intro gg cap w9 hown1 hgrow hat hlt9
        have hb9 : Below w3.heap.size w3 w9 := (HBR.out.trans (hba.mono hsr)).grown hgrow (by have := hba.size; omega) (fun k hk => (ownBlk HOWN.out hk).1)
        have HOWN1 : Hid (w9.ownsRow w3.heap.size 87 5 (.slice (some ⟨gg, 0, none⟩) 2 cap) 2 (wy5 0 false 0 1 L ++ wy5 1 true 1 0 (-(L - 1)))) := hown1
        have HB9 := Lib.hid hb9
        have k9 := (hb9.block g2 (by have := (Array.getElem?_eq_some_iff.1 kk2).1; exact this)).trans kk2
        clear hown1 hgrow hat hlt9 hb9 hba c0 c1 c2 c3 c4 c5 c6
        obtain ⟨c0, c1, c2, c3, c4, c5, c6⟩ := cells7 k9
        go_wp2
        go_roundw
        case rel => exact ⟨2, by omega, rfl, HOWN1.out, HB9.out⟩
        case measure => simp [lenOf]
    | 2, _ =>
      simp only [nodeP, rowP] at hown ⊢
      · have HOWN := Lib.hid hown
        obtain ⟨Au, cu, rfl⟩ := rowForm hown
        obtain ⟨c0, c1, c2, c3, c4, c5, c6⟩ := cells7 kg1
        have hba : Below wr.heap.size wr (wr.alloc (.cells #[.int .i64 0, .bool false, .int .i64 0, .int .i64 1, .int .i64 L] 87)) := (Below.refl _ _).alloc (Nat.le_refl _) _
        clear hown
        go_wp2_with (at_builtin; refine stp ?_)
        unfold Stp
        refine wpList_append_lies _ rfl _ _ 129 rfl w3.heap.size 87 i7 _ 5 40 Try.underlying129 hi7 h70 h71 h72 rfl (by omega) (.slice Au 2 cu) 2 (wy5 0 false 0 1 L ++ wy5 1 true 1 0 (-(L - 1))) rfl (HOWN.out.alloc _) ⟨wr.heap.size, 0, none⟩ 1 1 [.int .i64 0, .bool false, .int .i64 0, .int .i64 1, .int .i64 L] rfl rfl (news_at (by rw [heapq_alloc, if_pos rfl])) (by simp [Value.oneCell']) (by omega) (by simp only [maxLen]; omega) (by omega) (by simp; omega) _ rfl ?_
        intro gg cap w9 hown1 hgrow hat hlt9
        have hb9 : Below w3.heap.size w3 w9 := (HBR.out.trans (hba.mono hsr)).grown hgrow (by have := hba.size; omega) (fun k hk => (ownBlk HOWN.out hk).1)
        have HOWN1 : Hid (w9.ownsRow w3.heap.size 87 5 (.slice (some ⟨gg, 0, none⟩) 3 cap) 3 (wy5 0 false 0 1 L ++ wy5 1 true 1 0 (-(L - 1)) ++ wy5 0 false 0 1 L)) := hown1
        have HB9 := Lib.hid hb9
        have k9 := (hb9.block g1 (by have := (Array.getElem?_eq_some_iff.1 kk1).1; exact this)).trans kk1
        clear hown1 hgrow hat hlt9 hb9 hba c0 c1 c2 c3 c4 c5 c6
        obtain ⟨c0, c1, c2, c3, c4, c5, c6⟩ := cells7 k9
        go_wp2
        go_roundw
        case rel => exact ⟨3, by omega, rfl, HOWN1.out, HB9.out⟩
        case measure => simp [lenOf]
    | 3, _ =>
      simp only [nodeP, rowP] at hown ⊢
      obtain ⟨c0, c1, c2, c3', c4, c5, c6⟩ := cells7 kg0
      obtain ⟨Au, cu, rfl⟩ := rowForm hown
      obtain ⟨gr, rfl, _⟩ := words_block hown (by omega)
      have RV := Reverse3 wr w3.heap.size gr cu 0 0 1 L 1 1 0 (-(L - 1)) false true hown
      have kR0 := blk (HBR.out.mono (Nat.le_refl _)) k0
      have hgr : w3.heap.size ≤ gr := (ownBlk hown rfl).1
      have hcu : 3 ≤ cu := own_cap hown
      clear hown
      go_wp2_with (go_at_call 65; refine RV.mono ?_; clear RV; rintro e w6 ⟨⟨v6, rfl⟩, hown6, hb6⟩)
      have hw0 : w.heap.size < w3.heap.size := (Array.getElem?_eq_some_iff.1 k0).1
      have k6 := (hb6.block _ hw0).trans kR0
      have HB6 := Lib.hid (HB3.out.trans ((HBR.out.trans hb6).mono hs3))
      have hs6 := HB6.out.size
      have HOW6 := Lib.hid hown6
      clear kg0 kg1 kg2 kg3 kR0 hb6 hown6 c0 c1 c2 c3' c4 c5 c6
      go_loopw [45] (fun u wr6 => u = .int .i64 0 ∧ Below w6.heap.size w6 wr6) (fun _ _ => 0)
      case atStart => exact ⟨rfl, Below.refl _ _⟩
      case round =>
        obtain ⟨rfl, hb7⟩ := hrel
        have HB7 := Lib.hid hb7
        clear hb7
        go_wp2
        go_loopw [7, 8] (fun u7 u8 w8 => ((u7 = .int .i64 0 ∧ u8 = .int .i64 0) ∨ (u7 = .int .i64 L ∧ u8 = .int .i64 1)) ∧ Below w6.heap.size w6 w8) (fun _ u8 _ => 3 - (intOf u8).toNat)
        case atStart => exact ⟨.inl ⟨rfl, rfl⟩, HB7.out⟩
        case round =>
          obtain ⟨hc, hb8⟩ := hrel
          have HB8 := Lib.hid hb8
          have hs8 := hb8.size
          have how8 := ownsRow_below HOW6.out hb8
          have k8 := blk hb8 k6
          clear hb8
          obtain ⟨f0, _, _, _⟩ := own_cell how8 (i := 2) (v := .int .i64 0) rfl
          rcases hc with ⟨rfl, rfl⟩ | ⟨rfl, rfl⟩
          · obtain ⟨e4, _, _, _⟩ := own_cell how8 (i := 4) (v := .int .i64 L) rfl
            obtain ⟨e3, _, _, _⟩ := own_cell how8 (i := 3) (v := .int .i64 1) rfl
            go_upto_region 17 with (fail)
            have x0 := fun x : Xt wr => x.cell e3
            have x1 := fun x : Xt wr => x.cell f0
            refine wp_region_xt (by kernel_rfl) (by kernel_rfl) ?_
            repeat (go_big_quiet_step (fail))
            refine wpQuiet_nil ?_
            intro w9 hx9
            have hb9 := Xt.below hx9
            have HB9 := Lib.hid (HB8.out.trans (hb9.mono hs8))
            clear hx9 hb9 x0 x1 e3 e4 f0
            go_wp2
            go_roundw
            case rel => exact ⟨.inr ⟨rfl, rfl⟩, HB9.out⟩
            case measure => simp [intOf]
          · obtain ⟨M, hM⟩ : ∃ M, -(L - 1) = M := ⟨_, rfl⟩
            have hsum : L + M = 1 := by omega
            have hMb : -100000 ≤ M ∧ M ≤ 0 := by omega
            have e4 : wr.cell? ⟨gr, 9, none⟩ = some (.int .i64 M) := by
              rw [← hM]
              exact (own_cell how8 (i := 9) (v := .int .i64 (-(L - 1))) rfl).1
            obtain ⟨e3, _, _, _⟩ := own_cell how8 (i := 8) (v := .int .i64 0) rfl
            go_upto_region 17 with (fail)
            have x0 := fun x : Xt wr => x.cell e3
            have x1 := fun x : Xt wr => x.cell f0
            refine wp_region_xt (by kernel_rfl) (by kernel_rfl) ?_
            repeat (go_big_quiet_step (fail))
            refine wpQuiet_nil ?_
            intro w9 hx9
            have hb9 := Xt.below hx9
            have HB9 := Lib.hid (HB8.out.trans (hb9.mono hs8))
            have k9 := blk hb9 k8
            have how9 := ownsRow_below how8 hb9
            have hs9 := Nat.le_trans hs8 hb9.size
            clear hx9 hb9 x0 x1 e3 e4 f0 hsum
            obtain ⟨d0, d1⟩ := cells2 k9
            have HOW9 := Lib.hid how9
            obtain ⟨a0, _, _, _⟩ := own_cell how9 (i := 0) (v := .int .i64 0) rfl
            obtain ⟨a1, _, _, _⟩ := own_cell how9 (i := 1) (v := .bool false) rfl
            obtain ⟨a2, _, _, _⟩ := own_cell how9 (i := 2) (v := .int .i64 0) rfl
            obtain ⟨a3, _, _, _⟩ := own_cell how9 (i := 3) (v := .int .i64 1) rfl
            obtain ⟨a4, _, _, _⟩ := own_cell how9 (i := 4) (v := .int .i64 L) rfl
            obtain ⟨b0, _, _, _⟩ := own_cell how9 (i := 5) (v := .int .i64 1) rfl
            obtain ⟨b1, _, _, _⟩ := own_cell how9 (i := 6) (v := .bool true) rfl
            obtain ⟨b2, _, _, _⟩ := own_cell how9 (i := 7) (v := .int .i64 1) rfl
            obtain ⟨b3, _, _, _⟩ := own_cell how9 (i := 8) (v := .int .i64 0) rfl
            have b4 : w9.cell? ⟨gr, 9, none⟩ = some (.int .i64 M) := by
              rw [← hM]
              exact (own_cell how9 (i := 9) (v := .int .i64 (-(L - 1))) rfl).1
            clear how9 how8
            go_wp2
            go_loopw [9, 91] (fun u9 u91 wt => ∃ j : Nat, j ≤ 2 ∧ u91 = .int .i64 j ∧ wt.ownsRow w9.heap.size 85 2 u9 j (sCells ([(0, false), (1, true)].take j)) ∧ Below w9.heap.size w9 wt) (fun _ u91 _ => 2 - (intOf u91).toNat)
            case atStart => exact ⟨0, by omega, rfl, ⟨rfl, .inl ⟨rfl, rfl⟩⟩, Below.refl _ _⟩
            case round =>
              obtain ⟨j, hj, rfl, hown, hbt⟩ := hrel
              have HOWN := Lib.hid hown
              obtain ⟨Au, cv, rfl⟩ := rowForm hown
              have HBT := Lib.hid hbt
              have hst := hbt.size
              replace a0 := kept hbt a0
              replace a1 := kept hbt a1
              replace a2 := kept hbt a2
              replace a3 := kept hbt a3
              replace a4 := kept hbt a4
              replace b0 := kept hbt b0
              replace b1 := kept hbt b1
              replace b2 := kept hbt b2
              replace b3 := kept hbt b3
              replace b4 := kept hbt b4
              clear hown hbt d0 d1
              match j, hj with
              | 0, _ =>
                have kp : (wr.alloc (.cells #[.int .i64 0, .bool false, .int .i64 0, .int .i64 1, .int .i64 L] 87)).heap[wr.heap.size]? = some (.cells #[.int .i64 0, .bool false, .int .i64 0, .int .i64 1, .int .i64 L] 87 (0, 0)) := by rw [heapq_alloc, if_pos rfl]
                have hb1 : Below wr.heap.size wr (wr.alloc (.cells #[.int .i64 0, .bool false, .int .i64 0, .int .i64 1, .int .i64 L] 87)) := (Below.refl _ _).alloc (Nat.le_refl _) _
                go_upto_region 23 with (fail)
                have HOW1 := Lib.hid (ownsRow_below HOWN.out hb1)
                have HB1 := Lib.hid (HBT.out.trans (hb1.mono hst))
                have hst1 : w9.heap.size ≤ (wr.alloc (.cells #[.int .i64 0, .bool false, .int .i64 0, .int .i64 1, .int .i64 L] 87)).heap.size := Nat.le_trans hst hb1.size
                clear a0 a1 a2 a3 a4 b0 b1 b2 b3 b4 hb1
                generalize wr.alloc (.cells #[.int .i64 0, .bool false, .int .i64 0, .int .i64 1, .int .i64 L] 87) = wu at *
                obtain ⟨c0, c1, c2, c3, c4⟩ := cells5y kp
                have hba : Below wu.heap.size wu (wu.alloc (.cells #[.int .i64 0, .bool false] 85)) := (Below.refl _ _).alloc (Nat.le_refl _) _
                go_wp2_with (at_builtin; refine stp ?_)
                unfold Stp
                refine wpList_append_lies _ rfl _ _ 36 rfl w9.heap.size 85 i5 _ 2 16 Try.underlying36 hi5 h50 h51 h52 rfl (by omega) (.slice Au 0 cv) 0 (sCells ([(0, false), (1, true)].take 0)) rfl (HOW1.out.alloc _) ⟨wu.heap.size, 0, none⟩ 1 1 [.int .i64 0, .bool false] rfl rfl (news_at (by rw [heapq_alloc, if_pos rfl])) (by simp [Value.oneCell']) (by omega) (by simp only [maxLen]; omega) (by omega) (by simp; omega) _ rfl ?_
                intro gg cap wv hown1 hgrow hat hlt9
                have hbv : Below w9.heap.size w9 wv := (HB1.out.trans (hba.mono hst1)).grown hgrow (by have := hba.size; omega) (fun k hk => (ownBlk HOW1.out hk).1)
                have HOWN1 : Hid (wv.ownsRow w9.heap.size 85 2 (.slice (some ⟨gg, 0, none⟩) 1 cap) 1 (sCells ([(0, false), (1, true)].take 1))) := hown1
                have HBV := Lib.hid hbv
                clear hown1 hgrow hat hlt9 hbv hba c0 c1 c2 c3 c4 kp
                go_wp2
                go_roundw
                case rel => exact ⟨1, by omega, rfl, HOWN1.out, HBV.out⟩
                case measure => simp [intOf]
              | 1, _ =>
                have kp : (wr.alloc (.cells #[.int .i64 1, .bool true, .int .i64 1, .int .i64 0, .int .i64 M] 87)).heap[wr.heap.size]? = some (.cells #[.int .i64 1, .bool true, .int .i64 1, .int .i64 0, .int .i64 M] 87 (0, 0)) := by rw [heapq_alloc, if_pos rfl]
                have hb1 : Below wr.heap.size wr (wr.alloc (.cells #[.int .i64 1, .bool true, .int .i64 1, .int .i64 0, .int .i64 M] 87)) := (Below.refl _ _).alloc (Nat.le_refl _) _
                go_upto_region 23 with (fail)
                have HOW1 := Lib.hid (ownsRow_below HOWN.out hb1)
                have HB1 := Lib.hid (HBT.out.trans (hb1.mono hst))
                have hst1 : w9.heap.size ≤ (wr.alloc (.cells #[.int .i64 1, .bool true, .int .i64 1, .int .i64 0, .int .i64 M] 87)).heap.size := Nat.le_trans hst hb1.size
                clear a0 a1 a2 a3 a4 b0 b1 b2 b3 b4 hb1
                generalize wr.alloc (.cells #[.int .i64 1, .bool true, .int .i64 1, .int .i64 0, .int .i64 M] 87) = wu at *
                obtain ⟨c0, c1, c2, c3, c4⟩ := cells5y kp
                have hba : Below wu.heap.size wu (wu.alloc (.cells #[.int .i64 1, .bool true] 85)) := (Below.refl _ _).alloc (Nat.le_refl _) _
                go_wp2_with (at_builtin; refine stp ?_)
                unfold Stp
                refine wpList_append_lies _ rfl _ _ 36 rfl w9.heap.size 85 i5 _ 2 16 Try.underlying36 hi5 h50 h51 h52 rfl (by omega) (.slice Au 1 cv) 1 (sCells ([(0, false), (1, true)].take 1)) rfl (HOW1.out.alloc _) ⟨wu.heap.size, 0, none⟩ 1 1 [.int .i64 1, .bool true] rfl rfl (news_at (by rw [heapq_alloc, if_pos rfl])) (by simp [Value.oneCell']) (by omega) (by simp only [maxLen]; omega) (by omega) (by simp; omega) _ rfl ?_
                intro gg cap wv hown1 hgrow hat hlt9
                have hbv : Below w9.heap.size w9 wv := (HB1.out.trans (hba.mono hst1)).grown hgrow (by have := hba.size; omega) (fun k hk => (ownBlk HOW1.out hk).1)
                have HOWN1 : Hid (wv.ownsRow w9.heap.size 85 2 (.slice (some ⟨gg, 0, none⟩) 2 cap) 2 (sCells ([(0, false), (1, true)].take 2))) := hown1
                have HBV := Lib.hid hbv
                clear hown1 hgrow hat hlt9 hbv hba c0 c1 c2 c3 c4 kp
                go_wp2
                go_roundw
                case rel => exact ⟨2, by omega, rfl, HOWN1.out, HBV.out⟩
                case measure => simp [intOf]
              | 2, _ =>
                obtain ⟨go, rfl, _⟩ := words_block HOWN.out (by omega)
                clear a0 a1 a2 a3 a4 b0 b1 b2 b3 b4
                go_wp2
                go_ret
                exact ⟨go, cv, rfl, rd_own HOWN.out, HB6.out.trans ((HB9.out.trans (HBT.out.mono hs9)).mono hs6)⟩
end Go.Proofs.Ytnnnpijepdjanaa

namespace Go.Proofs.Ytnnnpijepdjanaa
open Go.RowKit

theorem resy5 {W : World} {r t : Nat} {a0 a1 a2 a3 a4 : Value} (h : W.heap[r]? = some (.cells #[a0, a1, a2, a3, a4] t (0, 0))) :
    (W.cell? ⟨r, 0, none⟩ = some a0 ∧ W.cell? ⟨r, 1, none⟩ = some a1 ∧ W.cell? ⟨r, 2, none⟩ = some a2 ∧ W.cell? ⟨r, 3, none⟩ = some a3 ∧ W.cell? ⟨r, 4, none⟩ = some a4) ∧ (W.frozen? ⟨r, 0, none⟩ = false ∧ W.frozen? ⟨r, 1, none⟩ = false ∧ W.frozen? ⟨r, 2, none⟩ = false ∧ W.frozen? ⟨r, 3, none⟩ = false ∧ W.frozen? ⟨r, 4, none⟩ = false) :=
  ⟨cells5y h, frozen_of_row _ _ _ _ _ h, frozen_of_row _ _ _ _ _ h, frozen_of_row _ _ _ _ _ h, frozen_of_row _ _ _ _ _ h, frozen_of_row _ _ _ _ _ h⟩
set_option maxRecDepth 100000 in
theorem activityErr_in (w : World) (Ae : Option Addr) (ne ce : Nat) (Aa : Option Addr) (na ca i : Nat) (hi : i < na) (hn : na ≤ 1000) :
    Calls Try.prog 77 #[.agg #[.slice Ae ne ce, .slice Aa na ca], .int .i64 i] w fun e w' => e = .returned (.int .i64 0) ∧ Below w.heap.size w w' := by
  have WI := fun W => within_val (i : Int) 0 ((na : Int) - 1) true (by simp [withinB]; omega) W
  have k0 : (w.alloc (.cells #[.slice Ae ne ce, .slice Aa na ca] 74)).heap[w.heap.size]? = some (.cells #[.slice Ae ne ce, .slice Aa na ca] 74 (0, 0)) := by rw [heapq_alloc, if_pos rfl]
  have hb : Below w.heap.size w (w.alloc (.cells #[.slice Ae ne ce, .slice Aa na ca] 74)) := (Below.refl _ _).alloc (Nat.le_refl _) _
  obtain ⟨d0, d1⟩ := cells2 k0
  have HB := Lib.hid hb
  clear hb k0
  go_enter Try.func77, Try.ntmps77
  go_upto_region 1 with (fail)
  generalize w.alloc (.cells #[.slice Ae ne ce, .slice Aa na ca] 74) = w0 at *
  go_wp2_with (first | (go_at_call 63; refine (WI _).mono ?_; rintro e w' ⟨rfl, rfl⟩) | (go_at_call 34; refine (unless_any _ _ _).mono ?_; rintro e w' ⟨rfl, rfl⟩))
  go_ret
  exact ⟨rfl, HB.out⟩
theorem unless_yes (x : Int) (w : World) : Calls Try.prog 34 #[.bool true, .int .i64 x] w fun e w' => e = .returned (.int .i64 0) ∧ w = w' := unless_any true x w
theorem first2_00 (w : World) : Calls Try.prog 28 #[.slice (some ⟨w.heap.size, 0, none⟩) 2 2] (w.alloc (.cells #[.int .i64 0, .int .i64 0] 31)) fun e w' => e = .returned (.int .i64 0) ∧ w.alloc (.cells #[.int .i64 0, .int .i64 0] 31) = w' := first2 w 0 0
structure K3 (a1 a2 a3 : Addr) (v1 v2 v3 : Value) where
  v : World
  h1 : v.cell? a1 = some v1
  h2 : v.cell? a2 = some v2
  h3 : v.cell? a3 = some v3
def outP (L : Int) : Nat → Array Value
  | 0 => #[.int .i64 0, .bool false, .int .i64 0, .int .i64 0, .int .i64 0]
  | 1 => #[.int .i64 0, .bool false, .int .i64 0, .int .i64 1, .int .i64 L]
  | _ => #[.int .i64 0, .bool false, .int .i64 0, .int .i64 0, .int .i64 1]
def WkRel (w3 : World) (L : Int) (o : Nat) (u : Value) (wr : World) : Prop := ∃ j : Nat, j ≤ 2 ∧ u = .int .i64 j ∧ wr.heap[o]? = some (.cells (outP L j) 87 (0, 0)) ∧ Below o w3 wr
def WkPost (w : World) (e : Ending) (w' : World) : Prop := e = .returned (.tuple #[.agg #[.int .i64 0, .bool false, .int .i64 0, .int .i64 0, .int .i64 1], .int .i64 0]) ∧ Below w.heap.size w w'
set_option maxRecDepth 100000 in
set_option maxHeartbeats 8000000 in
theorem walk_two (w : World) (B : Nat) (Ae Aa : Option Addr) (ce ca : Nat) (evs : List ByteArray) (L : Int) (hL : 2 ≤ L) (hL9 : L ≤ 100000) (h : NetAt w B Ae Aa 2 ce 2 evs (acts2 L)) (hB : B ≤ w.heap.size) (hR : NetR evs (acts2 L)) (Bl : Nat) (Al : Option Addr) (cl : Nat) (hl : Rd w Bl Al (sCells [(0, false), (1, true)])) (hBl : Bl ≤ w.heap.size) :
    Calls Try.prog 54 #[.agg #[.slice Ae 2 ce, .slice Aa 2 ca], .slice Al 2 cl] w (WkPost w) := by
  have hac : ∀ a ∈ acts2 L, actR 2 a := by have h9 := hR.ac; rw [h.le] at h9; exact h9
  have hb0 : Below w.heap.size w ((w.alloc (.cells #[.slice Ae 2 ce, .slice Aa 2 ca] 74)).alloc (.cells #[.int .i64 0, .bool false, .int .i64 0, .int .i64 0, .int .i64 0] 87)) := ((Below.refl _ _).alloc (Nat.le_refl _) _).alloc (by simp) _
  have k1 : ((w.alloc (.cells #[.slice Ae 2 ce, .slice Aa 2 ca] 74)).alloc (.cells #[.int .i64 0, .bool false, .int .i64 0, .int .i64 0, .int .i64 0] 87)).heap[w.heap.size]? = some (.cells #[.slice Ae 2 ce, .slice Aa 2 ca] 74 (0, 0)) := by
    rw [heapq_alloc, if_neg (by simp), heapq_alloc, if_pos rfl]
  have k2 : ((w.alloc (.cells #[.slice Ae 2 ce, .slice Aa 2 ca] 74)).alloc (.cells #[.int .i64 0, .bool false, .int .i64 0, .int .i64 0, .int .i64 0] 87)).heap[w.heap.size + 1]? = some (.cells #[.int .i64 0, .bool false, .int .i64 0, .int .i64 0, .int .i64 0] 87 (0, 0)) := by
    rw [heapq_alloc, if_pos (by simp)]
  have hN := h.below (hb0.mono hB)
  have hl0 := hl.below (hb0.mono hBl)
  have hB0 := Nat.le_trans hB hb0.size
  have hBl0 := Nat.le_trans hBl hb0.size
  have hs := hb0.size
  have HB := Lib.hid hb0
  have hx2 := (Array.getElem?_eq_some_iff.1 k2).1
  clear hb0 h hl
  go_enter Try.func54, Try.ntmps54
  go_upto_region 1 with (fail)
  generalize ((w.alloc (.cells #[.slice Ae 2 ce, .slice Aa 2 ca] 74)).alloc (.cells #[.int .i64 0, .bool false, .int .i64 0, .int .i64 0, .int .i64 0] 87)) = w0 at *
  have hbZ : Below w0.heap.size w0 (w0.alloc (.cells #[.int .i64 0, .bool false, .int .i64 0, .int .i64 0, .int .i64 0] 87)) := (Below.refl _ _).alloc (Nat.le_refl _) _
  have kz : (w0.alloc (.cells #[.int .i64 0, .bool false, .int .i64 0, .int .i64 0, .int .i64 0] 87)).heap[w0.heap.size]? = some (.cells #[.int .i64 0, .bool false, .int .i64 0, .int .i64 0, .int .i64 0] 87 (0, 0)) := by rw [heapq_alloc, if_pos rfl]
  have hx1 := (Array.getElem?_eq_some_iff.1 k1).1
  go_upto_region 4 with (fail)
  replace k1 := blk hbZ k1
  replace k2 := blk hbZ k2
  replace hN := hN.below (hbZ.mono hB0)
  replace hl0 := hl0.below (hbZ.mono hBl0)
  have HB3 := Lib.hid (HB.out.trans (hbZ.mono hs))
  have hBo : B ≤ w0.heap.size := hB0
  clear hbZ
  have hso : w.heap.size ≤ w0.heap.size := Nat.le_of_lt hx1
  generalize w0.alloc (.cells #[.int .i64 0, .bool false, .int .i64 0, .int .i64 0, .int .i64 0] 87) = w3 at *
  generalize w0.heap.size = o at *
  go_wp2
  go_loopw [19] (fun u wr => WkRel w3 L o u wr) (fun u _ => 2 - (intOf u).toNat)
  case atStart => exact ⟨0, by omega, rfl, kz, Below.refl _ _⟩
  case round =>
    obtain ⟨j, hj, rfl, ho, hb⟩ := hrel
    have HBR := Lib.hid hb
    have hol := (Array.getElem?_eq_some_iff.1 ho).1
    have kR1 : wr.heap[w.heap.size]? = _ := (hb.block _ hx1).trans k1
    have hlR := hl0.below (hb.mono hBl0)
    match j, hj with
    | 0, _ =>
      simp only [outP] at ho
      obtain ⟨bl, ol, hAl, _, e0⟩ := hlR 0 (.int .i64 0) rfl
      obtain ⟨bl', ol', hAl', _, e1⟩ := hlR 1 (.bool false) rfl
      subst hAl
      cases hAl'
      simp only [Nat.add_zero] at e0
      have hb1 : Below wr.heap.size wr (wr.alloc (.cells #[.int .i64 0, .bool false] 85)) := (Below.refl _ _).alloc (Nat.le_refl _) _
      have ks : (wr.alloc (.cells #[.int .i64 0, .bool false] 85)).heap[wr.heap.size]? = some (.cells #[.int .i64 0, .bool false] 85 (0, 0)) := by rw [heapq_alloc, if_pos rfl]
      go_upto_region 7 with (fail)
      replace kR1 := blk hb1 kR1
      replace ho := blk hb1 ho
      have HB1 := Lib.hid (HBR.out.trans (hb1.mono (Nat.le_of_lt hol)))
      have hol1 := Nat.lt_of_lt_of_le hol hb1.size
      clear e0 e1 hb1 hlR
      generalize wr.alloc (.cells #[.int .i64 0, .bool false] 85) = wa at *
      generalize wr.heap.size = gs at *
      obtain ⟨d0, d1⟩ := cells2 kR1
      obtain ⟨s0, s1⟩ := cells2 ks
      have AE : Calls Try.prog 77 #[.agg #[.slice Ae 2 ce, .slice Aa 2 ca], .int .i64 0] wa fun e w' => e = .returned (.int .i64 0) ∧ Below wa.heap.size wa w' := activityErr_in wa Ae 2 ce Aa 2 ca 0 (by omega) (by omega)
      go_upto_region 10 with (go_at_call 77; refine AE.mono ?_; rintro e wb ⟨rfl, hb2⟩)
      replace kR1 := blk hb2 kR1
      replace ho := blk hb2 ho
      replace ks := blk hb2 ks
      have HB2 := Lib.hid (HB1.out.trans (hb2.mono (Nat.le_of_lt hol1)))
      have hol2 := Nat.lt_of_lt_of_le hol1 hb2.size
      clear hb2 AE d0 d1 s0 s1
      obtain ⟨d0, d1⟩ := cells2 kR1
      obtain ⟨s0, s1⟩ := cells2 ks
      have WY := way_any wb B Ae Aa 2 ce 2 ca evs (acts2 L) (hN.below (HB2.out.mono hBo)) (Nat.le_trans hBo (Nat.le_of_lt hol2)) 0 ⟨0, 0, 1, L, -1, 0⟩ false rfl (by have := hac ⟨0, 0, 1, L, -1, 0⟩ (by simp [acts2]); exact this)
      have hst : stepB ⟨0, 0, 1, L, -1, 0⟩ false = true := by simp [stepB]
      rw [hst] at WY
      have hwv : wayV 0 false (stepW ⟨0, 0, 1, L, -1, 0⟩ false) = .agg #[.int .i64 0, .bool false, .int .i64 0, .int .i64 1, .int .i64 L] := by simp [wayV, stepW, fwdW]
      unfold WayPost at WY
      have WY2 : Calls Try.prog 78 #[.agg #[.slice Ae 2 ce, .slice Aa 2 ca], .agg #[.int .i64 0, .bool false]] wb fun e w' => e = .returned (.tuple #[.agg #[.int .i64 0, .bool false, .int .i64 0, .int .i64 1, .int .i64 L], .bool true]) ∧ Below wb.heap.size wb w' := by
        rw [← hwv]
        exact WY
      clear WY hst hwv
      go_upto_region 11 with (go_at_call 78; refine WY2.mono ?_; rintro e wc ⟨rfl, hb3⟩)
      have hb4 := hb3.alloc hb3.size (.cells #[.int .i64 0, .bool false, .int .i64 0, .int .i64 1, .int .i64 L] 87)
      have kt : (wc.alloc (.cells #[.int .i64 0, .bool false, .int .i64 0, .int .i64 1, .int .i64 L] 87)).heap[wc.heap.size]? = some (.cells #[.int .i64 0, .bool false, .int .i64 0, .int .i64 1, .int .i64 L] 87 (0, 0)) := by rw [heapq_alloc, if_pos rfl]
      replace ho := blk hb4 ho
      have HB4 := Lib.hid (HB2.out.trans (hb4.mono (Nat.le_of_lt hol2)))
      have hol4 := Nat.lt_of_lt_of_le hol2 hb4.size
      have hog : o ≠ wc.heap.size := by have := hb3.size; omega
      clear hb3 hb4 WY2 d0 d1 s0 s1 kR1 ks
      generalize wc.alloc (.cells #[.int .i64 0, .bool false, .int .i64 0, .int .i64 1, .int .i64 L] 87) = we at *
      generalize wc.heap.size = gt at *
      obtain ⟨t0, t1, t2, t3, t4⟩ := cells5y kt
      obtain ⟨⟨o0, o1, o2, o3, o4⟩, f0, f1, f2, f3, f4⟩ := resy5 ho
      have F2 := first2_00 we
      go_upto_region 14 with (first | (go_at_call 34; refine (unless_yes _ _).mono ?_; rintro e w' ⟨rfl, rfl⟩) | (go_at_call 28; refine F2.mono ?_; rintro e w' ⟨rfl, rfl⟩))
      have hb5 : Below we.heap.size we (we.alloc (.cells #[.int .i64 0, .int .i64 0] 31)) := (Below.refl _ _).alloc (Nat.le_refl _) _
      replace ho := blk hb5 ho
      replace kt := blk hb5 kt
      have HB5 := Lib.hid (HB4.out.trans (hb5.mono (Nat.le_of_lt hol4)))
      have hol5 := Nat.lt_of_lt_of_le hol4 hb5.size
      clear hb5 F2 t0 t1 t2 t3 t4 o0 o1 o2 o3 o4 f0 f1 f2 f3 f4
      generalize we.alloc (.cells #[.int .i64 0, .int .i64 0] 31) = wg at *
      obtain ⟨t0, t1, t2, t3, t4⟩ := cells5y kt
      obtain ⟨⟨o0, o1, o2, o3, o4⟩, f0, f1, f2, f3, f4⟩ := resy5 ho
      have ho6 : (wg.setCell ⟨o, 2, none⟩ (.int .i64 0)).heap[o]? = some (.cells #[.int .i64 0, .bool false, .int .i64 0, .int .i64 0, .int .i64 0] 87 (0, 0)) := by
        rw [heapq_set, if_pos rfl, ho]
        rfl
      have kt6 : (wg.setCell ⟨o, 2, none⟩ (.int .i64 0)).heap[gt]? = some (.cells #[.int .i64 0, .bool false, .int .i64 0, .int .i64 1, .int .i64 L] 87 (0, 0)) := by
        rw [heapq_set, if_neg (Ne.symm hog), kt]
      have HB6 := Lib.hid (HB5.out.setCell (p := ⟨o, 2, none⟩) (Nat.le_refl o) (.int .i64 0))
      go_upto_region 16 with (fail)
      clear t0 t1 t2 t3 t4 o0 o1 o2 o3 o4 f0 f1 f2 f3 f4
      generalize wg.setCell ⟨o, 2, none⟩ (.int .i64 0) = wh at *
      obtain ⟨t0, t1, t2, t3, t4⟩ := cells5y kt6
      obtain ⟨⟨o0, o1, o2, o3, o4⟩, f0, f1, f2, f3, f4⟩ := resy5 ho6
      have hol6 := (Array.getElem?_eq_some_iff.1 ho6).1

      have x0 := fun y : K3 ⟨gt, 3, none⟩ ⟨gt, 4, none⟩ ⟨o, 4, none⟩ (.int .i64 1) (.int .i64 L) (.int .i64 0) => y.h1
      have x1 := fun y : K3 ⟨gt, 3, none⟩ ⟨gt, 4, none⟩ ⟨o, 4, none⟩ (.int .i64 1) (.int .i64 L) (.int .i64 0) => y.h2
      have x2 := fun y : K3 ⟨gt, 3, none⟩ ⟨gt, 4, none⟩ ⟨o, 4, none⟩ (.int .i64 1) (.int .i64 L) (.int .i64 0) => y.h3
      have hbd : Below wh.heap.size wh wh.drew := (Below.refl _ _).drew
      haveI : Nonempty (K3 ⟨gt, 3, none⟩ ⟨gt, 4, none⟩ ⟨o, 4, none⟩ (.int .i64 1) (.int .i64 L) (.int .i64 0)) := ⟨⟨wh, t3, t4, o4⟩⟩
      refine wp_region_eager [10] (fun w' => ∃ y : K3 ⟨gt, 3, none⟩ ⟨gt, 4, none⟩ ⟨o, 4, none⟩ (.int .i64 1) (.int .i64 L) (.int .i64 0), w' = y.v) (by kernel_rfl) ⟨⟨wh.drew, kept hbd t3, kept hbd t4, kept hbd o4⟩, rfl⟩ ?_
      refine wpE_reads5 [0, 1, 2, 3, 4, 5, 6, 7] 3 rfl (by kernel_rfl) ?_
      simp only [opsAt_nil, opsAt_cons, consOpt_some, List.getElem?_toArray, List.getElem?_cons_zero, List.getElem?_cons_succ]
      repeat (go_big_quiet_step (fail))
      refine wpQuiet_nil ?_
      show wpE _ _ _ _ _ _ _ _ _ wh.drew
      have ho7 := blk hbd ho6
      have kt7 := blk hbd kt6
      have HB7 := Lib.hid (HB6.out.trans (hbd.mono (Nat.le_of_lt hol6)))
      clear hbd x0 x1 x2 t0 t1 t2 t3 t4 o0 o1 o2 o3 o4 f0 f1 f2 f3 f4
      generalize wh.drew = wi at *
      obtain ⟨t0, t1, t2, t3, t4⟩ := cells5y kt7
      obtain ⟨⟨o0, o1, o2, o3, o4⟩, f0, f1, f2, f3, f4⟩ := resy5 ho7
      refine wpE_one (i := 8) rfl (by kernel_rfl) rfl ?_
      unfold wpMid
      simp only [opsAt_nil, opsAt_cons, consOpt_some, List.getElem?_toArray, List.getElem?_cons_zero, List.getElem?_cons_succ]
      have ho8 : (wi.setCell ⟨o, 3, none⟩ (.int .i64 1)).heap[o]? = some (.cells #[.int .i64 0, .bool false, .int .i64 0, .int .i64 1, .int .i64 0] 87 (0, 0)) := by
        rw [heapq_set, if_pos rfl, ho7]
        rfl
      have kt8 : (wi.setCell ⟨o, 3, none⟩ (.int .i64 1)).heap[gt]? = some (.cells #[.int .i64 0, .bool false, .int .i64 0, .int .i64 1, .int .i64 L] 87 (0, 0)) := by
        rw [heapq_set, if_neg (Ne.symm hog), kt7]
      have HB8a := Lib.hid (HB7.out.setCell (p := ⟨o, 3, none⟩) (Nat.le_refl o) (.int .i64 1))
      go_wp2
      clear t0 t1 t2 t3 t4 o0 o1 o2 o3 o4 f0 f1 f2 f3 f4
      generalize wi.setCell ⟨o, 3, none⟩ (.int .i64 1) = wj at *
      obtain ⟨t0, t1, t2, t3, t4⟩ := cells5y kt8
      obtain ⟨⟨o0, o1, o2, o3, o4⟩, f0, f1, f2, f3, f4⟩ := resy5 ho8
      refine onlyNormal_mk ⟨⟨⟨_, t3, t4, o4⟩, rfl⟩, ?_⟩
      refine wpE_reads5 [9] 1 rfl (by kernel_rfl) ?_
      simp only [opsAt_nil, opsAt_cons, consOpt_some, List.getElem?_toArray, List.getElem?_cons_zero, List.getElem?_cons_succ]
      repeat (go_big_quiet_step (fail))
      refine wpQuiet_nil ?_
      refine wpE_tail rfl (by kernel_rfl) ?_
      simp only [opsAt_nil, opsAt_cons, consOpt_some, List.getElem?_toArray, List.getElem?_cons_zero, List.getElem?_cons_succ]
      have HO8 : Hid ((wj.setCell ⟨o, 4, none⟩ (.int .i64 L)).heap[o]? = some (.cells #[.int .i64 0, .bool false, .int .i64 0, .int .i64 1, .int .i64 L] 87 (0, 0))) := by
        rw [Hid, heapq_set, if_pos rfl, ho8]
        rfl
      have HB8 := Lib.hid (HB8a.out.setCell (p := ⟨o, 4, none⟩) (Nat.le_refl o) (.int .i64 L))
      clear ho7 ho8 kt7 kt8 ho6 kt6
      go_wp2
      refine onlyNormal_mk ?_
      go_wp2
      go_roundw
      case rel => exact ⟨1, by omega, rfl, HO8.out, HB8.out⟩
      case measure => simp [intOf]
    | 1, _ =>
      simp only [outP] at ho
      obtain ⟨bl, ol, hAl, _, e0⟩ := hlR 2 (.int .i64 1) rfl
      obtain ⟨bl', ol', hAl', _, e1⟩ := hlR 3 (.bool true) rfl
      subst hAl
      cases hAl'
      have e1x : wr.cell? ⟨bl, ol + 2 + 1, none⟩ = some (.bool true) := e1
      have hb1 : Below wr.heap.size wr (wr.alloc (.cells #[.int .i64 1, .bool true] 85)) := (Below.refl _ _).alloc (Nat.le_refl _) _
      have ks : (wr.alloc (.cells #[.int .i64 1, .bool true] 85)).heap[wr.heap.size]? = some (.cells #[.int .i64 1, .bool true] 85 (0, 0)) := by rw [heapq_alloc, if_pos rfl]
      go_upto_region 7 with (fail)
      replace kR1 := blk hb1 kR1
      replace ho := blk hb1 ho
      have HB1 := Lib.hid (HBR.out.trans (hb1.mono (Nat.le_of_lt hol)))
      have hol1 := Nat.lt_of_lt_of_le hol hb1.size
      clear e0 e1 e1x hb1 hlR
      generalize wr.alloc (.cells #[.int .i64 1, .bool true] 85) = wa at *
      generalize wr.heap.size = gs at *
      obtain ⟨d0, d1⟩ := cells2 kR1
      obtain ⟨s0, s1⟩ := cells2 ks
      have AE : Calls Try.prog 77 #[.agg #[.slice Ae 2 ce, .slice Aa 2 ca], .int .i64 1] wa fun e w' => e = .returned (.int .i64 0) ∧ Below wa.heap.size wa w' := activityErr_in wa Ae 2 ce Aa 2 ca 1 (by omega) (by omega)
      go_upto_region 10 with (go_at_call 77; refine AE.mono ?_; rintro e wb ⟨rfl, hb2⟩)
      replace kR1 := blk hb2 kR1
      replace ho := blk hb2 ho
      replace ks := blk hb2 ks
      have HB2 := Lib.hid (HB1.out.trans (hb2.mono (Nat.le_of_lt hol1)))
      have hol2 := Nat.lt_of_lt_of_le hol1 hb2.size
      clear hb2 AE d0 d1 s0 s1
      obtain ⟨d0, d1⟩ := cells2 kR1
      obtain ⟨s0, s1⟩ := cells2 ks
      have WY := way_any wb B Ae Aa 2 ce 2 ca evs (acts2 L) (hN.below (HB2.out.mono hBo)) (Nat.le_trans hBo (Nat.le_of_lt hol2)) 1 ⟨3, 0, 1, 1, L - 1, 0⟩ true rfl (by have := hac ⟨3, 0, 1, 1, L - 1, 0⟩ (by simp [acts2]); exact this)
      have hst : stepB ⟨3, 0, 1, 1, L - 1, 0⟩ true = true := by simp [stepB]; omega
      rw [hst] at WY
      have hwv : wayV 1 true (stepW ⟨3, 0, 1, 1, L - 1, 0⟩ true) = .agg #[.int .i64 1, .bool true, .int .i64 1, .int .i64 0, .int .i64 (-(L - 1))] := by simp [wayV, stepW, backW]
      unfold WayPost at WY
      have WY2 : Calls Try.prog 78 #[.agg #[.slice Ae 2 ce, .slice Aa 2 ca], .agg #[.int .i64 1, .bool true]] wb fun e w' => e = .returned (.tuple #[.agg #[.int .i64 1, .bool true, .int .i64 1, .int .i64 0, .int .i64 (-(L - 1))], .bool true]) ∧ Below wb.heap.size wb w' := by
        rw [← hwv]
        exact WY
      clear WY hst hwv
      go_upto_region 11 with (go_at_call 78; refine WY2.mono ?_; rintro e wc ⟨rfl, hb3⟩)
      have hb4 := hb3.alloc hb3.size (.cells #[.int .i64 1, .bool true, .int .i64 1, .int .i64 0, .int .i64 (-(L - 1))] 87)
      have kt : (wc.alloc (.cells #[.int .i64 1, .bool true, .int .i64 1, .int .i64 0, .int .i64 (-(L - 1))] 87)).heap[wc.heap.size]? = some (.cells #[.int .i64 1, .bool true, .int .i64 1, .int .i64 0, .int .i64 (-(L - 1))] 87 (0, 0)) := by rw [heapq_alloc, if_pos rfl]
      replace ho := blk hb4 ho
      have HB4 := Lib.hid (HB2.out.trans (hb4.mono (Nat.le_of_lt hol2)))
      have hol4 := Nat.lt_of_lt_of_le hol2 hb4.size
      have hog : o ≠ wc.heap.size := by have := hb3.size; omega
      clear hb3 hb4 WY2 d0 d1 s0 s1 kR1 ks
      generalize wc.alloc (.cells #[.int .i64 1, .bool true, .int .i64 1, .int .i64 0, .int .i64 (-(L - 1))] 87) = we at *
      generalize wc.heap.size = gt at *
      obtain ⟨t0, t1, t2, t3, t4⟩ := cells5y kt
      obtain ⟨⟨o0, o1, o2, o3, o4⟩, f0, f1, f2, f3, f4⟩ := resy5 ho
      have F2 := first2_00 we
      go_upto_region 14 with (first | (go_at_call 34; refine (unless_yes _ _).mono ?_; rintro e w' ⟨rfl, rfl⟩) | (go_at_call 28; refine F2.mono ?_; rintro e w' ⟨rfl, rfl⟩))
      have hb5 : Below we.heap.size we (we.alloc (.cells #[.int .i64 0, .int .i64 0] 31)) := (Below.refl _ _).alloc (Nat.le_refl _) _
      replace ho := blk hb5 ho
      replace kt := blk hb5 kt
      have HB5 := Lib.hid (HB4.out.trans (hb5.mono (Nat.le_of_lt hol4)))
      have hol5 := Nat.lt_of_lt_of_le hol4 hb5.size
      clear hb5 F2 t0 t1 t2 t3 t4 o0 o1 o2 o3 o4 f0 f1 f2 f3 f4
      generalize we.alloc (.cells #[.int .i64 0, .int .i64 0] 31) = wg at *
      obtain ⟨t0, t1, t2, t3, t4⟩ := cells5y kt
      obtain ⟨⟨o0, o1, o2, o3, o4⟩, f0, f1, f2, f3, f4⟩ := resy5 ho
      have ho6 := ho
      have kt6 := kt
      have HB6 := Lib.hid HB5.out
      go_upto_region 16 with (fail)
      generalize wg = wh at *
      have hol6 := (Array.getElem?_eq_some_iff.1 ho6).1
      have hsum : L + -(L - 1) = 1 := by omega
      have x0 := fun y : K3 ⟨gt, 3, none⟩ ⟨gt, 4, none⟩ ⟨o, 4, none⟩ (.int .i64 0) (.int .i64 (-(L - 1))) (.int .i64 L) => y.h1
      have x1 := fun y : K3 ⟨gt, 3, none⟩ ⟨gt, 4, none⟩ ⟨o, 4, none⟩ (.int .i64 0) (.int .i64 (-(L - 1))) (.int .i64 L) => y.h2
      have x2 := fun y : K3 ⟨gt, 3, none⟩ ⟨gt, 4, none⟩ ⟨o, 4, none⟩ (.int .i64 0) (.int .i64 (-(L - 1))) (.int .i64 L) => y.h3
      have hbd : Below wh.heap.size wh wh.drew := (Below.refl _ _).drew
      haveI : Nonempty (K3 ⟨gt, 3, none⟩ ⟨gt, 4, none⟩ ⟨o, 4, none⟩ (.int .i64 0) (.int .i64 (-(L - 1))) (.int .i64 L)) := ⟨⟨wh, t3, t4, o4⟩⟩
      refine wp_region_eager [10] (fun w' => ∃ y : K3 ⟨gt, 3, none⟩ ⟨gt, 4, none⟩ ⟨o, 4, none⟩ (.int .i64 0) (.int .i64 (-(L - 1))) (.int .i64 L), w' = y.v) (by kernel_rfl) ⟨⟨wh.drew, kept hbd t3, kept hbd t4, kept hbd o4⟩, rfl⟩ ?_
      refine wpE_reads5 [0, 1, 2, 3, 4, 5, 6, 7] 3 rfl (by kernel_rfl) ?_
      simp only [opsAt_nil, opsAt_cons, consOpt_some, List.getElem?_toArray, List.getElem?_cons_zero, List.getElem?_cons_succ]
      repeat (go_big_quiet_step (fail))
      refine wpQuiet_nil ?_
      show wpE _ _ _ _ _ _ _ _ _ wh.drew
      have ho7 := blk hbd ho6
      have kt7 := blk hbd kt6
      have HB7 := Lib.hid (HB6.out.trans (hbd.mono (Nat.le_of_lt hol6)))
      clear hbd x0 x1 x2 t0 t1 t2 t3 t4 o0 o1 o2 o3 o4 f0 f1 f2 f3 f4
      generalize wh.drew = wi at *
      obtain ⟨t0, t1, t2, t3, t4⟩ := cells5y kt7
      obtain ⟨⟨o0, o1, o2, o3, o4⟩, f0, f1, f2, f3, f4⟩ := resy5 ho7
      refine wpE_one (i := 8) rfl (by kernel_rfl) rfl ?_
      unfold wpMid
      simp only [opsAt_nil, opsAt_cons, consOpt_some, List.getElem?_toArray, List.getElem?_cons_zero, List.getElem?_cons_succ]
      have ho8 : (wi.setCell ⟨o, 3, none⟩ (.int .i64 0)).heap[o]? = some (.cells #[.int .i64 0, .bool false, .int .i64 0, .int .i64 0, .int .i64 L] 87 (0, 0)) := by
        rw [heapq_set, if_pos rfl, ho7]
        rfl
      have kt8 : (wi.setCell ⟨o, 3, none⟩ (.int .i64 0)).heap[gt]? = some (.cells #[.int .i64 1, .bool true, .int .i64 1, .int .i64 0, .int .i64 (-(L - 1))] 87 (0, 0)) := by
        rw [heapq_set, if_neg (Ne.symm hog), kt7]
      have HB8a := Lib.hid (HB7.out.setCell (p := ⟨o, 3, none⟩) (Nat.le_refl o) (.int .i64 0))
      go_wp2
      clear t0 t1 t2 t3 t4 o0 o1 o2 o3 o4 f0 f1 f2 f3 f4
      generalize wi.setCell ⟨o, 3, none⟩ (.int .i64 0) = wj at *
      obtain ⟨t0, t1, t2, t3, t4⟩ := cells5y kt8
      obtain ⟨⟨o0, o1, o2, o3, o4⟩, f0, f1, f2, f3, f4⟩ := resy5 ho8
      refine onlyNormal_mk ⟨⟨⟨_, t3, t4, o4⟩, rfl⟩, ?_⟩
      refine wpE_reads5 [9] 1 rfl (by kernel_rfl) ?_
      simp only [opsAt_nil, opsAt_cons, consOpt_some, List.getElem?_toArray, List.getElem?_cons_zero, List.getElem?_cons_succ]
      repeat (go_big_quiet_step (fail))
      refine wpQuiet_nil ?_
      refine wpE_tail rfl (by kernel_rfl) ?_
      simp only [opsAt_nil, opsAt_cons, consOpt_some, List.getElem?_toArray, List.getElem?_cons_zero, List.getElem?_cons_succ]
      have HO8 : Hid ((wj.setCell ⟨o, 4, none⟩ (.int .i64 1)).heap[o]? = some (.cells #[.int .i64 0, .bool false, .int .i64 0, .int .i64 0, .int .i64 1] 87 (0, 0))) := by
        rw [Hid, heapq_set, if_pos rfl, ho8]
        rfl
      have HB8 := Lib.hid (HB8a.out.setCell (p := ⟨o, 4, none⟩) (Nat.le_refl o) (.int .i64 1))
      clear ho7 ho8 kt7 kt8 ho6 kt6
      go_wp2
      refine onlyNormal_mk ?_
      go_wp2
      go_roundw
      case rel => exact ⟨2, by omega, rfl, HO8.out, HB8.out⟩
      case measure => simp [intOf]
    | 2, _ =>
      simp only [outP] at ho
      have kR2 : wr.heap[w.heap.size + 1]? = _ := (hb.block _ hx2).trans k2
      go_upto_region 18 with (fail)
      have hbd : Below wr.heap.size wr wr.drew := (Below.refl _ _).drew
      have ho9 := blk hbd ho
      have kR29 := blk hbd kR2
      have HB9 := Lib.hid (HBR.out.trans (hbd.mono (Nat.le_of_lt hol)))
      obtain ⟨o0, o1, o2, o3, o4⟩ := cells5y ho
      obtain ⟨⟨p0, p1, p2, p3, p4⟩, f0, f1, f2, f3, f4⟩ := resy5 kR29
      have x0 := fun x : Xt wr => x.cell o0
      have x1 := fun x : Xt wr => x.cell o1
      have x2 := fun x : Xt wr => x.cell o2
      have x3 := fun x : Xt wr => x.cell o3
      have x4 := fun x : Xt wr => x.cell o4
      refine wp_region_eager [5, 6] (fun w' => ∃ x : Xt wr, w' = x.1) (by kernel_rfl) ⟨⟨wr.drew, hbd⟩, rfl⟩ ?_
      refine wpE_reads5 [0, 1, 2, 3] 3 rfl (by kernel_rfl) ?_
      simp only [opsAt_nil, opsAt_cons, consOpt_some, List.getElem?_toArray, List.getElem?_cons_zero, List.getElem?_cons_succ]
      repeat (go_big_quiet_step (fail))
      refine wpQuiet_nil ?_
      show wpE _ _ _ _ _ _ _ _ _ wr.drew
      have hol9 := (Array.getElem?_eq_some_iff.1 ho9).1
      clear x0 x1 x2 x3 x4 o0 o1 o2 o3 o4
      generalize wr.drew = wd at *
      refine wpE_one (i := 4) rfl (by kernel_rfl) rfl ?_
      unfold wpMid
      simp only [opsAt_nil, opsAt_cons, consOpt_some, List.getElem?_toArray, List.getElem?_cons_zero, List.getElem?_cons_succ]
      go_wp2_with (go_at_call 34; refine (unless_yes _ _).mono ?_; rintro e w' ⟨rfl, rfl⟩)
      refine onlyNormal_mk ⟨⟨⟨_, hbd⟩, rfl⟩, ?_⟩
      refine wpE_tail rfl (by kernel_rfl) ?_
      simp only [opsAt_nil, opsAt_cons, consOpt_some, List.getElem?_toArray, List.getElem?_cons_zero, List.getElem?_cons_succ]
      clear HBR hbd ho ho9 hlR kR1 kR2
      have hgo : w.heap.size ≤ w.heap.size + 1 := by omega
      have HBF := Lib.hid (((((HB3.out.trans (HB9.out.mono hso)).setCell (p := ⟨w.heap.size + 1, 0, none⟩) hgo (.int .i64 0)).setCell (p := ⟨w.heap.size + 1, 1, none⟩) hgo (.bool false)).setCell (p := ⟨w.heap.size + 1, 2, none⟩) hgo (.int .i64 0)).setCell (p := ⟨w.heap.size + 1, 3, none⟩) hgo (.int .i64 0) |>.setCell (p := ⟨w.heap.size + 1, 4, none⟩) hgo (.int .i64 1))
      go_wp2
      refine onlyNormal_mk ?_
      go_wp2
      have kF : (((((wd.setCell ⟨w.heap.size + 1, 0, none⟩ (.int .i64 0)).setCell ⟨w.heap.size + 1, 1, none⟩ (.bool false)).setCell ⟨w.heap.size + 1, 2, none⟩ (.int .i64 0)).setCell ⟨w.heap.size + 1, 3, none⟩ (.int .i64 0)).setCell ⟨w.heap.size + 1, 4, none⟩ (.int .i64 1)).heap[w.heap.size + 1]? = some (.cells #[.int .i64 0, .bool false, .int .i64 0, .int .i64 0, .int .i64 1] 87 (0, 0)) := by
        simp only [heapq_set, if_pos, kR29, Option.map_some]
        rfl
      clear p0 p1 p2 p3 p4 f0 f1 f2 f3 f4
      generalize (((((wd.setCell ⟨w.heap.size + 1, 0, none⟩ (.int .i64 0)).setCell ⟨w.heap.size + 1, 1, none⟩ (.bool false)).setCell ⟨w.heap.size + 1, 2, none⟩ (.int .i64 0)).setCell ⟨w.heap.size + 1, 3, none⟩ (.int .i64 0)).setCell ⟨w.heap.size + 1, 4, none⟩ (.int .i64 1)) = wf at *
      obtain ⟨p0, p1, p2, p3, p4⟩ := cells5y kF
      refine bodyPost_ret (v := .tuple #[.agg #[.int .i64 0, .bool false, .int .i64 0, .int .i64 0, .int .i64 1], .int .i64 0]) (by simp [results, Try.results54, go_sem, p0, p1, p2, p3, p4]) rfl ⟨rfl, HBF.out⟩
end Go.Proofs.Ytnnnpijepdjanaa

namespace Go.Proofs.Ytnnnpijepdjanaa
open Go.RowKit

theorem run_neq_nil36' (W : World) (a : Addr) (n c : Nat) : Sem.run Try.prog (binOp BinOp.neq 36 (.slice (some a) n c) (.slice none 0 0)) W = .ok (.bool true) W := by kernel_rfl
def FcPost (w : World) (e : Ending) (w' : World) : Prop :=
  ∃ b c, e = .returned (.tuple #[.slice (some ⟨b, 0, none⟩) 2 c, .int .i64 0]) ∧ Rd w' w'.heap.size (some ⟨b, 0, none⟩) (sCells [(0, false), (1, true)]) ∧ Below w.heap.size w w'
set_option maxRecDepth 100000 in
set_option maxHeartbeats 8000000 in
theorem FindCycle_two (w : World) (B : Nat) (Ae Aa : Option Addr) (ce ca : Nat) (evs : List ByteArray) (L : Int) (hL : 2 ≤ L) (hL9 : L ≤ 100000) (h : NetAt w B Ae Aa 2 ce 2 evs (acts2 L)) (hB : B ≤ w.heap.size) (hR : NetR evs (acts2 L)) :
    Calls Try.prog 23 #[.agg #[.slice Ae 2 ce, .slice Aa 2 ca]] w (FcPost w) := by
  have OP := fun (W : World) (h : NetAt W B Ae Aa 2 ce 2 evs (acts2 L)) (hB : B ≤ W.heap.size) => open_right W B Ae Aa 2 ce 2 ca evs (acts2 L) h hB hR
  have CY := fun (W : World) (h : NetAt W B Ae Aa 2 ce 2 evs (acts2 L)) (hB : B ≤ W.heap.size) => cycle_two W B Ae Aa ce ca evs L hL hL9 h hB hR
  unfold netV OpenPost at OP
  have qn := run_neq_nil36'
  have hb0 : Below w.heap.size w (w.alloc (.cells #[.slice Ae 2 ce, .slice Aa 2 ca] 25)) := (Below.refl _ _).alloc (Nat.le_refl _) _
  have k0 : (w.alloc (.cells #[.slice Ae 2 ce, .slice Aa 2 ca] 25)).heap[w.heap.size]? = some (.cells #[.slice Ae 2 ce, .slice Aa 2 ca] 25 (0, 0)) := by rw [heapq_alloc, if_pos rfl]
  have hN := h.below (hb0.mono hB)
  have hB0 := Nat.le_trans hB hb0.size
  have hs := hb0.size
  have HB := Lib.hid hb0
  obtain ⟨d0, d1⟩ := cells2 k0
  clear hb0 h hR hB
  go_enter Try.func23, Try.ntmps23
  go_upto_region 1 with (fail)
  generalize (w.alloc (.cells #[.slice Ae 2 ce, .slice Aa 2 ca] 25)) = w0 at *
  go_upto_region 2 with (go_at_call 27; refine (OP _ hN hB0).mono ?_; rintro e w1 ⟨rfl, hb1⟩; have hbA := hb1.trans ((Below.refl w1.heap.size w1).alloc (Nat.le_refl _) (.cells #[.slice Ae 2 ce, .slice Aa 2 ca] 74) |>.mono hb1.size))
  have kN : (w1.alloc (.cells #[.slice Ae 2 ce, .slice Aa 2 ca] 74)).heap[w1.heap.size]? = some (.cells #[.slice Ae 2 ce, .slice Aa 2 ca] 74 (0, 0)) := by rw [heapq_alloc, if_pos rfl]
  replace hN := hN.below (hbA.mono hB0)
  replace HB := Lib.hid (HB.out.trans (hbA.mono hs))
  replace hs := Nat.le_trans hs hbA.size
  replace hB0 := Nat.le_trans hB0 hbA.size
  clear hb1 hbA d0 d1 OP k0
  generalize w1.alloc (.cells #[.slice Ae 2 ce, .slice Aa 2 ca] 74) = w2 at *
  generalize w1.heap.size = y at *
  obtain ⟨d0, d1⟩ := cells2 kN
  go_upto_region 5 with (go_at_call 35; refine (CY _ hN hB0).mono ?_; rintro e w3 ⟨b, c, rfl, hrd, hb3⟩)
  replace HB := Lib.hid (HB.out.trans (hb3.mono hs))
  clear hb3 d0 d1 kN hN CY
  go_wp2_with (go_at_call 34; refine (unless_yes _ _).mono ?_; rintro e w' ⟨rfl, rfl⟩)
  refine bodyPost_ret (v := .tuple #[.slice (some ⟨b, 0, none⟩) 2 c, .int .i64 0]) (by simp [results, Try.results23, go_sem]) rfl ⟨b, c, rfl, hrd, HB.out⟩
def CcPost (w : World) (e : Ending) (w' : World) : Prop := e = .returned (.tuple #[.int .i64 1, .int .i64 0]) ∧ Below w.heap.size w w'
set_option maxRecDepth 100000 in
set_option maxHeartbeats 8000000 in
theorem CheckCycle_two (w : World) (B : Nat) (Ae Aa : Option Addr) (ce ca : Nat) (evs : List ByteArray) (L : Int) (hL : 2 ≤ L) (hL9 : L ≤ 100000) (h : NetAt w B Ae Aa 2 ce 2 evs (acts2 L)) (hB : B ≤ w.heap.size) (hR : NetR evs (acts2 L)) (Bl : Nat) (Al : Option Addr) (cl : Nat) (hl : Rd w Bl Al (sCells [(0, false), (1, true)])) (hBl : Bl ≤ w.heap.size) :
    Calls Try.prog 24 #[.agg #[.slice Ae 2 ce, .slice Aa 2 ca], .slice Al 2 cl] w (CcPost w) := by
  have OP := fun (W : World) (h : NetAt W B Ae Aa 2 ce 2 evs (acts2 L)) (hB : B ≤ W.heap.size) => open_right W B Ae Aa 2 ce 2 ca evs (acts2 L) h hB hR
  have WK := fun (W : World) (h : NetAt W B Ae Aa 2 ce 2 evs (acts2 L)) (hB : B ≤ W.heap.size) (hl : Rd W Bl Al (sCells [(0, false), (1, true)])) (hBl : Bl ≤ W.heap.size) => walk_two W B Ae Aa ce ca evs L hL hL9 h hB hR Bl Al cl hl hBl
  unfold netV OpenPost at OP
  have hb0 : Below w.heap.size w (w.alloc (.cells #[.slice Ae 2 ce, .slice Aa 2 ca] 25)) := (Below.refl _ _).alloc (Nat.le_refl _) _
  have k0 : (w.alloc (.cells #[.slice Ae 2 ce, .slice Aa 2 ca] 25)).heap[w.heap.size]? = some (.cells #[.slice Ae 2 ce, .slice Aa 2 ca] 25 (0, 0)) := by rw [heapq_alloc, if_pos rfl]
  have hN := h.below (hb0.mono hB)
  have hl0 := hl.below (hb0.mono hBl)
  have hB0 := Nat.le_trans hB hb0.size
  have hBl0 := Nat.le_trans hBl hb0.size
  have hs := hb0.size
  have HB := Lib.hid hb0
  obtain ⟨d0, d1⟩ := cells2 k0
  clear hb0 h hR hB hl hBl
  go_enter Try.func24, Try.ntmps24
  go_upto_region 1 with (fail)
  generalize (w.alloc (.cells #[.slice Ae 2 ce, .slice Aa 2 ca] 25)) = w0 at *
  go_upto_region 2 with (go_at_call 27; refine (OP _ hN hB0).mono ?_; rintro e w1 ⟨rfl, hb1⟩; have hbA := hb1.trans ((Below.refl w1.heap.size w1).alloc (Nat.le_refl _) (.cells #[.slice Ae 2 ce, .slice Aa 2 ca] 74) |>.mono hb1.size))
  have kN : (w1.alloc (.cells #[.slice Ae 2 ce, .slice Aa 2 ca] 74)).heap[w1.heap.size]? = some (.cells #[.slice Ae 2 ce, .slice Aa 2 ca] 74 (0, 0)) := by rw [heapq_alloc, if_pos rfl]
  replace hN := hN.below (hbA.mono hB0)
  replace hl0 := hl0.below (hbA.mono hBl0)
  replace HB := Lib.hid (HB.out.trans (hbA.mono hs))
  replace hs := Nat.le_trans hs hbA.size
  replace hB0 := Nat.le_trans hB0 hbA.size
  replace hBl0 := Nat.le_trans hBl0 hbA.size
  clear hb1 hbA d0 d1 OP k0
  generalize w1.alloc (.cells #[.slice Ae 2 ce, .slice Aa 2 ca] 74) = w2 at *
  generalize w1.heap.size = y at *
  obtain ⟨d0, d1⟩ := cells2 kN
  go_upto_region 5 with (go_at_call 54; refine (WK _ hN hB0 hl0 hBl0).mono ?_; rintro e w3 ⟨rfl, hb3⟩)
  have hbB := hb3.trans ((Below.refl w3.heap.size w3).alloc (Nat.le_refl _) (.cells #[.int .i64 0, .bool false, .int .i64 0, .int .i64 0, .int .i64 1] 87) |>.mono hb3.size)
  have kW : (w3.alloc (.cells #[.int .i64 0, .bool false, .int .i64 0, .int .i64 0, .int .i64 1] 87)).heap[w3.heap.size]? = some (.cells #[.int .i64 0, .bool false, .int .i64 0, .int .i64 0, .int .i64 1] 87 (0, 0)) := by rw [heapq_alloc, if_pos rfl]
  replace HB := Lib.hid (HB.out.trans (hbB.mono hs))
  replace hs := Nat.le_trans hs hbB.size
  clear hb3 hbB d0 d1 kN hN WK hl0
  generalize w3.alloc (.cells #[.int .i64 0, .bool false, .int .i64 0, .int .i64 0, .int .i64 1] 87) = w4 at *
  generalize w3.heap.size = z at *
  obtain ⟨d0, d1, d2, d3, d4⟩ := cells5y kW
  have F2 := first2_00 w4
  go_upto_region 6 with (first | (go_at_call 34; refine (unless_yes _ _).mono ?_; rintro e w' ⟨rfl, rfl⟩) | (go_at_call 28; refine F2.mono ?_; rintro e w' ⟨rfl, rfl⟩))
  have hb5 : Below w4.heap.size w4 (w4.alloc (.cells #[.int .i64 0, .int .i64 0] 31)) := (Below.refl _ _).alloc (Nat.le_refl _) _
  replace kW := blk hb5 kW
  replace HB := Lib.hid (HB.out.trans (hb5.mono hs))
  clear hb5 F2 d0 d1 d2 d3 d4
  generalize w4.alloc (.cells #[.int .i64 0, .int .i64 0] 31) = w5 at *
  obtain ⟨d0, d1, d2, d3, d4⟩ := cells5y kW
  go_wp2
  refine bodyPost_ret (v := .tuple #[.int .i64 1, .int .i64 0]) (by simp [results, Try.results24, go_sem]) rfl ⟨rfl, HB.out⟩
end Go.Proofs.Ytnnnpijepdjanaa
