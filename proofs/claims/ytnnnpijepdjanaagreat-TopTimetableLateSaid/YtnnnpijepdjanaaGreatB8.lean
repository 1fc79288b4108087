/- One round of the labels: what is kept, in memory. -/
import Derived.Test.YtnnnpijepdjanaaGreatB7
import Derived.Test.YtnnnpijepdjanaaGreatT5
namespace Go.Proofs.YtnnnpijepdjanaaGreat
open Go Go.RowKit Go.Shelf

theorem lab_one {w : World} {d : Nat} {vs : List Value} {l : Far} (h : LabsAt w d vs l) : ∀ u ∈ vs, u.oneCell' = true := by
  intro u hu
  obtain ⟨i, hi⟩ := List.mem_iff_getElem?.1 hu
  have hlt : i < vs.length := (List.getElem?_eq_some_iff.1 hi).1
  obtain ⟨o, ho⟩ : ∃ o, l[i]? = some o := ⟨_, List.getElem?_eq_getElem (by rw [← h.1]; exact hlt)⟩
  rcases h.2 i u o hi ho with ⟨rfl, _⟩ | ⟨_, _, _, _, hl⟩
  · rfl
  · cases hl <;> rfl
theorem own_set {w : World} {B e size n g c i : Nat} {xs : List Value} (h : w.ownsRow B e size (.slice (some ⟨g, 0, none⟩) n c) n xs) (v : Value) :
    (w.setCell ⟨g, i, none⟩ v).ownsRow B e size (.slice (some ⟨g, 0, none⟩) n c) n (xs.set i v) := by
  obtain ⟨h1, h2⟩ := h
  refine ⟨by simpa using h1, ?_⟩
  rcases h2 with ⟨h2, _⟩ | ⟨g', cap, cur, h2, h3, h4, h5, h6, h7, h8⟩
  · simp at h2
  · simp only [Value.slice.injEq, Option.some.injEq, Addr.mk.injEq, and_true, true_and] at h2
    obtain ⟨rfl, rfl⟩ := h2
    refine .inr ⟨g, c, cur.setIfInBounds i v, rfl, h3, ?_, h5, h6, by simpa using h7, ?_⟩
    · rw [heapq_set, if_pos rfl, h4]
      simp [objSet_cells]
    · rw [Array.toList_setIfInBounds, ← h8, List.take_set]
theorem own_cell {w : World} {B e size n g c i : Nat} {xs : List Value} (h : w.ownsRow B e size (.slice (some ⟨g, 0, none⟩) n c) n xs) {v : Value} (hv : xs[i]? = some v) : w.cell? ⟨g, i, none⟩ = some v ∧ w.frozen? ⟨g, i, none⟩ = false ∧ B ≤ g ∧ g < w.heap.size := by
  obtain ⟨h1, h2, cur, hcur⟩ := ownBlk h rfl
  refine ⟨?_, frozen_of_row _ _ _ _ _ hcur, h1, h2⟩
  rw [h.cellAt i (by rw [← h.1]; exact (List.getElem?_eq_some_iff.1 hv).1), hv]

/-- which labels are new -/
def PDiff (n0 : Nat) (vs vsN : List Value) (l acc : Far) : Prop := ∀ (i : Nat) (v : Value), vsN[i]? = some v →
  (vs[i]? = some v ∧ acc[i]? = l[i]?) ∨ ((∃ g, v = .pointer (some ⟨g, 0, none⟩) ∧ n0 ≤ g) ∧ ∃ u : Int, acc[i]? = some (some u) ∧ ∀ u0 : Int, l[i]? = some (some u0) → u0 < u)
theorem PDiff.set {n0 : Nat} {vs vsN : List Value} {l acc : Far} (h : PDiff n0 vs vsN l acc) {i g : Nat} {u : Int} (hi : i < acc.length) (hg : n0 ≤ g) (hu : ∀ u0 : Int, l[i]? = some (some u0) → u0 < u) :
    PDiff n0 vs (vsN.set i (.pointer (some ⟨g, 0, none⟩))) l (acc.set i (some u)) := by
  intro j v hv
  rw [List.getElem?_set] at hv
  by_cases hij : i = j
  · subst hij
    rw [if_pos rfl] at hv
    split at hv
    · cases hv
      exact .inr ⟨⟨g, rfl, hg⟩, u, by rw [List.getElem?_set_self hi], hu⟩
    · cases hv
  · rw [if_neg hij] at hv
    rw [List.getElem?_set_ne hij]
    exact h j v hv
theorem LabsAt.set {w : World} {d : Nat} {vs : List Value} {l : Far} (h : LabsAt w d vs l) {i n : Nat} {p : Value} {u : Int} (hp : Lab w p u n) (hn : n ≤ d) : LabsAt w d (vs.set i p) (l.set i (some u)) := by
  refine ⟨by rw [List.length_set, List.length_set, h.1], fun j v o hv ho => ?_⟩
  rw [List.getElem?_set] at hv
  by_cases hij : i = j
  · subst hij
    rw [if_pos rfl] at hv
    split at hv
    · rename_i hlt
      cases hv
      rw [List.getElem?_set_self (by rw [← h.1]; exact hlt)] at ho
      cases ho
      exact .inr ⟨u, n, hn, rfl, hp⟩
    · cases hv
  · rw [if_neg hij] at hv
    rw [List.getElem?_set_ne hij] at ho
    exact h.2 j v o hv ho

/-- behind some ways: the new labels, whether something grew, and what is not to be turned -/
structure FaI (w : World) (d : Nat) (x y g c ne : Nat) (Al : Option Addr) (cl : Nat) (vs : List Value) (l acc : Far) (more : Bool) (W : World) : Prop where
  b6 : W.heap[y]? = some (.cells #[.slice (some ⟨g, 0, none⟩) ne c] 73 (0, 0))
  b7 : W.heap[y + 1]? = some (.cells #[.bool more] 4 (0, 0))
  b3 : W.heap[x + 1]? = some (.cells #[.slice Al ne cl] 73 (0, 0))
  row : ∃ vsN, W.ownsRow (x + 2) 74 1 (.slice (some ⟨g, 0, none⟩) ne c) ne vsN ∧ LabsAt W d vsN acc ∧ PDiff x vs vsN l acc
  below : Below x w W
  hx : w.heap.size = x
  hy : x + 2 ≤ y
theorem FaI.grown {w : World} {d x y g c ne : Nat} {Al : Option Addr} {cl : Nat} {vs : List Value} {l acc : Far} {more : Bool} {W W' : World} {row : Option Nat} (h : FaI w d x y g c ne Al cl vs l acc more W) (hg : W.grownBy W' row)
    (hr : ∀ r, row = some r → x ≤ r ∧ ∃ o : Obj, W.heap[r]? = some o ∧ o.isCells = false) : FaI w d x y g c ne Al cl vs l acc more W' := by
  have kc : ∀ (b : Nat) (cur : Array Value) (t : TypeId), W.heap[b]? = some (.cells cur t (0, 0)) → W'.heap[b]? = some (.cells cur t (0, 0)) := fun b cur t hb => (hg.block b (Array.getElem?_eq_some_iff.1 hb).1 (fun e => by
    obtain ⟨_, o, ho, hc⟩ := hr b e.symm
    rw [hb] at ho
    cases ho
    simp [Obj.isCells] at hc)).trans hb
  obtain ⟨vsN, r1, r2, r3⟩ := h.row
  exact ⟨kc _ _ _ h.b6, kc _ _ _ h.b7, kc _ _ _ h.b3, ⟨vsN, own_keep r1 (fun k cur hk => (kc _ _ _ hk).trans hk.symm), r2.kp (fun b cur hb => kc _ _ _ hb), r3⟩,
    h.below.grown hg (by have := h.below.size; have := h.hx; omega) (fun k e => (hr k e).1), h.hx, h.hy⟩
theorem FaI.more_below {w : World} {d x y g c ne : Nat} {Al : Option Addr} {cl : Nat} {vs : List Value} {l acc : Far} {more : Bool} {W W' : World} (h : FaI w d x y g c ne Al cl vs l acc more W) (hb : Below W.heap.size W W') : FaI w d x y g c ne Al cl vs l acc more W' :=
  h.grown (grown_of_below hb) (fun r e => by cases e)
/-- a label takes the place of another one -/
theorem FaI.set {w : World} {d x y g c ne : Nat} {Al : Option Addr} {cl : Nat} {vs : List Value} {l acc : Far} {more : Bool} {W : World} (h : FaI w d x y g c ne Al cl vs l acc more W) {i q : Nat} {u : Int} {n : Nat} (hi : i < acc.length) (hq : x ≤ q)
    (hl : Lab W (.pointer (some ⟨q, 0, none⟩)) u n) (hn : n ≤ d) (hu : ∀ u0 : Int, l[i]? = some (some u0) → u0 < u) :
    FaI w d x y g c ne Al cl vs l (acc.set i (some u)) true ((W.setCell ⟨g, i, none⟩ (.pointer (some ⟨q, 0, none⟩))).setCell ⟨y + 1, 0, none⟩ (.bool true)) := by
  obtain ⟨vsN, r1, r2, r3⟩ := h.row
  obtain ⟨hg1, _, cur, hcur⟩ := ownBlk r1 rfl
  have hg2 : x + 2 ≤ g := hg1
  have hy := h.hy
  have ng : ∀ {b : Nat} {cu : Array Value} {t : TypeId}, t ≠ 74 → W.heap[b]? = some (.cells cu t (0, 0)) → b ≠ g := fun ht hb e => by
    subst e
    rw [hcur] at hb
    cases hb
    exact ht rfl
  have ny : ∀ {b : Nat} {cu : Array Value} {t : TypeId}, t ≠ 4 → W.heap[b]? = some (.cells cu t (0, 0)) → b ≠ y + 1 := fun ht hb e => by
    subst e
    rw [h.b7] at hb
    cases hb
    exact ht rfl
  have kc : ∀ (b : Nat) (cu : Array Value) (t : TypeId), t ≠ 74 → t ≠ 4 → W.heap[b]? = some (.cells cu t (0, 0)) → ((W.setCell ⟨g, i, none⟩ (.pointer (some ⟨q, 0, none⟩))).setCell ⟨y + 1, 0, none⟩ (.bool true)).heap[b]? = some (.cells cu t (0, 0)) := fun b cu t h1 h2 hb => by
    rw [heapq_set, if_neg (ny h2 hb), heapq_set, if_neg (ng h1 hb)]
    exact hb
  have kl : KpL W ((W.setCell ⟨g, i, none⟩ (.pointer (some ⟨q, 0, none⟩))).setCell ⟨y + 1, 0, none⟩ (.bool true)) := fun b cu hb => kc b cu 83 (by decide) (by decide) hb
  refine ⟨kc _ _ _ (by decide) (by decide) h.b6, ?_, kc _ _ _ (by decide) (by decide) h.b3, ⟨_, ownsRow_setCell_other (own_set r1 _) (by simp [Value.ownBlock]; exact (ng (by decide) h.b7).symm) _, (r2.kp kl).set (hl.kp kl) hn, r3.set hi hq hu⟩, ?_, h.hx, h.hy⟩
  · rw [heapq_set, if_pos rfl, heapq_set, if_neg (ng (by decide) h.b7), h.b7]
    rfl
  · exact (h.below.setCell (p := ⟨g, i, none⟩) (by show x ≤ g; omega) _).setCell (p := ⟨y + 1, 0, none⟩) (by show x ≤ y + 1; omega) _
/-- worlds in which all blocks of cells lie but rows of labels and flags -/
structure KeepT (W : World) where
  v : World
  h : ∀ (b : Nat) (cur : Array Value) (t : TypeId), t ≠ 74 → t ≠ 4 → W.heap[b]? = some (.cells cur t (0, 0)) → v.heap[b]? = some (.cells cur t (0, 0))
theorem KeepT.cell {W : World} (k : KeepT W) {b j : Nat} {cur : Array Value} {t : TypeId} {u : Value} (h1 : t ≠ 74) (h2 : t ≠ 4) (hb : W.heap[b]? = some (.cells cur t (0, 0))) (hu : cur[j]? = some u) : k.v.cell? ⟨b, j, none⟩ = some u := by
  rw [cell_of_row _ _ _ _ _ _ (k.h b cur t h1 h2 hb), hu]
end Go.Proofs.YtnnnpijepdjanaaGreat
