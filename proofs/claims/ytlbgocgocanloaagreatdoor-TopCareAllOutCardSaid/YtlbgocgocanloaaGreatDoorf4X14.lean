/- The reference's Replay. -/
import Derived.Test.YtlbgocgocanloaaGreatDoorf4X10
import Derived.Test.YtlbgocgocanloaaGreatDoorf4E1
import Derived.Test.YtlbgocgocanloaaGreatDoorf4R7
import Derived.Deep.Cut
namespace Go.Proofs.YtlbgocgocanloaaGreatDoor
open Go.RowKit
/-- a state held in block y, its slices elsewhere -/
structure RRAt (w wr : World) (x y D : Nat) (T S : Int) (s : Tr) (g1 g2 c1 c2 : Nat) : Prop where
  r : wr.heap[x]? = some (.cells #[.int .i64 D, .int .i64 T, .int .i64 S] 40 (0, 0))
  res : wr.heap[x + 1]? = some (.cells #[.bool false, .bool false, .int .i64 0, .slice none 0 0, .slice none 0 0] 52 (0, 0))
  st : wr.heap[y]? = some (.cells #[.bool s.mv, .bool s.al, .int .i64 s.place, .slice (some ⟨g1, 0, none⟩) D c1, .slice (some ⟨g2, 0, none⟩) D c2] 52 (0, 0))
  own : OwnSt wr (x + 2) g1 g2 D D c1 c2 s
  n1 : y ≠ g1
  n2 : y ≠ g2
  below : Below x w wr
  hy : x + 2 ≤ y
  hx : w.heap.size = x
/-- the state variable takes another state -/
theorem RRAt.put {w wr W : World} {x y D : Nat} {T S : Int} {s s' : Tr} {g1 g2 c1 c2 h1 h2 d1 d2 : Nat} (h : RRAt w wr x y D T S s g1 g2 c1 c2) (hb : Below wr.heap.size wr W)
    (ho : OwnSt W wr.heap.size h1 h2 D D d1 d2 s') :
    RRAt w (((((W.setCell ⟨y, 0, none⟩ (.bool s'.mv)).setCell ⟨y, 1, none⟩ (.bool s'.al)).setCell ⟨y, 2, none⟩ (.int .i64 s'.place)).setCell ⟨y, 3, none⟩ (.slice (some ⟨h1, 0, none⟩) D d1)).setCell ⟨y, 4, none⟩ (.slice (some ⟨h2, 0, none⟩) D d2)) x y D T S s' h1 h2 d1 d2 := by
  have hy := h.hy
  have hx := h.hx
  have ly : y < wr.heap.size := by
    have := h.st
    rcases Nat.lt_or_ge y wr.heap.size with h' | h'
    · exact h'
    · rw [Array.getElem?_eq_none h'] at this; cases this
  have b1 : wr.heap.size ≤ h1 := (ownBlk ho.og rfl).1
  have b2 : wr.heap.size ≤ h2 := (ownBlk ho.od rfl).1
  refine ⟨?_, ?_, ?_, ?_, by omega, by omega, ?_, hy, hx⟩
  · rw [heapq_set, if_neg (by omega), heapq_set, if_neg (by omega), heapq_set, if_neg (by omega), heapq_set, if_neg (by omega), heapq_set, if_neg (by omega)]
    exact (hb.block x (by omega)).trans h.r
  · rw [heapq_set, if_neg (by omega), heapq_set, if_neg (by omega), heapq_set, if_neg (by omega), heapq_set, if_neg (by omega), heapq_set, if_neg (by omega)]
    exact (hb.block (x + 1) (by omega)).trans h.res
  · rw [heapq_set, if_pos rfl, heapq_set, if_pos rfl, heapq_set, if_pos rfl, heapq_set, if_pos rfl, heapq_set, if_pos rfl, (hb.block y ly).trans h.st]
    rfl
  · exact (((((ho.far (p := ⟨y, 0, none⟩) ly _).far (p := ⟨y, 1, none⟩) ly _).far (p := ⟨y, 2, none⟩) ly _).far (p := ⟨y, 3, none⟩) ly _).far (p := ⟨y, 4, none⟩) ly _).more (by omega)
  · exact ((((((h.below.trans (hb.mono (by omega)))).setCell (p := ⟨y, 0, none⟩) (by show x ≤ y; omega) _).setCell (p := ⟨y, 1, none⟩) (by show x ≤ y; omega) _).setCell (p := ⟨y, 2, none⟩) (by show x ≤ y; omega) _).setCell (p := ⟨y, 3, none⟩) (by show x ≤ y; omega) _).setCell (p := ⟨y, 4, none⟩) (by show x ≤ y; omega) _
theorem RRAt.keep {w wr W : World} {x y D : Nat} {T S : Int} {s : Tr} {g1 g2 c1 c2 : Nat} (h : RRAt w wr x y D T S s g1 g2 c1 c2) (hb : Below wr.heap.size wr W) : RRAt w W x y D T S s g1 g2 c1 c2 := by
  have lt : ∀ {b : Nat} {o : Obj}, wr.heap[b]? = some o → b < wr.heap.size := fun {b o} hh => by
    rcases Nat.lt_or_ge b wr.heap.size with h' | h'
    · exact h'
    · rw [Array.getElem?_eq_none h'] at hh; cases hh
  have hx := h.hx
  have hs := h.below.size
  exact ⟨(hb.block _ (lt h.r)).trans h.r, (hb.block _ (lt h.res)).trans h.res, (hb.block _ (lt h.st)).trans h.st, h.own.below hb, h.n1, h.n2, h.below.trans (hb.mono (by omega)), h.hy, h.hx⟩
theorem RRAt.set {w wr : World} {x y D : Nat} {T S : Int} {s : Tr} {g1 g2 c1 c2 : Nat} (h : RRAt w wr x y D T S s g1 g2 c1 c2) (a0 a1 a2 a3 a4 : Value) :
    Below x w (((((wr.setCell ⟨x + 1, 0, none⟩ a0).setCell ⟨x + 1, 1, none⟩ a1).setCell ⟨x + 1, 2, none⟩ a2).setCell ⟨x + 1, 3, none⟩ a3).setCell ⟨x + 1, 4, none⟩ a4) ∧
    StOwn x (((((wr.setCell ⟨x + 1, 0, none⟩ a0).setCell ⟨x + 1, 1, none⟩ a1).setCell ⟨x + 1, 2, none⟩ a2).setCell ⟨x + 1, 3, none⟩ a3).setCell ⟨x + 1, 4, none⟩ a4) s D (stV s (some ⟨g1, 0, none⟩) (some ⟨g2, 0, none⟩) D D c1 c2) := by
  refine ⟨((((h.below.setCell (by simp) _).setCell (by simp) _).setCell (by simp) _).setCell (by simp) _).setCell (by simp) _, _, _, _, _, rfl, ?_⟩
  have l : x + 1 < x + 2 := by omega
  exact (((((h.own.far (p := ⟨x + 1, 0, none⟩) l _).far (p := ⟨x + 1, 1, none⟩) l _).far (p := ⟨x + 1, 2, none⟩) l _).far (p := ⟨x + 1, 3, none⟩) l _).far (p := ⟨x + 1, 4, none⟩) l _).more (by omega)
end Go.Proofs.YtlbgocgocanloaaGreatDoor

/- CareBegins: the walk. -/
namespace Go.Proofs.YtlbgocgocanloaaGreatDoor
open Go.RowKit
def zeroTr : Tr := ⟨false, false, 0, [], []⟩
theorem zeroAt (w : World) (B : Nat) : StAt w B none none 0 0 zeroTr := ⟨rfl, rfl, fun k u h => by simp [zeroTr] at h, fun k u h => by simp [zeroTr] at h, by omega, by omega⟩
theorem sameB_self (s : Tr) : sameB s s = true := by simp [sameB, (eqGo_iff s.gates s.gates).2 rfl, (eqGo_iff s.doors s.doors).2 rfl]
end Go.Proofs.YtlbgocgocanloaaGreatDoor

/- CareReplays: the walk. -/
namespace Go.Proofs.YtlbgocgocanloaaGreatDoor
open Go.RowKit
theorem put5_self {W : World} {y t : Nat} {z0 z1 z2 z3 z4 : Value} (a0 a1 a2 a3 a4 : Value) (h : W.heap[y]? = some (.cells #[z0, z1, z2, z3, z4] t (0, 0))) :
    (((((W.setCell ⟨y, 0, none⟩ a0).setCell ⟨y, 1, none⟩ a1).setCell ⟨y, 2, none⟩ a2).setCell ⟨y, 3, none⟩ a3).setCell ⟨y, 4, none⟩ a4).heap[y]? = some (.cells #[a0, a1, a2, a3, a4] t (0, 0)) := by
  rw [heapq_set, if_pos rfl, heapq_set, if_pos rfl, heapq_set, if_pos rfl, heapq_set, if_pos rfl, heapq_set, if_pos rfl, h]
  rfl
theorem put5_below {W : World} {B y : Nat} (a0 a1 a2 a3 a4 : Value) (h : B ≤ y) : Below B W (((((W.setCell ⟨y, 0, none⟩ a0).setCell ⟨y, 1, none⟩ a1).setCell ⟨y, 2, none⟩ a2).setCell ⟨y, 3, none⟩ a3).setCell ⟨y, 4, none⟩ a4) :=
  (((((Below.refl B W).setCell (p := ⟨y, 0, none⟩) h _).setCell (p := ⟨y, 1, none⟩) h _).setCell (p := ⟨y, 2, none⟩) h _).setCell (p := ⟨y, 3, none⟩) h _).setCell (p := ⟨y, 4, none⟩) h _
theorem put5_size {W : World} {y : Nat} (a0 a1 a2 a3 a4 : Value) : (((((W.setCell ⟨y, 0, none⟩ a0).setCell ⟨y, 1, none⟩ a1).setCell ⟨y, 2, none⟩ a2).setCell ⟨y, 3, none⟩ a3).setCell ⟨y, 4, none⟩ a4).heap.size = W.heap.size := by
  simp
theorem put5_cell {W : World} {y : Nat} (a0 a1 a2 a3 a4 : Value) {p : Addr} {v : Value} (h : p.block ≠ y) (hc : W.cell? p = some v) : (((((W.setCell ⟨y, 0, none⟩ a0).setCell ⟨y, 1, none⟩ a1).setCell ⟨y, 2, none⟩ a2).setCell ⟨y, 3, none⟩ a3).setCell ⟨y, 4, none⟩ a4).cell? p = some v := by
  have e : ∀ (W : World) (i : Nat) (a : Value), (W.setCell ⟨y, i, none⟩ a).cell? p = W.cell? p := fun W i a => World.cell?_setCell_other W _ _ _ (fun he => h (by rw [← he]))
  rw [e, e, e, e, e]
  exact hc
end Go.Proofs.YtlbgocgocanloaaGreatDoor
