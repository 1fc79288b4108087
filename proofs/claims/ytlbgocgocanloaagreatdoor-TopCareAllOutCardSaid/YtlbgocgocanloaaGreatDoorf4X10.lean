/- The reference: an event applied: what each store leaves. -/
import Derived.Test.YtlbgocgocanloaaGreatDoorf4X3
namespace Go.Proofs.YtlbgocgocanloaaGreatDoor
open Go.RowKit
theorem ApAt.keep {w W W2 : World} {x y g1 g2 D c1 c2 cg cd : Nat} {T S k pl dr : Int} {Ag Ad : Option Addr} {s : Tr} (h : ApAt w W x y g1 g2 D c1 c2 T S Ag Ad cg cd s k pl dr) (hb : Below W.heap.size W W2) : ApAt w W2 x y g1 g2 D c1 c2 T S Ag Ad cg cd s k pl dr := by
  have lx := h.below.size
  rw [h.hx] at lx
  exact ⟨(hb.block _ (lt_of_block h.r)).trans h.r, (hb.block _ (lt_of_block h.st)).trans h.st, (hb.block _ (lt_of_block h.ev)).trans h.ev, (hb.block _ (lt_of_block h.res)).trans h.res, (hb.block _ (lt_of_block h.cp)).trans h.cp,
    ⟨ownsRow_below h.own.og hb, ownsRow_below h.own.od hb, h.own.ne⟩, h.at_.below (hb.mono lx), h.ye, h.yg, h.yd, h.hx, h.below.trans (hb.mono lx)⟩
structure EndAt (w W : World) (x y g1 g2 D c1 c2 : Nat) (s : Tr) : Prop where
  cp : W.heap[y]? = some (.cells #[.bool s.mv, .bool s.al, .int .i64 s.place, .slice (some ⟨g1, 0, none⟩) D c1, .slice (some ⟨g2, 0, none⟩) D c2] 52 (0, 0))
  res : W.heap[x + 3]? = some (.cells #[.bool false, .bool false, .int .i64 0, .slice none 0 0, .slice none 0 0] 52 (0, 0))
  own : OwnSt W (x + 4) g1 g2 D D c1 c2 s
  ye : x + 4 ≤ y
  yg : y ≠ g1
  yd : y ≠ g2
  below : Below x w W
variable {w W : World} {x y g1 g2 D c1 c2 : Nat} {s : Tr}
theorem EndAt.setY (h : EndAt w W x y g1 g2 D c1 c2 s) (i : Nat) (v : Value) (s' : Tr) (hg : s'.gates = s.gates) (hd : s'.doors = s.doors)
    (hc : (#[.bool s.mv, .bool s.al, .int .i64 s.place, .slice (some ⟨g1, 0, none⟩) D c1, .slice (some ⟨g2, 0, none⟩) D c2] : Array Value).setIfInBounds i v = #[.bool s'.mv, .bool s'.al, .int .i64 s'.place, .slice (some ⟨g1, 0, none⟩) D c1, .slice (some ⟨g2, 0, none⟩) D c2]) :
    EndAt w (W.setCell ⟨y, i, none⟩ v) x y g1 g2 D c1 c2 s' := by
  have n1 : some g1 ≠ some y := fun he => h.yg (Option.some.inj he).symm
  have n2 : some g2 ≠ some y := fun he => h.yd (Option.some.inj he).symm
  have ye := h.ye
  refine ⟨?_, ?_, ⟨?_, ?_, h.own.ne⟩, h.ye, h.yg, h.yd, h.below.setCell (by simp only; omega) _⟩
  · rw [heapq_set, if_pos rfl, h.cp]
    simp only [Option.map_some, objSet_cells, hc]
  · rw [heapq_set, if_neg (by omega)]
    exact h.res
  · rw [hg]
    exact ownsRow_setCell_other h.own.og (a := ⟨y, i, none⟩) n1 v
  · rw [hd]
    exact ownsRow_setCell_other h.own.od (a := ⟨y, i, none⟩) n2 v
theorem EndAt.setMv (h : EndAt w W x y g1 g2 D c1 c2 s) (b : Bool) : EndAt w (W.setCell ⟨y, 0, none⟩ (.bool b)) x y g1 g2 D c1 c2 { s with mv := b } := h.setY 0 _ _ rfl rfl (by simp)
theorem EndAt.setAl (h : EndAt w W x y g1 g2 D c1 c2 s) (b : Bool) : EndAt w (W.setCell ⟨y, 1, none⟩ (.bool b)) x y g1 g2 D c1 c2 { s with al := b } := h.setY 1 _ _ rfl rfl (by simp)
theorem EndAt.setGate (h : EndAt w W x y g1 g2 D c1 c2 s) (d : Nat) (b : Bool) : EndAt w (W.setCell ⟨g1, d, none⟩ (.bool b)) x y g1 g2 D c1 c2 { s with gates := s.gates.set d b } := by
  have b1 : x + 4 ≤ g1 := (ownBlk h.own.og rfl).1
  have n2 : some g2 ≠ some g1 := fun he => h.own.ne (Option.some.inj he).symm
  have ho := (h.own.og.stored d (.bool b)).1
  refine ⟨?_, ?_, ⟨?_, ?_, h.own.ne⟩, h.ye, h.yg, h.yd, h.below.setCell (by simp only; omega) _⟩
  · rw [heapq_set, if_neg h.yg]
    exact h.cp
  · rw [heapq_set, if_neg (by omega)]
    exact h.res
  · simpa [List.map_set] using ho
  · exact ownsRow_setCell_other h.own.od (a := ⟨g1, d, none⟩) n2 _
theorem EndAt.setDoor (h : EndAt w W x y g1 g2 D c1 c2 s) (d : Nat) (b : Bool) : EndAt w (W.setCell ⟨g2, d, none⟩ (.bool b)) x y g1 g2 D c1 c2 { s with doors := s.doors.set d b } := by
  have b1 : x + 4 ≤ g2 := (ownBlk h.own.od rfl).1
  have n2 : some g1 ≠ some g2 := fun he => h.own.ne (Option.some.inj he)
  have ho := (h.own.od.stored d (.bool b)).1
  refine ⟨?_, ?_, ⟨?_, ?_, h.own.ne⟩, h.ye, h.yg, h.yd, h.below.setCell (by simp only; omega) _⟩
  · rw [heapq_set, if_neg h.yd]
    exact h.cp
  · rw [heapq_set, if_neg (by omega)]
    exact h.res
  · exact ownsRow_setCell_other h.own.og (a := ⟨g2, d, none⟩) n2 _
  · simpa [List.map_set] using ho
theorem EndAt.zero (h : EndAt w W x y g1 g2 D c1 c2 s) (a0 a1 a2 a3 a4 : Value) : Below x w (((((W.setCell ⟨x + 3, 0, none⟩ a0).setCell ⟨x + 3, 1, none⟩ a1).setCell ⟨x + 3, 2, none⟩ a2).setCell ⟨x + 3, 3, none⟩ a3).setCell ⟨x + 3, 4, none⟩ a4) :=
  ((((h.below.setCell (by simp) _).setCell (by simp) _).setCell (by simp) _).setCell (by simp) _).setCell (by simp) _
end Go.Proofs.YtlbgocgocanloaaGreatDoor

/- The reference's begin: a state of its own; and what reads a state in memory while another block is written. -/
namespace Go.Proofs.YtlbgocgocanloaaGreatDoor
open Go.RowKit
theorem OwnSt.far {w : World} {B g1 g2 ng nd c1 c2 : Nat} {s : Tr} (h : OwnSt w B g1 g2 ng nd c1 c2 s) {p : Addr} (h1 : p.block < B) (u : Value) : OwnSt (w.setCell p u) B g1 g2 ng nd c1 c2 s := by
  have b1 : B ≤ g1 := (ownBlk h.og rfl).1
  have b2 : B ≤ g2 := (ownBlk h.od rfl).1
  exact ⟨ownsRow_setCell_other h.og (fun he => by have := Option.some.inj (show some g1 = some p.block from he); omega) u, ownsRow_setCell_other h.od (fun he => by have := Option.some.inj (show some g2 = some p.block from he); omega) u, h.ne⟩
theorem OwnSt.below {w w' : World} {B g1 g2 ng nd c1 c2 : Nat} {s : Tr} (h : OwnSt w B g1 g2 ng nd c1 c2 s) (hb : Below w.heap.size w w') : OwnSt w' B g1 g2 ng nd c1 c2 s :=
  ⟨ownsRow_below h.og hb, ownsRow_below h.od hb, h.ne⟩
theorem OwnSt.more {w : World} {B B' g1 g2 ng nd c1 c2 : Nat} {s : Tr} (h : OwnSt w B g1 g2 ng nd c1 c2 s) (hb : B' ≤ B) : OwnSt w B' g1 g2 ng nd c1 c2 s :=
  ⟨ownsRow_more h.og hb, ownsRow_more h.od hb, h.ne⟩
end Go.Proofs.YtlbgocgocanloaaGreatDoor
