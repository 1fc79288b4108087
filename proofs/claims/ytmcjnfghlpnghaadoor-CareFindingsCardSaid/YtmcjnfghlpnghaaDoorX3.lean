/- The reference: an event applied, kind by kind. -/
import Derived.Test.YtmcjnfghlpnghaaDoorX2
import Derived.Test.YtmcjnfghlpnghaaDoorF1
namespace Go.Proofs.YtmcjnfghlpnghaaDoor
open Go.RowKit

theorem InPlace_val (D T S p : Int) (b : Bool) (hb : inPlaceB T S p = b) (w : World) (hp : 0 ≤ p ∧ p ≤ 1000000000) (hT : 0 ≤ T ∧ T ≤ 1000000000) :
    Calls Tryd.prog 59 #[.agg #[.int .i64 D, .int .i64 T, .int .i64 S], .int .i64 p] w fun e w' => e = .returned (.bool b) ∧ Below w.heap.size w w' := by
  rw [← hb]
  exact InPlace_any D T S p w hp hT
theorem anyOpen_val (A : Option Addr) (n c B : Nat) (l : List Bool) (b : Bool) (hb : hasB l true = b) (w : World) (hn : n ≤ 1000000000) (hl : l.length = n) (h : Rd w B A (l.map .bool)) :
    Calls Tryd.prog 106 #[.slice A n c] w fun e w' => e = .returned (.bool b) ∧ w = w' := by
  rw [← hb]
  exact anyOpen_any A n c B l w hn hl h

/-- a state in memory from block x on -/
def StOwn (x : Nat) (w' : World) (s : Tr) (D : Nat) (v : Value) : Prop := ∃ g1 g2 c1 c2, v = stV s (some ⟨g1, 0, none⟩) (some ⟨g2, 0, none⟩) D D c1 c2 ∧ OwnSt w' x g1 g2 D D c1 c2 s

/-- what ref.Apply leaves: a state of its own, or an error -/
def RApplyPost (w : World) (D : Nat) (s' : Tr) (c : Int) (e : Ending) (w' : World) : Prop :=
  (∃ v, e = .returned (.tuple #[v, .int .i64 c]) ∧ if c = 0 then StOwn w.heap.size w' s' D v else v = zeroSt) ∧ Below w.heap.size w w'

/-- the world behind the copy -/
structure ApAt (w W : World) (x y g1 g2 D c1 c2 : Nat) (T S : Int) (Ag Ad : Option Addr) (cg cd : Nat) (s : Tr) (k pl dr : Int) : Prop where
  r : W.heap[x]? = some (.cells #[.int .i64 D, .int .i64 T, .int .i64 S] 23 (0, 0))
  st : W.heap[x + 1]? = some (.cells #[.bool s.mv, .bool s.al, .int .i64 s.place, .slice Ag D cg, .slice Ad D cd] 28 (0, 0))
  ev : W.heap[x + 2]? = some (.cells #[.int .i64 k, .int .i64 pl, .int .i64 dr] 66 (0, 0))
  res : W.heap[x + 3]? = some (.cells #[.bool false, .bool false, .int .i64 0, .slice none 0 0, .slice none 0 0] 28 (0, 0))
  cp : W.heap[y]? = some (.cells #[.bool s.mv, .bool s.al, .int .i64 s.place, .slice (some ⟨g1, 0, none⟩) D c1, .slice (some ⟨g2, 0, none⟩) D c2] 28 (0, 0))
  own : OwnSt W (x + 4) g1 g2 D D c1 c2 s
  at_ : StAt W x Ag Ad D D s
  ye : x + 4 ≤ y
  yg : y ≠ g1
  yd : y ≠ g2
  hx : w.heap.size = x
  below : Below x w W

theorem ApAt.end_ok {w W' : World} {x y g1 g2 D c1 c2 : Nat} {s' : Tr} (_hD : D ≤ 1000000000) (hb : Below x w W')
    (_hy : W'.heap[y]? = some (.cells #[.bool s'.mv, .bool s'.al, .int .i64 s'.place, .slice (some ⟨g1, 0, none⟩) D c1, .slice (some ⟨g2, 0, none⟩) D c2] 28 (0, 0))) (_hr : W'.heap[x + 3]? = some (.cells #[.bool false, .bool false, .int .i64 0, .slice none 0 0, .slice none 0 0] 28 (0, 0)))
    (ho : OwnSt W' (x + 4) g1 g2 D D c1 c2 s') :
    Below x w (((((W'.setCell ⟨x + 3, 0, none⟩ (.bool s'.mv)).setCell ⟨x + 3, 1, none⟩ (.bool s'.al)).setCell ⟨x + 3, 2, none⟩ (.int .i64 s'.place)).setCell ⟨x + 3, 3, none⟩ (.slice (some ⟨g1, 0, none⟩) D c1)).setCell ⟨x + 3, 4, none⟩ (.slice (some ⟨g2, 0, none⟩) D c2)) ∧
    StOwn x (((((W'.setCell ⟨x + 3, 0, none⟩ (.bool s'.mv)).setCell ⟨x + 3, 1, none⟩ (.bool s'.al)).setCell ⟨x + 3, 2, none⟩ (.int .i64 s'.place)).setCell ⟨x + 3, 3, none⟩ (.slice (some ⟨g1, 0, none⟩) D c1)).setCell ⟨x + 3, 4, none⟩ (.slice (some ⟨g2, 0, none⟩) D c2)) s' D (stV s' (some ⟨g1, 0, none⟩) (some ⟨g2, 0, none⟩) D D c1 c2) := by
  have bG : x + 4 ≤ g1 := (ownBlk ho.og rfl).1
  have bD : x + 4 ≤ g2 := (ownBlk ho.od rfl).1
  have n1 : some g1 ≠ some (x + 3) := fun he => by have := Option.some.inj he; omega
  have n2 : some g2 ≠ some (x + 3) := fun he => by have := Option.some.inj he; omega
  refine ⟨((((hb.setCell (by simp) _).setCell (by simp) _).setCell (by simp) _).setCell (by simp) _).setCell (by simp) _, _, _, _, _, rfl, ?_⟩
  have o1 := ownsRow_setCell_other (ownsRow_setCell_other (ownsRow_setCell_other (ownsRow_setCell_other (ownsRow_setCell_other ho.og (a := ⟨x + 3, 0, none⟩) n1 (.bool s'.mv)) (a := ⟨x + 3, 1, none⟩) n1 (.bool s'.al)) (a := ⟨x + 3, 2, none⟩) n1 (.int .i64 s'.place)) (a := ⟨x + 3, 3, none⟩) n1 (.slice (some ⟨g1, 0, none⟩) D c1)) (a := ⟨x + 3, 4, none⟩) n1 (.slice (some ⟨g2, 0, none⟩) D c2)
  have o2 := ownsRow_setCell_other (ownsRow_setCell_other (ownsRow_setCell_other (ownsRow_setCell_other (ownsRow_setCell_other ho.od (a := ⟨x + 3, 0, none⟩) n2 (.bool s'.mv)) (a := ⟨x + 3, 1, none⟩) n2 (.bool s'.al)) (a := ⟨x + 3, 2, none⟩) n2 (.int .i64 s'.place)) (a := ⟨x + 3, 3, none⟩) n2 (.slice (some ⟨g1, 0, none⟩) D c1)) (a := ⟨x + 3, 4, none⟩) n2 (.slice (some ⟨g2, 0, none⟩) D c2)
  exact ⟨ownsRow_more o1 (by omega), ownsRow_more o2 (by omega), ho.ne⟩

set_option maxHeartbeats 4000000 in
/-- up to the switch -/
theorem apply_start (w : World) (B : Nat) (D : Nat) (T S : Int) (Ag Ad : Option Addr) (cg cd : Nat) (s : Tr) (k pl dr : Int) (h : StAt w B Ag Ad D D s) (hB : B ≤ w.heap.size) (hD : D ≤ 1000000) :
    ∀ (W0 : World), W0 = ((((w.alloc (.cells #[.int .i64 D, .int .i64 T, .int .i64 S] 23)).alloc (.cells #[.bool s.mv, .bool s.al, .int .i64 s.place, .slice Ag D cg, .slice Ad D cd] 28)).alloc (.cells #[.int .i64 k, .int .i64 pl, .int .i64 dr] 66)).alloc (.cells #[.bool false, .bool false, .int .i64 0, .slice none 0 0, .slice none 0 0] 28)) →
    Calls Tryd.prog 42 #[stV s Ag Ad D D cg cd] W0 fun e W1 => ∃ g1 g2 c1 c2, e = .returned (stV s (some ⟨g1, 0, none⟩) (some ⟨g2, 0, none⟩) D D c1 c2) ∧
      ApAt w (W1.alloc (.cells #[.bool s.mv, .bool s.al, .int .i64 s.place, .slice (some ⟨g1, 0, none⟩) D c1, .slice (some ⟨g2, 0, none⟩) D c2] 28)) w.heap.size W1.heap.size g1 g2 D c1 c2 T S Ag Ad cg cd s k pl dr := by
  rintro W0 hW
  have hb0 : Below w.heap.size w W0 := by
    rw [hW]
    exact ((((Below.refl _ _).alloc (Nat.le_refl _) _).alloc (by simp) _).alloc (by simp; omega) _).alloc (by simp; omega) _
  have k0 : W0.heap[w.heap.size]? = some (.cells #[.int .i64 D, .int .i64 T, .int .i64 S] 23 (0, 0)) := by
    rw [hW, heapq_alloc, if_neg (by first | (simp; done) | (simp; omega)), heapq_alloc, if_neg (by first | (simp; done) | (simp; omega)), heapq_alloc, if_neg (by first | (simp; done) | (simp; omega)), heapq_alloc, if_pos rfl]
  have k1 : W0.heap[w.heap.size + 1]? = some (.cells #[.bool s.mv, .bool s.al, .int .i64 s.place, .slice Ag D cg, .slice Ad D cd] 28 (0, 0)) := by
    rw [hW, heapq_alloc, if_neg (by first | (simp; done) | (simp; omega)), heapq_alloc, if_neg (by first | (simp; done) | (simp; omega)), heapq_alloc, if_pos (by simp)]
  have k2 : W0.heap[w.heap.size + 2]? = some (.cells #[.int .i64 k, .int .i64 pl, .int .i64 dr] 66 (0, 0)) := by
    rw [hW, heapq_alloc, if_neg (by first | (simp; done) | (simp; omega)), heapq_alloc, if_pos (by simp)]
  have k3 : W0.heap[w.heap.size + 3]? = some (.cells #[.bool false, .bool false, .int .i64 0, .slice none 0 0, .slice none 0 0] 28 (0, 0)) := by
    rw [hW, heapq_alloc, if_pos (by simp)]
  have hsz : W0.heap.size = w.heap.size + 4 := by rw [hW]; simp
  clear hW
  have hst := h.below (hb0.mono hB)
  refine (Copy_any W0 B Ag Ad D D cg cd s hst (by omega) hD hD).mono ?_
  rintro e W1 ⟨g1, g2, c1, c2, rfl, ho, hb⟩
  refine ⟨g1, g2, c1, c2, rfl, ?_⟩
  have hbA : Below W0.heap.size W0 (W1.alloc (.cells #[.bool s.mv, .bool s.al, .int .i64 s.place, .slice (some ⟨g1, 0, none⟩) D c1, .slice (some ⟨g2, 0, none⟩) D c2] 28)) := hb.alloc hb.size _
  have l1 := (ownBlk ho.og rfl).2.1
  have l2 := (ownBlk ho.od rfl).2.1
  have hsz1 := hb.size
  have e1 : W1.heap.size ≠ g1 := Nat.ne_of_gt l1
  have e2 : W1.heap.size ≠ g2 := Nat.ne_of_gt l2
  have e3 : w.heap.size + 4 ≤ W1.heap.size := by omega
  rw [hsz] at ho
  exact ⟨(hbA.block _ (by omega)).trans k0, (hbA.block _ (by omega)).trans k1, (hbA.block _ (by omega)).trans k2, (hbA.block _ (by omega)).trans k3, by rw [heapq_alloc, if_pos rfl], ⟨ho.og.alloc _, ho.od.alloc _, ho.ne⟩, (h.mono hB).below (hb0.trans (hbA.mono (by omega))), e3, e1, e2, rfl, hb0.trans (hbA.mono (by omega))⟩
end Go.Proofs.YtmcjnfghlpnghaaDoor
