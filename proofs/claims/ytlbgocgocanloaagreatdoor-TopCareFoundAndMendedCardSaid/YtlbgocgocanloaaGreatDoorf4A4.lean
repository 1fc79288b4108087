/- What becomes of a train when a cell of it is written; set. -/
import Derived.Test.YtlbgocgocanloaaGreatDoorf4A3
namespace Go.Proofs.YtlbgocgocanloaaGreatDoor
open Go.RowKit
section
variable {w w' : World} {B g bg bd cg cd D : Nat} {T S : Int} {s : Tr}
theorem TrainAt.setG (h : TrainAt w B g bg bd cg cd D T S s) (i : Nat) (u : Value) (s' : Tr)
    (hc : (#[Value.bool s.mv, .bool s.al, .int .i64 s.place, .slice (some ⟨bg, 0, none⟩) D cg, .slice (some ⟨bd, 0, none⟩) D cd, .int .i64 D, .int .i64 T, .int .i64 S].setIfInBounds i u) =
      #[Value.bool s'.mv, .bool s'.al, .int .i64 s'.place, .slice (some ⟨bg, 0, none⟩) D cg, .slice (some ⟨bd, 0, none⟩) D cd, .int .i64 D, .int .i64 T, .int .i64 S])
    (hg : s'.gates = s.gates) (hd : s'.doors = s.doors) : TrainAt (w.setCell ⟨g, i, none⟩ u) B g bg bd cg cd D T S s' := by
  have n1 : bg ≠ g := fun e => by
    rcases h.gates.2 with ⟨h', _⟩ | ⟨g', cap', cur, h', _, hh, _⟩
    · simp at h'
    · simp only [Value.slice.injEq, Option.some.injEq, Addr.mk.injEq, and_true, true_and] at h'
      obtain ⟨rfl, rfl⟩ := h'
      subst e
      have := h.blk
      rw [hh] at this
      simp at this
  have n2 : bd ≠ g := fun e => by
    rcases h.doors.2 with ⟨h', _⟩ | ⟨g', cap', cur, h', _, hh, _⟩
    · simp at h'
    · simp only [Value.slice.injEq, Option.some.injEq, Addr.mk.injEq, and_true, true_and] at h'
      obtain ⟨rfl, rfl⟩ := h'
      subst e
      have := h.blk
      rw [hh] at this
      simp at this
  refine ⟨?_, ?_, ?_, h.ne, h.hB⟩
  · rw [heap_setCell_same w g i _ _ u h.blk, hc]
  · rw [hg]; exact ownsRow_setCell_other h.gates (by simp [Value.ownBlock, n1]) u
  · rw [hd]; exact ownsRow_setCell_other h.doors (by simp [Value.ownBlock, n2]) u
theorem TrainAt.setMv (h : TrainAt w B g bg bd cg cd D T S s) (v : Bool) : TrainAt (w.setCell ⟨g, 0, none⟩ (.bool v)) B g bg bd cg cd D T S { s with mv := v } :=
  h.setG 0 _ _ rfl rfl rfl
theorem TrainAt.setAl (h : TrainAt w B g bg bd cg cd D T S s) (v : Bool) : TrainAt (w.setCell ⟨g, 1, none⟩ (.bool v)) B g bg bd cg cd D T S { s with al := v } :=
  h.setG 1 _ _ rfl rfl rfl
theorem TrainAt.setPlace (h : TrainAt w B g bg bd cg cd D T S s) (v : Int) : TrainAt (w.setCell ⟨g, 2, none⟩ (.int .i64 v)) B g bg bd cg cd D T S { s with place := v } :=
  h.setG 2 _ _ rfl rfl rfl
theorem blk_ne_row {w : World} {base e t size n g k : Nat} {cs : Array Value} {cap : Nat} {xs : List Value} (h : w.ownsRow base e size (.slice (some ⟨k, 0, none⟩) n cap) n xs) (hg : w.heap[g]? = some (.cells cs t (0, 0))) (hne : e ≠ t) : g ≠ k := fun he => by
  rcases h.2 with ⟨h', _⟩ | ⟨g', cap', cur, h', _, hh, _⟩
  · simp at h'
  · simp only [Value.slice.injEq, Option.some.injEq, Addr.mk.injEq, and_true, true_and] at h'
    obtain ⟨rfl, rfl⟩ := h'
    subst he
    rw [hh] at hg
    simp at hg
    exact hne hg.2
theorem TrainAt.setGate (h : TrainAt w B g bg bd cg cd D T S s) (k : Nat) (v : Bool) : TrainAt (w.setCell ⟨bg, k, none⟩ (.bool v)) B g bg bd cg cd D T S { s with gates := s.gates.set k v } := by
  refine ⟨?_, ?_, ?_, h.ne, h.hB⟩
  · rw [heap_setCell_other w _ _ _ (show g ≠ bg from blk_ne_row h.gates h.blk (by decide))]; exact h.blk
  · have := (h.gates.stored k (.bool v)).1
    simpa [List.map_set] using this
  · exact ownsRow_setCell_other h.doors (by simp [Value.ownBlock, h.ne.symm]) _
theorem TrainAt.setDoor (h : TrainAt w B g bg bd cg cd D T S s) (k : Nat) (v : Bool) : TrainAt (w.setCell ⟨bd, k, none⟩ (.bool v)) B g bg bd cg cd D T S { s with doors := s.doors.set k v } := by
  refine ⟨?_, ?_, ?_, h.ne, h.hB⟩
  · rw [heap_setCell_other w _ _ _ (show g ≠ bd from blk_ne_row h.doors h.blk (by decide))]; exact h.blk
  · exact ownsRow_setCell_other h.gates (by simp [Value.ownBlock, h.ne]) _
  · have := (h.doors.stored k (.bool v)).1
    simpa [List.map_set] using this
theorem TrainAt.alloc (h : TrainAt w B g bg bd cg cd D T S s) (o : Obj) : TrainAt (w.alloc o) B g bg bd cg cd D T S s :=
  h.below ((Below.refl _ _).alloc (Nat.le_refl _) o)
end
theorem frozen_alloc_old {w : World} {p : Addr} {v : Value} (o : Obj) (hc : w.cell? p = some v) (hf : w.frozen? p = false) : (w.alloc o).frozen? p = false :=
  (World.frozen?_alloc_old w o p (Nat.ne_of_lt (lt_of_cell hc))).trans hf
theorem cell_alloc_old {w : World} {p : Addr} {v : Value} (o : Obj) (hc : w.cell? p = some v) : (w.alloc o).cell? p = some v :=
  kept ((Below.refl _ _).alloc (Nat.le_refl _) o) hc
/-- set: where there is no error the cell is written -/
def setW (w : World) (p : Addr) (to : Bool) (err : Int) : World := if err = 0 then w.setCell p (.bool to) else w
theorem set_any (b o g n : Nat) (to old : Bool) (l : List Int) (w : World) (hc : w.cell? ⟨b, o, none⟩ = some (.bool old)) (hf : w.frozen? ⟨b, o, none⟩ = false) (hn : n ≤ 1000) (hl : l.length = n)
    (h : ∀ k, k < n → w.cell? ⟨g, k, none⟩ = some (.int .i64 (l[k]?.getD 0))) :
    Calls Tryz.prog 239 #[.pointer (some ⟨b, o, none⟩), .bool to, .slice (some ⟨g, 0, none⟩) n n] w fun e w' => e = .returned (.int .i64 (firstE l)) ∧ setW w ⟨b, o, none⟩ to (firstE l) = w' := by
  have HL := Lib.hid hl; clear hl
  have C1 := first_any g n l w hn HL.out h
  clear h
  cases hz : (firstE l == 0)
  all_goals
    have HZ := Lib.hid hz
    go_enter Tryz.func239, Tryz.ntmps239
    go_wp2_with (go_at_call 61; refine C1.mono ?_; rintro e w' ⟨rfl, rfl⟩)
    go_ret
    exact ⟨rfl, by have := HZ.out; unfold setW; simp at this; simp [this]⟩
theorem set1 (w : World) (p q : Nat) (to old : Bool) (a : Int) (hc : w.cell? ⟨p, q, none⟩ = some (.bool old)) (hf : w.frozen? ⟨p, q, none⟩ = false) :
    Calls Tryz.prog 239 #[.pointer (some ⟨p, q, none⟩), .bool to, .slice (some ⟨w.heap.size, 0, none⟩) 1 1] (w.alloc (.cells #[.int .i64 a] 29)) fun e w' =>
      e = .returned (.int .i64 (firstE [a])) ∧ setW (w.alloc (.cells #[.int .i64 a] 29)) ⟨p, q, none⟩ to (firstE [a]) = w' :=
  set_any p q _ 1 to old [a] _ (cell_alloc_old _ hc) (frozen_alloc_old _ hc hf) (by decide) rfl (by
    intro k hk
    match k, hk with
    | 0, _ => simp)
theorem set2 (w : World) (p q : Nat) (to old : Bool) (a b : Int) (hc : w.cell? ⟨p, q, none⟩ = some (.bool old)) (hf : w.frozen? ⟨p, q, none⟩ = false) :
    Calls Tryz.prog 239 #[.pointer (some ⟨p, q, none⟩), .bool to, .slice (some ⟨w.heap.size, 0, none⟩) 2 2] (w.alloc (.cells #[.int .i64 a, .int .i64 b] 29)) fun e w' =>
      e = .returned (.int .i64 (firstE [a, b])) ∧ setW (w.alloc (.cells #[.int .i64 a, .int .i64 b] 29)) ⟨p, q, none⟩ to (firstE [a, b]) = w' :=
  set_any p q _ 2 to old [a, b] _ (cell_alloc_old _ hc) (frozen_alloc_old _ hc hf) (by decide) rfl (by
    intro k hk
    match k, hk with
    | 0, _ => simp
    | 1, _ => simp)
theorem set3 (w : World) (p q : Nat) (to old : Bool) (a b c : Int) (hc : w.cell? ⟨p, q, none⟩ = some (.bool old)) (hf : w.frozen? ⟨p, q, none⟩ = false) :
    Calls Tryz.prog 239 #[.pointer (some ⟨p, q, none⟩), .bool to, .slice (some ⟨w.heap.size, 0, none⟩) 3 3] (w.alloc (.cells #[.int .i64 a, .int .i64 b, .int .i64 c] 29)) fun e w' =>
      e = .returned (.int .i64 (firstE [a, b, c])) ∧ setW (w.alloc (.cells #[.int .i64 a, .int .i64 b, .int .i64 c] 29)) ⟨p, q, none⟩ to (firstE [a, b, c]) = w' :=
  set_any p q _ 3 to old [a, b, c] _ (cell_alloc_old _ hc) (frozen_alloc_old _ hc hf) (by decide) rfl (by
    intro k hk
    match k, hk with
    | 0, _ => simp
    | 1, _ => simp
    | 2, _ => simp)
theorem set4 (w : World) (p q : Nat) (to old : Bool) (a b c d : Int) (hc : w.cell? ⟨p, q, none⟩ = some (.bool old)) (hf : w.frozen? ⟨p, q, none⟩ = false) :
    Calls Tryz.prog 239 #[.pointer (some ⟨p, q, none⟩), .bool to, .slice (some ⟨w.heap.size, 0, none⟩) 4 4] (w.alloc (.cells #[.int .i64 a, .int .i64 b, .int .i64 c, .int .i64 d] 29)) fun e w' =>
      e = .returned (.int .i64 (firstE [a, b, c, d])) ∧ setW (w.alloc (.cells #[.int .i64 a, .int .i64 b, .int .i64 c, .int .i64 d] 29)) ⟨p, q, none⟩ to (firstE [a, b, c, d]) = w' :=
  set_any p q _ 4 to old [a, b, c, d] _ (cell_alloc_old _ hc) (frozen_alloc_old _ hc hf) (by decide) rfl (by
    intro k hk
    match k, hk with
    | 0, _ => simp
    | 1, _ => simp
    | 2, _ => simp
    | 3, _ => simp)
end Go.Proofs.YtlbgocgocanloaaGreatDoor
