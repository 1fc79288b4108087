/- The examples: what they come to. -/
import Derived.Test.YtlbgocgocanloaaGreatDoorf5W5
import Derived.Test.YtlbgocgocanloaaGreatDoorf4D4
import Derived.Test.YtlbgocgocanloaaGreatDoorf4X1
import Derived.Test.YtlbgocgocanloaaGreatDoorf5Z1
import Derived.Test.YtlbgocgocanloaaGreatDoorf5P2
namespace Go.Proofs.YtlbgocgocanloaaGreatDoor
open Go.RowKit
theorem Doors_any (w : World) : Calls Tryz.prog 38 #[] w fun e w' => e = .returned (.agg #[.int .i64 2, .int .i64 5000, .int .i64 100]) ∧ Below w.heap.size w w' := by
  go_enter Tryz.func38, Tryz.ntmps38
  go_wp2
  refine bodyPost_ret (v := .agg #[.int .i64 2, .int .i64 5000, .int .i64 100]) (by simp [results, Tryz.results38, go_sem]) rfl ⟨rfl, (Below.refl _ _).alloc (Nat.le_refl _) _⟩
def RoomsAt (w : World) (e : Ending) (w' : World) : Prop :=
  ∃ g1 g2, e = .returned (.agg #[.slice (some ⟨g1, 0, none⟩) 2 2, .slice (some ⟨g2, 0, none⟩) 2 2]) ∧ Rd w' w'.heap.size (some ⟨g1, 0, none⟩) (intCells exP) ∧ Rd w' w'.heap.size (some ⟨g2, 0, none⟩) (evCells exW) ∧ Below w.heap.size w w'
theorem Rd_of_block {w : World} {g : Nat} {cs : Array Value} {t : TypeId} {fr : Nat × Nat} (h : w.heap[g]? = some (.cells cs t fr)) : Rd w w.heap.size (some ⟨g, 0, none⟩) cs.toList := fun k u hk => by
  refine ⟨g, 0, rfl, lt_of_block h, ?_⟩
  rw [cell_of_row w g (0 + k) _ _ _ h, Nat.zero_add]
  simpa using hk
theorem Rooms_any (w : World) : Calls Tryz.prog 39 #[] w (RoomsAt w) := by
  go_enter Tryz.func39, Tryz.ntmps39
  go_wp2
  have k1 : (((w.alloc (Obj.cells #[Value.slice (some { block := w.heap.size + 1, off := 0 }) 2 2, Value.slice (some { block := w.heap.size + 1 + 1, off := 0 }) 2 2] 65)).alloc (Obj.cells #[Value.int IntKind.i64 10, Value.int IntKind.i64 5] 3)).alloc (Obj.cells #[Value.int IntKind.i64 0, Value.int IntKind.i64 1, Value.int IntKind.i64 4, Value.int IntKind.i64 1, Value.int IntKind.i64 (-1), Value.int IntKind.i64 3] 146)).heap[w.heap.size + 1]? = some (.cells #[Value.int IntKind.i64 10, Value.int IntKind.i64 5] 3 (0, 0)) := by
    rw [heapq_alloc, if_neg (by simp), heapq_alloc, if_pos (by simp)]
  have k2 : (((w.alloc (Obj.cells #[Value.slice (some { block := w.heap.size + 1, off := 0 }) 2 2, Value.slice (some { block := w.heap.size + 1 + 1, off := 0 }) 2 2] 65)).alloc (Obj.cells #[Value.int IntKind.i64 10, Value.int IntKind.i64 5] 3)).alloc (Obj.cells #[Value.int IntKind.i64 0, Value.int IntKind.i64 1, Value.int IntKind.i64 4, Value.int IntKind.i64 1, Value.int IntKind.i64 (-1), Value.int IntKind.i64 3] 146)).heap[w.heap.size + 1 + 1]? = some (.cells #[Value.int IntKind.i64 0, Value.int IntKind.i64 1, Value.int IntKind.i64 4, Value.int IntKind.i64 1, Value.int IntKind.i64 (-1), Value.int IntKind.i64 3] 146 (0, 0)) := by
    rw [heapq_alloc, if_pos (by simp)]
  have hb : Below w.heap.size w (((w.alloc (Obj.cells #[Value.slice (some { block := w.heap.size + 1, off := 0 }) 2 2, Value.slice (some { block := w.heap.size + 1 + 1, off := 0 }) 2 2] 65)).alloc (Obj.cells #[Value.int IntKind.i64 10, Value.int IntKind.i64 5] 3)).alloc (Obj.cells #[Value.int IntKind.i64 0, Value.int IntKind.i64 1, Value.int IntKind.i64 4, Value.int IntKind.i64 1, Value.int IntKind.i64 (-1), Value.int IntKind.i64 3] 146)) := (((Below.refl _ _).alloc (Nat.le_refl _) _).alloc (by simp) _).alloc (by simp; omega) _
  refine bodyPost_ret (v := .agg #[.slice (some ⟨w.heap.size + 1, 0, none⟩) 2 2, .slice (some ⟨w.heap.size + 1 + 1, 0, none⟩) 2 2]) (by simp [results, Tryz.results39, go_sem]) rfl ⟨_, _, rfl, Rd_of_block k1, Rd_of_block k2, hb⟩
def AwakePost (w : World) (e : Ending) (w' : World) : Prop := e = .returned (.bool true) ∧ Below w.heap.size w w'
theorem TrainAt.st {w : World} {B g bg bd cg cd D : Nat} {T S : Int} {s : Tr} (h : TrainAt w B g bg bd cg cd D T S s) (hD : D ≤ 1000000000) : StAt w w.heap.size (some ⟨bg, 0, none⟩) (some ⟨bd, 0, none⟩) D D s :=
  ⟨h.lenG, h.lenD, h.rdG, h.rdD, hD, hD⟩
def exS : Tr := ⟨false, false, 5000, [true, false], [true, false]⟩
theorem exRun : runTr 2 5000 100 ⟨false, false, 5000, List.replicate 2 false, List.replicate 2 false⟩ [(2, 0, 0), (4, 0, 0)] 0 = .inr exS := by rfl
end Go.Proofs.YtlbgocgocanloaaGreatDoor

/- The reference: a state copied. -/
namespace Go.Proofs.YtlbgocgocanloaaGreatDoor
open Go.RowKit
/-- a state in memory of its own from block B on -/
structure OwnSt (w : World) (B g1 g2 ng nd c1 c2 : Nat) (s : Tr) : Prop where
  og : w.ownsRow B 4 1 (.slice (some ⟨g1, 0, none⟩) ng c1) ng (s.gates.map .bool)
  od : w.ownsRow B 4 1 (.slice (some ⟨g2, 0, none⟩) nd c2) nd (s.doors.map .bool)
  ne : g1 ≠ g2
theorem OwnSt.at_ {w : World} {B g1 g2 ng nd c1 c2 : Nat} {s : Tr} (h : OwnSt w B g1 g2 ng nd c1 c2 s) (h1 : ng ≤ 1000000000) (h2 : nd ≤ 1000000000) : StAt w w.heap.size (some ⟨g1, 0, none⟩) (some ⟨g2, 0, none⟩) ng nd s :=
  ⟨by simpa using h.og.1, by simpa using h.od.1, Rd_of_own h.og, Rd_of_own h.od, h1, h2⟩
end Go.Proofs.YtlbgocgocanloaaGreatDoor

/- The reference's CheckRooms. -/
namespace Go.Proofs.YtlbgocgocanloaaGreatDoor
open Go.RowKit
theorem idxGo_cons {α : Type} (p : α → Bool) (a : α) (l : List α) (k : Nat) : idxGo p (a :: l) k = if p a then (k : Int) else idxGo p l (k + 1) := rfl
end Go.Proofs.YtlbgocgocanloaaGreatDoor

/- Suspects; which beams explain a record. -/
namespace Go.Proofs.YtlbgocgocanloaaGreatDoor
open Go.RowKit
/-- a good reading over a beam -/
def goodB (b : Int) (x : Rg) : Bool := !x.2.2 && withinB b x.1 x.2.1
/-- a wrong reading over none of some beams -/
def missB (bs : List Int) (x : Rg) : Bool := x.2.2 && !bs.any fun n => withinB n x.1 x.2.1
theorem good_any (x : Rg) (b : Int) (g : Nat) (w : World) (hc : w.cell? ⟨g, 0, none⟩ = some (.int .i64 b)) :
    Calls Tryz.prog 114 #[.agg #[.int .i64 x.1, .int .i64 x.2.1, .bool x.2.2], .pointer (some ⟨g, 0, none⟩)] w fun e w' => e = .returned (.bool (goodB b x)) ∧ Below w.heap.size w w' := by
  obtain ⟨f, t, r⟩ := x
  have hb0 : Below w.heap.size w (w.alloc (.cells #[.int .i64 f, .int .i64 t, .bool r] 148)) := (Below.refl _ _).alloc (Nat.le_refl _) _
  have hc' := cell_alloc_old (.cells #[.int .i64 f, .int .i64 t, .bool r] 148) hc
  simp only
  cases r
  · obtain ⟨c, h1⟩ : ∃ c, withinB b f t = c := ⟨_, rfl⟩
    have HV : Hid (goodB b (f, t, false) = c) := by rw [Hid, ← h1]; rfl
    go_enter Tryz.func114, Tryz.ntmps114
    go_wp2_with (go_at_call 41; refine (within_val _ _ _ _ h1 _).mono ?_; rintro e w' ⟨rfl, rfl⟩)
    go_ret
    exact ⟨by rw [HV.out]; rfl, hb0⟩
  · have HV : Hid (goodB b (f, t, true) = false) := rfl
    go_enter Tryz.func114, Tryz.ntmps114
    go_wp2
    go_ret
    exact ⟨by rw [HV.out]; rfl, hb0⟩
theorem IndexFunc_154 (A : Option Addr) (n c B g : Nat) (l : List Rg) (b0 : Int) (w : World) (hn : n ≤ 1000000000) (hl : l.length = n) (h : Rd w B A (rgCells l)) (hB : B ≤ w.heap.size) (hc : w.cell? ⟨g, 0, none⟩ = some (.int .i64 b0)) :
    Calls Tryz.prog 143 #[.slice A n c, .func (.func 114) #[] #[.pointer (some ⟨g, 0, none⟩)]] w fun e w' => e = .returned (.int .i64 (idxGo (goodB b0) l 0)) ∧ Below w.heap.size w w' := by
  have HL := Lib.hid hl; clear hl
  go_enter Tryz.func143, Tryz.ntmps143
  go_wp2
  go_loopw [5, 8] (fun _ i wr => ∃ k : Nat, k ≤ n ∧ i = .int .i64 k ∧ idxGo (goodB b0) (l.drop k) k = idxGo (goodB b0) l 0 ∧ Below w.heap.size w wr) (fun _ i _ => n - (intOf i).toNat)
  case atStart => exact ⟨0, Nat.zero_le _, rfl, rfl, Below.refl _ _⟩
  case round =>
    obtain ⟨k, hk, rfl, he, hb⟩ := hrel
    have HE := Lib.hid he; clear he
    by_cases hlt : k < n
    · have hkl : k < l.length := by rw [HL.out]; exact hlt
      obtain ⟨ev, hev⟩ : ∃ ev, l[k]? = some ev := ⟨_, List.getElem?_eq_getElem hkl⟩
      obtain ⟨z0, z1, z2⟩ := rgCells_at l k ev hev
      obtain ⟨b, off, rfl, _, e0, e1, e2⟩ := (h.below (hb.mono hB)).at3 z0 z1 z2
      have HS := Lib.hid (drop_cons' hev)
      have C := good_any ev b0 g wr (kept hb hc)
      obtain ⟨f, td, wr_⟩ := ev
      simp only at e0 e1 e2
      have HB := Lib.hid hb
      have hsz := hb.size
      clear hkl z0 z1 z2 hev hb
      cases hz : (goodB b0) (f, td, wr_)
      · rw [hz] at C
        have HZ := Lib.hid hz
        clear hz
        go_wp2_with (go_at_call 114; refine C.mono ?_; rintro e w1 ⟨rfl, hb1⟩)
        go_roundw
        case rel => exact ⟨k + 1, by omega, by go_num, by rw [← HE.out, HS.out, idxGo_cons, HZ.out]; rfl, HB.out.trans (hb1.mono hsz)⟩
        case measure => simp [intOf]; omega
      · rw [hz] at C
        have HZ := Lib.hid hz
        clear hz
        go_wp2_with (go_at_call 114; refine C.mono ?_; rintro e w1 ⟨rfl, hb1⟩)
        go_ret
        exact ⟨by rw [← HE.out, HS.out, idxGo_cons, HZ.out]; rfl, HB.out.trans (hb1.mono hsz)⟩
    · go_wp2
      go_ret
      have : l.drop k = [] := by rw [List.drop_eq_nil_iff]; rw [HL.out]; omega
      exact ⟨by rw [← HE.out, this]; rfl, hb⟩
theorem ContainsFunc_154 (A : Option Addr) (n c B g : Nat) (l : List Rg) (b0 : Int) (w : World) (hn : n ≤ 1000000000) (hl : l.length = n) (h : Rd w B A (rgCells l)) (hB : B ≤ w.heap.size) (hc : w.cell? ⟨g, 0, none⟩ = some (.int .i64 b0)) :
    Calls Tryz.prog 113 #[.slice A n c, .func (.func 114) #[] #[.pointer (some ⟨g, 0, none⟩)]] w fun e w' => e = .returned (.bool (l.any (goodB b0))) ∧ Below w.heap.size w w' := by
  have C := IndexFunc_154 A n c B g l b0 w hn hl h hB hc
  clear h
  go_enter Tryz.func113, Tryz.ntmps113
  go_wp2_with (go_at_call 143; refine C.mono ?_; rintro e w1 ⟨rfl, hb1⟩)
  go_ret
  exact ⟨by rw [← idxGo_nonneg _ l 0]; rfl, hb1⟩
end Go.Proofs.YtlbgocgocanloaaGreatDoor
