/- The train of package care: how it lies in memory; isOpen, inPlace, bare. -/
import Derived.Test.YtlbgocgocanloaaGreatDoorf4A2
import Derived.Test.YtlbgocgocanloaaGreatDoorf4R1
namespace Go.Proofs.YtlbgocgocanloaaGreatDoor
open Go.RowKit
/-- A train's state. -/
structure Tr where
  mv : Bool
  al : Bool
  place : Int
  gates : List Bool
  doors : List Bool
/-- The train s lies in block g, its gates in block bg, its doors in block bd; B: from this block on the memory is the call's own. -/
structure TrainAt (w : World) (B g bg bd cg cd D : Nat) (T S : Int) (s : Tr) : Prop where
  blk : w.heap[g]? = some (.cells #[.bool s.mv, .bool s.al, .int .i64 s.place, .slice (some ⟨bg, 0, none⟩) D cg, .slice (some ⟨bd, 0, none⟩) D cd, .int .i64 D, .int .i64 T, .int .i64 S] 129 (0, 0))
  gates : w.ownsRow B 4 1 (.slice (some ⟨bg, 0, none⟩) D cg) D (s.gates.map .bool)
  doors : w.ownsRow B 4 1 (.slice (some ⟨bd, 0, none⟩) D cd) D (s.doors.map .bool)
  ne : bg ≠ bd
  hB : B ≤ g
section
variable {w w' : World} {B g bg bd cg cd D : Nat} {T S : Int} {s : Tr}
theorem TrainAt.lenG (h : TrainAt w B g bg bd cg cd D T S s) : s.gates.length = D := by simpa using h.gates.1
theorem TrainAt.lenD (h : TrainAt w B g bg bd cg cd D T S s) : s.doors.length = D := by simpa using h.doors.1
theorem TrainAt.cell (h : TrainAt w B g bg bd cg cd D T S s) (i : Nat) : w.cell? ⟨g, i, none⟩ =
    #[Value.bool s.mv, .bool s.al, .int .i64 s.place, .slice (some ⟨bg, 0, none⟩) D cg, .slice (some ⟨bd, 0, none⟩) D cd, .int .i64 D, .int .i64 T, .int .i64 S][i]? :=
  cell_of_row w g i _ _ _ h.blk
theorem TrainAt.frozen (h : TrainAt w B g bg bd cg cd D T S s) (i : Nat) : w.frozen? ⟨g, i, none⟩ = false := frozen_of_row w g i _ _ h.blk
theorem TrainAt.gateCell (h : TrainAt w B g bg bd cg cd D T S s) {k : Nat} (hk : k < D) : w.cell? ⟨bg, k, none⟩ = some (.bool (s.gates[k]?.getD false)) := by
  have hl := h.lenG
  rw [h.gates.cellAt k (by omega)]
  simp [hl, hk]
theorem TrainAt.doorCell (h : TrainAt w B g bg bd cg cd D T S s) {k : Nat} (hk : k < D) : w.cell? ⟨bd, k, none⟩ = some (.bool (s.doors[k]?.getD false)) := by
  have hl := h.lenD
  rw [h.doors.cellAt k (by omega)]
  simp [hl, hk]
theorem TrainAt.rdG (h : TrainAt w B g bg bd cg cd D T S s) : Rd w w.heap.size (some ⟨bg, 0, none⟩) (s.gates.map .bool) := fun k u hu => by
  have hl := h.gates.1
  have hk : k < D := by
    have := (List.getElem?_eq_some_iff.1 hu).1
    omega
  have hc := h.gates.cellAt k (by omega)
  rw [hu] at hc
  exact ⟨bg, 0, rfl, lt_of_cell hc, by simpa using hc⟩
theorem TrainAt.rdD (h : TrainAt w B g bg bd cg cd D T S s) : Rd w w.heap.size (some ⟨bd, 0, none⟩) (s.doors.map .bool) := fun k u hu => by
  have hl := h.doors.1
  have hk : k < D := by
    have := (List.getElem?_eq_some_iff.1 hu).1
    omega
  have hc := h.doors.cellAt k (by omega)
  rw [hu] at hc
  exact ⟨bd, 0, rfl, lt_of_cell hc, by simpa using hc⟩
theorem TrainAt.gLt (h : TrainAt w B g bg bd cg cd D T S s) : g < w.heap.size := (Array.getElem?_eq_some_iff.1 h.blk).1
theorem TrainAt.bgLt (h : TrainAt w B g bg bd cg cd D T S s) : B ≤ bg ∧ bg < w.heap.size := h.gates.lt bg rfl
theorem TrainAt.bdLt (h : TrainAt w B g bg bd cg cd D T S s) : B ≤ bd ∧ bd < w.heap.size := h.doors.lt bd rfl
theorem ownsRow_below {base e size n : Nat} {v : Value} {xs : List Value} (h : w.ownsRow base e size v n xs) (hb : Below w.heap.size w w') : w'.ownsRow base e size v n xs := by
  refine ⟨h.1, ?_⟩
  rcases h.2 with h2 | ⟨g, cap, cur, hv, hg, hh, r⟩
  · exact .inl h2
  · exact .inr ⟨g, cap, cur, hv, hg, (hb.block g (Array.getElem?_eq_some_iff.1 hh).1).trans hh, r⟩
theorem TrainAt.below (h : TrainAt w B g bg bd cg cd D T S s) (hb : Below w.heap.size w w') : TrainAt w' B g bg bd cg cd D T S s :=
  ⟨(hb.block g h.gLt).trans h.blk, ownsRow_below h.gates hb, ownsRow_below h.doors hb, h.ne, h.hB⟩
end
def isOpenB (s : Tr) : Bool := hasB s.gates true || hasB s.doors true
theorem isOpen_any {B g bg bd cg cd D : Nat} {T S : Int} {s : Tr} (w : World) (hD : D ≤ 1000000000) (h : TrainAt w B g bg bd cg cd D T S s) :
    Calls Tryz.prog 101 #[.pointer (some ⟨g, 0, none⟩)] w fun e w' => e = .returned (.bool (isOpenB s)) ∧ w = w' := by
  have c3 := h.cell 3
  have c4 := h.cell 4
  simp at c3 c4
  cases ho : hasB s.gates true
  all_goals
    go_enter Tryz.func101, Tryz.ntmps101
    go_wp2_with fail
    go_at_call 103
    refine (ContainsBools_any _ _ _ _ s.gates true _ hD h.lenG h.rdG).mono ?_
    rintro e w' ⟨rfl, rfl⟩
    go_wp2_with (go_at_call 103; refine (ContainsBools_any _ _ _ _ s.doors true _ hD h.lenD h.rdD).mono ?_; rintro e w' ⟨rfl, rfl⟩)
    go_ret
    exact ⟨by simp [isOpenB, ho], rfl⟩
def sizeI (n : Int) : Int := max n (-n)
def inPlaceB (T S place : Int) : Bool := decide (sizeI (place - T) ≤ S)
theorem inPlace_any {B g bg bd cg cd D : Nat} {T S : Int} {s : Tr} (w : World) (h : TrainAt w B g bg bd cg cd D T S s)
    (hp : 0 ≤ s.place ∧ s.place ≤ 1000000000) (hT : 0 ≤ T ∧ T ≤ 1000000000) :
    Calls Tryz.prog 102 #[.pointer (some ⟨g, 0, none⟩)] w fun e w' => e = .returned (.bool (inPlaceB T S s.place)) ∧ Below w.heap.size w w' := by
  obtain ⟨hp1, hp2⟩ := hp
  obtain ⟨hT1, hT2⟩ := hT
  have c2 := h.cell 2
  have c6 := h.cell 6
  have c7 := h.cell 7
  simp at c2 c6 c7
  have x2 := fun x : Xt w => x.cell c2
  have x6 := fun x : Xt w => x.cell c6
  go_enter Tryz.func102, Tryz.ntmps102
  go_wp2
  refine wp_region_xt (by kernel_rfl) (by kernel_rfl) ?_
  repeat (go_big_quiet_step (fail))
  refine wpQuiet_nil ?_
  intro w1 hx
  have hb1 := Xt.below hx
  clear hx
  have d7 := kept hb1 c7
  go_wp2
  all_goals
    go_ret
    refine ⟨?_, hb1⟩
    refine congrArg (fun b => Ending.returned (.bool b)) ?_
    unfold inPlaceB sizeI
    apply decide_eq_decide.2
    omega
/-- is a door open whose gate is not, from a place on -/
def bareGo : List Bool → List Bool → Bool
  | d :: ds, gs => (d && !gs.headD false) || bareGo ds gs.tail
  | [], _ => false
def bareB (s : Tr) : Bool := bareGo s.doors s.gates
theorem bare_any {B g bg bd cg cd D : Nat} {T S : Int} {s : Tr} (w : World) (hD : D ≤ 1000000000) (h : TrainAt w B g bg bd cg cd D T S s) :
    Calls Tryz.prog 104 #[.pointer (some ⟨g, 0, none⟩)] w fun e w' => e = .returned (.bool (bareB s)) ∧ w = w' := by
  have c3 := h.cell 3
  have c4 := h.cell 4
  simp at c3 c4
  have HL := Lib.hid h.lenD
  go_enter Tryz.func104, Tryz.ntmps104
  go_wp2
  go_loop [3, 4, 11] (fun _ _ i => ∃ k : Nat, k ≤ D ∧ i = .int .i64 k ∧ bareGo (s.doors.drop k) (s.gates.drop k) = bareB s) (fun _ _ i => D - (intOf i).toNat)
  case atStart => exact ⟨0, Nat.zero_le _, rfl, rfl⟩
  case round =>
    obtain ⟨k, hk, rfl, he⟩ := hrel
    have HE := Lib.hid he; clear he
    by_cases hlt : k < D
    · have hg := h.gateCell hlt
      have hd := h.doorCell hlt
      have hs := drop_at s.doors false k (by rw [HL.out]; exact hlt)
      have HS := Lib.hid hs
      clear hs
      have HG : Hid ((s.gates.drop k).headD false = s.gates[k]?.getD false) := by simp [Hid, List.head?_drop]
      have HT : Hid ((s.gates.drop k).tail = s.gates.drop (k + 1)) := by simp [Hid]
      cases hz : s.doors[k]?.getD false <;> cases hy : s.gates[k]?.getD false
      all_goals have HZ := Lib.hid hz
      all_goals have HY := Lib.hid hy
      all_goals go_wp2
      all_goals first
        | (go_ret
           exact ⟨by rw [← HE.out, HS.out, bareGo, HG.out, HZ.out, HY.out]; rfl, rfl⟩)
        | (go_round
           case rel => exact ⟨k + 1, by omega, by go_num, by rw [← HE.out, HS.out, bareGo, HG.out, HT.out, HZ.out, HY.out]; simp⟩
           case measure => simp [intOf]; omega)
    · go_wp2
      go_ret
      have : s.doors.drop k = [] := by rw [List.drop_eq_nil_iff]; rw [HL.out]; omega
      exact ⟨by rw [← HE.out, this]; rfl, rfl⟩
end Go.Proofs.YtlbgocgocanloaaGreatDoor
