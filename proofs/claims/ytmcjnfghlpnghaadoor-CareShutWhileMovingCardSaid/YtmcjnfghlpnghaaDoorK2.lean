/- Leaf functions of package care: within, unless, first, places, doors. Regions that draw their order whose operations read, and whose callees make at most new memory; slices of bools. The train of package care: how it lies in memory; isOpen, inPlace, bare. What becomes of a train when a cell of it is written; set. -/
import Derived.Test.YtmcjnfghlpnghaaDoorProg
import Derived.WalkKit
import Derived.WalkLawsBesides
import Derived.WalkSpells
import Derived.Handy
import Derived.Lib.Hide
import Derived.Deep.LoopGhost
import Derived.Deep.QuietTactic
import Derived.BigQuiet
import Derived.StillTailTactics
import Derived.Deep.DeepMust
import Derived.Outline
import Derived.Test.YtmcjnfghlpnghaaDoorK1
namespace Go.Proofs.YtmcjnfghlpnghaaDoor
open Go.RowKit

def withinB (n lo hi : Int) : Bool := decide (lo ≤ n) && decide (n ≤ hi)
def unlessE (b : Bool) (e : Int) : Int := bif b then 0 else e
def firstE : List Int → Int
  | [] => 0
  | a :: l => if a = 0 then firstE l else a

/-- The worlds in which all that lay in w lies as it lay. -/
def Xt (w : World) := { w' : World // Below w.heap.size w w' }

/-- the cells behind an address hold xs -/
def Rd (w : World) (B : Nat) (A : Option Addr) (xs : List Value) : Prop :=
  ∀ k u, xs[k]? = some u → ∃ b off, A = some ⟨b, off, none⟩ ∧ b < B ∧ w.cell? ⟨b, off + k, none⟩ = some u

theorem within_any (n lo hi : Int) (w : World) :
    Calls Tryd.prog 99 #[.int .i64 n, .int .i64 lo, .int .i64 hi] w fun e w' => e = .returned (.bool (withinB n lo hi)) ∧ w = w' := by
  by_cases h1 : lo ≤ n <;> by_cases h2 : n ≤ hi
  all_goals
    go_enter Tryd.func99, Tryd.ntmps99
    go_wp2
    go_ret
    exact ⟨by simp [withinB, h1, h2], rfl⟩

theorem unless_any (b : Bool) (x : Int) (w : World) :
    Calls Tryd.prog 92 #[.bool b, .int .i64 x] w fun e w' => e = .returned (.int .i64 (unlessE b x)) ∧ w = w' := by
  cases b
  all_goals
    go_enter Tryd.func92, Tryd.ntmps92
    go_wp2
    go_ret
    exact ⟨by simp [unlessE], rfl⟩

def isPlaceB (n : Int) : Bool := withinB n 0 1000000000
def placeE (n : Int) : Int := unlessE (isPlaceB n) 2

theorem isPlace_any (n : Int) (w : World) :
    Calls Tryd.prog 104 #[.int .i64 n] w fun e w' => e = .returned (.bool (isPlaceB n)) ∧ w = w' := by
  go_enter Tryd.func104, Tryd.ntmps104
  go_wp2_with (go_at_call 99; refine (within_any _ _ _ _).mono ?_; rintro e w' ⟨rfl, rfl⟩)
  go_ret
  exact ⟨rfl, rfl⟩

theorem placeErr_any (n : Int) (w : World) :
    Calls Tryd.prog 126 #[.int .i64 n] w fun e w' => e = .returned (.int .i64 (placeE n)) ∧ w = w' := by
  go_enter Tryd.func126, Tryd.ntmps126
  go_wp2_with (first
    | (go_at_call 104; refine (isPlace_any _ _).mono ?_; rintro e w' ⟨rfl, rfl⟩)
    | (go_at_call 92; refine (unless_any _ _ _).mono ?_; rintro e w' ⟨rfl, rfl⟩))
  go_ret
  exact ⟨rfl, rfl⟩

theorem first_any (g n : Nat) (l : List Int) (w : World) (hn : n ≤ 1000) (hl : l.length = n)
    (h : ∀ k, k < n → w.cell? ⟨g, k, none⟩ = some (.int .i64 (l[k]?.getD 0))) :
    Calls Tryd.prog 91 #[.slice (some ⟨g, 0, none⟩) n n] w fun e w' => e = .returned (.int .i64 (firstE l)) ∧ w = w' := by
  have HL := Lib.hid hl; clear hl
  go_enter Tryd.func91, Tryd.ntmps91
  go_wp2
  go_loop [4, 7] (fun _ i => ∃ k : Nat, k ≤ n ∧ i = .int .i64 k ∧ firstE (l.drop k) = firstE l) (fun _ i => n - (intOf i).toNat)
  case atStart => exact ⟨0, Nat.zero_le _, rfl, rfl⟩
  case round =>
    obtain ⟨k, hk, rfl, he⟩ := hrel
    have HE := Lib.hid he; clear he
    by_cases hlt : k < n
    · have hc := h k hlt
      have hs : l.drop k = (l[k]?.getD 0) :: l.drop (k + 1) := by
        have : k < l.length := by rw [HL.out]; exact hlt
        rw [List.drop_eq_getElem_cons this]; simp [this]
      have HS := Lib.hid hs; clear hs
      by_cases hz : l[k]?.getD 0 = 0
      · have hz' : (l[k]?.getD 0 != 0) = false := by simp [hz]
        have HZ := Lib.hid hz; clear hz
        go_wp2
        go_round
        case rel => exact ⟨k + 1, by omega, by go_num, by rw [← HE.out, HS.out, firstE, if_pos HZ.out]⟩
        case measure => simp [intOf]; omega
      · have hz' : (l[k]?.getD 0 != 0) = true := by simp [hz]
        have HZ := Lib.hid hz; clear hz
        go_wp2
        go_ret
        exact ⟨by rw [← HE.out, HS.out, firstE, if_neg HZ.out]; rfl, rfl⟩
    · go_wp2
      go_ret
      have : l.drop k = [] := by rw [List.drop_eq_nil_iff]; rw [HL.out]; omega
      exact ⟨by rw [← HE.out, this]; rfl, rfl⟩

theorem first1 (w : World) (a : Int) :
    Calls Tryd.prog 91 #[.slice (some ⟨w.heap.size, 0, none⟩) 1 1] (w.alloc (.cells #[.int .i64 a] 29)) fun e w' =>
      e = .returned (.int .i64 (firstE [a])) ∧ w.alloc (.cells #[.int .i64 a] 29) = w' :=
  first_any _ 1 [a] _ (by decide) rfl (by
    intro k hk
    match k, hk with
    | 0, _ => simp)
theorem first2 (w : World) (a b : Int) :
    Calls Tryd.prog 91 #[.slice (some ⟨w.heap.size, 0, none⟩) 2 2] (w.alloc (.cells #[.int .i64 a, .int .i64 b] 29)) fun e w' =>
      e = .returned (.int .i64 (firstE [a, b])) ∧ w.alloc (.cells #[.int .i64 a, .int .i64 b] 29) = w' :=
  first_any _ 2 [a, b] _ (by decide) rfl (by
    intro k hk
    match k, hk with
    | 0, _ => simp
    | 1, _ => simp)
theorem first3 (w : World) (a b c : Int) :
    Calls Tryd.prog 91 #[.slice (some ⟨w.heap.size, 0, none⟩) 3 3] (w.alloc (.cells #[.int .i64 a, .int .i64 b, .int .i64 c] 29)) fun e w' =>
      e = .returned (.int .i64 (firstE [a, b, c])) ∧ w.alloc (.cells #[.int .i64 a, .int .i64 b, .int .i64 c] 29) = w' :=
  first_any _ 3 [a, b, c] _ (by decide) rfl (by
    intro k hk
    match k, hk with
    | 0, _ => simp
    | 1, _ => simp
    | 2, _ => simp)
theorem first4 (w : World) (a b c d : Int) :
    Calls Tryd.prog 91 #[.slice (some ⟨w.heap.size, 0, none⟩) 4 4] (w.alloc (.cells #[.int .i64 a, .int .i64 b, .int .i64 c, .int .i64 d] 29)) fun e w' =>
      e = .returned (.int .i64 (firstE [a, b, c, d])) ∧ w.alloc (.cells #[.int .i64 a, .int .i64 b, .int .i64 c, .int .i64 d] 29) = w' :=
  first_any _ 4 [a, b, c, d] _ (by decide) rfl (by
    intro k hk
    match k, hk with
    | 0, _ => simp
    | 1, _ => simp
    | 2, _ => simp
    | 3, _ => simp)
theorem first5 (w : World) (a b c d x5 : Int) :
    Calls Tryd.prog 91 #[.slice (some ⟨w.heap.size, 0, none⟩) 5 5] (w.alloc (.cells #[.int .i64 a, .int .i64 b, .int .i64 c, .int .i64 d, .int .i64 x5] 29)) fun e w' =>
      e = .returned (.int .i64 (firstE [a, b, c, d, x5])) ∧ w.alloc (.cells #[.int .i64 a, .int .i64 b, .int .i64 c, .int .i64 d, .int .i64 x5] 29) = w' :=
  first_any _ 5 [a, b, c, d, x5] _ (by decide) rfl (by
    intro k hk
    match k, hk with
    | 0, _ => simp
    | 1, _ => simp
    | 2, _ => simp
    | 3, _ => simp
    | 4, _ => simp)
theorem first6 (w : World) (a b c d x5 x6 : Int) :
    Calls Tryd.prog 91 #[.slice (some ⟨w.heap.size, 0, none⟩) 6 6] (w.alloc (.cells #[.int .i64 a, .int .i64 b, .int .i64 c, .int .i64 d, .int .i64 x5, .int .i64 x6] 29)) fun e w' =>
      e = .returned (.int .i64 (firstE [a, b, c, d, x5, x6])) ∧ w.alloc (.cells #[.int .i64 a, .int .i64 b, .int .i64 c, .int .i64 d, .int .i64 x5, .int .i64 x6] 29) = w' :=
  first_any _ 6 [a, b, c, d, x5, x6] _ (by decide) rfl (by
    intro k hk
    match k, hk with
    | 0, _ => simp
    | 1, _ => simp
    | 2, _ => simp
    | 3, _ => simp
    | 4, _ => simp
    | 5, _ => simp)
/-! ### doors -/
def doorsE (d t s : Int) : Int := unlessE (withinB d 1 6 && isPlaceB t && withinB s 0 5000) 2

theorem CheckDoors_any (d t s : Int) (w : World) :
    Calls Tryd.prog 36 #[.agg #[.int .i64 d, .int .i64 t, .int .i64 s]] w fun e w' => e = .returned (.int .i64 (doorsE d t s)) ∧ Below w.heap.size w w' := by
  cases h1 : withinB d 1 6 <;> cases h2 : isPlaceB t
  all_goals
    go_enter Tryd.func36, Tryd.ntmps36
    go_wp2_with (first
      | (go_at_call 99; refine (within_any _ _ _ _).mono ?_; rintro e w' ⟨rfl, rfl⟩)
      | (go_at_call 104; refine (isPlace_any _ _).mono ?_; rintro e w' ⟨rfl, rfl⟩)
      | (go_at_call 92; refine (unless_any _ _ _).mono ?_; rintro e w' ⟨rfl, rfl⟩))
    go_ret
    exact ⟨by simp [doorsE, h1, h2], (Below.refl _ _).alloc (Nat.le_refl _) _⟩
end Go.Proofs.YtmcjnfghlpnghaaDoor

namespace Go.Proofs.YtmcjnfghlpnghaaDoor
open Go.RowKit

instance xtNonempty (w : World) : Nonempty (Xt w) := ⟨⟨w, Below.refl _ _⟩⟩

theorem lt_of_cell {w : World} {p : Addr} {v : Value} (h : w.cell? p = some v) : p.block < w.heap.size := World.block_lt_of_cell? w p h

theorem Xt.cell {w : World} (x : Xt w) {p : Addr} {v : Value} (h : w.cell? p = some v) : x.1.cell? p = some v :=
  (x.2.cell (lt_of_cell h)).trans h

theorem kept {w w' : World} (hb : Below w.heap.size w w') {p : Addr} {v : Value} (h : w.cell? p = some v) : w'.cell? p = some v :=
  (hb.cell (lt_of_cell h)).trans h

theorem keptB {B : Nat} {w w' : World} (hb : Below B w w') {p : Addr} {v : Value} (hp : p.block < B) (h : w.cell? p = some v) : w'.cell? p = some v :=
  (hb.cell hp).trans h

theorem thenB {w w1 w2 : World} (h1 : Below w.heap.size w w1) (h2 : Below w1.heap.size w1 w2) : Below w.heap.size w w2 :=
  h1.trans (h2.mono h1.size)

theorem wp_region_xt {P : Program} {id : Nat} {Q : Exit → Act → World → Prop} {a : Act} {w : World} {l : List Oper} (hm : P.follows .mixedOrders = true) (hB : Region.lexB .any l.toArray = true)
    (h : wpQuiet P l.toArray (fun w' => ∃ x : Xt w, w' = x.1) (fun a' => ∀ w', (∃ x : Xt w, w' = x.1) → Q .normal a' w') l a) : (Code.region id l.toArray true).wp P Q a w :=
  wp_region_quiet (C := fun w' => ∃ x : Xt w, w' = x.1) hm hB ⟨⟨w.drew, (Below.refl _ _).drew⟩, rfl⟩ (by simpa using h)

theorem Xt.calls {P : Program} {f : FuncId} {args : Array Value} {w : World} {x : Xt w} {v : Value}
    (h : Calls P f args x.1 fun e w' => e = .returned v ∧ Below x.1.heap.size x.1 w') : Calls P f args x.1 fun e w'' => e = .returned v ∧ ∃ y : Xt w, w'' = y.1 :=
  h.mono fun _ w' ⟨he, hm⟩ => ⟨he, ⟨w', thenB x.2 hm⟩, rfl⟩

theorem Xt.calls_same {P : Program} {f : FuncId} {args : Array Value} {w : World} {x : Xt w} {v : Value}
    (h : Calls P f args x.1 fun e w' => e = .returned v ∧ x.1 = w') : Calls P f args x.1 fun e w'' => e = .returned v ∧ ∃ y : Xt w, w'' = y.1 :=
  h.mono fun _ _ ⟨he, hm⟩ => ⟨he, x, hm.symm⟩

theorem Xt.below {w w' : World} (h : ∃ x : Xt w, w' = x.1) : Below w.heap.size w w' := by
  obtain ⟨x, rfl⟩ := h; exact x.2

/-! ### searching -/
def idxGo {α : Type} (p : α → Bool) : List α → Nat → Int
  | [], _ => -1
  | a :: l, k => if p a then k else idxGo p l (k + 1)

theorem idxGo_nonneg {α : Type} (p : α → Bool) (l : List α) (k : Nat) : decide (0 ≤ idxGo p l k) = l.any p := by
  induction l generalizing k with
  | nil => simp [idxGo]
  | cons a l ih =>
    unfold idxGo
    by_cases h : p a = true
    · simp [h]
    · simp only [if_neg h, ih, List.any_cons]
      simp only [Bool.not_eq_true] at h
      simp [h]

theorem drop_at {α : Type} (l : List α) (d : α) (k : Nat) (h : k < l.length) : l.drop k = (l[k]?.getD d) :: l.drop (k + 1) := by
  rw [List.drop_eq_getElem_cons h]; simp [h]

theorem Rd.at_ {w : World} {B : Nat} {A : Option Addr} {xs : List Value} (h : Rd w B A xs) {k : Nat} {u : Value} (hk : xs[k]? = some u) :
    ∃ b off, A = some ⟨b, off, none⟩ ∧ b < B ∧ w.cell? ⟨b, off + k, none⟩ = some u := h k u hk

theorem Rd.below {w w' : World} {B : Nat} {A : Option Addr} {xs : List Value} (h : Rd w B A xs) (hb : Below B w w') : Rd w' B A xs := fun k u hk => by
  obtain ⟨b, off, hA, hB, hc⟩ := h k u hk
  exact ⟨b, off, hA, hB, (hb.cell (p := ⟨b, off + k, none⟩) hB).trans hc⟩

theorem Rd.keep {w w' : World} {B : Nat} {A : Option Addr} {xs : List Value} (h : Rd w B A xs) (hb : Below w.heap.size w w') : Rd w' B A xs := fun k u hk => by
  obtain ⟨b, off, hA, hB, hc⟩ := h k u hk
  exact ⟨b, off, hA, hB, kept hb hc⟩

theorem Rd.mono {w : World} {B B' : Nat} {A : Option Addr} {xs : List Value} (h : Rd w B A xs) (hB : B ≤ B') : Rd w B' A xs := fun k u hk => by
  obtain ⟨b, off, hA, hb, hc⟩ := h k u hk
  exact ⟨b, off, hA, by omega, hc⟩

/-- slices.Index at []bool -/
theorem IndexBools_any (A : Option Addr) (n c B : Nat) (l : List Bool) (v : Bool) (w : World) (hn : n ≤ 1000000000) (hl : l.length = n) (h : Rd w B A (l.map .bool)) :
    Calls Tryd.prog 170 #[.slice A n c, .bool v] w fun e w' => e = .returned (.int .i64 (idxGo (v == ·) l 0)) ∧ w = w' := by
  have HL := Lib.hid hl; clear hl
  go_enter Tryd.func170, Tryd.ntmps170
  go_wp2
  go_loop [5, 8] (fun _ i => ∃ k : Nat, k ≤ n ∧ i = .int .i64 k ∧ idxGo (v == ·) (l.drop k) k = idxGo (v == ·) l 0) (fun _ i => n - (intOf i).toNat)
  case atStart => exact ⟨0, Nat.zero_le _, rfl, rfl⟩
  case round =>
    obtain ⟨k, hk, rfl, he⟩ := hrel
    have HE := Lib.hid he; clear he
    by_cases hlt : k < n
    · have hkl : k < l.length := by rw [HL.out]; exact hlt
      obtain ⟨b, off, rfl, _, hc⟩ := h.at_ (k := k) (u := .bool (l[k]?.getD false)) (by simp [hkl])
      have HS := Lib.hid (drop_at l false k hkl)
      clear hkl
      cases hz : (v == l[k]?.getD false)
      · have HZ := Lib.hid hz
        go_wp2
        go_round
        case rel => exact ⟨k + 1, by omega, by go_num, by rw [← HE.out, HS.out, idxGo]; simp [HZ.out]⟩
        case measure => simp [intOf]; omega
      · have HZ := Lib.hid hz
        go_wp2
        go_ret
        exact ⟨by rw [← HE.out, HS.out, idxGo, HZ.out]; rfl, rfl⟩
    · go_wp2
      go_ret
      have : l.drop k = [] := by rw [List.drop_eq_nil_iff]; rw [HL.out]; omega
      exact ⟨by rw [← HE.out, this]; rfl, rfl⟩

/-- is one of them so -/
def hasB (l : List Bool) (v : Bool) : Bool := l.any (v == ·)

/-- slices.Contains at []bool -/
theorem ContainsBools_any (A : Option Addr) (n c B : Nat) (l : List Bool) (v : Bool) (w : World) (hn : n ≤ 1000000000) (hl : l.length = n) (h : Rd w B A (l.map .bool)) :
    Calls Tryd.prog 145 #[.slice A n c, .bool v] w fun e w' => e = .returned (.bool (hasB l v)) ∧ w = w' := by
  go_enter Tryd.func145, Tryd.ntmps145
  go_wp2_with (go_at_call 170; refine (IndexBools_any A n c B l v _ hn hl h).mono ?_; rintro e w' ⟨rfl, rfl⟩)
  go_ret
  exact ⟨by unfold hasB; rw [← idxGo_nonneg _ l 0]; rfl, rfl⟩
end Go.Proofs.YtmcjnfghlpnghaaDoor

namespace Go.Proofs.YtmcjnfghlpnghaaDoor
open Go.RowKit

/-- A train's state. -/
structure Tr where
  mv : Bool
  al : Bool
  place : Int
  gates : List Bool
  doors : List Bool

/-- The train s lies in block g, its gates in block bg, its doors in block bd; B: from this block on the memory is the call's own. -/
structure TrainAt (w : World) (B g bg bd cg cd D : Nat) (T S : Int) (s : Tr) : Prop where
  blk : w.heap[g]? = some (.cells #[.bool s.mv, .bool s.al, .int .i64 s.place, .slice (some ⟨bg, 0, none⟩) D cg, .slice (some ⟨bd, 0, none⟩) D cd, .int .i64 D, .int .i64 T, .int .i64 S] 151 (0, 0))
  gates : w.ownsRow B 4 1 (.slice (some ⟨bg, 0, none⟩) D cg) D (s.gates.map .bool)
  doors : w.ownsRow B 4 1 (.slice (some ⟨bd, 0, none⟩) D cd) D (s.doors.map .bool)
  ne : bg ≠ bd
  hB : B ≤ g

section
variable {w w' : World} {B g bg bd cg cd D : Nat} {T S : Int} {s : Tr}

theorem TrainAt.lenG (h : TrainAt w B g bg bd cg cd D T S s) : s.gates.length = D := by simpa using h.gates.1
theorem TrainAt.lenD (h : TrainAt w B g bg bd cg cd D T S s) : s.doors.length = D := by simpa using h.doors.1
theorem TrainAt.cell (h : TrainAt w B g bg bd cg cd D T S s) (i : Nat) : w.cell? ⟨g, i, none⟩ =
    #[Value.bool s.mv, .bool s.al, .int .i64 s.place, .slice (some ⟨bg, 0, none⟩) D cg, .slice (some ⟨bd, 0, none⟩) D cd, .int .i64 D, .int .i64 T, .int .i64 S][i]? :=
  cell_of_row w g i _ _ _ h.blk
theorem TrainAt.frozen (h : TrainAt w B g bg bd cg cd D T S s) (i : Nat) : w.frozen? ⟨g, i, none⟩ = false := frozen_of_row w g i _ _ h.blk
theorem TrainAt.gateCell (h : TrainAt w B g bg bd cg cd D T S s) {k : Nat} (hk : k < D) : w.cell? ⟨bg, k, none⟩ = some (.bool (s.gates[k]?.getD false)) := by
  have hl := h.lenG
  rw [h.gates.cellAt k (by omega)]
  simp [hl, hk]
theorem TrainAt.doorCell (h : TrainAt w B g bg bd cg cd D T S s) {k : Nat} (hk : k < D) : w.cell? ⟨bd, k, none⟩ = some (.bool (s.doors[k]?.getD false)) := by
  have hl := h.lenD
  rw [h.doors.cellAt k (by omega)]
  simp [hl, hk]
theorem TrainAt.rdG (h : TrainAt w B g bg bd cg cd D T S s) : Rd w w.heap.size (some ⟨bg, 0, none⟩) (s.gates.map .bool) := fun k u hu => by
  have hl := h.gates.1
  have hk : k < D := by
    have := (List.getElem?_eq_some_iff.1 hu).1
    omega
  have hc := h.gates.cellAt k (by omega)
  rw [hu] at hc
  exact ⟨bg, 0, rfl, lt_of_cell hc, by simpa using hc⟩
theorem TrainAt.rdD (h : TrainAt w B g bg bd cg cd D T S s) : Rd w w.heap.size (some ⟨bd, 0, none⟩) (s.doors.map .bool) := fun k u hu => by
  have hl := h.doors.1
  have hk : k < D := by
    have := (List.getElem?_eq_some_iff.1 hu).1
    omega
  have hc := h.doors.cellAt k (by omega)
  rw [hu] at hc
  exact ⟨bd, 0, rfl, lt_of_cell hc, by simpa using hc⟩
theorem TrainAt.gLt (h : TrainAt w B g bg bd cg cd D T S s) : g < w.heap.size := (Array.getElem?_eq_some_iff.1 h.blk).1
theorem TrainAt.bgLt (h : TrainAt w B g bg bd cg cd D T S s) : B ≤ bg ∧ bg < w.heap.size := h.gates.lt bg rfl
theorem TrainAt.bdLt (h : TrainAt w B g bg bd cg cd D T S s) : B ≤ bd ∧ bd < w.heap.size := h.doors.lt bd rfl

theorem ownsRow_below {base e size n : Nat} {v : Value} {xs : List Value} (h : w.ownsRow base e size v n xs) (hb : Below w.heap.size w w') : w'.ownsRow base e size v n xs := by
  refine ⟨h.1, ?_⟩
  rcases h.2 with h2 | ⟨g, cap, cur, hv, hg, hh, r⟩
  · exact .inl h2
  · exact .inr ⟨g, cap, cur, hv, hg, (hb.block g (Array.getElem?_eq_some_iff.1 hh).1).trans hh, r⟩

theorem TrainAt.below (h : TrainAt w B g bg bd cg cd D T S s) (hb : Below w.heap.size w w') : TrainAt w' B g bg bd cg cd D T S s :=
  ⟨(hb.block g h.gLt).trans h.blk, ownsRow_below h.gates hb, ownsRow_below h.doors hb, h.ne, h.hB⟩
end

def isOpenB (s : Tr) : Bool := hasB s.gates true || hasB s.doors true

theorem isOpen_any {B g bg bd cg cd D : Nat} {T S : Int} {s : Tr} (w : World) (hD : D ≤ 1000000000) (h : TrainAt w B g bg bd cg cd D T S s) :
    Calls Tryd.prog 143 #[.pointer (some ⟨g, 0, none⟩)] w fun e w' => e = .returned (.bool (isOpenB s)) ∧ w = w' := by
  have c3 := h.cell 3
  have c4 := h.cell 4
  simp at c3 c4
  cases ho : hasB s.gates true
  all_goals
    go_enter Tryd.func143, Tryd.ntmps143
    go_wp2_with fail
    go_at_call 145
    refine (ContainsBools_any _ _ _ _ s.gates true _ hD h.lenG h.rdG).mono ?_
    rintro e w' ⟨rfl, rfl⟩
    go_wp2_with (go_at_call 145; refine (ContainsBools_any _ _ _ _ s.doors true _ hD h.lenD h.rdD).mono ?_; rintro e w' ⟨rfl, rfl⟩)
    go_ret
    exact ⟨by simp [isOpenB, ho], rfl⟩

def sizeI (n : Int) : Int := max n (-n)
def inPlaceB (T S place : Int) : Bool := decide (sizeI (place - T) ≤ S)

theorem inPlace_any {B g bg bd cg cd D : Nat} {T S : Int} {s : Tr} (w : World) (h : TrainAt w B g bg bd cg cd D T S s)
    (hp : 0 ≤ s.place ∧ s.place ≤ 1000000000) (hT : 0 ≤ T ∧ T ≤ 1000000000) :
    Calls Tryd.prog 144 #[.pointer (some ⟨g, 0, none⟩)] w fun e w' => e = .returned (.bool (inPlaceB T S s.place)) ∧ Below w.heap.size w w' := by
  obtain ⟨hp1, hp2⟩ := hp
  obtain ⟨hT1, hT2⟩ := hT
  have c2 := h.cell 2
  have c6 := h.cell 6
  have c7 := h.cell 7
  simp at c2 c6 c7
  have x2 := fun x : Xt w => x.cell c2
  have x6 := fun x : Xt w => x.cell c6
  go_enter Tryd.func144, Tryd.ntmps144
  go_wp2
  refine wp_region_xt (by kernel_rfl) (by kernel_rfl) ?_
  repeat (go_big_quiet_step (fail))
  refine wpQuiet_nil ?_
  intro w1 hx
  have hb1 := Xt.below hx
  clear hx
  have d7 := kept hb1 c7
  go_wp2
  all_goals
    go_ret
    refine ⟨?_, hb1⟩
    refine congrArg (fun b => Ending.returned (.bool b)) ?_
    unfold inPlaceB sizeI
    apply decide_eq_decide.2
    omega

/-- is a door open whose gate is not, from a place on -/
def bareGo : List Bool → List Bool → Bool
  | d :: ds, gs => (d && !gs.headD false) || bareGo ds gs.tail
  | [], _ => false
def bareB (s : Tr) : Bool := bareGo s.doors s.gates

theorem bare_any {B g bg bd cg cd D : Nat} {T S : Int} {s : Tr} (w : World) (hD : D ≤ 1000000000) (h : TrainAt w B g bg bd cg cd D T S s) :
    Calls Tryd.prog 146 #[.pointer (some ⟨g, 0, none⟩)] w fun e w' => e = .returned (.bool (bareB s)) ∧ w = w' := by
  have c3 := h.cell 3
  have c4 := h.cell 4
  simp at c3 c4
  have HL := Lib.hid h.lenD
  go_enter Tryd.func146, Tryd.ntmps146
  go_wp2
  go_loop [3, 4, 11] (fun _ _ i => ∃ k : Nat, k ≤ D ∧ i = .int .i64 k ∧ bareGo (s.doors.drop k) (s.gates.drop k) = bareB s) (fun _ _ i => D - (intOf i).toNat)
  case atStart => exact ⟨0, Nat.zero_le _, rfl, rfl⟩
  case round =>
    obtain ⟨k, hk, rfl, he⟩ := hrel
    have HE := Lib.hid he; clear he
    by_cases hlt : k < D
    · have hg := h.gateCell hlt
      have hd := h.doorCell hlt
      have hs := drop_at s.doors false k (by rw [HL.out]; exact hlt)
      have HS := Lib.hid hs
      clear hs
      have HG : Hid ((s.gates.drop k).headD false = s.gates[k]?.getD false) := by simp [Hid, List.head?_drop]
      have HT : Hid ((s.gates.drop k).tail = s.gates.drop (k + 1)) := by simp [Hid]
      cases hz : s.doors[k]?.getD false <;> cases hy : s.gates[k]?.getD false
      all_goals have HZ := Lib.hid hz
      all_goals have HY := Lib.hid hy
      all_goals go_wp2
      all_goals first
        | (go_ret
           exact ⟨by rw [← HE.out, HS.out, bareGo, HG.out, HZ.out, HY.out]; rfl, rfl⟩)
        | (go_round
           case rel => exact ⟨k + 1, by omega, by go_num, by rw [← HE.out, HS.out, bareGo, HG.out, HT.out, HZ.out, HY.out]; simp⟩
           case measure => simp [intOf]; omega)
    · go_wp2
      go_ret
      have : s.doors.drop k = [] := by rw [List.drop_eq_nil_iff]; rw [HL.out]; omega
      exact ⟨by rw [← HE.out, this]; rfl, rfl⟩
end Go.Proofs.YtmcjnfghlpnghaaDoor

namespace Go.Proofs.YtmcjnfghlpnghaaDoor
open Go.RowKit

section
variable {w w' : World} {B g bg bd cg cd D : Nat} {T S : Int} {s : Tr}

theorem TrainAt.setG (h : TrainAt w B g bg bd cg cd D T S s) (i : Nat) (u : Value) (s' : Tr)
    (hc : (#[Value.bool s.mv, .bool s.al, .int .i64 s.place, .slice (some ⟨bg, 0, none⟩) D cg, .slice (some ⟨bd, 0, none⟩) D cd, .int .i64 D, .int .i64 T, .int .i64 S].setIfInBounds i u) =
      #[Value.bool s'.mv, .bool s'.al, .int .i64 s'.place, .slice (some ⟨bg, 0, none⟩) D cg, .slice (some ⟨bd, 0, none⟩) D cd, .int .i64 D, .int .i64 T, .int .i64 S])
    (hg : s'.gates = s.gates) (hd : s'.doors = s.doors) : TrainAt (w.setCell ⟨g, i, none⟩ u) B g bg bd cg cd D T S s' := by
  have n1 : bg ≠ g := fun e => by
    rcases h.gates.2 with ⟨h', _⟩ | ⟨g', cap', cur, h', _, hh, _⟩
    · simp at h'
    · simp only [Value.slice.injEq, Option.some.injEq, Addr.mk.injEq, and_true, true_and] at h'
      obtain ⟨rfl, rfl⟩ := h'
      subst e
      have := h.blk
      rw [hh] at this
      simp at this
  have n2 : bd ≠ g := fun e => by
    rcases h.doors.2 with ⟨h', _⟩ | ⟨g', cap', cur, h', _, hh, _⟩
    · simp at h'
    · simp only [Value.slice.injEq, Option.some.injEq, Addr.mk.injEq, and_true, true_and] at h'
      obtain ⟨rfl, rfl⟩ := h'
      subst e
      have := h.blk
      rw [hh] at this
      simp at this
  refine ⟨?_, ?_, ?_, h.ne, h.hB⟩
  · rw [heap_setCell_same w g i _ _ u h.blk, hc]
  · rw [hg]; exact ownsRow_setCell_other h.gates (by simp [Value.ownBlock, n1]) u
  · rw [hd]; exact ownsRow_setCell_other h.doors (by simp [Value.ownBlock, n2]) u

theorem TrainAt.setMv (h : TrainAt w B g bg bd cg cd D T S s) (v : Bool) : TrainAt (w.setCell ⟨g, 0, none⟩ (.bool v)) B g bg bd cg cd D T S { s with mv := v } :=
  h.setG 0 _ _ rfl rfl rfl
theorem TrainAt.setAl (h : TrainAt w B g bg bd cg cd D T S s) (v : Bool) : TrainAt (w.setCell ⟨g, 1, none⟩ (.bool v)) B g bg bd cg cd D T S { s with al := v } :=
  h.setG 1 _ _ rfl rfl rfl
theorem TrainAt.setPlace (h : TrainAt w B g bg bd cg cd D T S s) (v : Int) : TrainAt (w.setCell ⟨g, 2, none⟩ (.int .i64 v)) B g bg bd cg cd D T S { s with place := v } :=
  h.setG 2 _ _ rfl rfl rfl

theorem blk_ne_row {w : World} {base e t size n g k : Nat} {cs : Array Value} {cap : Nat} {xs : List Value} (h : w.ownsRow base e size (.slice (some ⟨k, 0, none⟩) n cap) n xs) (hg : w.heap[g]? = some (.cells cs t (0, 0))) (hne : e ≠ t) : g ≠ k := fun he => by
  rcases h.2 with ⟨h', _⟩ | ⟨g', cap', cur, h', _, hh, _⟩
  · simp at h'
  · simp only [Value.slice.injEq, Option.some.injEq, Addr.mk.injEq, and_true, true_and] at h'
    obtain ⟨rfl, rfl⟩ := h'
    subst he
    rw [hh] at hg
    simp at hg
    exact hne hg.2

theorem TrainAt.setGate (h : TrainAt w B g bg bd cg cd D T S s) (k : Nat) (v : Bool) : TrainAt (w.setCell ⟨bg, k, none⟩ (.bool v)) B g bg bd cg cd D T S { s with gates := s.gates.set k v } := by
  refine ⟨?_, ?_, ?_, h.ne, h.hB⟩
  · rw [heap_setCell_other w _ _ _ (show g ≠ bg from blk_ne_row h.gates h.blk (by decide))]; exact h.blk
  · have := (h.gates.stored k (.bool v)).1
    simpa [List.map_set] using this
  · exact ownsRow_setCell_other h.doors (by simp [Value.ownBlock, h.ne.symm]) _

theorem TrainAt.setDoor (h : TrainAt w B g bg bd cg cd D T S s) (k : Nat) (v : Bool) : TrainAt (w.setCell ⟨bd, k, none⟩ (.bool v)) B g bg bd cg cd D T S { s with doors := s.doors.set k v } := by
  refine ⟨?_, ?_, ?_, h.ne, h.hB⟩
  · rw [heap_setCell_other w _ _ _ (show g ≠ bd from blk_ne_row h.doors h.blk (by decide))]; exact h.blk
  · exact ownsRow_setCell_other h.gates (by simp [Value.ownBlock, h.ne]) _
  · have := (h.doors.stored k (.bool v)).1
    simpa [List.map_set] using this

theorem TrainAt.alloc (h : TrainAt w B g bg bd cg cd D T S s) (o : Obj) : TrainAt (w.alloc o) B g bg bd cg cd D T S s :=
  h.below ((Below.refl _ _).alloc (Nat.le_refl _) o)
end

theorem frozen_alloc_old {w : World} {p : Addr} {v : Value} (o : Obj) (hc : w.cell? p = some v) (hf : w.frozen? p = false) : (w.alloc o).frozen? p = false :=
  (World.frozen?_alloc_old w o p (Nat.ne_of_lt (lt_of_cell hc))).trans hf
theorem cell_alloc_old {w : World} {p : Addr} {v : Value} (o : Obj) (hc : w.cell? p = some v) : (w.alloc o).cell? p = some v :=
  kept ((Below.refl _ _).alloc (Nat.le_refl _) o) hc

/-- set: where there is no error the cell is written -/
def setW (w : World) (p : Addr) (to : Bool) (err : Int) : World := if err = 0 then w.setCell p (.bool to) else w

theorem set_any (b o g n : Nat) (to old : Bool) (l : List Int) (w : World) (hc : w.cell? ⟨b, o, none⟩ = some (.bool old)) (hf : w.frozen? ⟨b, o, none⟩ = false) (hn : n ≤ 1000) (hl : l.length = n)
    (h : ∀ k, k < n → w.cell? ⟨g, k, none⟩ = some (.int .i64 (l[k]?.getD 0))) :
    Calls Tryd.prog 231 #[.pointer (some ⟨b, o, none⟩), .bool to, .slice (some ⟨g, 0, none⟩) n n] w fun e w' => e = .returned (.int .i64 (firstE l)) ∧ setW w ⟨b, o, none⟩ to (firstE l) = w' := by
  have HL := Lib.hid hl; clear hl
  have C1 := first_any g n l w hn HL.out h
  clear h
  cases hz : (firstE l == 0)
  all_goals
    have HZ := Lib.hid hz
    go_enter Tryd.func231, Tryd.ntmps231
    go_wp2_with (go_at_call 91; refine C1.mono ?_; rintro e w' ⟨rfl, rfl⟩)
    go_ret
    exact ⟨rfl, by have := HZ.out; unfold setW; simp at this; simp [this]⟩

theorem set1 (w : World) (p q : Nat) (to old : Bool) (a : Int) (hc : w.cell? ⟨p, q, none⟩ = some (.bool old)) (hf : w.frozen? ⟨p, q, none⟩ = false) :
    Calls Tryd.prog 231 #[.pointer (some ⟨p, q, none⟩), .bool to, .slice (some ⟨w.heap.size, 0, none⟩) 1 1] (w.alloc (.cells #[.int .i64 a] 29)) fun e w' =>
      e = .returned (.int .i64 (firstE [a])) ∧ setW (w.alloc (.cells #[.int .i64 a] 29)) ⟨p, q, none⟩ to (firstE [a]) = w' :=
  set_any p q _ 1 to old [a] _ (cell_alloc_old _ hc) (frozen_alloc_old _ hc hf) (by decide) rfl (by
    intro k hk
    match k, hk with
    | 0, _ => simp)

theorem set2 (w : World) (p q : Nat) (to old : Bool) (a b : Int) (hc : w.cell? ⟨p, q, none⟩ = some (.bool old)) (hf : w.frozen? ⟨p, q, none⟩ = false) :
    Calls Tryd.prog 231 #[.pointer (some ⟨p, q, none⟩), .bool to, .slice (some ⟨w.heap.size, 0, none⟩) 2 2] (w.alloc (.cells #[.int .i64 a, .int .i64 b] 29)) fun e w' =>
      e = .returned (.int .i64 (firstE [a, b])) ∧ setW (w.alloc (.cells #[.int .i64 a, .int .i64 b] 29)) ⟨p, q, none⟩ to (firstE [a, b]) = w' :=
  set_any p q _ 2 to old [a, b] _ (cell_alloc_old _ hc) (frozen_alloc_old _ hc hf) (by decide) rfl (by
    intro k hk
    match k, hk with
    | 0, _ => simp
    | 1, _ => simp)

theorem set3 (w : World) (p q : Nat) (to old : Bool) (a b c : Int) (hc : w.cell? ⟨p, q, none⟩ = some (.bool old)) (hf : w.frozen? ⟨p, q, none⟩ = false) :
    Calls Tryd.prog 231 #[.pointer (some ⟨p, q, none⟩), .bool to, .slice (some ⟨w.heap.size, 0, none⟩) 3 3] (w.alloc (.cells #[.int .i64 a, .int .i64 b, .int .i64 c] 29)) fun e w' =>
      e = .returned (.int .i64 (firstE [a, b, c])) ∧ setW (w.alloc (.cells #[.int .i64 a, .int .i64 b, .int .i64 c] 29)) ⟨p, q, none⟩ to (firstE [a, b, c]) = w' :=
  set_any p q _ 3 to old [a, b, c] _ (cell_alloc_old _ hc) (frozen_alloc_old _ hc hf) (by decide) rfl (by
    intro k hk
    match k, hk with
    | 0, _ => simp
    | 1, _ => simp
    | 2, _ => simp)

theorem set4 (w : World) (p q : Nat) (to old : Bool) (a b c d : Int) (hc : w.cell? ⟨p, q, none⟩ = some (.bool old)) (hf : w.frozen? ⟨p, q, none⟩ = false) :
    Calls Tryd.prog 231 #[.pointer (some ⟨p, q, none⟩), .bool to, .slice (some ⟨w.heap.size, 0, none⟩) 4 4] (w.alloc (.cells #[.int .i64 a, .int .i64 b, .int .i64 c, .int .i64 d] 29)) fun e w' =>
      e = .returned (.int .i64 (firstE [a, b, c, d])) ∧ setW (w.alloc (.cells #[.int .i64 a, .int .i64 b, .int .i64 c, .int .i64 d] 29)) ⟨p, q, none⟩ to (firstE [a, b, c, d]) = w' :=
  set_any p q _ 4 to old [a, b, c, d] _ (cell_alloc_old _ hc) (frozen_alloc_old _ hc hf) (by decide) rfl (by
    intro k hk
    match k, hk with
    | 0, _ => simp
    | 1, _ => simp
    | 2, _ => simp
    | 3, _ => simp)
end Go.Proofs.YtmcjnfghlpnghaaDoor
