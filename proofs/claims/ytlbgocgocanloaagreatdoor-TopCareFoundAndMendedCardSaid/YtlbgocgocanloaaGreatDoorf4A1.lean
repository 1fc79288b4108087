/- Leaf functions of package care: within, unless, first, places, doors. -/
import Derived.Test.YtlbgocgocanloaaGreatDoorProg
import Derived.WalkKit
import Derived.WalkLawsBesides
import Derived.WalkSpells
import Derived.Handy
import Derived.Lib.Hide
import Derived.Deep.LoopGhost
import Derived.Deep.QuietTactic
import Derived.BigQuiet
import Derived.StillTailTactics
namespace Go.Proofs.YtlbgocgocanloaaGreatDoor
open Go.RowKit
def withinB (n lo hi : Int) : Bool := decide (lo ≤ n) && decide (n ≤ hi)
def unlessE (b : Bool) (e : Int) : Int := bif b then 0 else e
def firstE : List Int → Int
  | [] => 0
  | a :: l => if a = 0 then firstE l else a
/-- The worlds in which all that lay in w lies as it lay. -/
def Xt (w : World) := { w' : World // Below w.heap.size w w' }
/-- the cells behind an address hold xs -/
def Rd (w : World) (B : Nat) (A : Option Addr) (xs : List Value) : Prop :=
  ∀ k u, xs[k]? = some u → ∃ b off, A = some ⟨b, off, none⟩ ∧ b < B ∧ w.cell? ⟨b, off + k, none⟩ = some u
theorem within_any (n lo hi : Int) (w : World) :
    Calls Tryz.prog 41 #[.int .i64 n, .int .i64 lo, .int .i64 hi] w fun e w' => e = .returned (.bool (withinB n lo hi)) ∧ w = w' := by
  by_cases h1 : lo ≤ n <;> by_cases h2 : n ≤ hi
  all_goals
    go_enter Tryz.func41, Tryz.ntmps41
    go_wp2
    go_ret
    exact ⟨by simp [withinB, h1, h2], rfl⟩
theorem unless_any (b : Bool) (x : Int) (w : World) :
    Calls Tryz.prog 62 #[.bool b, .int .i64 x] w fun e w' => e = .returned (.int .i64 (unlessE b x)) ∧ w = w' := by
  cases b
  all_goals
    go_enter Tryz.func62, Tryz.ntmps62
    go_wp2
    go_ret
    exact ⟨by simp [unlessE], rfl⟩
def isPlaceB (n : Int) : Bool := withinB n 0 1000000000
def placeE (n : Int) : Int := unlessE (isPlaceB n) 2
theorem isPlace_any (n : Int) (w : World) :
    Calls Tryz.prog 99 #[.int .i64 n] w fun e w' => e = .returned (.bool (isPlaceB n)) ∧ w = w' := by
  go_enter Tryz.func99, Tryz.ntmps99
  go_wp2_with (go_at_call 41; refine (within_any _ _ _ _).mono ?_; rintro e w' ⟨rfl, rfl⟩)
  go_ret
  exact ⟨rfl, rfl⟩
theorem placeErr_any (n : Int) (w : World) :
    Calls Tryz.prog 98 #[.int .i64 n] w fun e w' => e = .returned (.int .i64 (placeE n)) ∧ w = w' := by
  go_enter Tryz.func98, Tryz.ntmps98
  go_wp2_with (first
    | (go_at_call 99; refine (isPlace_any _ _).mono ?_; rintro e w' ⟨rfl, rfl⟩)
    | (go_at_call 62; refine (unless_any _ _ _).mono ?_; rintro e w' ⟨rfl, rfl⟩))
  go_ret
  exact ⟨rfl, rfl⟩
theorem first_any (g n : Nat) (l : List Int) (w : World) (hn : n ≤ 1000) (hl : l.length = n)
    (h : ∀ k, k < n → w.cell? ⟨g, k, none⟩ = some (.int .i64 (l[k]?.getD 0))) :
    Calls Tryz.prog 61 #[.slice (some ⟨g, 0, none⟩) n n] w fun e w' => e = .returned (.int .i64 (firstE l)) ∧ w = w' := by
  have HL := Lib.hid hl; clear hl
  go_enter Tryz.func61, Tryz.ntmps61
  go_wp2
  go_loop [4, 7] (fun _ i => ∃ k : Nat, k ≤ n ∧ i = .int .i64 k ∧ firstE (l.drop k) = firstE l) (fun _ i => n - (intOf i).toNat)
  case atStart => exact ⟨0, Nat.zero_le _, rfl, rfl⟩
  case round =>
    obtain ⟨k, hk, rfl, he⟩ := hrel
    have HE := Lib.hid he; clear he
    by_cases hlt : k < n
    · have hc := h k hlt
      have hs : l.drop k = (l[k]?.getD 0) :: l.drop (k + 1) := by
        have : k < l.length := by rw [HL.out]; exact hlt
        rw [List.drop_eq_getElem_cons this]; simp [this]
      have HS := Lib.hid hs; clear hs
      by_cases hz : l[k]?.getD 0 = 0
      · have hz' : (l[k]?.getD 0 != 0) = false := by simp [hz]
        have HZ := Lib.hid hz; clear hz
        go_wp2
        go_round
        case rel => exact ⟨k + 1, by omega, by go_num, by rw [← HE.out, HS.out, firstE, if_pos HZ.out]⟩
        case measure => simp [intOf]; omega
      · have hz' : (l[k]?.getD 0 != 0) = true := by simp [hz]
        have HZ := Lib.hid hz; clear hz
        go_wp2
        go_ret
        exact ⟨by rw [← HE.out, HS.out, firstE, if_neg HZ.out]; rfl, rfl⟩
    · go_wp2
      go_ret
      have : l.drop k = [] := by rw [List.drop_eq_nil_iff]; rw [HL.out]; omega
      exact ⟨by rw [← HE.out, this]; rfl, rfl⟩
theorem first2 (w : World) (a b : Int) :
    Calls Tryz.prog 61 #[.slice (some ⟨w.heap.size, 0, none⟩) 2 2] (w.alloc (.cells #[.int .i64 a, .int .i64 b] 29)) fun e w' =>
      e = .returned (.int .i64 (firstE [a, b])) ∧ w.alloc (.cells #[.int .i64 a, .int .i64 b] 29) = w' :=
  first_any _ 2 [a, b] _ (by decide) rfl (by
    intro k hk
    match k, hk with
    | 0, _ => simp
    | 1, _ => simp)
theorem first3 (w : World) (a b c : Int) :
    Calls Tryz.prog 61 #[.slice (some ⟨w.heap.size, 0, none⟩) 3 3] (w.alloc (.cells #[.int .i64 a, .int .i64 b, .int .i64 c] 29)) fun e w' =>
      e = .returned (.int .i64 (firstE [a, b, c])) ∧ w.alloc (.cells #[.int .i64 a, .int .i64 b, .int .i64 c] 29) = w' :=
  first_any _ 3 [a, b, c] _ (by decide) rfl (by
    intro k hk
    match k, hk with
    | 0, _ => simp
    | 1, _ => simp
    | 2, _ => simp)
def doorsE (d t s : Int) : Int := unlessE (withinB d 1 6 && isPlaceB t && withinB s 0 5000) 2
theorem CheckDoors_any (d t s : Int) (w : World) :
    Calls Tryz.prog 97 #[.agg #[.int .i64 d, .int .i64 t, .int .i64 s]] w fun e w' => e = .returned (.int .i64 (doorsE d t s)) ∧ Below w.heap.size w w' := by
  cases h1 : withinB d 1 6 <;> cases h2 : isPlaceB t
  all_goals
    go_enter Tryz.func97, Tryz.ntmps97
    go_wp2_with (first
      | (go_at_call 41; refine (within_any _ _ _ _).mono ?_; rintro e w' ⟨rfl, rfl⟩)
      | (go_at_call 99; refine (isPlace_any _ _).mono ?_; rintro e w' ⟨rfl, rfl⟩)
      | (go_at_call 62; refine (unless_any _ _ _).mono ?_; rintro e w' ⟨rfl, rfl⟩))
    go_ret
    exact ⟨by simp [doorsE, h1, h2], (Below.refl _ _).alloc (Nat.le_refl _) _⟩
end Go.Proofs.YtlbgocgocanloaaGreatDoor
