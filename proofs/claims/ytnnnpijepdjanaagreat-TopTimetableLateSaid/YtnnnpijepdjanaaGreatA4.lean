/- The reference of nets: errors of events and activities. -/
import Derived.Test.YtnnnpijepdjanaaGreatA3
import Derived.Test.YtnnnpijepdjanaaGreatT4
namespace Go.Proofs.YtnnnpijepdjanaaGreat
open Go.RowKit

def actVals (a : Act) : List Value := [.int .i64 a.kind, .int .i64 a.src, .int .i64 a.dst, .int .i64 a.least, .int .i64 a.most, .int .i64 a.wait]
def actCells (l : List Act) : List Value := l.flatMap actVals
def netV (Ae : Option Addr) (ne ce : Nat) (Aa : Option Addr) (na ca : Nat) : Value := .agg #[.slice Ae ne ce, .slice Aa na ca]
def evtE (m : Nat) (i : Int) : Int := if withinB i 0 ((m : Int) - 1) = true then 0 else 6
theorem actCells_cons (x : Act) (l : List Act) : actCells (x :: l) = actVals x ++ actCells l := by simp [actCells]
theorem actCells_len : ∀ l : List Act, (actCells l).length = l.length * 6
  | [] => rfl
  | x :: l => by
    rw [actCells_cons, List.length_append, actCells_len l, List.length_cons]
    simp [actVals]
    omega
theorem actCells_at : ∀ (l : List Act) (k : Nat) (x : Act), l[k]? = some x → ∀ j u, (actVals x)[j]? = some u → (actCells l)[k * 6 + j]? = some u
  | [], k, x, h, _, _, _ => by simp at h
  | y :: l, 0, x, h, j, u, hu => by
    simp at h
    subst h
    have hj : j < (actVals y).length := (List.getElem?_eq_some_iff.1 hu).1
    rw [actCells_cons, Nat.zero_mul, Nat.zero_add, List.getElem?_append_left hj]
    exact hu
  | y :: l, k + 1, x, h, j, u, hu => by
    have h' : l[k]? = some x := by simpa using h
    rw [actCells_cons, List.getElem?_append_right (by simp [actVals]; omega)]
    have e : (k + 1) * 6 + j - (actVals y).length = k * 6 + j := by simp [actVals]; omega
    rw [e]
    exact actCells_at l k x h' j u hu
/-- an activity behind an address -/
theorem Rd.act {w : World} {B : Nat} {A : Option Addr} {l : List Act} (h : Rd w B A (actCells l)) {k : Nat} {x : Act} (hk : l[k]? = some x) :
    ∃ b off, A = some ⟨b, off, none⟩ ∧ b < B ∧ w.cell? ⟨b, off + k * 6, none⟩ = some (.int .i64 x.kind) ∧ w.cell? ⟨b, off + k * 6 + 1, none⟩ = some (.int .i64 x.src) ∧ w.cell? ⟨b, off + k * 6 + 2, none⟩ = some (.int .i64 x.dst) ∧
      w.cell? ⟨b, off + k * 6 + 3, none⟩ = some (.int .i64 x.least) ∧ w.cell? ⟨b, off + k * 6 + 4, none⟩ = some (.int .i64 x.most) ∧ w.cell? ⟨b, off + k * 6 + 5, none⟩ = some (.int .i64 x.wait) := by
  have hat := actCells_at l k x hk
  obtain ⟨b, off, rfl, hb, c0⟩ := h (k * 6 + 0) _ (hat 0 _ rfl)
  have go : ∀ j u, (actVals x)[j]? = some u → w.cell? ⟨b, off + (k * 6 + j), none⟩ = some u := fun j u hu => by
    obtain ⟨b', off', e, _, c⟩ := h (k * 6 + j) u (hat j u hu)
    cases e
    exact c
  exact ⟨b, off, rfl, hb, by simpa using c0, go 1 _ rfl, go 2 _ rfl, go 3 _ rfl, go 4 _ rfl, go 5 _ rfl⟩

theorem EventErr_any (w : World) (Ae : Option Addr) (ne ce : Nat) (Aa : Option Addr) (na ca : Nat) (i : Int) (hn : ne ≤ 1000000000) :
    Calls Tryz.prog 23 #[netV Ae ne ce Aa na ca, .int .i64 i] w fun e w' => e = .returned (.int .i64 (evtE ne i)) ∧ Below w.heap.size w w' := by
  unfold netV
  obtain ⟨b, hb⟩ : ∃ b, withinB i 0 ((ne : Int) - 1) = b := ⟨_, rfl⟩
  have W := fun W => Within_val i 0 ((ne : Int) - 1) b hb W
  have HV : Hid (evtE ne i = if b = true then 0 else 6) := by rw [Hid, evtE, hb]
  clear hb
  cases b
  all_goals
    go_enter Tryz.func23, Tryz.ntmps23
    go_wp2_with (go_at_call 24; refine (W _).mono ?_; rintro e w' ⟨rfl, rfl⟩)
    go_ret
    exact ⟨by rw [HV.out]; rfl, (Below.refl _ _).alloc (Nat.le_refl _) _⟩
theorem EventErr_val (w : World) (Ae : Option Addr) (ne ce : Nat) (Aa : Option Addr) (na ca : Nat) (i E : Int) (hE : evtE ne i = E) (hn : ne ≤ 1000000000) :
    Calls Tryz.prog 23 #[netV Ae ne ce Aa na ca, .int .i64 i] w fun e w' => e = .returned (.int .i64 E) ∧ Below w.heap.size w w' := by
  rw [← hE]
  exact EventErr_any w Ae ne ce Aa na ca i hn
end Go.Proofs.YtnnnpijepdjanaaGreat
