/- Regions that draw their order whose operations read, and whose callees make at most new memory; slices of bools. -/
import Derived.Test.YtlbgocgocanloaaGreatDoorf4A1
import Derived.Deep.DeepMust
import Derived.Outline
namespace Go.Proofs.YtlbgocgocanloaaGreatDoor
open Go.RowKit
instance xtNonempty (w : World) : Nonempty (Xt w) := ⟨⟨w, Below.refl _ _⟩⟩
theorem lt_of_cell {w : World} {p : Addr} {v : Value} (h : w.cell? p = some v) : p.block < w.heap.size := World.block_lt_of_cell? w p h
theorem Xt.cell {w : World} (x : Xt w) {p : Addr} {v : Value} (h : w.cell? p = some v) : x.1.cell? p = some v :=
  (x.2.cell (lt_of_cell h)).trans h
theorem kept {w w' : World} (hb : Below w.heap.size w w') {p : Addr} {v : Value} (h : w.cell? p = some v) : w'.cell? p = some v :=
  (hb.cell (lt_of_cell h)).trans h
theorem keptB {B : Nat} {w w' : World} (hb : Below B w w') {p : Addr} {v : Value} (hp : p.block < B) (h : w.cell? p = some v) : w'.cell? p = some v :=
  (hb.cell hp).trans h
theorem thenB {w w1 w2 : World} (h1 : Below w.heap.size w w1) (h2 : Below w1.heap.size w1 w2) : Below w.heap.size w w2 :=
  h1.trans (h2.mono h1.size)
theorem wp_region_xt {P : Program} {id : Nat} {Q : Exit → Act → World → Prop} {a : Act} {w : World} {l : List Oper} (hm : P.follows .mixedOrders = true) (hB : Region.lexB .any l.toArray = true)
    (h : wpQuiet P l.toArray (fun w' => ∃ x : Xt w, w' = x.1) (fun a' => ∀ w', (∃ x : Xt w, w' = x.1) → Q .normal a' w') l a) : (Code.region id l.toArray true).wp P Q a w :=
  wp_region_quiet (C := fun w' => ∃ x : Xt w, w' = x.1) hm hB ⟨⟨w.drew, (Below.refl _ _).drew⟩, rfl⟩ (by simpa using h)
theorem Xt.calls {P : Program} {f : FuncId} {args : Array Value} {w : World} {x : Xt w} {v : Value}
    (h : Calls P f args x.1 fun e w' => e = .returned v ∧ Below x.1.heap.size x.1 w') : Calls P f args x.1 fun e w'' => e = .returned v ∧ ∃ y : Xt w, w'' = y.1 :=
  h.mono fun _ w' ⟨he, hm⟩ => ⟨he, ⟨w', thenB x.2 hm⟩, rfl⟩
theorem Xt.calls_same {P : Program} {f : FuncId} {args : Array Value} {w : World} {x : Xt w} {v : Value}
    (h : Calls P f args x.1 fun e w' => e = .returned v ∧ x.1 = w') : Calls P f args x.1 fun e w'' => e = .returned v ∧ ∃ y : Xt w, w'' = y.1 :=
  h.mono fun _ _ ⟨he, hm⟩ => ⟨he, x, hm.symm⟩
theorem Xt.below {w w' : World} (h : ∃ x : Xt w, w' = x.1) : Below w.heap.size w w' := by
  obtain ⟨x, rfl⟩ := h; exact x.2
def idxGo {α : Type} (p : α → Bool) : List α → Nat → Int
  | [], _ => -1
  | a :: l, k => if p a then k else idxGo p l (k + 1)
theorem idxGo_nonneg {α : Type} (p : α → Bool) (l : List α) (k : Nat) : decide (0 ≤ idxGo p l k) = l.any p := by
  induction l generalizing k with
  | nil => simp [idxGo]
  | cons a l ih =>
    unfold idxGo
    by_cases h : p a = true
    · simp [h]
    · simp only [if_neg h, ih, List.any_cons]
      simp only [Bool.not_eq_true] at h
      simp [h]
theorem drop_at {α : Type} (l : List α) (d : α) (k : Nat) (h : k < l.length) : l.drop k = (l[k]?.getD d) :: l.drop (k + 1) := by
  rw [List.drop_eq_getElem_cons h]; simp [h]
theorem Rd.at_ {w : World} {B : Nat} {A : Option Addr} {xs : List Value} (h : Rd w B A xs) {k : Nat} {u : Value} (hk : xs[k]? = some u) :
    ∃ b off, A = some ⟨b, off, none⟩ ∧ b < B ∧ w.cell? ⟨b, off + k, none⟩ = some u := h k u hk
theorem Rd.below {w w' : World} {B : Nat} {A : Option Addr} {xs : List Value} (h : Rd w B A xs) (hb : Below B w w') : Rd w' B A xs := fun k u hk => by
  obtain ⟨b, off, hA, hB, hc⟩ := h k u hk
  exact ⟨b, off, hA, hB, (hb.cell (p := ⟨b, off + k, none⟩) hB).trans hc⟩
theorem Rd.keep {w w' : World} {B : Nat} {A : Option Addr} {xs : List Value} (h : Rd w B A xs) (hb : Below w.heap.size w w') : Rd w' B A xs := fun k u hk => by
  obtain ⟨b, off, hA, hB, hc⟩ := h k u hk
  exact ⟨b, off, hA, hB, kept hb hc⟩
theorem Rd.mono {w : World} {B B' : Nat} {A : Option Addr} {xs : List Value} (h : Rd w B A xs) (hB : B ≤ B') : Rd w B' A xs := fun k u hk => by
  obtain ⟨b, off, hA, hb, hc⟩ := h k u hk
  exact ⟨b, off, hA, by omega, hc⟩
/-- slices.Index at []bool -/
theorem IndexBools_any (A : Option Addr) (n c B : Nat) (l : List Bool) (v : Bool) (w : World) (hn : n ≤ 1000000000) (hl : l.length = n) (h : Rd w B A (l.map .bool)) :
    Calls Tryz.prog 135 #[.slice A n c, .bool v] w fun e w' => e = .returned (.int .i64 (idxGo (v == ·) l 0)) ∧ w = w' := by
  have HL := Lib.hid hl; clear hl
  go_enter Tryz.func135, Tryz.ntmps135
  go_wp2
  go_loop [5, 8] (fun _ i => ∃ k : Nat, k ≤ n ∧ i = .int .i64 k ∧ idxGo (v == ·) (l.drop k) k = idxGo (v == ·) l 0) (fun _ i => n - (intOf i).toNat)
  case atStart => exact ⟨0, Nat.zero_le _, rfl, rfl⟩
  case round =>
    obtain ⟨k, hk, rfl, he⟩ := hrel
    have HE := Lib.hid he; clear he
    by_cases hlt : k < n
    · have hkl : k < l.length := by rw [HL.out]; exact hlt
      obtain ⟨b, off, rfl, _, hc⟩ := h.at_ (k := k) (u := .bool (l[k]?.getD false)) (by simp [hkl])
      have HS := Lib.hid (drop_at l false k hkl)
      clear hkl
      cases hz : (v == l[k]?.getD false)
      · have HZ := Lib.hid hz
        go_wp2
        go_round
        case rel => exact ⟨k + 1, by omega, by go_num, by rw [← HE.out, HS.out, idxGo]; simp [HZ.out]⟩
        case measure => simp [intOf]; omega
      · have HZ := Lib.hid hz
        go_wp2
        go_ret
        exact ⟨by rw [← HE.out, HS.out, idxGo, HZ.out]; rfl, rfl⟩
    · go_wp2
      go_ret
      have : l.drop k = [] := by rw [List.drop_eq_nil_iff]; rw [HL.out]; omega
      exact ⟨by rw [← HE.out, this]; rfl, rfl⟩
/-- is one of them so -/
def hasB (l : List Bool) (v : Bool) : Bool := l.any (v == ·)
/-- slices.Contains at []bool -/
theorem ContainsBools_any (A : Option Addr) (n c B : Nat) (l : List Bool) (v : Bool) (w : World) (hn : n ≤ 1000000000) (hl : l.length = n) (h : Rd w B A (l.map .bool)) :
    Calls Tryz.prog 103 #[.slice A n c, .bool v] w fun e w' => e = .returned (.bool (hasB l v)) ∧ w = w' := by
  go_enter Tryz.func103, Tryz.ntmps103
  go_wp2_with (go_at_call 135; refine (IndexBools_any A n c B l v _ hn hl h).mono ?_; rintro e w' ⟨rfl, rfl⟩)
  go_ret
  exact ⟨by unfold hasB; rw [← idxGo_nonneg _ l 0]; rfl, rfl⟩
end Go.Proofs.YtlbgocgocanloaaGreatDoor
