/- Arguments opened: events, and the cars of a train. -/
import Derived.Test.YtlbgocgocanloaaGreatDoorf5FT
import Derived.Test.YtlbgocgocanloaaGreatDoorf5T12
import Derived.Test.YtlbgocgocanloaaGreatDoorf4D4
import Derived.Deep.Slices
import Derived.Deep.Strs
import Derived.ChangeSame
import Derived.Test.YtlbgocgocanloaaGreatDoorf5Z1
namespace Go.Proofs.YtlbgocgocanloaaGreatDoor
open Go.ChangeShapes Go.WideShapes Go.Deep Go.RowKit Go Go.Joins
theorem list_of_all {α : Type} {p : Nat → α → Prop} : ∀ (n : Nat), (∀ i, i < n → ∃ a, p i a) → ∃ l : List α, l.length = n ∧ ∀ i a, l[i]? = some a → p i a
  | 0, _ => ⟨[], rfl, fun i a h => by simp at h⟩
  | n + 1, h => by
    obtain ⟨l, hl, hp⟩ := list_of_all (p := p) n fun i hi => h i (by omega)
    obtain ⟨a, ha⟩ := h n (by omega)
    refine ⟨l ++ [a], by simp [hl], fun i b hb => ?_⟩
    rcases Nat.lt_or_ge i n with hi | hi
    · exact hp i b (by rwa [List.getElem?_append_left (by omega)] at hb)
    · rw [List.getElem?_append_right (by omega), hl] at hb
      rcases hm : i - n with _ | m
      · rw [hm] at hb
        obtain rfl : a = b := by simpa using hb
        obtain rfl : i = n := by omega
        exact ha
      · rw [hm] at hb
        simp at hb
theorem flat_at {α : Type} {cells : α → List Value} {k : Nat} (hk : ∀ a, (cells a).length = k) : ∀ (l : List α) (j : Nat) (u : Value), (l.flatMap cells)[j]? = some u → ∃ i r a, l[i]? = some a ∧ (cells a)[r]? = some u ∧ j = i * k + r ∧ r < k
  | [], j, u, h => by simp at h
  | a :: l, j, u, h => by
    rw [List.flatMap_cons] at h
    rcases Nat.lt_or_ge j k with hj | hj
    · rw [List.getElem?_append_left (by rw [hk]; exact hj)] at h
      exact ⟨0, j, a, rfl, h, by omega, hj⟩
    · rw [List.getElem?_append_right (by rw [hk]; exact hj), hk] at h
      obtain ⟨i, r, b, h1, h2, h3, h4⟩ := flat_at hk l (j - k) u h
      exact ⟨i + 1, r, b, by simpa using h1, h2, by rw [Nat.add_mul, Nat.one_mul]; omega, h4⟩
theorem add_none {a : Addr} (h : a.spot = none) (n : Nat) : a.add n = ⟨a.block, a.off + n, none⟩ := by
  unfold Addr.add
  split
  · rename_i h0
    subst h0
    rw [← h]
    rfl
  · rfl
section
variable {H : Type} {enc : TypeId × Value → H} {w : World} {base : Nat} {spare : Nat → Bool} {held : Bool}
/-- a slice of elements of k cells each, all of a kind -/
theorem open_rowsP {α : Type} {P : Program} (cells : α → List Value) (K : α → Prop) {t e : TypeId} {k fuel : Nat} {cs : List Value} {x : DataW H × List MemPlace} (ht : P.underlying t = some (.slice e)) (hc : P.cellsOf e = k) (hlen : ∀ a, (cells a).length = k)
    (hel : ∀ n cs' y, DataW.trod enc P w base spare held n e cs' = some y → ∃ a, cs' = cells a ∧ K a) (h : DataW.trod enc P w base spare held fuel t cs = some x) :
    ∃ A n c, ∃ l : List α, cs = [.slice A n c] ∧ l.length = n ∧ n ≤ maxLen ∧ Rd w w.heap.size A (l.flatMap cells) ∧ ∀ a ∈ l, K a := by
  rcases open_slice ht h with ⟨rfl, _⟩ | ⟨a, len, cap, m, n, D, Pl, rfl, hb, hl, hm, hmm, _, hx⟩
  · exact ⟨none, 0, 0, [], rfl, rfl, Nat.zero_le _, fun k u hk => by simp at hk, fun a ha => by simp at ha⟩
  · have hlm : len ≤ m := by
      rw [hmm]
      split <;> omega
    obtain ⟨l, hl', hp'⟩ := list_of_all (p := fun i z => w.cells? base (a.add (i * k)) k = some (cells z) ∧ K z) len fun i hi => by
      obtain ⟨cs', h1, h2⟩ := hx i (by omega)
      obtain ⟨z, rfl, hK⟩ := hel _ _ _ h2
      rw [hc] at h1
      exact ⟨z, h1, hK⟩
    have hp : ∀ i z, l[i]? = some z → w.cells? base (a.add (i * k)) k = some (cells z) := fun i z h => (hp' i z h).1
    refine ⟨some a, len, cap, l, rfl, hl', by omega, fun j u hj => ?_, fun z hz => ?_⟩
    · obtain ⟨i, r, z, h1, h2, rfl, h4⟩ := flat_at hlen l j u hj
      obtain ⟨_, _, hat⟩ := World.cells?_some (hp i z h1)
      have hcell := (hat r h4).trans h2
      rw [add_add] at hcell
      have hspot : a.spot = none := by
        have hs := World.cell?_spot hcell
        unfold Addr.add at hs
        split at hs
        · exact hs
        · rename_i hne
          by_cases h0 : i = 0 ∧ r = 0
          · obtain ⟨rfl, rfl⟩ := h0
            simp at hne
          · obtain ⟨z0, hz0⟩ : ∃ z0, l[0]? = some z0 := by
              have : 0 < l.length := by
                have := (List.getElem?_eq_some_iff.1 h1).1
                omega
              exact ⟨_, List.getElem?_eq_getElem this⟩
            obtain ⟨_, _, hat0⟩ := World.cells?_some (hp 0 z0 hz0)
            have hk0 : 0 < k := by omega
            have h6 := hat0 0 hk0
            have h7 : (cells z0)[0]? = some ((cells z0)[0]'(by rw [hlen]; exact hk0)) := List.getElem?_eq_getElem _
            have h8 := World.cell?_spot (h6.trans h7)
            simpa [Addr.add] using h8
      rw [add_none hspot] at hcell
      obtain ⟨ab, ao, az⟩ := a
      simp only at hspot hcell
      subst hspot
      exact ⟨ab, ao, rfl, lt_of_cell hcell, hcell⟩
    · obtain ⟨i, hi⟩ := List.mem_iff_getElem?.1 hz
      exact (hp' i z hi).2
theorem ofc3 : Tryz.prog.cellsOf 3 = 1 := by kernel_rfl
end
end Go.Proofs.YtlbgocgocanloaaGreatDoor

/- The row of TopCareFoundAndMended: its arguments opened, its listed variables. -/
namespace Go.Proofs.YtlbgocgocanloaaGreatDoor
open Go.ChangeShapes Go.WideShapes Go.ChangeAt Go.Deep Go.RowKit Go Go.Joins
section
variable {H : Type} {enc : TypeId × Value → H} {w : World} {base : Nat} {spare : Nat → Bool} {held : Bool}
theorem open_agg2s {P : Program} {r : Reach} {b0 : Nat} {t : TypeId} {f0 f1 : Field} {v : Value} {d : DataW H} {p : List MemPlace} (hs : P.underlying t = some (.struct #[f0, f1])) (hone : oneCellFields P #[f0, f1] = true) (hC : P.cellsOf t = 2)
    (hv : Value.okWide P w r b0 t v) (h : DataW.Trod enc P w base spare held t v d p) :
    ∃ (v0 v1 : Value) (y0 y1 : DataW H × List MemPlace) (n : Nat), v = .agg #[v0, v1] ∧ DataW.trod enc P w base spare held n f0.type [v0] = some y0 ∧ DataW.trod enc P w base spare held n f1.type [v1] = some y1 := by
  obtain ⟨cs, rfl, hsz⟩ := okWide_struct hs hv
  obtain ⟨l⟩ := cs
  match l, hsz.trans hC with
  | [c0, c1], _ =>
    obtain ⟨fuel, hf⟩ := h
    obtain ⟨xs, n, _, hx, _, hlen, hg⟩ := DataW.trod_struct hs hf
    obtain ⟨o0, k0⟩ := hone_of hone 0 f0 rfl
    obtain ⟨o1, k1⟩ := hone_of hone 1 f1 rfl
    match xs, hlen with
    | [y0, y1], _ =>
      exact ⟨c0, c1, y0, y1, n, rfl, by simpa [Value.cells, o0, k0] using hg 0 f0 rfl, by simpa [Value.cells, o1, k1] using hg 1 f1 rfl⟩
theorem ofc148 : Tryz.prog.cellsOf 148 = 3 := by kernel_rfl
set_option maxRecDepth 100000 in
theorem open_reading {n : Nat} {cs : List Value} {y : DataW H × List MemPlace} (h : DataW.trod enc Tryz.prog w base spare held n 148 cs = some y) : ∃ e : Rg, cs = rgVals e ∧ True := by
  obtain ⟨y0, y1, y2, n, _, hl, h0, h1, h2⟩ := trod_struct3 Tryz.underlying148 h
  rw [ofc148] at hl
  match cs, hl with
  | [a, b, c], _ =>
    rw [ofc3] at h0 h1
    rw [cells4] at h2
    simp only [List.drop_zero, List.take_succ_cons, List.take_zero, List.drop_succ_cons] at h0 h1 h2
    obtain ⟨i, e0, _⟩ := DataW.trod_int Tryz.underlying3 h0
    obtain ⟨j, e1, _⟩ := DataW.trod_int Tryz.underlying3 h1
    obtain ⟨k, e2, _⟩ := DataW.trod_bool Tryz.underlying4 h2
    simp only [List.cons.injEq, and_true] at e0 e1 e2
    subst e0 e1 e2
    exact ⟨(i, j, k), rfl, trivial⟩
set_option maxRecDepth 100000 in
theorem open_record {r : Reach} {b0 : Nat} {v : Value} {d : DataW H} {p : List MemPlace} (hv : Value.okWide Tryz.prog w r b0 70 v) (h : DataW.Trod enc Tryz.prog w base spare held 70 v d p) :
    ∃ (bm : Int) (A : Option Addr) (n c : Nat) (l : List Rg), v = .agg #[.int .i64 bm, .slice A n c] ∧ n ≤ maxLen ∧ (l.length = n ∧ Rd w w.heap.size A (rgCells l)) := by
  obtain ⟨v0, v1, y0, y1, n, rfl, h0, h1⟩ := open_agg2s Tryz.underlying70 (by kernel_rfl) (by kernel_rfl) hv h
  obtain ⟨bm, e0, _⟩ := DataW.trod_int Tryz.underlying3 h0
  obtain ⟨A, n, c, l, e1, ll, ml, rl, _⟩ := open_rowsP (P := Tryz.prog) (k := 3) rgVals (fun _ => True) Tryz.underlying68 ofc148 (fun _ => rfl) (fun _ _ _ hy => open_reading hy) h1
  simp only [List.cons.injEq, and_true] at e0 e1
  subst e0 e1
  exact ⟨bm, A, n, c, l, rfl, ml, ll, rl⟩
end
theorem laidB_eq : Rows.topCareFoundAndMendedRow.laid = Rows.careTextsRow.laid := by rfl
end Go.Proofs.YtlbgocgocanloaaGreatDoor
