/- Arguments opened: events, and the cars of a train. -/
import Derived.Test.YtlbgocgocanloaaGreatDoorf4FT
import Derived.Test.YtlbgocgocanloaaGreatDoorf4T7
import Derived.Test.YtlbgocgocanloaaGreatDoorf4D4
import Derived.Deep.Slices
import Derived.Deep.Strs
import Derived.ChangeSame
namespace Go.Proofs.YtlbgocgocanloaaGreatDoor
open Go.ChangeShapes Go.WideShapes Go.Deep Go.RowKit Go Go.Joins
theorem list_of_all {α : Type} {p : Nat → α → Prop} : ∀ (n : Nat), (∀ i, i < n → ∃ a, p i a) → ∃ l : List α, l.length = n ∧ ∀ i a, l[i]? = some a → p i a
  | 0, _ => ⟨[], rfl, fun i a h => by simp at h⟩
  | n + 1, h => by
    obtain ⟨l, hl, hp⟩ := list_of_all (p := p) n fun i hi => h i (by omega)
    obtain ⟨a, ha⟩ := h n (by omega)
    refine ⟨l ++ [a], by simp [hl], fun i b hb => ?_⟩
    rcases Nat.lt_or_ge i n with hi | hi
    · exact hp i b (by rwa [List.getElem?_append_left (by omega)] at hb)
    · rw [List.getElem?_append_right (by omega), hl] at hb
      rcases hm : i - n with _ | m
      · rw [hm] at hb
        obtain rfl : a = b := by simpa using hb
        obtain rfl : i = n := by omega
        exact ha
      · rw [hm] at hb
        simp at hb
theorem flat_at {α : Type} {cells : α → List Value} {k : Nat} (hk : ∀ a, (cells a).length = k) : ∀ (l : List α) (j : Nat) (u : Value), (l.flatMap cells)[j]? = some u → ∃ i r a, l[i]? = some a ∧ (cells a)[r]? = some u ∧ j = i * k + r ∧ r < k
  | [], j, u, h => by simp at h
  | a :: l, j, u, h => by
    rw [List.flatMap_cons] at h
    rcases Nat.lt_or_ge j k with hj | hj
    · rw [List.getElem?_append_left (by rw [hk]; exact hj)] at h
      exact ⟨0, j, a, rfl, h, by omega, hj⟩
    · rw [List.getElem?_append_right (by rw [hk]; exact hj), hk] at h
      obtain ⟨i, r, b, h1, h2, h3, h4⟩ := flat_at hk l (j - k) u h
      exact ⟨i + 1, r, b, by simpa using h1, h2, by rw [Nat.add_mul, Nat.one_mul]; omega, h4⟩
theorem add_none {a : Addr} (h : a.spot = none) (n : Nat) : a.add n = ⟨a.block, a.off + n, none⟩ := by
  unfold Addr.add
  split
  · rename_i h0
    subst h0
    rw [← h]
    rfl
  · rfl
theorem i64_of {n : Int} (h : (Lit.int .i64 n).wf = true) : I64 n := by
  have : -9223372036854775808 ≤ n ∧ n ≤ 9223372036854775807 := by simpa [Lit.wf, IntKind.min, IntKind.max, IntKind.signed, IntKind.bits] using h
  exact this
section
variable {H : Type} {enc : TypeId × Value → H} {w : World} {base : Nat} {spare : Nat → Bool} {held : Bool}
/-- a slice of elements of k cells each, all of a kind -/
theorem open_rowsP {α : Type} {P : Program} (cells : α → List Value) (K : α → Prop) {t e : TypeId} {k fuel : Nat} {cs : List Value} {x : DataW H × List MemPlace} (ht : P.underlying t = some (.slice e)) (hc : P.cellsOf e = k) (hlen : ∀ a, (cells a).length = k)
    (hel : ∀ n cs' y, DataW.trod enc P w base spare held n e cs' = some y → ∃ a, cs' = cells a ∧ K a) (h : DataW.trod enc P w base spare held fuel t cs = some x) :
    ∃ A n c, ∃ l : List α, cs = [.slice A n c] ∧ l.length = n ∧ n ≤ maxLen ∧ Rd w w.heap.size A (l.flatMap cells) ∧ ∀ a ∈ l, K a := by
  rcases open_slice ht h with ⟨rfl, _⟩ | ⟨a, len, cap, m, n, D, Pl, rfl, hb, hl, hm, hmm, _, hx⟩
  · exact ⟨none, 0, 0, [], rfl, rfl, Nat.zero_le _, fun k u hk => by simp at hk, fun a ha => by simp at ha⟩
  · have hlm : len ≤ m := by
      rw [hmm]
      split <;> omega
    obtain ⟨l, hl', hp'⟩ := list_of_all (p := fun i z => w.cells? base (a.add (i * k)) k = some (cells z) ∧ K z) len fun i hi => by
      obtain ⟨cs', h1, h2⟩ := hx i (by omega)
      obtain ⟨z, rfl, hK⟩ := hel _ _ _ h2
      rw [hc] at h1
      exact ⟨z, h1, hK⟩
    have hp : ∀ i z, l[i]? = some z → w.cells? base (a.add (i * k)) k = some (cells z) := fun i z h => (hp' i z h).1
    refine ⟨some a, len, cap, l, rfl, hl', by omega, fun j u hj => ?_, fun z hz => ?_⟩
    · obtain ⟨i, r, z, h1, h2, rfl, h4⟩ := flat_at hlen l j u hj
      obtain ⟨_, _, hat⟩ := World.cells?_some (hp i z h1)
      have hcell := (hat r h4).trans h2
      rw [add_add] at hcell
      have hspot : a.spot = none := by
        have hs := World.cell?_spot hcell
        unfold Addr.add at hs
        split at hs
        · exact hs
        · rename_i hne
          by_cases h0 : i = 0 ∧ r = 0
          · obtain ⟨rfl, rfl⟩ := h0
            simp at hne
          · obtain ⟨z0, hz0⟩ : ∃ z0, l[0]? = some z0 := by
              have : 0 < l.length := by
                have := (List.getElem?_eq_some_iff.1 h1).1
                omega
              exact ⟨_, List.getElem?_eq_getElem this⟩
            obtain ⟨_, _, hat0⟩ := World.cells?_some (hp 0 z0 hz0)
            have hk0 : 0 < k := by omega
            have h6 := hat0 0 hk0
            have h7 : (cells z0)[0]? = some ((cells z0)[0]'(by rw [hlen]; exact hk0)) := List.getElem?_eq_getElem _
            have h8 := World.cell?_spot (h6.trans h7)
            simpa [Addr.add] using h8
      rw [add_none hspot] at hcell
      obtain ⟨ab, ao, az⟩ := a
      simp only at hspot hcell
      subst hspot
      exact ⟨ab, ao, rfl, lt_of_cell hcell, hcell⟩
    · obtain ⟨i, hi⟩ := List.mem_iff_getElem?.1 hz
      exact (hp' i z hi).2
def evVals (e : Ev) : List Value := [.int .i64 e.1, .int .i64 e.2.1, .int .i64 e.2.2]
theorem ofc23 : Tryz.prog.cellsOf 23 = 3 := by kernel_rfl
theorem ofc3 : Tryz.prog.cellsOf 3 = 1 := by kernel_rfl
set_option maxRecDepth 100000 in
theorem open_ev {n : Nat} {cs : List Value} {y : DataW H × List MemPlace} (h : DataW.trod enc Tryz.prog w base spare held n 23 cs = some y) : ∃ e : Ev, cs = evVals e ∧ I64 e.1 ∧ I64 e.2.1 ∧ I64 e.2.2 := by
  obtain ⟨y0, y1, y2, n, _, hl, h0, h1, h2⟩ := trod_struct3 Tryz.underlying23 h
  rw [ofc23] at hl
  match cs, hl with
  | [a, b, c], _ =>
    rw [ofc3] at h0 h1 h2
    simp only [List.drop_zero, List.take_succ_cons, List.take_zero, List.drop_succ_cons] at h0 h1 h2
    obtain ⟨i, e0, _, w0⟩ := DataW.trod_int Tryz.underlying3 h0
    obtain ⟨j, e1, _, w1⟩ := DataW.trod_int Tryz.underlying3 h1
    obtain ⟨k, e2, _, w2⟩ := DataW.trod_int Tryz.underlying3 h2
    simp only [List.cons.injEq, and_true] at e0 e1 e2
    subst e0 e1 e2
    exact ⟨(i, j, k), rfl, i64_of w0, i64_of w1, i64_of w2⟩
theorem open_evs {fuel : Nat} {cs : List Value} {x : DataW H × List MemPlace} (h : DataW.trod enc Tryz.prog w base spare held fuel 43 cs = some x) :
    ∃ A n c, ∃ l : List Ev, cs = [.slice A n c] ∧ l.length = n ∧ n ≤ maxLen ∧ Rd w w.heap.size A (evCells l) ∧ ∀ x ∈ l, I64 x.1 ∧ I64 x.2.1 ∧ I64 x.2.2 :=
  open_rowsP (P := Tryz.prog) (k := 3) evVals _ Tryz.underlying43 ofc23 (fun _ => rfl) (fun _ _ _ hy => open_ev hy) h
theorem flat_ints : ∀ l : List Int, l.flatMap (fun n : Int => [Value.int .i64 n]) = intCells l
  | [] => rfl
  | a :: l => by rw [List.flatMap_cons, flat_ints l]; rfl
theorem open_ints {fuel : Nat} {cs : List Value} {x : DataW H × List MemPlace} (h : DataW.trod enc Tryz.prog w base spare held fuel 44 cs = some x) :
    ∃ A n c, ∃ l : List Int, cs = [.slice A n c] ∧ l.length = n ∧ n ≤ maxLen ∧ Rd w w.heap.size A (intCells l) := by
  obtain ⟨A, n, c, l, h1, h2, h3, h4, _⟩ := open_rowsP (P := Tryz.prog) (k := 1) (fun n : Int => [Value.int .i64 n]) (fun _ => True) Tryz.underlying44 ofc3 (fun _ => rfl) (fun n cs' y hy => by
    obtain ⟨b, hb, _⟩ := DataW.trod_int Tryz.underlying3 hy
    exact ⟨b, hb, trivial⟩) h
  refine ⟨A, n, c, l, h1, h2, h3, ?_⟩
  rw [← flat_ints]
  exact h4
end
end Go.Proofs.YtlbgocgocanloaaGreatDoor

/- The row of TopCareAllOut: its listed variables, and worlds in which they lie so. -/
namespace Go.Proofs.YtlbgocgocanloaaGreatDoor
open Go.ChangeShapes Go.WideShapes Go.ChangeAt Go.RowKit Go
/-- the plain variables of the row -/
def plainA : List (String × DataW Unit) := [("math/bits.deBruijn32tab", Rows.laid_math_bits_deBruijn32tab), ("math/bits.deBruijn64tab", Rows.laid_math_bits_deBruijn64tab), ("internal/strconv.uint64pow10", Rows.laid_internal_strconv_uint64pow10), ("strconv.ErrRange", Rows.laid_strconv_ErrRange), ("strconv.ErrSyntax", Rows.laid_strconv_ErrSyntax)]
noncomputable def worldA (os : Os) : World := (World.doorLaid Tryz.prog 600 os).layVars Tryz.prog plainA
theorem laidA_eq : Rows.topCareAllOutRow.laid = [("math/bits.deBruijn32tab", Rows.laid_math_bits_deBruijn32tab), ("math/bits.deBruijn64tab", Rows.laid_math_bits_deBruijn64tab), ("internal/strconv.uint64pow10", Rows.laid_internal_strconv_uint64pow10), ("strconv.ErrRange", Rows.laid_strconv_ErrRange), ("strconv.ErrSyntax", Rows.laid_strconv_ErrSyntax), ("guideway/care.kinds", Rows.laid_guideway_care_kinds)] := by rfl
theorem filterA : (Rows.topCareAllOutRow.laid.filter fun x => x.2.handleName?.isNone) = plainA := by rfl
theorem worldA_met (os : Os) (args : Array Value) : laidMetH Tryz.prog Rows.topCareAllOutRow.laid ((worldA os).forCall (fun _ _ => 0) ⟨#[], args, []⟩).memory :=
  laidMetH_of_parts3 (fuel := 8) (by rw [filterA]; exact laidMet_over args (by kernel_rfl) (by kernel_rfl)) (by kernel_rfl) (by kernel_rfl)
theorem txtA {W : World} (h : laidMetH Tryz.prog Rows.topCareAllOutRow.laid W) (hs : W.ShapedOpen Tryz.prog) : TxtAt W := by
  have hm : ("guideway/care.kinds", Rows.laid_guideway_care_kinds) ∈ Rows.topCareAllOutRow.laid := by rw [laidA_eq]; simp
  have hp := plain_of_laid h hm filterA
  exact txt_of_parts (kinds_of_laid h hm) hp.tail.tail hp.tail.tail.tail hp.tail.tail.tail.tail hs
end Go.Proofs.YtlbgocgocanloaaGreatDoor
