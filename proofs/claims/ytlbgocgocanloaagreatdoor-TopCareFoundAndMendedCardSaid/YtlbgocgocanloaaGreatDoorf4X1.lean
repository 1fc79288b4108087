/- The reference: copies of lists of bools and of events. -/
import Derived.Test.YtlbgocgocanloaaGreatDoorf4C1
import Derived.Test.YtlbgocgocanloaaGreatDoorf4D4
import Derived.Deep.Upon
namespace Go.Proofs.YtlbgocgocanloaaGreatDoor
open Go.RowKit
/-- an append of a whole list to an empty slice of the call's own -/
theorem wpList_append_copy (w : World) {ops : Array Oper} {rest : List Oper} {o : Oper} {a : Act} {Q : Exit → Act → World → Prop} (hgd : o.guard = none) (s x : Operand) (t : TypeId)
    (ho : o.op = .call { callee := .builtin .append, args := #[s, x], argTypes := #[t, t] })
    (base : Nat) (e : TypeId) (i : TypeInfo) (z : Value) (size bytes : Nat) (ht : Tryz.prog.underlying t = some (.slice e)) (hi : Tryz.prog.info? e = some i) (hz : i.zero = some z)
    (hsize : i.size = size) (hby : i.bytes = bytes) (hzs : z.cells.size = size) (hsz : 0 < size)
    (g0 : Nat) (hs : a.eval s = .slice (some ⟨g0, 0, none⟩) 0 0) (hg0 : w.heap[g0]? = some (.cells #[] e (0, 0))) (hb0 : base ≤ g0)
    (B : Nat) (A : Option Addr) (m c : Nat) (news : List Value) (hx : a.eval x = .slice A m c) (hl : news.length = m * size) (hrd : Rd w B A news) (h1 : ∀ u ∈ news, u.oneCell' = true)
    (h63 : m ≤ maxLen) (hbytes : m * bytes ≤ 140737488355328) (hbase : base ≤ w.heap.size)
    (h : ∀ g cap w', w'.ownsRow base e size (.slice (some ⟨g, 0, none⟩) m cap) m news → w.grownBy w' (some g0) → (g0 = g ∨ g = w.heap.size) → wpList Tryz.prog ops Q rest (a.put o.dst (.slice (some ⟨g, 0, none⟩) m cap)) w') : wpList Tryz.prog ops Q (o :: rest) a w := by
  have hown : w.ownsRow base e size (.slice (some ⟨g0, 0, none⟩) 0 0) 0 [] := ⟨by simp, .inr ⟨g0, 0, #[], rfl, hb0, hg0, Nat.le_refl _, by simp [maxLen], by simp, by simp⟩⟩
  rcases Nat.eq_zero_or_pos m with rfl | hm
  · have hn : news = [] := by simpa using hl
    subst hn
    refine wpList_plain hgd fun K hK' => ?_
    have hr := run_append_nothing (P := Tryz.prog) w t t o.type e i ht hi (some ⟨g0, 0, none⟩) 0 0 (Nat.le_refl _) (.slice A 0 c) ?_
    · unfold Oper.wp
      simp [execOp, ho, resolve, invoke, builtin, hs, hx, hr, Result.andThen]
      exact hK' _ _ (h g0 0 w hown ⟨rfl, rfl, rfl, Nat.le_refl _, fun _ _ _ => rfl⟩ (.inl rfl))
    · rw [hsize]
      cases A with
      | none => exact Src.ofNil w ht c
      | some ad => exact Src.ofSlice w ht ad 0 c [] (by simp) (fun j u hu => by simp at hu) (fun u hu => by simp at hu)
  · have hlen : 0 < news.length := by rw [hl]; exact Nat.mul_pos hm hsz
    obtain ⟨b, off, rfl, _, _⟩ := hrd 0 _ (List.getElem?_eq_getElem hlen)
    refine wpList_append_lies w hgd s x t ho base e i z size bytes ht hi hz hsize hby hzs hsz (.slice (some ⟨g0, 0, none⟩) 0 0) 0 [] hs hown ⟨b, off, none⟩ m c news hx hl ?_ h1 hm (by omega) (by simpa using hbytes) hbase _ rfl ?_
    · intro j u hu
      obtain ⟨b', off', he, _, hc⟩ := hrd j u hu
      simp only [Option.some.injEq, Addr.mk.injEq, and_true] at he
      obtain ⟨rfl, rfl⟩ := he
      simp only [Addr.add]
      split
      · rename_i hj
        subst hj
        simpa using hc
      · exact hc
    · intro g cap w' hown' hgrow hat _
      simp only [Nat.zero_add, List.nil_append] at hown' ⊢
      refine h g cap w' hown' hgrow ?_
      rcases hat with h2 | h2
      · left
        simpa [Value.ownBlock] using h2
      · exact .inr h2
theorem info23 : (Tryz.prog.info? 23).map (fun i => (i.zero, i.size, i.bytes)) = some (some (.agg #[.int .i64 0, .int .i64 0, .int .i64 0]), 3, 24) := by kernel_rfl
def EvsPost (w : World) (l : List Ev) (n : Nat) (e : Ending) (w' : World) : Prop :=
  ∃ A c, e = .returned (.slice A n c) ∧ Rd w' w'.heap.size A (evCells l) ∧ Below w.heap.size w w'
theorem evCells_len (l : List Ev) : (evCells l).length = l.length * 3 := by
  induction l with
  | nil => rfl
  | cons a l ih =>
    have : evCells (a :: l) = [.int .i64 a.1, .int .i64 a.2.1, .int .i64 a.2.2] ++ evCells l := by simp [evCells]
    rw [this, List.length_append, ih]
    simp
    omega
theorem evCells_one (l : List Ev) : ∀ u ∈ evCells l, u.oneCell' = true := by
  intro u hu
  simp only [evCells, List.mem_flatMap] at hu
  obtain ⟨e, _, he⟩ := hu
  simp at he
  rcases he with rfl | rfl | rfl <;> rfl
theorem Rd_of_own {w : World} {B e size n g cap : Nat} {xs : List Value} (h : w.ownsRow B e size (.slice (some ⟨g, 0, none⟩) n cap) n xs) : Rd w w.heap.size (some ⟨g, 0, none⟩) xs := fun k u hk => by
  refine ⟨g, 0, rfl, (ownBlk h rfl).2.1, ?_⟩
  rw [Nat.zero_add, h.cellAt k (by rw [← h.1]; exact (List.getElem?_eq_some_iff.1 hk).1)]
  exact hk
set_option maxHeartbeats 1000000 in
theorem CopyEvents_any (w : World) (B : Nat) (A : Option Addr) (n c : Nat) (l : List Ev) (hl : l.length = n) (hn : n ≤ 1000000) (h : Rd w B A (evCells l)) (hB : B ≤ w.heap.size) :
    Calls Tryz.prog 22 #[.slice A n c] w (EvsPost w l n) := by
  obtain ⟨i1, hi1, hy0, hy1, hy2⟩ := info_parts info23
  have HL := Lib.hid hl
  have h' := h.below (((Below.refl _ _).alloc (Nat.le_refl _) (.cells #[] 23) : Below w.heap.size w (w.alloc (.cells #[] 23))).mono hB)
  have hb0 : Below w.heap.size w (w.alloc (.cells #[] 23)) := (Below.refl _ _).alloc (Nat.le_refl _) _
  clear hl
  go_enter Tryz.func22, Tryz.ntmps22
  go_wp2_with (at_builtin; refine stp ?_)
  unfold Stp
  refine wpList_append_copy _ rfl _ _ 43 rfl w.heap.size 23 i1 _ 3 24 Tryz.underlying43 hi1 hy0 hy1 hy2 rfl (by omega) w.heap.size rfl (by rw [heapq_alloc, if_pos rfl]) (Nat.le_refl _) B A n c (evCells l) rfl (by rw [evCells_len, HL.out]) h' (evCells_one l) (by simp only [maxLen]; omega) (by omega) (by simp) ?_
  intro g cap w1 hown hgrow _
  have hb1 : Below w.heap.size w w1 := hb0.grown hgrow (by simp) (fun k hk => by rw [← Option.some.inj hk]; exact Nat.le_refl _)
  have HR := Lib.hid (Rd_of_own hown)
  have HB := Lib.hid hb1
  clear hown hgrow hb0 hb1 h h'
  go_wp2
  go_ret
  exact ⟨_, _, rfl, HR.out, HB.out⟩
end Go.Proofs.YtlbgocgocanloaaGreatDoor
