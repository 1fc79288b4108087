/- A queue: a slice of whole numbers that is appended to at its end and cut at its head. -/
import Derived.Test.YtmcjnfghlpnghaaDoorC2
import Derived.ArgAppend
namespace Go.Proofs.YtmcjnfghlpnghaaDoor
open Go.RowKit

def QAt (w : World) (G gb : Nat) (v : Value) (q : List Nat) : Prop :=
  ∃ b off cap c, v = .slice (some ⟨b, off, none⟩) q.length cap ∧ G ≤ b ∧ b ≠ gb ∧ w.heap[b]? = some (.cells c 3 (0, 0)) ∧ q.length ≤ cap ∧ cap ≤ maxLen ∧ off + cap ≤ c.size ∧
    ∀ (j x : Nat), q[j]? = some x → c[off + j]? = some (.int .i64 (x : Int))

theorem QAt.start (w : World) (G gb x : Nat) (hG : G ≤ w.heap.size) (hgb : gb < w.heap.size) : QAt (w.alloc (.cells #[.int .i64 (x : Int)] 3)) G gb (.slice (some ⟨w.heap.size, 0, none⟩) 1 1) [x] :=
  ⟨w.heap.size, 0, 1, _, rfl, hG, by omega, heap_alloc_new w _, by simp, by simp [maxLen], by simp, fun j y h => by
    cases j with
    | zero => simp at h; subst h; simp
    | succ j => simp at h⟩

theorem QAt.keep {w w' : World} {G gb : Nat} {v : Value} {q : List Nat} (h : QAt w G gb v q) (hk : ∀ k, k < w.heap.size → G ≤ k → k ≠ gb → w'.heap[k]? = w.heap[k]?) : QAt w' G gb v q := by
  obtain ⟨b, off, cap, c, hv, h1, h2, h3, r⟩ := h
  exact ⟨b, off, cap, c, hv, h1, h2, by rw [hk b (lt_of_block h3) h1 h2]; exact h3, r⟩

theorem QAt.snoc_room {w : World} {G gb b off cap n : Nat} {q : List Nat} {c : Array Value} (h1 : G ≤ b) (h2 : b ≠ gb) (h3 : w.heap[b]? = some (.cells c 3 (0, 0))) (h4 : q.length + 1 ≤ cap) (h5 : cap ≤ maxLen) (h6 : off + cap ≤ c.size)
    (h7 : ∀ (j x : Nat), q[j]? = some x → c[off + j]? = some (.int .i64 (x : Int))) :
    QAt (w.setCell ⟨b, off + q.length, none⟩ (.int .i64 (n : Int))) G gb (.slice (some ⟨b, off, none⟩) (q.length + 1) cap) (q ++ [n]) := by
  refine ⟨b, off, cap, c.setIfInBounds (off + q.length) (.int .i64 (n : Int)), by simp, h1, h2, ?_, by simpa using h4, h5, by simpa using h6, ?_⟩
  · rw [heapq_set, if_pos rfl, h3]
    rfl
  · intro j x hx
    rw [Array.getElem?_setIfInBounds]
    by_cases hj : j < q.length
    · rw [List.getElem?_append_left hj] at hx
      rw [if_neg (by omega)]
      exact h7 j x hx
    · have hj' : j = q.length := by
        have := (List.getElem?_eq_some_iff.1 hx).1
        simp at this
        omega
      subst hj'
      simp at hx
      subst hx
      rw [if_pos rfl, if_pos (by omega)]

theorem QAt.of_owns {w w' : World} {G gb : Nat} {v : Value} {q : List Nat} (hG : G ≤ w.heap.size) (hgb : gb < w.heap.size) (hq : 0 < q.length) (h : w'.ownsRow w.heap.size 3 1 v q.length (natCells q)) : QAt w' G gb v q := by
  rcases h.2 with ⟨_, h0⟩ | ⟨g, cap, cur, rfl, h1, h2, h3, h4, h5, h6⟩
  · omega
  · refine ⟨g, 0, cap, cur, rfl, by omega, by omega, h2, h3, h4, by omega, fun j x hx => ?_⟩
    have hj := (List.getElem?_eq_some_iff.1 hx).1
    have h7 : (cur.toList.take (q.length * 1))[j]? = (natCells q)[j]? := by rw [h6]
    rw [List.getElem?_take_of_lt (by omega)] at h7
    rw [Nat.zero_add]
    simp only [natCells, List.getElem?_map, hx, Option.map_some] at h7
    simpa using h7

/-- one more at the end -/
theorem wpList_append_q (w : World) {ops : Array Oper} {rest : List Oper} {o : Oper} {a : Act} {Q : Exit → Act → World → Prop}
    (hg : o.guard = none) (s x : Operand) (hop : o.op = Op.call { callee := Callee.builtin Builtin.append, args := #[s, x], argTypes := #[39, 39] })
    (G gb : Nat) (v : Value) (q : List Nat) (hs : a.eval s = v) (h : QAt w G gb v q) (hG : G ≤ w.heap.size) (hgb : gb < w.heap.size) (hlen : q.length ≤ 1000000)
    (k n : Nat) (hx : a.eval x = .slice (some ⟨k, 0, none⟩) 1 1) (hc : w.cell? ⟨k, 0, none⟩ = some (.int .i64 (n : Int)))
    (hK : ∀ v' w', QAt w' G gb v' (q ++ [n]) → Below G w w' → w'.heap[gb]? = w.heap[gb]? → wpList Tryd.prog ops Q rest (a.put o.dst v') w') :
    wpList Tryd.prog ops Q (o :: rest) a w := by
  obtain ⟨b, off, cap, c, rfl, h1, h2, h3, h4, h5, h6, h7⟩ := h
  obtain ⟨i1, hi1, hy0, hy1, hy2⟩ := info_parts info3
  refine wpList_append_arg w hg s x 39 hop 3 i1 (.int .i64 0) 1 8 Tryd.underlying39 hi1 hy0 hy1 hy2 rfl (by omega) b off q.length cap (natCells q) hs (by simp [natCells_len]) ?_ ⟨k, 0, none⟩ 1 1 [.int .i64 (n : Int)] hx rfl (news1 hc) (by simp [Value.oneCell']) ?_ (by simp only [maxLen]; omega) (by omega) ?_ ?_
  · intro j u hj
    have hjl := (List.getElem?_eq_some_iff.1 hj).1
    rw [natCells_len] at hjl
    have : u = .int .i64 ((q[j] : Nat) : Int) := by simpa [natCells, hjl] using hj.symm
    subst this
    rw [cell_of_row w b (off + j) _ _ _ h3]
    exact h7 j q[j] (by simp [hjl])
  · intro hroom j hj
    have hj0 : j = 0 := by simpa using hj
    subst hj0
    refine ⟨?_, frozen_of_row w b _ _ _ h3⟩
    rw [cell_of_row w b _ _ _ _ h3]
    simp
    omega
  · intro hroom
    have e : w.setCells b (off + q.length * 1) [.int .i64 (n : Int)] = w.setCell ⟨b, off + q.length, none⟩ (.int .i64 (n : Int)) := by simp [World.setCells]
    rw [e]
    refine hK _ _ (QAt.snoc_room h1 h2 h3 hroom h5 h6 h7) ((Below.refl _ _).setCell h1 _) ?_
    rw [heapq_set, if_neg (fun e => h2 e.symm)]
  · intro _ v' w' hown hgr
    rw [← natCells_snoc] at hown
    refine hK v' w' (QAt.of_owns hG hgb (by simp) (by simpa using hown)) ((Below.refl _ _).grown hgr hG (fun k hk => by cases hk)) (hgr.block gb hgb (by simp))

/-- the head is cut off -/
theorem QAt.tail {w : World} {G gb b off n cap x : Nat} {q : List Nat} (h : QAt w G gb (.slice (some ⟨b, off, none⟩) n cap) (x :: q)) : QAt w G gb (.slice (some ⟨b, off + 1, none⟩) (n - 1) (cap - 1)) q := by
  obtain ⟨b', off', cap', c, hv, h1, h2, h3, h4, h5, h6, h7⟩ := h
  simp only [Value.slice.injEq, Option.some.injEq, Addr.mk.injEq, and_true] at hv
  obtain ⟨⟨rfl, rfl⟩, rfl, rfl⟩ := hv
  simp only [List.length_cons] at h4
  refine ⟨b, off + 1, cap - 1, c, by simp, h1, h2, h3, by omega, by omega, by omega, fun j y hy => ?_⟩
  rw [show off + 1 + j = off + (j + 1) by omega]
  exact h7 (j + 1) y (by simpa using hy)

theorem QAt.tail0 {w : World} {G gb b off n cap x : Nat} {q : List Nat} (h : QAt w G gb (.slice (some ⟨b, off, none⟩) n cap) (x :: q)) (hc : cap = 1) : QAt w G gb (.slice (some ⟨b, off, none⟩) (n - 1) (cap - 1)) q := by
  obtain ⟨b', off', cap', c, hv, h1, h2, h3, h4, h5, h6, h7⟩ := h
  simp only [Value.slice.injEq, Option.some.injEq, Addr.mk.injEq, and_true] at hv
  obtain ⟨⟨rfl, rfl⟩, rfl, rfl⟩ := hv
  simp only [List.length_cons] at h4
  have : q = [] := List.eq_nil_of_length_eq_zero (by omega)
  subst this
  exact ⟨b, off, cap - 1, c, by simp, h1, h2, h3, by simp, by omega, by omega, fun j y hy => by simp at hy⟩

theorem QAt.form {w : World} {G gb : Nat} {v : Value} {q : List Nat} (h : QAt w G gb v q) : ∃ b off cap, v = .slice (some ⟨b, off, none⟩) q.length cap ∧ q.length ≤ cap ∧ cap ≤ maxLen ∧ b < w.heap.size ∧ ∀ (j x : Nat), q[j]? = some x → w.cell? ⟨b, off + j, none⟩ = some (.int .i64 (x : Int)) := by
  obtain ⟨b, off, cap, c, rfl, h1, h2, h3, h4, h5, h6, h7⟩ := h
  exact ⟨b, off, cap, rfl, h4, h5, lt_of_block h3, fun j x hx => by rw [cell_of_row w b _ _ _ _ h3]; exact h7 j x hx⟩
end Go.Proofs.YtmcjnfghlpnghaaDoor
