/- slices.Repeat of one number. -/
import Derived.Test.YtlbgocgocanloaaGreatDoorf4C1
import Derived.Test.YtlbgocgocanloaaGreatDoorf5Shelf
import Derived.Laws.CopyOwn
import Derived.Deep.OwnRows
import Derived.ArgAppend
namespace Go.Proofs.YtlbgocgocanloaaGreatDoor
open Go.RowKit
def repL (a : Int) (k V : Nat) : List Value := List.replicate k (.int .i64 a) ++ List.replicate (V - k) (.int .i64 0)
theorem repL_len (a : Int) (k V : Nat) (h : k ≤ V) : (repL a k V).length = V := by simp [repL]; omega
theorem repL_get (a : Int) (k V j : Nat) (h : j < k) : (repL a k V)[j]? = some (.int .i64 a) := by
  rw [repL, List.getElem?_append_left (by simpa using h)]
  simp [h]
theorem repL_full (a : Int) (V : Nat) : repL a V V = List.replicate V (.int .i64 a) := by simp [repL]
theorem repL_splice (a : Int) (k m V : Nat) (h : k + m ≤ V) : splice (repL a k V) k (List.replicate m (.int .i64 a)) = repL a (k + m) V := by
  unfold splice repL
  rw [List.take_append_of_le_length (by simp), List.take_of_length_le (by simp), List.drop_append, List.drop_of_length_le (by simp)]
  simp only [List.length_replicate, List.nil_append, List.drop_replicate]
  rw [← List.append_assoc, List.replicate_append_replicate]
  congr 2
  omega
theorem stp_copy {P : Program} {ops : Array Oper} {Q : Exit → Act → World → Prop} {rest : List Oper} {a : Act} {w : World} {d : Option Tmp} {x : Array Operand} {y : Array TypeId} {ty : TypeId} {pos : String} {af : Array Edge}
    (h : Stp (wpList P ops Q (⟨d, .call { callee := .builtin .copy, args := x, argTypes := y }, ty, pos, af, none⟩ :: rest) a w)) :
    wpList P ops Q (⟨d, .call { callee := .builtin .copy, args := x, argTypes := y }, ty, pos, af, none⟩ :: rest) a w := h
def RepeatPost (w : World) (a : Int) (V : Nat) (e : Ending) (w' : World) : Prop :=
  ∃ g, e = .returned (.slice (some ⟨g, 0, none⟩) V V) ∧ w'.heap[g]? = some (.cells (List.replicate V (Value.int .i64 a)).toArray 3 (0, 0)) ∧ w.heap.size ≤ g ∧ Below w.heap.size w w'
def RepRel (w : World) (a : Int) (V g : Nat) (i : Value) (wr : World) : Prop :=
  ∃ k : Nat, 1 ≤ k ∧ k ≤ V ∧ i = .int .i64 k ∧ wr.heap[g]? = some (.cells (repL a k V).toArray 3 (0, 0)) ∧ Below w.heap.size w wr
set_option maxHeartbeats 8000000 in
set_option maxRecDepth 100000 in
theorem Repeat_any (w : World) (b V : Nat) (a : Int) (h1 : 1 ≤ V) (hV : V ≤ 1000000) (hc : w.cell? ⟨b, 0, none⟩ = some (.int .i64 a)) :
    Calls Tryz.prog 175 #[.slice (some ⟨b, 0, none⟩) 1 1, .int .i64 V] w (RepeatPost w a V) := by
  have hmk := run_make_row' (P := Tryz.prog) 44 3 (.int .i64 0) 8 Tryz.underlying44 info3 rfl .i64 .i64 V (by omega) (by omega)
  have i1 : ¬ (V : Int) < 0 := by omega
  have M := Tryz.bits_Mul 1 V (by decide) (by omega)
  rw [show (1 * V / 18446744073709551616 : Nat) = 0 by omega, show (1 * V % 18446744073709551616 : Nat) = V by omega] at M
  go_enter Tryz.func175, Tryz.ntmps175
  go_upto_region 6 with (go_at_call 199; refine (M _).mono ?_; rintro e w' ⟨rfl, hw⟩; replace hw := hw.symm; subst hw)
  go_upto_region 7 with (fail)
  have hg : (w.alloc (.cells (madeCells #[.int .i64 0] V) 3)).heap[w.heap.size]? = some (.cells (repL a 0 V).toArray 3 (0, 0)) := by
    rw [heapq_alloc, if_pos rfl]
    congr 2
    apply Array.ext'
    rw [toList_madeCells_one]
    simp [repL]
  have hb : Below w.heap.size w (w.alloc (.cells (madeCells #[.int .i64 0] V) 3)) := (Below.refl _ _).alloc (Nat.le_refl _) _
  have hc' := cell_alloc_old (.cells (madeCells #[.int .i64 0] V) 3) hc
  clear hmk M hc
  generalize w.alloc (.cells (madeCells #[.int .i64 0] V) 3) = w0 at *
  have hBg : w.heap.size ≤ w.heap.size := Nat.le_refl _
  generalize hgg : w.heap.size = g at *
  have HGG := Lib.hid hgg
  clear hgg
  have hs3 : (Tryz.prog.info? 3).map (·.size) = some 1 := by kernel_rfl
  go_wp2_with (with_reducible refine stp_copy ?_)
  unfold Stp
  refine wpList_copy_splice rfl (.tmp 31) (.tmp 32) 44 44 rfl 3 Tryz.underlying44 hs3 (some ⟨g, 0, none⟩) (some ⟨b, 0, none⟩) V V 1 1 ?d1 ?d2 g 0 (repL a 0 V) 3 hg [.int .i64 a] ?p1 ?p2 ?p3 ?p4 g w hb hBg ?_
  case d1 => rfl
  case d2 => rfl
  case p1 => exact (Nat.min_eq_left h1).symm
  case p2 =>
    intro _
    refine ⟨rfl, ⟨b, 0, none⟩, rfl, news1 hc'⟩
  case p3 => simp [repL_len]; omega
  case p4 => simp [Value.oneCell']
  intro w1 hg1 hb1
  replace hg1 := hg1.out
  rw [show splice (repL a 0 V) 0 [.int .i64 a] = repL a 1 V by simpa using repL_splice a 0 1 V (by omega)] at hg1
  clear hg hb hc'
  go_wp2
  go_loopw [8] (fun i wr => RepRel w a V g i wr) (fun i _ => V - (intOf i).toNat)
  case atStart => exact ⟨1, Nat.le_refl _, h1, rfl, hg1, HGG.out ▸ hb1⟩
  case round =>
    obtain ⟨k, hk1, hk2, rfl, hgr, hbr⟩ := hrel
    clear hg1 hb1
    have hk0 : (0 : Int) ≤ (k : Int) := by omega
    have hk3 : (k : Int) ≤ (V : Int) := by omega
    by_cases hlt : k < V
    · go_wp2
      refine wp_region_cut [0] [1, 2, 3, 4, 5, 6] 7 [8, 9] (fun w' => ∃ x : Xt wr, w' = x.1) (by kernel_rfl) (by kernel_rfl) ⟨⟨wr.drew, (Below.refl _ _).drew⟩, rfl⟩ ?_
      simp only [opsAt_nil, opsAt_cons, consOpt_some, List.getElem?_toArray, List.getElem?_cons_zero, List.getElem?_cons_succ]
      go_big_quiet_step (fail)
      refine wpQuiet_nil ?_
      show wpQuiet _ _ _ _ _ _
      repeat (go_big_quiet_step (fail))
      refine wpQuiet_nil ?_
      intro w2 hx
      have hb2 := Xt.below hx
      clear hx
      have hgl := lt_of_block hgr
      have hg2 : w2.heap[g]? = some (.cells (repL a k V).toArray 3 (0, 0)) := (hb2.block g hgl).trans hgr
      have hb3 : Below w.heap.size w w2 := hbr.trans (hb2.mono hbr.size)
      have hgw : w.heap.size ≤ g := by rw [HGG.out]; exact Nat.le_refl _
      refine wpList_copy_splice rfl (.tmp 41) (.tmp 44) 44 44 rfl 3 Tryz.underlying44 hs3 (some ⟨g, k, none⟩) (some ⟨g, 0, none⟩) (V - k) (V - k) k V rfl rfl g k (repL a k V) 3 hg2 (List.replicate (min k (V - k)) (.int .i64 a)) ?p1 ?p2 ?p3 ?p4 w.heap.size w hb3 hgw ?_
      case p1 => simp
      case p2 =>
        intro _
        refine ⟨rfl, ⟨g, 0, none⟩, rfl, fun j v hj => ?_⟩
        have hjl : j < min k (V - k) := by
          have := (List.getElem?_eq_some_iff.1 hj).1
          simpa using this
        have hv : v = .int .i64 a := List.eq_of_mem_replicate (List.mem_of_getElem? hj)
        subst hv
        have hadd : (⟨g, 0, none⟩ : Addr).add j = ⟨g, j, none⟩ := by unfold Addr.add; split <;> simp_all
        rw [hadd, cell_of_row w2 g j _ _ _ hg2]
        simpa using repL_get a k V j (by omega)
      case p3 => rw [repL_len a k V (by omega)]; simp; omega
      case p4 => exact fun v hv => by rw [List.eq_of_mem_replicate hv]; rfl
      intro w3 hg3 hb4
      replace hg3 := hg3.out
      rw [repL_splice a k _ V (by omega)] at hg3
      simp only [List.length_replicate]
      have hmin : 1 ≤ min k (V - k) ∧ k + min k (V - k) ≤ V := by omega
      generalize min k (V - k) = m at *
      clear hg2 hb3 hgr hbr hb2
      go_wp2
      refine onlyNormal_mk ?_
      go_roundw
      case rel =>
        exact ⟨_, _, _, _, _, _, _, _, _, _, _, _, _, _, ⟨k + m, by omega, by omega, rfl, hg3, hb4⟩, rfl⟩
      case measure => simp [intOf]; omega
    · go_wp2
      go_ret
      have hkV : k = V := by omega
      subst hkV
      exact ⟨g, rfl, by rw [← repL_full]; exact hgr, by rw [HGG.out]; exact Nat.le_refl _, hbr⟩
end Go.Proofs.YtlbgocgocanloaaGreatDoor
namespace Go.Proofs.YtlbgocgocanloaaGreatDoor
open Go.RowKit
def QAt (w : World) (G gb : Nat) (v : Value) (q : List Nat) : Prop :=
  ∃ b off cap c, v = .slice (some ⟨b, off, none⟩) q.length cap ∧ G ≤ b ∧ b ≠ gb ∧ w.heap[b]? = some (.cells c 3 (0, 0)) ∧ q.length ≤ cap ∧ cap ≤ maxLen ∧ off + cap ≤ c.size ∧
    ∀ (j x : Nat), q[j]? = some x → c[off + j]? = some (.int .i64 (x : Int))
theorem QAt.start (w : World) (G gb x : Nat) (hG : G ≤ w.heap.size) (hgb : gb < w.heap.size) : QAt (w.alloc (.cells #[.int .i64 (x : Int)] 3)) G gb (.slice (some ⟨w.heap.size, 0, none⟩) 1 1) [x] :=
  ⟨w.heap.size, 0, 1, _, rfl, hG, by omega, heap_alloc_new w _, by simp, by simp [maxLen], by simp, fun j y h => by
    cases j with
    | zero => simp at h; subst h; simp
    | succ j => simp at h⟩
theorem QAt.keep {w w' : World} {G gb : Nat} {v : Value} {q : List Nat} (h : QAt w G gb v q) (hk : ∀ k, k < w.heap.size → G ≤ k → k ≠ gb → w'.heap[k]? = w.heap[k]?) : QAt w' G gb v q := by
  obtain ⟨b, off, cap, c, hv, h1, h2, h3, r⟩ := h
  exact ⟨b, off, cap, c, hv, h1, h2, by rw [hk b (lt_of_block h3) h1 h2]; exact h3, r⟩
theorem QAt.snoc_room {w : World} {G gb b off cap n : Nat} {q : List Nat} {c : Array Value} (h1 : G ≤ b) (h2 : b ≠ gb) (h3 : w.heap[b]? = some (.cells c 3 (0, 0))) (h4 : q.length + 1 ≤ cap) (h5 : cap ≤ maxLen) (h6 : off + cap ≤ c.size)
    (h7 : ∀ (j x : Nat), q[j]? = some x → c[off + j]? = some (.int .i64 (x : Int))) :
    QAt (w.setCell ⟨b, off + q.length, none⟩ (.int .i64 (n : Int))) G gb (.slice (some ⟨b, off, none⟩) (q.length + 1) cap) (q ++ [n]) := by
  refine ⟨b, off, cap, c.setIfInBounds (off + q.length) (.int .i64 (n : Int)), by simp, h1, h2, ?_, by simpa using h4, h5, by simpa using h6, ?_⟩
  · rw [heapq_set, if_pos rfl, h3]
    rfl
  · intro j x hx
    rw [Array.getElem?_setIfInBounds]
    by_cases hj : j < q.length
    · rw [List.getElem?_append_left hj] at hx
      rw [if_neg (by omega)]
      exact h7 j x hx
    · have hj' : j = q.length := by
        have := (List.getElem?_eq_some_iff.1 hx).1
        simp at this
        omega
      subst hj'
      simp at hx
      subst hx
      rw [if_pos rfl, if_pos (by omega)]
theorem QAt.of_owns {w w' : World} {G gb : Nat} {v : Value} {q : List Nat} (hG : G ≤ w.heap.size) (hgb : gb < w.heap.size) (hq : 0 < q.length) (h : w'.ownsRow w.heap.size 3 1 v q.length (natCells q)) : QAt w' G gb v q := by
  rcases h.2 with ⟨_, h0⟩ | ⟨g, cap, cur, rfl, h1, h2, h3, h4, h5, h6⟩
  · omega
  · refine ⟨g, 0, cap, cur, rfl, by omega, by omega, h2, h3, h4, by omega, fun j x hx => ?_⟩
    have hj := (List.getElem?_eq_some_iff.1 hx).1
    have h7 : (cur.toList.take (q.length * 1))[j]? = (natCells q)[j]? := by rw [h6]
    rw [List.getElem?_take_of_lt (by omega)] at h7
    rw [Nat.zero_add]
    simp only [natCells, List.getElem?_map, hx, Option.map_some] at h7
    simpa using h7
/-- one more at the end -/
theorem wpList_append_q (w : World) {ops : Array Oper} {rest : List Oper} {o : Oper} {a : Act} {Q : Exit → Act → World → Prop}
    (hg : o.guard = none) (s x : Operand) (hop : o.op = Op.call { callee := Callee.builtin Builtin.append, args := #[s, x], argTypes := #[44, 44] })
    (G gb : Nat) (v : Value) (q : List Nat) (hs : a.eval s = v) (h : QAt w G gb v q) (hG : G ≤ w.heap.size) (hgb : gb < w.heap.size) (hlen : q.length ≤ 1000000)
    (k n : Nat) (hx : a.eval x = .slice (some ⟨k, 0, none⟩) 1 1) (hc : w.cell? ⟨k, 0, none⟩ = some (.int .i64 (n : Int)))
    (hK : ∀ v' w', QAt w' G gb v' (q ++ [n]) → Below G w w' → w'.heap[gb]? = w.heap[gb]? → wpList Tryz.prog ops Q rest (a.put o.dst v') w') :
    wpList Tryz.prog ops Q (o :: rest) a w := by
  obtain ⟨b, off, cap, c, rfl, h1, h2, h3, h4, h5, h6, h7⟩ := h
  obtain ⟨i1, hi1, hy0, hy1, hy2⟩ := info_parts info3
  refine wpList_append_arg w hg s x 44 hop 3 i1 (.int .i64 0) 1 8 Tryz.underlying44 hi1 hy0 hy1 hy2 rfl (by omega) b off q.length cap (natCells q) hs (by simp [natCells_len]) ?_ ⟨k, 0, none⟩ 1 1 [.int .i64 (n : Int)] hx rfl (news1 hc) (by simp [Value.oneCell']) ?_ (by simp only [maxLen]; omega) (by omega) ?_ ?_
  · intro j u hj
    have hjl := (List.getElem?_eq_some_iff.1 hj).1
    rw [natCells_len] at hjl
    have : u = .int .i64 ((q[j] : Nat) : Int) := by simpa [natCells, hjl] using hj.symm
    subst this
    rw [cell_of_row w b (off + j) _ _ _ h3]
    exact h7 j q[j] (by simp [hjl])
  · intro hroom j hj
    have hj0 : j = 0 := by simpa using hj
    subst hj0
    refine ⟨?_, frozen_of_row w b _ _ _ h3⟩
    rw [cell_of_row w b _ _ _ _ h3]
    simp
    omega
  · intro hroom
    have e : w.setCells b (off + q.length * 1) [.int .i64 (n : Int)] = w.setCell ⟨b, off + q.length, none⟩ (.int .i64 (n : Int)) := by simp [World.setCells]
    rw [e]
    refine hK _ _ (QAt.snoc_room h1 h2 h3 hroom h5 h6 h7) ((Below.refl _ _).setCell h1 _) ?_
    rw [heapq_set, if_neg (fun e => h2 e.symm)]
  · intro _ v' w' hown hgr
    rw [← natCells_snoc] at hown
    refine hK v' w' (QAt.of_owns hG hgb (by simp) (by simpa using hown)) ((Below.refl _ _).grown hgr hG (fun k hk => by cases hk)) (hgr.block gb hgb (by simp))
/-- the head is cut off -/
theorem QAt.tail {w : World} {G gb b off n cap x : Nat} {q : List Nat} (h : QAt w G gb (.slice (some ⟨b, off, none⟩) n cap) (x :: q)) : QAt w G gb (.slice (some ⟨b, off + 1, none⟩) (n - 1) (cap - 1)) q := by
  obtain ⟨b', off', cap', c, hv, h1, h2, h3, h4, h5, h6, h7⟩ := h
  simp only [Value.slice.injEq, Option.some.injEq, Addr.mk.injEq, and_true] at hv
  obtain ⟨⟨rfl, rfl⟩, rfl, rfl⟩ := hv
  simp only [List.length_cons] at h4
  refine ⟨b, off + 1, cap - 1, c, by simp, h1, h2, h3, by omega, by omega, by omega, fun j y hy => ?_⟩
  rw [show off + 1 + j = off + (j + 1) by omega]
  exact h7 (j + 1) y (by simpa using hy)
theorem QAt.tail0 {w : World} {G gb b off n cap x : Nat} {q : List Nat} (h : QAt w G gb (.slice (some ⟨b, off, none⟩) n cap) (x :: q)) (hc : cap = 1) : QAt w G gb (.slice (some ⟨b, off, none⟩) (n - 1) (cap - 1)) q := by
  obtain ⟨b', off', cap', c, hv, h1, h2, h3, h4, h5, h6, h7⟩ := h
  simp only [Value.slice.injEq, Option.some.injEq, Addr.mk.injEq, and_true] at hv
  obtain ⟨⟨rfl, rfl⟩, rfl, rfl⟩ := hv
  simp only [List.length_cons] at h4
  have : q = [] := List.eq_nil_of_length_eq_zero (by omega)
  subst this
  exact ⟨b, off, cap - 1, c, by simp, h1, h2, h3, by simp, by omega, by omega, fun j y hy => by simp at hy⟩
theorem QAt.form {w : World} {G gb : Nat} {v : Value} {q : List Nat} (h : QAt w G gb v q) : ∃ b off cap, v = .slice (some ⟨b, off, none⟩) q.length cap ∧ q.length ≤ cap ∧ cap ≤ maxLen ∧ b < w.heap.size ∧ ∀ (j x : Nat), q[j]? = some x → w.cell? ⟨b, off + j, none⟩ = some (.int .i64 (x : Int)) := by
  obtain ⟨b, off, cap, c, rfl, h1, h2, h3, h4, h5, h6, h7⟩ := h
  exact ⟨b, off, cap, rfl, h4, h5, lt_of_block h3, fun j x hx => by rw [cell_of_row w b _ _ _ _ h3]; exact h7 j x hx⟩
end Go.Proofs.YtlbgocgocanloaaGreatDoor
namespace Go.Proofs.YtlbgocgocanloaaGreatDoor
open Go.RowKit
/-- one node's arcs -/
def scanM (F : Fl) : List Nat → List Int → List Nat → List Int × List Nat
  | [], y, q => (y, q)
  | i :: is, y, q =>
    match F.arcs[i]? with
    | none => (y, q)
    | some a => if 0 < a.lf ∧ y[a.to]?.getD 0 < 0 ∧ a.to ≠ F.src then scanM F is (y.set a.to (i : Int)) (q ++ [a.to]) else scanM F is y q
/-- all nodes of the queue -/
def bfsM (F : Fl) : Nat → List Int → List Nat → Option (List Int)
  | _, y, [] => some y
  | 0, _, _ :: _ => none
  | f + 1, y, n :: q => bfsM F f (scanM F (F.adj[n]?.getD []) y (n :: q)).1 (scanM F (F.adj[n]?.getD []) y (n :: q)).2.tail
theorem arcCells_at : ∀ (l : List Arc) (i : Nat) (a : Arc) (j : Nat), l[i]? = some a → j < 4 → (arcCells l)[i * 4 + j]? = (arcVals a)[j]?
  | [], i, a, j, h, _ => by simp at h
  | b :: l, 0, a, j, h, hj => by
    simp at h
    subst h
    have : arcCells (b :: l) = arcVals b ++ arcCells l := by simp [arcCells]
    rw [this, List.getElem?_append_left (by simp [arcVals]; omega), Nat.zero_mul, Nat.zero_add]
  | b :: l, i + 1, a, j, h, hj => by
    have : arcCells (b :: l) = arcVals b ++ arcCells l := by simp [arcCells]
    rw [this, List.getElem?_append_right (by simp [arcVals]; omega)]
    have := arcCells_at l i a j (by simpa using h) hj
    rw [← this]
    congr 1
    simp [arcVals]
    omega
theorem scanM_pre (F : Fl) : ∀ (l : List Nat) (y : List Int) (q : List Nat), ∃ t, (scanM F l y q).2 = q ++ t
  | [], y, q => ⟨[], by simp [scanM]⟩
  | i :: l, y, q => by
    unfold scanM
    split
    · exact ⟨[], by simp⟩
    · rename_i a _
      split
      · obtain ⟨t, ht⟩ := scanM_pre F l (y.set a.to (i : Int)) (q ++ [a.to])
        exact ⟨a.to :: t, by rw [ht]; simp⟩
      · exact scanM_pre F l y q
/-- the least number with a property -/
theorem least_ex {p : Nat → Prop} (h : ∃ n, p n) : ∃ n, p n ∧ ∀ m, p m → n ≤ m := by
  obtain ⟨n, hn⟩ := h
  induction n using Nat.strongRecOn with
  | _ n ih =>
    by_cases hm : ∃ m, m < n ∧ p m
    · obtain ⟨m, hm, hp⟩ := hm
      exact ih m hm hp
    · exact ⟨n, hn, fun m hp => by
        rcases Nat.lt_or_ge m n with h | h
        · exact absurd ⟨m, h, hp⟩ hm
        · exact h⟩
noncomputable def least (p : Nat → Prop) : Nat := @dite Nat (∃ n, p n) (Classical.propDecidable _) (fun h => Classical.choose (least_ex h)) (fun _ => 0)
theorem least_spec {p : Nat → Prop} (h : ∃ n, p n) : p (least p) ∧ ∀ m, p m → least p ≤ m := by
  unfold least
  rw [dif_pos h]
  exact Classical.choose_spec (least_ex h)
/-- numbers within bounds -/
structure FlOk (F : Fl) : Prop where
  arc : ∀ (i : Nat) (a : Arc), F.arcs[i]? = some a → a.fr < F.adj.length ∧ a.to < F.adj.length ∧ a.bk < F.arcs.length
  adj : ∀ (n i : Nat) (l : List Nat), F.adj[n]? = some l → i ∈ l → i < F.arcs.length
  src : F.src < F.adj.length
  outn : F.outn < F.adj.length
  few : F.adj.length ≤ 1000
  few' : F.arcs.length ≤ 10000
def negs (y : List Int) : Nat := (y.filter fun x => decide (x < 0)).length
theorem negs_set (i : Int) (hi : 0 ≤ i) : ∀ (y : List Int) (k : Nat), y[k]?.getD 0 < 0 → negs (y.set k i) + 1 = negs y
  | [], k, h => by simp at h
  | x :: y, 0, h => by
    have hx : x < 0 := by simpa using h
    have hx' : ¬ i < 0 := by omega
    simp [negs, hx, hx']
  | x :: y, k + 1, h => by
    have ih := negs_set i hi y k (by simpa using h)
    unfold negs at ih ⊢
    by_cases hx : x < 0
    · simp only [List.set_cons_succ, List.filter_cons, hx, decide_true, if_true, List.length_cons]
      omega
    · simp only [List.set_cons_succ, List.filter_cons, hx, decide_false, Bool.false_eq_true, if_false]
      exact ih
def ReachPost (w : World) (r : List Int) (e : Ending) (w' : World) : Prop :=
  ∃ gb, e = .returned (.slice (some ⟨gb, 0, none⟩) r.length r.length) ∧ w'.heap[gb]? = some (.cells (intCells r).toArray 3 (0, 0)) ∧ w.heap.size ≤ gb ∧ Below w.heap.size w w'
def ReachAt (w : World) (G gb V : Nat) (nodes : Value) (y : List Int) (q : List Nat) (wr : World) : Prop :=
  QAt wr G gb nodes q ∧ wr.heap[gb]? = some (.cells (intCells y).toArray 3 (0, 0)) ∧ y.length = V ∧ (∀ n ∈ q, n < V) ∧ q.length + negs y ≤ V + 1 ∧ Below G w wr
def ReachRel (w : World) (F : Fl) (G gb V : Nat) (r : List Int) (f : Nat) (nodes : Value) (wr : World) : Prop :=
  ∃ y q, ReachAt w G gb V nodes y q wr ∧ bfsM F f y q = some r
def ScanRel (w : World) (F : Fl) (G gb V : Nat) (l : List Nat) (z : List Int × List Nat) (nodes idx : Value) (wr : World) : Prop :=
  ∃ (k : Nat) (y : List Int) (q : List Nat), k ≤ l.length ∧ idx = .int .i64 k ∧ ReachAt w G gb V nodes y q wr ∧ scanM F (l.drop k) y q = z
theorem ReachAt.on {w wr w3 : World} {G gb V : Nat} {nodes : Value} {y : List Int} {q : List Nat} (h : ReachAt w G gb V nodes y q wr) (hb : Below wr.heap.size wr w3) (hG : G ≤ wr.heap.size) : ReachAt w G gb V nodes y q w3 := by
  obtain ⟨h1, h2, h3, h4, h5, h6⟩ := h
  exact ⟨h1.keep (fun k hk _ _ => hb.block k hk), by rw [hb.block gb (lt_of_block h2)]; exact h2, h3, h4, h5, h6.trans (hb.mono hG)⟩
set_option maxRecDepth 100000 in
set_option maxHeartbeats 8000000 in
theorem reach_any (w : World) (B g : Nat) (F : Fl) (h : FlowAt w B g F) (ok : FlOk F) (f : Nat) (r : List Int) (hr : bfsM F f (List.replicate F.adj.length (-1)) [F.src] = some r) :
    Calls Tryz.prog 140 #[.pointer (some ⟨g, 0, none⟩)] w (ReachPost w r) := by
  obtain ⟨va, ob, rows, h⟩ := h
  obtain ⟨Aa, ca, rfl⟩ := rowForm h.arcs
  have hBl : B ≤ w.heap.size := Nat.le_of_lt (Nat.lt_of_le_of_lt h.hB (lt_of_block h.head))
  have c1 := cell_of_row w g 1 _ _ _ h.head
  have c2 := cell_of_row w g 2 _ _ _ h.head
  simp at c1 c2
  have HH := Lib.hid h
  have OK := Lib.hid ok
  have HR := Lib.hid hr
  have hV1 : 1 ≤ F.adj.length := by have := ok.src; omega
  have hV2 : F.adj.length ≤ 1000 := ok.few
  clear h ok hr
  generalize hV : F.adj.length = V at *
  have HV := Lib.hid hV
  clear hV
  go_enter Tryz.func140, Tryz.ntmps140
  go_upto_region 1 with (fail)
  have R := Repeat_any (w.alloc (.cells #[.int .i64 (-1)] 3)) w.heap.size V (-1) hV1 (by omega) (by simp)
  have c1' := cell_alloc_old (.cells #[.int .i64 (-1)] 3) c1
  go_upto_region 2 with (go_at_call 175; refine R.mono ?_; rintro e w1 ⟨gb, rfl, hgb, hge, hb1⟩)
  have hsz1 : w.heap.size + 1 ≤ w1.heap.size := by have := hb1.size; simp at this; omega
  have c2' : w1.cell? ⟨g, 2, none⟩ = some (.int .i64 F.src) := kept hb1 (cell_alloc_old _ c2)
  have hbw : Below w.heap.size w w1 := ((Below.refl _ _).alloc (Nat.le_refl _) _).trans (hb1.mono (by simp))
  have hgl := lt_of_block hgb
  have hge' : w.heap.size ≤ gb := by simp at hge; omega
  have hat0 : ReachAt w w.heap.size gb V (.slice (some ⟨w1.heap.size, 0, none⟩) 1 1) (List.replicate V (-1)) [F.src] (w1.alloc (.cells #[.int .i64 (F.src : Int)] 3)) := by
    refine ⟨QAt.start w1 _ gb F.src (by omega) hgl, ?_, by simp, ?_, ?_, hbw.alloc (by omega) _⟩
    · rw [heapq_alloc, if_neg (by omega), hgb]
      simp [intCells]
    · intro n hn
      simp at hn
      subst hn
      have := OK.out.src
      rw [HV.out] at this
      exact this
    · simp [negs]
      omega
  have HB := Lib.hid hbw
  clear R c1' hgb hge hb1 hbw
  go_wp2
  have HAT := Lib.hid hat0
  clear hat0 c2'
  generalize w1.heap.size = h1 at *
  generalize w1.alloc (.cells #[.int .i64 (F.src : Int)] 3) = w2 at *
  go_loopw [4] (fun nodes wr => ∃ f, ReachRel w F w.heap.size gb V r f nodes wr) (fun nodes wr => least (fun f => ReachRel w F w.heap.size gb V r f nodes wr))
  case atStart => exact ⟨f, _, _, HAT.out, HR.out⟩
  case round =>
    obtain ⟨⟨y, q, hat, hbf⟩, hmin⟩ := least_spec hrel
    generalize hm : least (fun f => ReachRel w F w.heap.size gb V r f u4 wr) = m at *
    have HM := Lib.hid hm
    have HBF := Lib.hid hbf
    clear hm hbf hmin hrel HAT HB
    obtain ⟨b, off, cap, hv, hq1, hq2, hq3, hq4⟩ := hat.1.form
    subst hv
    have HA := Lib.hid hat
    clear hat
    cases q with
    | nil =>
      go_wp2
      go_ret
      have hy : y = r := by have := HBF.out; unfold bfsM at this; exact Option.some.inj this
      subst hy
      obtain ⟨_, h2, h3, _, _, h6⟩ := HA.out
      exact ⟨gb, by rw [h3]; rfl, h2, hge', h6⟩
    | cons n q =>
      have hnV : n < V := HA.out.2.2.2.1 n (by simp)
      have HF := HH.out.keep (fun k hk => HA.out.2.2.2.2.2.block k hk)
      obtain ⟨v1, hv1⟩ : ∃ v, rows[n]? = some v := ⟨rows[n]'(by rw [HF.rowsN, HV.out]; exact hnV), by simp⟩
      obtain ⟨l1, hl1⟩ : ∃ v, F.adj[n]? = some v := ⟨F.adj[n]'(by rw [HV.out]; exact hnV), by simp⟩
      obtain ⟨R1, L1⟩ := HF.row n v1 l1 hv1 hl1
      obtain ⟨A1, p1, rfl⟩ := rowForm R1
      have q0 := hq4 0 n rfl
      have q1 := cell_of_row wr g 1 _ _ _ HF.head
      have q2 := cell_of_row wr ob n _ _ _ HF.obH
      simp at q1
      rw [HV.out] at q1
      simp only [List.getElem?_toArray, hv1] at q2
      simp only [Nat.add_zero] at q0
      have i0 : (0 : Int) ≤ (n : Int) := by omega
      have i1 : (n : Int) < (V : Int) := by omega
      have few := OK.out.few'
      have HL1 := Lib.hid hl1
      have HV1 := Lib.hid hv1
      clear hq4 hv1 hl1
      simp only [List.length_cons] at hq1
      go_wp2
      have x1 := fun x : Xt wr => x.cell q1
      have x2 := fun x : Xt wr => x.cell q2
      have x3 := fun x : Xt wr => x.cell q0
      refine wp_region_xt (by kernel_rfl) (by kernel_rfl) ?_
      repeat (go_big_quiet_step (fail))
      refine wpQuiet_nil ?_
      intro w3 hx
      have hb3 := Xt.below hx
      clear hx x1 x2 x3
      have hGw : w.heap.size ≤ wr.heap.size := HA.out.2.2.2.2.2.size
      have hat3 := HA.out.on hb3 hGw
      have HA3 := Lib.hid hat3
      have R3 := Lib.hid (ownsRow_keep R1 fun k hk => hb3.block k (ownBlk R1 hk).2.1)
      clear hat3 q0 q1 q2 hb3 R1
      generalize hz : scanM F l1 y (n :: q) = z at *
      have HZ := Lib.hid hz
      clear hz
      go_wp2
      go_loopw [4, 35] (fun nodes idx w4 => ScanRel w F w.heap.size gb V l1 z nodes idx w4) (fun _ idx _ => l1.length - (intOf idx).toNat)
      case atStart => exact ⟨0, y, n :: q, Nat.zero_le _, rfl, HA3.out, HZ.out⟩
      case round =>
        obtain ⟨k, y', q', hk, rfl, hat, hs⟩ := hrel
        have HS := Lib.hid hs
        have HA' := Lib.hid hat
        clear hs hat HA HF R3 HA3
        by_cases hlt : k < l1.length
        · have HF := HH.out.keep (fun k hk => HA'.out.2.2.2.2.2.block k hk)
          obtain ⟨R1, _⟩ := HF.row n _ l1 HV1.out HL1.out
          obtain ⟨rb, cap', hve, _, _⟩ := R1.form (by omega)
          simp only [Value.slice.injEq, true_and] at hve
          obtain ⟨rfl, rfl⟩ := hve
          have hi : l1[k] < F.arcs.length := OK.out.adj n _ l1 HL1.out (by simp)
          have r0 := R1.cellAt k (by omega)
          have hkk : (natCells l1)[k]? = some (.int .i64 ((l1[k] : Nat) : Int)) := by simp [natCells, hlt]
          rw [hkk] at r0
          obtain ⟨ab, cab, hae, _, _⟩ := HF.arcs.form (by omega)
          simp only [Value.slice.injEq, true_and] at hae
          obtain ⟨rfl, rfl⟩ := hae
          obtain ⟨a, ha⟩ : ∃ a, F.arcs[l1[k]]? = some a := ⟨F.arcs[l1[k]], by simp [hi]⟩
          have a0 := (HF.arcs.cellAt (l1[k] * 4 + 0) (by omega)).trans (arcCells_at F.arcs _ a 0 ha (by omega))
          have a1 := (HF.arcs.cellAt (l1[k] * 4 + 1) (by omega)).trans (arcCells_at F.arcs _ a 1 ha (by omega))
          have a2 := (HF.arcs.cellAt (l1[k] * 4 + 2) (by omega)).trans (arcCells_at F.arcs _ a 2 ha (by omega))
          have a3 := (HF.arcs.cellAt (l1[k] * 4 + 3) (by omega)).trans (arcCells_at F.arcs _ a 3 ha (by omega))
          have g0 := cell_of_row wr g 0 _ _ _ HF.head
          have g2 := cell_of_row wr g 2 _ _ _ HF.head
          simp at g0 g2
          simp only [arcVals, List.getElem?_cons_zero, List.getElem?_cons_succ, Nat.add_zero] at a0 a1 a2 a3
          generalize hix : l1[k] = ix at *
          have HIX := Lib.hid hix
          have HARC := Lib.hid ha
          clear hix ha hkk
          go_upto_region 9 with (fail)
          have hto : a.to < V := by have := (OK.out.arc ix a HARC.out).2.1; rw [HV.out] at this; exact this
          have hyl : y'.length = V := HA'.out.2.2.1
          obtain ⟨yv, hyv⟩ : ∃ x, y'[a.to]? = some x := ⟨y'[a.to]'(by omega), by simp [hyl, hto]⟩
          have e0' := cell_of_row wr gb a.to _ _ _ HA'.out.2.1
          simp only [intCells, List.getElem?_toArray, List.getElem?_map, hyv, Option.map_some] at e0'
          have e0 := cell_alloc_old (.cells #[.int .i64 (a.fr : Int), .int .i64 (a.to : Int), .int .i64 a.lf, .int .i64 (a.bk : Int)] 200) e0'
          have g2' := cell_alloc_old (.cells #[.int .i64 (a.fr : Int), .int .i64 (a.to : Int), .int .i64 a.lf, .int .i64 (a.bk : Int)] 200) g2
          have e1 : (wr.alloc (.cells #[.int .i64 (a.fr : Int), .int .i64 (a.to : Int), .int .i64 a.lf, .int .i64 (a.bk : Int)] 200)).cell? ⟨wr.heap.size, 1, none⟩ = some (.int .i64 (a.to : Int)) := by simp
          have e2 : (wr.alloc (.cells #[.int .i64 (a.fr : Int), .int .i64 (a.to : Int), .int .i64 a.lf, .int .i64 (a.bk : Int)] 200)).cell? ⟨wr.heap.size, 2, none⟩ = some (.int .i64 a.lf) := by simp
          have hat4 := HA'.out.on ((Below.refl _ _).alloc (Nat.le_refl _) (.cells #[.int .i64 (a.fr : Int), .int .i64 (a.to : Int), .int .i64 a.lf, .int .i64 (a.bk : Int)] 200)) HA'.out.2.2.2.2.2.size
          have HA4 := Lib.hid hat4
          have hga : gb < wr.heap.size := lt_of_block HA'.out.2.1
          clear hat4 R1 r0 a0 a1 a2 a3 g0 g2 HF
          generalize wr.alloc (.cells #[.int .i64 (a.fr : Int), .int .i64 (a.to : Int), .int .i64 a.lf, .int .i64 (a.bk : Int)] 200) = w5 at *
          generalize wr.heap.size = ga at *
          have HYV := Lib.hid hyv
          clear hyv HA' e0'
          have j0 : (0 : Int) ≤ (a.to : Int) := by omega
          have j1 : (a.to : Int) < (V : Int) := by omega
          have x0 := fun x : Xt w5 => x.cell e0
          have x1 := fun x : Xt w5 => x.cell e1
          have x2 := fun x : Xt w5 => x.cell e2
          have x3 := fun x : Xt w5 => x.cell g2'
          rcases Int.lt_or_le 0 a.lf with h1 | h1
          · have d1 : decide (0 < a.lf) = true := by simp; omega
            rcases Int.lt_or_le yv 0 with h2 | h2
            · have d2 : decide (yv < 0) = true := by simp; omega
              by_cases h3 : a.to = F.src
              · have hsk : scanM F (l1.drop (k + 1)) y' q' = z := by
                  rw [← HS.out, List.drop_eq_getElem_cons hlt, HIX.out, scanM, HARC.out]
                  simp only
                  rw [if_neg (fun hh => hh.2.2 h3)]
                have HSK := Lib.hid hsk
                clear hsk HARC HYV
                generalize a.to = tt at *
                subst h3
                refine wp_region_xt (by kernel_rfl) (by kernel_rfl) ?_
                repeat (go_big_quiet_step (fail))
                refine wpQuiet_nil ?_
                intro w6 hx
                have hb6 := Xt.below hx
                clear hx x0 x1 x2 x3
                have hG5 : w.heap.size ≤ w5.heap.size := HA4.out.2.2.2.2.2.size
                have HREL := Lib.hid (show ScanRel w F w.heap.size gb V l1 z u4 (.int .i64 ((k : Int) + 1)) w6 from ⟨k + 1, y', q', by omega, by simp, HA4.out.on hb6 hG5, HSK.out⟩)
                clear hb6 e0 e1 e2 g2'
                go_wp2
                go_roundw
                case rel => exact HREL.out
                case measure => simp [intOf]; omega
              · have d3 : decide ((a.to : Int) = (F.src : Int)) = false := by simp; omega
                refine wp_region_xt (by kernel_rfl) (by kernel_rfl) ?_
                repeat (go_big_quiet_step (fail))
                refine wpQuiet_nil ?_
                intro w6 hx
                have hb6 := Xt.below hx
                clear hx x0 x1 x2 x3
                have hG5 : w.heap.size ≤ w5.heap.size := HA4.out.2.2.2.2.2.size
                have hat6 := HA4.out.on hb6 hG5
                have m0 := kept hb6 e0
                have m1 := kept hb6 e1
                have f0 := frozen_of_row w6 gb a.to _ _ hat6.2.1
                have hgb6 := lt_of_block hat6.2.1
                have hW : (w6.setCell ⟨gb, a.to, none⟩ (.int .i64 (ix : Int))).heap[gb]? = some (.cells (intCells (y'.set a.to (ix : Int))).toArray 3 (0, 0)) := by
                  rw [heapq_set, if_pos rfl, hat6.2.1]
                  simp [objSet_cells, intCells, List.map_set]
                have hB6 : Below w.heap.size w (w6.setCell ⟨gb, a.to, none⟩ (.int .i64 (ix : Int))) := hat6.2.2.2.2.2.setCell hge' _
                have hQ6 : QAt (w6.setCell ⟨gb, a.to, none⟩ (.int .i64 (ix : Int))) w.heap.size gb u4 q' := hat6.1.keep (fun k _ _ hne => by rw [heapq_set, if_neg hne])
                have hlen : q'.length ≤ 1000000 := by have := hat6.2.2.2.2.1; omega
                have hG6 : w.heap.size ≤ w6.heap.size := hat6.2.2.2.2.2.size
                have HA6 := Lib.hid hat6
                have HW := Lib.hid hW
                clear hat6 hW hb6 e0 e1 e2 g2'
                have m1' : (w6.setCell ⟨gb, a.to, none⟩ (.int .i64 (ix : Int))).cell? ⟨ga, 1, none⟩ = some (.int .i64 (a.to : Int)) := by
                  rw [World.cell?_setCell_far _ _ _ _ (by simp; omega)]
                  exact m1
                go_wp2_with (at_builtin; refine stp ?_)
                unfold Stp
                refine wpList_append_q _ rfl (.tmp 71) (.tmp 74) rfl w.heap.size gb u4 q' rfl ?qa ?hG ?hgb hlen _ a.to rfl ?hc ?_
                case qa => exact hQ6.keep (fun k hk _ _ => Below.heap_alloc _ _ k hk)
                case hG => first | omega | (simp; omega)
                case hgb => simp; omega
                case hc =>
                  refine (cell_of_row _ _ 0 #[.int .i64 (a.to : Int)] 3 (0, 0) ?_).trans rfl
                  rw [heapq_alloc, if_pos (by simp [World.setCell])]
                intro v' w7 hq7 hb7 hg7
                have hb8 : Below w.heap.size w w7 := (hB6.alloc (by simp; omega) _).trans hb7
                have hg8 : w7.heap[gb]? = some (.cells (intCells (y'.set a.to (ix : Int))).toArray 3 (0, 0)) := by
                  rw [hg7, Below.heap_alloc _ _ _ (by simp; omega)]
                  exact HW.out
                have hrel' : ScanRel w F w.heap.size gb V l1 z v' (.int .i64 ((k : Int) + 1)) w7 := by
                  obtain ⟨_, _, h33, h44, h55, _⟩ := HA6.out
                  have hng := negs_set (ix : Int) (by omega) y' a.to (by rw [HYV.out]; exact h2)
                  refine ⟨k + 1, y'.set a.to (ix : Int), q' ++ [a.to], by omega, by simp, ⟨hq7, hg8, by simp [h33], ?_, ?_, hb8⟩, ?_⟩
                  · intro n hn
                    rcases List.mem_append.1 hn with h | h
                    · exact h44 n h
                    · have : n = a.to := by simpa using h
                      omega
                  · simp
                    omega
                  · rw [← HS.out, List.drop_eq_getElem_cons hlt, HIX.out, scanM, HARC.out]
                    simp only
                    rw [if_pos ⟨h1, by rw [HYV.out]; exact h2, h3⟩]
                have HREL := Lib.hid hrel'
                clear hrel' hq7 hb7 hg7 hb8 hg8 hQ6 hB6 m0 m1 m1' f0
                go_wp2
                go_roundw
                case rel =>
                  repeat apply Exists.intro
                  exact ⟨HREL.out, rfl⟩
                case measure => simp [intOf]; omega
            · have d2 : decide (yv < 0) = false := by simp; omega
              refine wp_region_xt (by kernel_rfl) (by kernel_rfl) ?_
              repeat (go_big_quiet_step (fail))
              refine wpQuiet_nil ?_
              intro w6 hx
              have hb6 := Xt.below hx
              clear hx x0 x1 x2 x3
              have hG5 : w.heap.size ≤ w5.heap.size := HA4.out.2.2.2.2.2.size
              have hrel' : ScanRel w F w.heap.size gb V l1 z u4 (.int .i64 ((k : Int) + 1)) w6 := by
                refine ⟨k + 1, y', q', by omega, by simp, HA4.out.on hb6 hG5, ?_⟩
                rw [← HS.out, List.drop_eq_getElem_cons hlt, HIX.out, scanM, HARC.out]
                simp only
                rw [if_neg (fun hh => by have := hh.2.1; rw [HYV.out] at this; simp at this; omega)]
              have HREL := Lib.hid hrel'
              clear hrel' hb6 e0 e1 e2 g2'
              go_wp2
              go_roundw
              case rel => exact HREL.out
              case measure => simp [intOf]; omega
          · have d1 : decide (0 < a.lf) = false := by simp; omega
            refine wp_region_xt (by kernel_rfl) (by kernel_rfl) ?_
            repeat (go_big_quiet_step (fail))
            refine wpQuiet_nil ?_
            intro w6 hx
            have hb6 := Xt.below hx
            clear hx x0 x1 x2 x3
            have hG5 : w.heap.size ≤ w5.heap.size := HA4.out.2.2.2.2.2.size
            have hrel' : ScanRel w F w.heap.size gb V l1 z u4 (.int .i64 ((k : Int) + 1)) w6 := by
              refine ⟨k + 1, y', q', by omega, by simp, HA4.out.on hb6 hG5, ?_⟩
              rw [← HS.out, List.drop_eq_getElem_cons hlt, HIX.out, scanM, HARC.out]
              simp only
              rw [if_neg (fun hh => by have := hh.1; omega)]
            have HREL := Lib.hid hrel'
            clear hrel' hb6 e0 e1 e2 g2'
            go_wp2
            go_roundw
            case rel => exact HREL.out
            case measure => simp [intOf]; omega
        · have hd : l1.drop k = [] := by rw [List.drop_eq_nil_iff]; omega
          have hz2 := HS.out
          rw [hd] at hz2
          simp only [scanM] at hz2
          obtain ⟨t, ht⟩ := scanM_pre F l1 y (n :: q)
          rw [HZ.out, ← hz2] at ht
          simp only [List.cons_append] at ht
          subst ht
          obtain ⟨b', off', cap', hv', hc1, _, _, _⟩ := HA'.out.1.form
          subst hv'
          simp only [List.length_cons] at hc1
          have HZ2 := Lib.hid hz2
          clear hz2 hd
          have hG3 : ReachRel w F w.heap.size gb V r (m - 1) (Value.slice (if cap' = 1 then some { block := b', off := off' } else some { block := b', off := off' + 1 }) (q.length + t.length) (cap' - 1)) wr ∧ m ≠ 0 := by
            have hbf := HBF.out
            cases m with
            | zero => unfold bfsM at hbf; cases hbf
            | succ m =>
              unfold bfsM at hbf
              rw [HL1.out, Option.getD_some, HZ.out, ← HZ2.out] at hbf
              simp only [List.tail_cons] at hbf
              obtain ⟨h1, h2, h3, h4, h5, h6⟩ := HA'.out
              simp only [List.length_cons] at h1 h5
              refine ⟨⟨y', q ++ t, ⟨?_, h2, h3, fun x hx => h4 x (by simp [hx]), by simp at h5 ⊢; omega, h6⟩, hbf⟩, by omega⟩
              split
              · rename_i hc
                have := h1.tail0 hc
                simpa using this
              · have := h1.tail
                simpa using this
          have HG3 := Lib.hid hG3
          clear hG3
          go_wp2
          case roundEnd =>
            refine ⟨⟨_, HG3.out.1⟩, ?_⟩
            have h1 := (least_spec (p := fun f => ReachRel w F w.heap.size gb V r f (Value.slice (if cap' = 1 then some { block := b', off := off' } else some { block := b', off := off' + 1 }) (q.length + t.length) (cap' - 1)) wr) ⟨_, HG3.out.1⟩).2 _ HG3.out.1
            have h2 := HG3.out.2
            rw [HM.out]
            omega
end Go.Proofs.YtlbgocgocanloaaGreatDoor
namespace Go.Proofs.YtlbgocgocanloaaGreatDoor
open Go.RowKit
/-- the arc by which a node was reached -/
def byArc (arcs : List Arc) (y : List Int) (at_ : Nat) : Option Arc :=
  match y[at_]? with
  | none => none
  | some i => if i < 0 then none else arcs[i.toNat]?
/-- the least that the way back from a node takes -/
def minM (F : Fl) (y : List Int) : Nat → Nat → Int → Option Int
  | f, at_, acc => if at_ = F.src then some acc else
    match f with
    | 0 => none
    | f + 1 =>
      match byArc F.arcs y at_ with
      | none => none
      | some a => minM F y f a.fr (min acc a.lf)
def addLf (arcs : List Arc) (i : Nat) (d : Int) : List Arc := arcs.modify i fun a => { a with lf := a.lf + d }
def okI (x : Int) : Bool := decide (-1000000000 ≤ x) && decide (x ≤ 1000000000)
/-- some people sent along the way back from a node -/
def pushM (src : Nat) (y : List Int) (d : Int) : Nat → Nat → List Arc → Option (List Arc)
  | f, at_, arcs => if at_ = src then some arcs else
    match f with
    | 0 => none
    | f + 1 =>
      match y[at_]?, byArc arcs y at_ with
      | some i, some a =>
        match (addLf arcs i.toNat (-d))[a.bk]? with
        | none => none
        | some b => if okI (a.lf + -d) && okI (b.lf + d) then pushM src y d f a.fr (addLf (addLf arcs i.toNat (-d)) a.bk d) else none
      | _, _ => none
def moreM (F : Fl) (f : Nat) : Option (Option Fl) :=
  match bfsM F f (List.replicate F.adj.length (-1)) [F.src] with
  | none => none
  | some y =>
    if y[F.outn]?.getD 0 < 0 then some none else
    match minM F y f F.outn 60000 with
    | none => none
    | some d =>
      match pushM F.src y d f F.outn F.arcs with
      | none => none
      | some arcs => if okI (F.o + d) then some (some { F with arcs := arcs, o := F.o + d }) else none
theorem arcCells_set : ∀ (l : List Arc) (i : Nat) (v : Int), i < l.length → (arcCells l).set (i * 4 + 2) (.int .i64 v) = arcCells (l.modify i fun a => { a with lf := v })
  | [], i, v, h => by simp at h
  | b :: l, 0, v, _ => by
    have e1 : arcCells (b :: l) = arcVals b ++ arcCells l := by simp [arcCells]
    have e2 : (b :: l).modify 0 (fun a => { a with lf := v }) = { b with lf := v } :: l := by simp
    have e3 : arcCells ({ b with lf := v } :: l) = arcVals { b with lf := v } ++ arcCells l := by simp [arcCells]
    rw [e1, e2, e3]
    simp [arcVals]
  | b :: l, i + 1, v, h => by
    have e1 : arcCells (b :: l) = arcVals b ++ arcCells l := by simp [arcCells]
    have e2 : (b :: l).modify (i + 1) (fun a => { a with lf := v }) = b :: l.modify i (fun a => { a with lf := v }) := by simp
    have e3 : arcCells (b :: l.modify i (fun a => { a with lf := v })) = arcVals b ++ arcCells (l.modify i fun a => { a with lf := v }) := by simp [arcCells]
    rw [e1, e2, e3, ← arcCells_set l i v (by simpa using h)]
    rw [show (i + 1) * 4 + 2 = (arcVals b).length + (i * 4 + 2) by simp [arcVals]; omega, List.set_append_right _ _ (by omega)]
    simp
theorem FlowIn.setLf {w : World} {B g ab ob ca i : Nat} {rows : List Value} {F : Fl} (h : FlowIn w B g (.slice (some ⟨ab, 0, none⟩) F.arcs.length ca) ob rows F) (v : Int) (hi : i < F.arcs.length) :
    FlowIn (w.setCell ⟨ab, i * 4 + 2, none⟩ (.int .i64 v)) B g (.slice (some ⟨ab, 0, none⟩) F.arcs.length ca) ob rows { F with arcs := F.arcs.modify i fun a => { a with lf := v } } := by
  have nk : ∀ k, k ≠ ab → (w.setCell ⟨ab, i * 4 + 2, none⟩ (.int .i64 v)).heap[k]? = w.heap[k]? := fun k hk => by rw [heapq_set, if_neg hk]
  refine ⟨?_, ?_, ?_, h.rowsN, ?_, h.apart, h.hB, h.hB'⟩
  · rw [nk g (ownBlk_ne h.arcs rfl h.head (by decide))]
    exact h.head
  · have h1 := h.arcs.stored (i * 4 + 2) (.int .i64 v)
    rw [arcCells_set F.arcs i v hi] at h1
    show World.ownsRow _ B 200 4 _ (F.arcs.modify i _).length _
    rw [List.length_modify]
    exact h1.1
  · rw [nk ob (ownBlk_ne h.arcs rfl h.obH (by decide))]
    exact h.obH
  · intro j u l hu hl
    have h3 := h.row j u l hu hl
    refine ⟨ownsRow_keep h3.1 fun k hb => nk k ?_, by simpa using h3.2⟩
    intro he
    subst he
    exact ownBlk_ne' h3.1 h.arcs hb (by decide) rfl
theorem FlowIn.setO {w : World} {B g ob : Nat} {va : Value} {rows : List Value} {F : Fl} (h : FlowIn w B g va ob rows F) (v : Int) : FlowIn (w.setCell ⟨g, 6, none⟩ (.int .i64 v)) B g va ob rows { F with o := v } := by
  have nk : ∀ k, k ≠ g → (w.setCell ⟨g, 6, none⟩ (.int .i64 v)).heap[k]? = w.heap[k]? := fun k hk => by rw [heapq_set, if_neg hk]
  refine ⟨?_, ?_, ?_, h.rowsN, ?_, h.apart, h.hB, h.hB'⟩
  · rw [heapq_set, if_pos rfl, h.head]
    simp [objSet_cells]
  · exact ownsRow_keep h.arcs fun k hb => nk k (fun e => ownBlk_ne h.arcs hb h.head (by decide) e.symm)
  · rw [nk ob (Ne.symm h.ne)]
    exact h.obH
  · intro j u l hu hl
    have h3 := h.row j u l hu hl
    exact ⟨ownsRow_keep h3.1 fun k hb => nk k (fun e => ownBlk_ne h3.1 hb h.head (by decide) e.symm), h3.2⟩
end Go.Proofs.YtlbgocgocanloaaGreatDoor
namespace Go.Proofs.YtlbgocgocanloaaGreatDoor
open Go.RowKit
theorem scanM_len (F : Fl) : ∀ (l : List Nat) (y : List Int) (q : List Nat), (scanM F l y q).1.length = y.length
  | [], y, q => rfl
  | i :: l, y, q => by
    unfold scanM
    split
    · rfl
    · split
      · rw [scanM_len F l]; simp
      · exact scanM_len F l y q
theorem bfsM_len (F : Fl) : ∀ (f : Nat) (y : List Int) (q : List Nat) (r : List Int), bfsM F f y q = some r → r.length = y.length
  | f, y, [], r, h => by unfold bfsM at h; rw [Option.some.inj h]
  | 0, y, n :: q, r, h => by unfold bfsM at h; cases h
  | f + 1, y, n :: q, r, h => by
    unfold bfsM at h
    rw [bfsM_len F f _ _ r h, scanM_len]
def MorePost (w : World) (B g : Nat) (F : Fl) (x : Option Fl) (e : Ending) (w' : World) : Prop :=
  match x with
  | none => e = .returned (.bool false) ∧ FlowAt w' B g F ∧ Below B w w'
  | some F' => e = .returned (.bool true) ∧ FlowAt w' B g F' ∧ Below B w w'
set_option maxRecDepth 100000 in
set_option maxHeartbeats 8000000 in
theorem more_no (w : World) (B g : Nat) (F : Fl) (h : FlowAt w B g F) (ok : FlOk F) (f : Nat) (y : List Int) (hr : bfsM F f (List.replicate F.adj.length (-1)) [F.src] = some y) (hy : y[F.outn]?.getD 0 < 0) :
    Calls Tryz.prog 107 #[.pointer (some ⟨g, 0, none⟩)] w (MorePost w B g F none) := by
  have hlen := bfsM_len F f _ _ y hr
  rw [List.length_replicate] at hlen
  have R := reach_any w B g F h ok f y hr
  obtain ⟨va, ob, rows, h⟩ := h
  have ho := ok.outn
  obtain ⟨yo, hyo⟩ : ∃ x, y[F.outn]? = some x := ⟨y[F.outn]'(by omega), by simp [hlen, ho]⟩
  rw [hyo, Option.getD_some] at hy
  have d1 : decide (yo < 0) = true := by simp; omega
  have i0 : (0 : Int) ≤ (F.outn : Int) := by omega
  have i1 : (F.outn : Int) < (y.length : Int) := by omega
  have HH := Lib.hid h
  have HY := Lib.hid hyo
  clear h hyo hr ok
  go_enter Tryz.func107, Tryz.ntmps107
  go_upto_region 2 with (go_at_call 140; refine R.mono ?_; rintro e w1 ⟨gb, rfl, hgb, hge, hb1⟩)
  have HF := HH.out.keep (fun k hk => hb1.block k hk)
  have g3 := cell_of_row w1 g 3 _ _ _ HF.head
  have e0 := cell_of_row w1 gb F.outn _ _ _ hgb
  simp at g3
  simp only [intCells, List.getElem?_toArray, List.getElem?_map, HY.out, Option.map_some] at e0
  have hb2 : Below B w w1 := hb1.mono (Nat.le_of_lt (Nat.lt_of_le_of_lt HH.out.hB (lt_of_block HH.out.head)))
  have HF' := Lib.hid HF
  clear R HF hb1 hgb
  go_wp2
  go_ret
  exact ⟨rfl, ⟨va, ob, rows, HF'.out⟩, hb2⟩
end Go.Proofs.YtlbgocgocanloaaGreatDoor
