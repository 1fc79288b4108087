/- Found and mended: rows of one's own that grow beside each other, and the work's block. -/
import Derived.Test.YtlbgocgocanloaaGreatDoorf5M1
import Derived.Test.YtlbgocgocanloaaGreatDoorf5T1
import Derived.Test.YtlbgocgocanloaaGreatDoorf5T5
namespace Go.Proofs.YtlbgocgocanloaaGreatDoor
open Go.RowKit
theorem fdCells_append (l m : List Fd) : fdCells (l ++ m) = fdCells l ++ fdCells m := by simp [fdCells]
/-- an append of findings to the findings of one's own -/
theorem wpList_append_fd (w : World) {ops : Array Oper} {rest : List Oper} {o : Oper} {a : Act} {Q : Exit → Act → World → Prop} (hgd : o.guard = none) (s x : Operand)
    (ho : o.op = .call { callee := .builtin .append, args := #[s, x], argTypes := #[76, 76] })
    (base : Nat) (A : Option Addr) (c n0 n1 : Nat) (l : List Fd) (hs : a.eval s = .slice A n0 c) (hown : w.ownsRow base 25 4 (.slice A n0 c) n0 (fdCells l))
    (t : Nat) (m : Nat) (new : List Fd) (hx : a.eval x = .slice (some ⟨t, 0, none⟩) m m) (hm : new.length = m) (hm0 : 0 < m) (hn1 : n0 + m = n1) (hn : n1 ≤ 1000) (hrow : w.heap[t]? = some (.cells (fdCells new).toArray 25 (0, 0))) (hbase : base ≤ w.heap.size)
    (h : ∀ g cap w', w'.ownsRow base 25 4 (.slice (some ⟨g, 0, none⟩) n1 cap) n1 (fdCells (l ++ new)) → w.grownBy w' (Value.slice A n0 c).ownBlock → ((Value.slice A n0 c).ownBlock = some g ∨ g = w.heap.size) → g < w'.heap.size → wpList Tryz.prog ops Q rest (a.put o.dst (.slice (some ⟨g, 0, none⟩) n1 cap)) w') : wpList Tryz.prog ops Q (o :: rest) a w := by
  obtain ⟨i1, hi1, hy0, hy1, hy2⟩ := info_parts info25
  subst hn1
  refine wpList_append_lies w hgd s x 76 ho base 25 i1 _ 4 40 Tryz.underlying76 hi1 hy0 hy1 hy2 rfl (by omega) _ n0 (fdCells l) hs hown ⟨t, 0, none⟩ m m (fdCells new) hx (by rw [fdCells_len, hm]) ?_ (fdCells_one new) hm0 (by simp only [maxLen]; omega) (by omega) hbase _ rfl ?_
  · intro j u hu
    simp only [Addr.add]
    split
    · rename_i hj
      subst hj
      rw [cell_of_row w t 0 _ _ _ hrow]
      simpa using hu
    · rw [cell_of_row w t _ _ _ _ hrow]
      simpa using hu
  · intro g cap w' h1 h2 h3 h4
    rw [fdCells_append] at h
    exact h g cap w' h1 h2 h3 h4
/-- an append of jobs to the jobs of one's own -/
theorem wpList_append_jb (w : World) {ops : Array Oper} {rest : List Oper} {o : Oper} {a : Act} {Q : Exit → Act → World → Prop} (hgd : o.guard = none) (s x : Operand)
    (ho : o.op = .call { callee := .builtin .append, args := #[s, x], argTypes := #[77, 77] })
    (base : Nat) (A : Option Addr) (c n0 n1 : Nat) (l : List Ev) (hs : a.eval s = .slice A n0 c) (hown : w.ownsRow base 81 3 (.slice A n0 c) n0 (evCells l))
    (t : Nat) (m : Nat) (new : List Ev) (hx : a.eval x = .slice (some ⟨t, 0, none⟩) m m) (hm : new.length = m) (hm0 : 0 < m) (hn1 : n0 + m = n1) (hn : n1 ≤ 1000) (hrow : w.heap[t]? = some (.cells (evCells new).toArray 81 (0, 0))) (hbase : base ≤ w.heap.size)
    (h : ∀ g cap w', w'.ownsRow base 81 3 (.slice (some ⟨g, 0, none⟩) n1 cap) n1 (evCells (l ++ new)) → w.grownBy w' (Value.slice A n0 c).ownBlock → ((Value.slice A n0 c).ownBlock = some g ∨ g = w.heap.size) → g < w'.heap.size → wpList Tryz.prog ops Q rest (a.put o.dst (.slice (some ⟨g, 0, none⟩) n1 cap)) w') : wpList Tryz.prog ops Q (o :: rest) a w := by
  obtain ⟨i1, hi1, hy0, hy1, hy2⟩ := info_parts info81
  subst hn1
  refine wpList_append_lies w hgd s x 77 ho base 81 i1 _ 3 24 Tryz.underlying77 hi1 hy0 hy1 hy2 rfl (by omega) _ n0 (evCells l) hs hown ⟨t, 0, none⟩ m m (evCells new) hx (by rw [evCells_len, hm]) ?_ (evCells_one new) hm0 (by simp only [maxLen]; omega) (by omega) hbase _ rfl ?_
  · intro j u hu
    simp only [Addr.add]
    split
    · rename_i hj
      subst hj
      rw [cell_of_row w t 0 _ _ _ hrow]
      simpa using hu
    · rw [cell_of_row w t _ _ _ _ hrow]
      simpa using hu
  · intro g cap w' h1 h2 h3 h4
    rw [evCells_append] at h
    exact h g cap w' h1 h2 h3 h4
/-- what stays while one row grows: another one of another type, and a block ahead -/
theorem grow_keep {W W' : World} {B e1 z1 n1 e2 z2 n2 : Nat} {v1 v2 : Value} {X1 X2 : List Value} (hg : W.grownBy W' v1.ownBlock) (h1 : W.ownsRow B e1 z1 v1 n1 X1) (h2 : W.ownsRow B e2 z2 v2 n2 X2) (he : e1 ≠ e2) : W'.ownsRow B e2 z2 v2 n2 X2 :=
  own_keep2 h2 fun k cur hk => hg.block k (lt_of_block hk) fun hs => by
    obtain ⟨_, _, cur', hc⟩ := ownBlk h1 hs.symm
    rw [hk] at hc
    simp only [Option.some.injEq, Obj.cells.injEq] at hc
    exact he hc.2.1.symm
theorem grow_block {W W' : World} {B e1 z1 n1 k : Nat} {v1 : Value} {X1 : List Value} (hg : W.grownBy W' v1.ownBlock) (h1 : W.ownsRow B e1 z1 v1 n1 X1) (hk : k < B) (hs : k < W.heap.size) : W'.heap[k]? = W.heap[k]? :=
  hg.block k hs fun he => by
    have := (ownBlk h1 he.symm).1
    omega
/-- the law's rows: what is found, and the jobs in the work's block; r: the block of the hours -/
structure Fnds (w3 wr : World) (r : Nat) (hours : Int) (n k : Nat) (F : List Fd) (Au Aj : Option Addr) (cu cj : Nat) : Prop where
  fd : wr.ownsRow (r + 2) 25 4 (.slice Au n cu) n (fdCells F)
  jb : wr.ownsRow (r + 2) 81 3 (.slice Aj k cj) k (evCells (jobs k))
  wk : wr.heap[r + 1]? = some (.cells #[.slice (some ⟨r, 0, none⟩) 2 2, .slice Aj k cj] 79 (0, 0))
  hr : wr.heap[r]? = some (.cells #[.int .i64 hours, .int .i64 0] 3 (0, 0))
  hb : Below r w3 wr
  sz : r + 2 ≤ wr.heap.size
theorem Fnds.below {w3 wr W : World} {r n k : Nat} {hours : Int} {F : List Fd} {Au Aj : Option Addr} {cu cj : Nat} (h : Fnds w3 wr r hours n k F Au Aj cu cj) (hb : Below wr.heap.size wr W) : Fnds w3 W r hours n k F Au Aj cu cj :=
  ⟨ownsRow_keep h.fd fun k hk => hb.block k (ownBlk h.fd hk).2.1, ownsRow_keep h.jb fun k hk => hb.block k (ownBlk h.jb hk).2.1, (hb.block _ (lt_of_block h.wk)).trans h.wk, (hb.block _ (lt_of_block h.hr)).trans h.hr, h.hb.trans (hb.mono (by have := h.sz; omega)), Nat.le_trans h.sz hb.size⟩
/-- one more finding -/
theorem Fnds.find {w3 wr W : World} {r n m k g cap : Nat} {hours : Int} {F F' : List Fd} {Au Aj : Option Addr} {cu cj : Nat} (h : Fnds w3 wr r hours n k F Au Aj cu cj) (hg : wr.grownBy W (Value.slice Au n cu).ownBlock) (ho : W.ownsRow (r + 2) 25 4 (.slice (some ⟨g, 0, none⟩) m cap) m (fdCells F')) :
    Fnds w3 W r hours m k F' (some ⟨g, 0, none⟩) Aj cap cj :=
  ⟨ho, grow_keep hg h.fd h.jb (by decide), (grow_block hg h.fd (by omega) (lt_of_block h.wk)).trans h.wk, (grow_block hg h.fd (by omega) (lt_of_block h.hr)).trans h.hr, h.hb.grown hg (by have := h.sz; omega) (fun q hq => by have := (ownBlk h.fd hq).1; omega), Nat.le_trans h.sz hg.size⟩
/-- one more job, stored -/
theorem Fnds.job {w3 wr W : World} {r n k k1 g cap : Nat} {hours : Int} {F : List Fd} {Au Aj : Option Addr} {cu cj : Nat} (h : Fnds w3 wr r hours n k F Au Aj cu cj) (hg : wr.grownBy W (Value.slice Aj k cj).ownBlock) (ho : W.ownsRow (r + 2) 81 3 (.slice (some ⟨g, 0, none⟩) k1 cap) k1 (evCells (jobs k1))) :
    Fnds w3 (W.setCell ⟨r + 1, 1, none⟩ (.slice (some ⟨g, 0, none⟩) k1 cap)) r hours n k1 F Au (some ⟨g, 0, none⟩) cu cap := by
  have h1 := grow_keep hg h.jb h.fd (by decide)
  have hw := (grow_block hg h.jb (by omega) (lt_of_block h.wk)).trans h.wk
  have hr := (grow_block hg h.jb (by omega) (lt_of_block h.hr)).trans h.hr
  have hb := h.hb.grown hg (by have := h.sz; omega) (fun q hq => by have := (ownBlk h.jb hq).1; omega)
  refine ⟨ownsRow_setCell_other h1 (fun he => ?_) _, ownsRow_setCell_other ho (fun he => ?_) _, ?_, ?_, hb.setCell (by show r ≤ r + 1; omega) _, ?_⟩
  · have := (ownBlk h1 he).1
    simp only at this
    omega
  · have := (ownBlk ho he).1
    simp only at this
    omega
  · rw [heapq_set, if_pos rfl, hw]
    simp [objSet_cells]
  · rw [heapq_set, if_neg (by simp), hr]
  · have := h.sz
    have := hg.size
    simp [World.setCell]
    omega
theorem rd_row {W : World} {r t B : Nat} {cs : List Value} (h : W.heap[r]? = some (.cells cs.toArray t (0, 0))) (hB : r < B) : Rd W B (some ⟨r, 0, none⟩) cs := fun k u hk => by
  refine ⟨r, 0, rfl, hB, ?_⟩
  rw [Nat.zero_add, cell_of_row _ _ _ _ _ _ h]
  simpa using hk
theorem own_capM {w : World} {B e size g n c : Nat} {xs : List Value} (h : w.ownsRow B e size (.slice (some ⟨g, 0, none⟩) n c) n xs) : n ≤ c := by
  rcases h.2 with ⟨h1, _⟩ | ⟨g', cap, cur, h1, _, _, h2, _⟩
  · cases h1
  · cases h1
    exact h2
/-- what the first windows are -/
def WorkCut (v : World) (n : Nat) (hours : Int) (s16 s17 : Value) (wc : World) : Prop :=
  ∃ (A : Option Addr) (m cap : Nat) (E : Int), s16 = .slice A m cap ∧ s17 = .int .i64 E ∧ (E = 0 ∧ 10 * (n : Int) ≤ hours ∨ E = 12 ∧ ¬ 10 * (n : Int) ≤ hours) ∧ m ≤ n ∧ Rd wc wc.heap.size A (intCells (List.replicate m 0)) ∧ Below v.heap.size v wc
def FoundRel (w3 : World) (T : List Int) (off hours : Int) (n : Nat) (u9 u11 : Value) (wr : World) : Prop :=
  ∃ (k : Nat) (Au Aj : Option Addr) (cu cj : Nat), k ≤ n ∧ u11 = .int .i64 k ∧ u9 = .slice Au k cu ∧ Fnds w3 wr w3.heap.size hours k k (fds T off k) Au Aj cu cj
def MendRel (w3 : World) (T : List Int) (off hours : Int) (n : Nat) (u9 u19 : Value) (wr : World) : Prop :=
  ∃ (k m : Nat) (Au Aj : Option Addr) (cu cj : Nat), k ≤ n ∧ m = n + k ∧ u19 = .int .i64 k ∧ u9 = .slice Au m cu ∧ Fnds w3 wr w3.heap.size hours m n (fds T off n ++ fds2 T k) Au Aj cu cj
def LookRel (w4 : World) (m : Nat) (u18 : Value) (wr : World) : Prop := ∃ k : Nat, k ≤ m ∧ u18 = .int .i64 k ∧ Below w4.heap.size w4 wr
end Go.Proofs.YtlbgocgocanloaaGreatDoor
