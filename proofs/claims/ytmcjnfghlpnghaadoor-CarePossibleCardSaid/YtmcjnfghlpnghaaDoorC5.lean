/- more: one way out, as many as it takes. -/
import Derived.Test.YtmcjnfghlpnghaaDoorC4
namespace Go.Proofs.YtmcjnfghlpnghaaDoor
open Go.RowKit

/-- the arc by which a node was reached -/
def byArc (arcs : List Arc) (y : List Int) (at_ : Nat) : Option Arc :=
  match y[at_]? with
  | none => none
  | some i => if i < 0 then none else arcs[i.toNat]?
/-- the least that the way back from a node takes -/
def minM (F : Fl) (y : List Int) : Nat → Nat → Int → Option Int
  | f, at_, acc => if at_ = F.src then some acc else
    match f with
    | 0 => none
    | f + 1 =>
      match byArc F.arcs y at_ with
      | none => none
      | some a => minM F y f a.fr (min acc a.lf)
def addLf (arcs : List Arc) (i : Nat) (d : Int) : List Arc := arcs.modify i fun a => { a with lf := a.lf + d }
def okI (x : Int) : Bool := decide (-1000000000 ≤ x) && decide (x ≤ 1000000000)
/-- some people sent along the way back from a node -/
def pushM (src : Nat) (y : List Int) (d : Int) : Nat → Nat → List Arc → Option (List Arc)
  | f, at_, arcs => if at_ = src then some arcs else
    match f with
    | 0 => none
    | f + 1 =>
      match y[at_]?, byArc arcs y at_ with
      | some i, some a =>
        match (addLf arcs i.toNat (-d))[a.bk]? with
        | none => none
        | some b => if okI (a.lf + -d) && okI (b.lf + d) then pushM src y d f a.fr (addLf (addLf arcs i.toNat (-d)) a.bk d) else none
      | _, _ => none
def moreM (F : Fl) (f : Nat) : Option (Option Fl) :=
  match bfsM F f (List.replicate F.adj.length (-1)) [F.src] with
  | none => none
  | some y =>
    if y[F.outn]?.getD 0 < 0 then some none else
    match minM F y f F.outn 60000 with
    | none => none
    | some d =>
      match pushM F.src y d f F.outn F.arcs with
      | none => none
      | some arcs => if okI (F.o + d) then some (some { F with arcs := arcs, o := F.o + d }) else none

theorem arcCells_set : ∀ (l : List Arc) (i : Nat) (v : Int), i < l.length → (arcCells l).set (i * 4 + 2) (.int .i64 v) = arcCells (l.modify i fun a => { a with lf := v })
  | [], i, v, h => by simp at h
  | b :: l, 0, v, _ => by
    have e1 : arcCells (b :: l) = arcVals b ++ arcCells l := by simp [arcCells]
    have e2 : (b :: l).modify 0 (fun a => { a with lf := v }) = { b with lf := v } :: l := by simp
    have e3 : arcCells ({ b with lf := v } :: l) = arcVals { b with lf := v } ++ arcCells l := by simp [arcCells]
    rw [e1, e2, e3]
    simp [arcVals]
  | b :: l, i + 1, v, h => by
    have e1 : arcCells (b :: l) = arcVals b ++ arcCells l := by simp [arcCells]
    have e2 : (b :: l).modify (i + 1) (fun a => { a with lf := v }) = b :: l.modify i (fun a => { a with lf := v }) := by simp
    have e3 : arcCells (b :: l.modify i (fun a => { a with lf := v })) = arcVals b ++ arcCells (l.modify i fun a => { a with lf := v }) := by simp [arcCells]
    rw [e1, e2, e3, ← arcCells_set l i v (by simpa using h)]
    rw [show (i + 1) * 4 + 2 = (arcVals b).length + (i * 4 + 2) by simp [arcVals]; omega, List.set_append_right _ _ (by omega)]
    simp

theorem FlowIn.setLf {w : World} {B g ab ob ca i : Nat} {rows : List Value} {F : Fl} (h : FlowIn w B g (.slice (some ⟨ab, 0, none⟩) F.arcs.length ca) ob rows F) (v : Int) (hi : i < F.arcs.length) :
    FlowIn (w.setCell ⟨ab, i * 4 + 2, none⟩ (.int .i64 v)) B g (.slice (some ⟨ab, 0, none⟩) F.arcs.length ca) ob rows { F with arcs := F.arcs.modify i fun a => { a with lf := v } } := by
  have nk : ∀ k, k ≠ ab → (w.setCell ⟨ab, i * 4 + 2, none⟩ (.int .i64 v)).heap[k]? = w.heap[k]? := fun k hk => by rw [heapq_set, if_neg hk]
  refine ⟨?_, ?_, ?_, h.rowsN, ?_, h.apart, h.hB, h.hB'⟩
  · rw [nk g (ownBlk_ne h.arcs rfl h.head (by decide))]
    exact h.head
  · have h1 := h.arcs.stored (i * 4 + 2) (.int .i64 v)
    rw [arcCells_set F.arcs i v hi] at h1
    show World.ownsRow _ B 215 4 _ (F.arcs.modify i _).length _
    rw [List.length_modify]
    exact h1.1
  · rw [nk ob (ownBlk_ne h.arcs rfl h.obH (by decide))]
    exact h.obH
  · intro j u l hu hl
    have h3 := h.row j u l hu hl
    refine ⟨ownsRow_keep h3.1 fun k hb => nk k ?_, by simpa using h3.2⟩
    intro he
    subst he
    exact ownBlk_ne' h3.1 h.arcs hb (by decide) rfl

theorem FlowIn.setO {w : World} {B g ob : Nat} {va : Value} {rows : List Value} {F : Fl} (h : FlowIn w B g va ob rows F) (v : Int) : FlowIn (w.setCell ⟨g, 6, none⟩ (.int .i64 v)) B g va ob rows { F with o := v } := by
  have nk : ∀ k, k ≠ g → (w.setCell ⟨g, 6, none⟩ (.int .i64 v)).heap[k]? = w.heap[k]? := fun k hk => by rw [heapq_set, if_neg hk]
  refine ⟨?_, ?_, ?_, h.rowsN, ?_, h.apart, h.hB, h.hB'⟩
  · rw [heapq_set, if_pos rfl, h.head]
    simp [objSet_cells]
  · exact ownsRow_keep h.arcs fun k hb => nk k (fun e => ownBlk_ne h.arcs hb h.head (by decide) e.symm)
  · rw [nk ob (Ne.symm h.ne)]
    exact h.obH
  · intro j u l hu hl
    have h3 := h.row j u l hu hl
    exact ⟨ownsRow_keep h3.1 fun k hb => nk k (fun e => ownBlk_ne h3.1 hb h.head (by decide) e.symm), h3.2⟩
end Go.Proofs.YtmcjnfghlpnghaaDoor
