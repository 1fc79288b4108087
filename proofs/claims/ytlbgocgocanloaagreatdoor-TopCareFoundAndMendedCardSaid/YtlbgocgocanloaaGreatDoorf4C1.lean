/- The flow in memory: what it is, and how it goes on. -/
import Derived.Test.YtlbgocgocanloaaGreatDoorf4B4
import Derived.Test.YtlbgocgocanloaaGreatDoorf4R2
import Derived.Deep.AppendLies
namespace Go.Proofs.YtlbgocgocanloaaGreatDoor
open Go.RowKit
structure Arc where
  fr : Nat
  to : Nat
  lf : Int
  bk : Nat
def arcVals (a : Arc) : List Value := [.int .i64 a.fr, .int .i64 a.to, .int .i64 a.lf, .int .i64 a.bk]
def arcCells (l : List Arc) : List Value := l.flatMap arcVals
def natCells (l : List Nat) : List Value := l.map fun (n : Nat) => Value.int .i64 (n : Int)
theorem natCells_len (l : List Nat) : (natCells l).length = l.length := by simp [natCells]
theorem natCells_snoc (l : List Nat) (n : Nat) : natCells (l ++ [n]) = natCells l ++ [.int .i64 (n : Int)] := by simp [natCells]
structure Fl where
  arcs : List Arc
  adj : List (List Nat)
  src : Nat
  outn : Nat
  rooms : Nat
  ticks : Nat
  o : Int
structure FlowIn (w : World) (B g : Nat) (va : Value) (ob : Nat) (rows : List Value) (F : Fl) : Prop where
  head : w.heap[g]? = some (.cells #[va, .slice (some ⟨ob, 0, none⟩) F.adj.length F.adj.length, .int .i64 F.src, .int .i64 F.outn, .int .i64 F.rooms, .int .i64 F.ticks, .int .i64 F.o] 141 (0, 0))
  arcs : w.ownsRow B 200 4 va F.arcs.length (arcCells F.arcs)
  obH : w.heap[ob]? = some (.cells rows.toArray 44 (0, 0))
  rowsN : rows.length = F.adj.length
  row : ∀ (i : Nat) (v : Value) (l : List Nat), rows[i]? = some v → F.adj[i]? = some l → w.ownsRow B 3 1 v l.length (natCells l) ∧ l.length ≤ F.arcs.length
  apart : ∀ (i j : Nat) (v v' : Value) (b : Nat), i ≠ j → rows[i]? = some v → rows[j]? = some v' → v.ownBlock = some b → v'.ownBlock ≠ some b
  hB : B ≤ g
  hB' : B ≤ ob
/-- an owned row's block -/
theorem ownBlk {w : World} {B e size n k : Nat} {v : Value} {xs : List Value} (h : w.ownsRow B e size v n xs) (hk : v.ownBlock = some k) : B ≤ k ∧ k < w.heap.size ∧ ∃ cur, w.heap[k]? = some (.cells cur e (0, 0)) := by
  rcases h.2 with ⟨rfl, _⟩ | ⟨g, cap, cur, rfl, h1, h2, _⟩
  · simp [Value.ownBlock] at hk
  · simp [Value.ownBlock] at hk
    subst hk
    exact ⟨h1, lt_of_block h2, cur, h2⟩
theorem ownBlk_ne {w : World} {B e t size n k g : Nat} {v : Value} {xs : List Value} {cs : Array Value} (h : w.ownsRow B e size v n xs) (hk : v.ownBlock = some k) (hg : w.heap[g]? = some (.cells cs t (0, 0))) (hne : e ≠ t) : g ≠ k := by
  obtain ⟨_, _, cur, hc⟩ := ownBlk h hk
  intro he
  subst he
  rw [hc] at hg
  simp at hg
  exact hne hg.2
theorem ownBlk_ne' {w : World} {B B' e e' size size' n n' k : Nat} {v v' : Value} {xs xs' : List Value} (h : w.ownsRow B e size v n xs) (h' : w.ownsRow B' e' size' v' n' xs') (hk : v.ownBlock = some k) (hne : e ≠ e') : v'.ownBlock ≠ some k := by
  intro hk'
  obtain ⟨_, _, cur, hc⟩ := ownBlk h hk
  exact ownBlk_ne h' hk' hc (fun x => hne x.symm) rfl
/-- an owned row is as it was if its block is -/
theorem ownsRow_keep {w w' : World} {B e size n : Nat} {v : Value} {xs : List Value} (h : w.ownsRow B e size v n xs) (hk : ∀ k, v.ownBlock = some k → w'.heap[k]? = w.heap[k]?) : w'.ownsRow B e size v n xs := by
  refine ⟨h.1, h.2.imp id ?_⟩
  rintro ⟨g, cap, cur, rfl, h1, h2, r⟩
  exact ⟨g, cap, cur, rfl, h1, by rw [hk g rfl]; exact h2, r⟩
variable {w w' : World} {B g ob : Nat} {va : Value} {rows : List Value} {F : Fl}
/-- the flow stays if its blocks do -/
theorem FlowIn.keep (h : FlowIn w B g va ob rows F) (hk : ∀ k, k < w.heap.size → w'.heap[k]? = w.heap[k]?) : FlowIn w' B g va ob rows F where
  head := by rw [hk g (lt_of_block h.head)]; exact h.head
  arcs := ownsRow_keep h.arcs fun k hb => hk k (ownBlk h.arcs hb).2.1
  obH := by rw [hk ob (lt_of_block h.obH)]; exact h.obH
  rowsN := h.rowsN
  row := fun i v l hv hl => ⟨ownsRow_keep (h.row i v l hv hl).1 fun k hb => hk k (ownBlk (h.row i v l hv hl).1 hb).2.1, (h.row i v l hv hl).2⟩
  apart := h.apart
  hB := h.hB
  hB' := h.hB'
theorem FlowIn.ne (h : FlowIn w B g va ob rows F) : g ≠ ob := by
  intro he
  have h1 := h.head
  rw [he, h.obH] at h1
  simp at h1
/-- arcs appended, and the slice stored -/
theorem FlowIn.arcsOn (h : FlowIn w B g va ob rows F) {w1 : World} {va' : Value} {more : List Arc} (hown : w1.ownsRow B 200 4 va' (F.arcs.length + more.length) (arcCells F.arcs ++ arcCells more))
    (hk : ∀ k, k < w.heap.size → some k ≠ va.ownBlock → w1.heap[k]? = w.heap[k]?) (hnew : ∀ k, va'.ownBlock = some k → va.ownBlock = some k ∨ w.heap.size ≤ k) :
    FlowIn (w1.setCell ⟨g, 0, none⟩ va') B g va' ob rows { F with arcs := F.arcs ++ more } where
  head := by
    have h1 := h.head
    have h2 : w1.heap[g]? = w.heap[g]? := hk g (lt_of_block h1) (fun he => ownBlk_ne h.arcs he.symm h1 (by decide) rfl)
    rw [heapq_set, if_pos rfl, h2, h1]
    simp [objSet_cells]
  arcs := by
    have : (arcCells (F.arcs ++ more)) = arcCells F.arcs ++ arcCells more := by simp [arcCells]
    show World.ownsRow _ B 200 4 va' (F.arcs ++ more).length (arcCells (F.arcs ++ more))
    rw [this, List.length_append]
    refine ownsRow_keep hown fun k hb => ?_
    rw [heapq_set, if_neg]
    intro he
    subst he
    rcases hnew k hb with h1 | h1
    · exact ownBlk_ne h.arcs h1 h.head (by decide) rfl
    · have := lt_of_block h.head
      omega
  obH := by
    have h2 : w1.heap[ob]? = w.heap[ob]? := hk ob (lt_of_block h.obH) (fun he => ownBlk_ne h.arcs he.symm h.obH (by decide) rfl)
    rw [heapq_set, if_neg (Ne.symm h.ne), h2]
    exact h.obH
  rowsN := h.rowsN
  row := fun i v l hv hl => by
    refine ⟨ownsRow_keep (h.row i v l hv hl).1 fun k hb => ?_, by have := (h.row i v l hv hl).2; simp; omega⟩
    have h3 := (h.row i v l hv hl).1
    rw [heapq_set, if_neg, hk k (ownBlk h3 hb).2.1]
    · exact fun he => ownBlk_ne' h3 h.arcs hb (by decide) he.symm
    · intro he
      subst he
      exact ownBlk_ne h3 hb h.head (by decide) rfl
  apart := h.apart
  hB := h.hB
  hB' := h.hB'
/-- some lists of arcs turned: those at the indices of C -/
theorem FlowIn.rowsOn (h : FlowIn w B g va ob rows F) (C : Nat → Prop) {X : World} {rows' : List Value} {adj' : List (List Nat)}
    (hk : ∀ k, k < w.heap.size → k ≠ ob → (∀ i v, C i → rows[i]? = some v → v.ownBlock ≠ some k) → X.heap[k]? = w.heap[k]?)
    (hob : X.heap[ob]? = some (.cells rows'.toArray 44 (0, 0))) (hlr : rows'.length = rows.length) (hla : adj'.length = F.adj.length)
    (same : ∀ i, ¬ C i → rows'[i]? = rows[i]? ∧ adj'[i]? = F.adj[i]?)
    (new : ∀ i v l, C i → rows'[i]? = some v → adj'[i]? = some l → X.ownsRow B 3 1 v l.length (natCells l) ∧ l.length ≤ F.arcs.length)
    (newAt : ∀ i v k, C i → rows'[i]? = some v → v.ownBlock = some k → (∃ u, rows[i]? = some u ∧ u.ownBlock = some k) ∨ w.heap.size ≤ k)
    (newApart : ∀ i j v v' k, C i → C j → i ≠ j → rows'[i]? = some v → rows'[j]? = some v' → v.ownBlock = some k → v'.ownBlock ≠ some k) :
    FlowIn X B g va ob rows' { F with adj := adj' } := by
  have rowOf : ∀ (i : Nat) (v : Value), rows[i]? = some v → ∃ l, F.adj[i]? = some l ∧ w.ownsRow B 3 1 v l.length (natCells l) := by
    intro j x hx
    have hjl := (List.getElem?_eq_some_iff.1 hx).1
    have : ∃ m, F.adj[j]? = some m := ⟨F.adj[j]'(by rw [← h.rowsN]; exact hjl), by simp⟩
    obtain ⟨m, hm⟩ := this
    exact ⟨m, hm, (h.row j x m hx hm).1⟩
  refine ⟨?_, ?_, hob, by rw [hlr, h.rowsN]; exact hla.symm, ?_, ?_, h.hB, h.hB'⟩
  · have h1 := h.head
    rw [hk g (lt_of_block h1) h.ne]
    · show _ = some (Obj.cells #[va, .slice (some ⟨ob, 0, none⟩) adj'.length adj'.length, _, _, _, _, _] 141 (0, 0))
      rw [hla]
      exact h1
    · intro i v _ hv hb
      obtain ⟨l, _, h3⟩ := rowOf i v hv
      exact ownBlk_ne h3 hb h1 (by decide) rfl
  · refine ownsRow_keep h.arcs fun k hb => hk k (ownBlk h.arcs hb).2.1 (fun he => ownBlk_ne h.arcs hb h.obH (by decide) he.symm) ?_
    intro i v _ hv hb'
    obtain ⟨l, _, h3⟩ := rowOf i v hv
    exact ownBlk_ne' h.arcs h3 hb (by decide) hb'
  · intro i v l hv hl
    by_cases hc : C i
    · exact new i v l hc hv hl
    · rw [(same i hc).1] at hv
      have hl' : F.adj[i]? = some l := by rw [← (same i hc).2]; exact hl
      have h3 := h.row i v l hv hl'
      refine ⟨ownsRow_keep h3.1 fun k hb => hk k (ownBlk h3.1 hb).2.1 (fun he => ownBlk_ne h3.1 hb h.obH (by decide) he.symm) ?_, h3.2⟩
      intro j u hj hu hb'
      exact h.apart i j v u k (fun e => hc (e ▸ hj)) hv hu hb hb'
  · have mix : ∀ i j v v' k, C i → ¬ C j → rows'[i]? = some v → rows'[j]? = some v' → v.ownBlock = some k → v'.ownBlock ≠ some k := by
      intro i j v v' k hi hj hv hv' hb hb'
      rw [(same j hj).1] at hv'
      rcases newAt i v k hi hv hb with ⟨u, hu, hub⟩ | hge
      · exact h.apart i j u v' k (fun e => hj (e ▸ hi)) hu hv' hub hb'
      · obtain ⟨l, _, h3⟩ := rowOf j v' hv'
        have := (ownBlk h3 hb').2.1
        omega
    intro i j v v' k hij hv hv' hb hb'
    by_cases hi : C i
    · by_cases hj : C j
      · exact newApart i j v v' k hi hj hij hv hv' hb hb'
      · exact mix i j v v' k hi hj hv hv' hb hb'
    · by_cases hj : C j
      · exact mix j i v' v k hj hi hv' hv hb' hb
      · rw [(same i hi).1] at hv
        rw [(same j hj).1] at hv'
        exact h.apart i j v v' k hij hv hv' hb hb'
def FlowAt (w : World) (B g : Nat) (F : Fl) : Prop := ∃ va ob rows, FlowIn w B g va ob rows F
def Fl.join (F : Fl) (fr to : Nat) (most : Int) : Fl :=
  { F with
    arcs := F.arcs ++ [⟨fr, to, most, F.arcs.length + 1⟩, ⟨to, fr, 0, F.arcs.length⟩]
    adj := (F.adj.set fr (F.adj[fr]?.getD [] ++ [F.arcs.length])).set to (F.adj[to]?.getD [] ++ [F.arcs.length + 1]) }
theorem info200 : (Tryz.prog.info? 200).map (fun i => (i.zero, i.size, i.bytes)) = some (some (.agg #[.int .i64 0, .int .i64 0, .int .i64 0, .int .i64 0]), 4, 32) := by kernel_rfl
theorem info3 : (Tryz.prog.info? 3).map (fun i => (i.zero, i.size, i.bytes)) = some (some (.int .i64 0), 1, 8) := by kernel_rfl
theorem rowForm {w : World} {B e size n : Nat} {v : Value} {xs : List Value} (h : w.ownsRow B e size v n xs) : ∃ A cap, v = .slice A n cap := by
  rcases h.2 with ⟨rfl, rfl⟩ | ⟨g, cap, cur, rfl, _⟩
  · exact ⟨none, 0, rfl⟩
  · exact ⟨some ⟨g, 0, none⟩, cap, rfl⟩
theorem keepS {X w1 : World} {row : Option Nat} (hg : X.grownBy w1 row) {a : Addr} {v : Value} (h : X.cell? a = some v) (hne : some a.block ≠ row) : w1.cell? a = some v := by
  rw [hg.cell_far a ?_ hne]
  · exact h
  · exact lt_of_cell h
theorem news1 {X : World} {k : Nat} {x : Value} (h : X.cell? ⟨k, 0, none⟩ = some x) : ∀ j u, [x][j]? = some u → X.cell? ((⟨k, 0, none⟩ : Addr).add j) = some u := by
  intro j u hu
  cases j with
  | zero => simp at hu; subst hu; exact h
  | succ j => simp at hu
structure JoinW (g ob V fr to : Nat) (v1 v2 : Value) where
  w : World
  c0 : w.cell? ⟨g, 1, none⟩ = some (.slice (some ⟨ob, 0, none⟩) V V)
  c1 : w.cell? ⟨ob, fr, none⟩ = some v1
  c2 : w.cell? ⟨ob, to, none⟩ = some v2
theorem join_end {X wa wb : World} {B g ob N fr to n1 n2 ga gb p1 p2 ca cb : Nat} {F : Fl} {va : Value} {rows : List Value} {A1 A2 : Option Addr} {l1 l2 : List Nat} {most : Int} (hft : fr ≠ to)
    (hF : FlowIn X B g va ob rows { F with arcs := F.arcs ++ [⟨fr, to, most, N + 1⟩, ⟨to, fr, 0, N⟩] })
    (hv1 : rows[fr]? = some (.slice A1 n1 p1)) (hv2 : rows[to]? = some (.slice A2 n2 p2)) (hl1 : F.adj[fr]? = some l1) (hl2 : F.adj[to]? = some l2) (hN : F.arcs.length = N) (hn1 : l1.length = n1) (hn2 : l2.length = n2) (hs1 : n1 ≤ N) (hs2 : n2 ≤ N)
    (hown : wa.ownsRow B 3 1 (.slice (some ⟨ga, 0, none⟩) (n1 + 1) ca) (n1 + 1) (natCells l1 ++ [.int .i64 N])) (hown2 : wb.ownsRow B 3 1 (.slice (some ⟨gb, 0, none⟩) (n2 + 1) cb) (n2 + 1) (natCells l2 ++ [.int .i64 ((N : Int) + 1)]))
    (hgb : ∀ k, k < X.heap.size → some k ≠ (Value.slice A1 n1 p1).ownBlock → wa.heap[k]? = X.heap[k]?) (kb : ∀ k, k < wa.heap.size → some k ≠ (Value.slice A2 n2 p2).ownBlock → wb.heap[k]? = wa.heap[k]?)
    (hsz : X.heap.size ≤ wa.heap.size) (hat : (Value.slice A1 n1 p1).ownBlock = some ga ∨ X.heap.size ≤ ga) (hat2 : (Value.slice A2 n2 p2).ownBlock = some gb ∨ wa.heap.size ≤ gb) (hlt : ga < wa.heap.size) :
    FlowAt ((wb.setCell ⟨ob, fr, none⟩ (.slice (some ⟨ga, 0, none⟩) (n1 + 1) ca)).setCell ⟨ob, to, none⟩ (.slice (some ⟨gb, 0, none⟩) (n2 + 1) cb)) B g (F.join fr to most) := by
  have hL1 : ({ F with arcs := F.arcs ++ [⟨fr, to, most, N + 1⟩, ⟨to, fr, 0, N⟩] } : Fl).adj[fr]? = some l1 := hl1
  have hL2 : ({ F with arcs := F.arcs ++ [⟨fr, to, most, N + 1⟩, ⟨to, fr, 0, N⟩] } : Fl).adj[to]? = some l2 := hl2
  obtain ⟨R1, B1⟩ := hF.row fr _ l1 hv1 hL1
  obtain ⟨R2, B2⟩ := hF.row to _ l2 hv2 hL2
  have s2 : some ob ≠ (Value.slice A1 n1 p1).ownBlock := fun he => ownBlk_ne R1 he.symm hF.obH (by decide) rfl
  have s4 : some ob ≠ (Value.slice A2 n2 p2).ownBlock := fun he => ownBlk_ne R2 he.symm hF.obH (by decide) rfl
  have hobl := lt_of_block hF.obH
  have oba : wa.heap[ob]? = X.heap[ob]? := hgb ob hobl s2
  have obb : wb.heap[ob]? = X.heap[ob]? := (kb ob (by omega) s4).trans oba
  have hfl : fr < rows.length := (List.getElem?_eq_some_iff.1 hv1).1
  have htl : to < rows.length := (List.getElem?_eq_some_iff.1 hv2).1
  have hfl' : fr < F.adj.length := (List.getElem?_eq_some_iff.1 hl1).1
  have htl' : to < F.adj.length := (List.getElem?_eq_some_iff.1 hl2).1
  have nga : ob ≠ ga := ownBlk_ne hown rfl (oba.trans hF.obH) (by decide)
  have ngb : ob ≠ gb := ownBlk_ne hown2 rfl (obb.trans hF.obH) (by decide)
  have ga2 : some ga ≠ (Value.slice A2 n2 p2).ownBlock := by
    intro he
    rcases hat with h | h
    · exact hF.apart fr to _ _ ga hft hv1 hv2 h he.symm
    · have := (ownBlk R2 he.symm).2.1
      omega
  have gab : ga ≠ gb := by
    intro he
    subst he
    rcases hat2 with h | h
    · exact ga2 h.symm
    · omega
  have hownb : wb.ownsRow B 3 1 (.slice (some ⟨ga, 0, none⟩) (n1 + 1) ca) (n1 + 1) (natCells l1 ++ [.int .i64 N]) := ownsRow_keep hown fun k hk => by
    simp only [Value.ownBlock, Option.some.injEq] at hk
    subst hk
    exact kb _ hlt ga2
  have rowN : ∀ i, ((rows.set fr (.slice (some ⟨ga, 0, none⟩) (n1 + 1) ca)).set to (.slice (some ⟨gb, 0, none⟩) (n2 + 1) cb))[i]? =
      if i = to then some (.slice (some ⟨gb, 0, none⟩) (n2 + 1) cb) else if i = fr then some (.slice (some ⟨ga, 0, none⟩) (n1 + 1) ca) else rows[i]? := by
    intro i
    rw [List.getElem?_set, List.getElem?_set]
    by_cases h1 : i = to
    · subst h1; simp [htl]
    · by_cases h2 : i = fr
      · subst h2; simp [hfl, h1, Ne.symm h1]
      · simp [Ne.symm h1, Ne.symm h2, h1, h2]
  have adjN : ∀ i, ((F.adj.set fr (l1 ++ [N])).set to (l2 ++ [N + 1]))[i]? =
      if i = to then some (l2 ++ [N + 1]) else if i = fr then some (l1 ++ [N]) else F.adj[i]? := by
    intro i
    rw [List.getElem?_set, List.getElem?_set]
    by_cases h1 : i = to
    · subst h1; simp [htl']
    · by_cases h2 : i = fr
      · subst h2; simp [hfl', h1, Ne.symm h1]
      · simp [Ne.symm h1, Ne.symm h2, h1, h2]
  have hj : F.join fr to most = { F with arcs := F.arcs ++ [⟨fr, to, most, N + 1⟩, ⟨to, fr, 0, N⟩], adj := (F.adj.set fr (l1 ++ [N])).set to (l2 ++ [N + 1]) } := by
    simp only [Fl.join, hl1, hl2, hN, Option.getD_some]
  rw [hj]
  simp only [List.length_append, List.length_cons, List.length_nil] at B1 B2
  refine ⟨va, ob, (rows.set fr (.slice (some ⟨ga, 0, none⟩) (n1 + 1) ca)).set to (.slice (some ⟨gb, 0, none⟩) (n2 + 1) cb), ?_⟩
  refine hF.rowsOn (fun i => i = fr ∨ i = to) ?_ ?_ (by simp) (by simp) ?_ ?_ ?_ ?_
  · intro k hk hne hC
    have h1 : some k ≠ (Value.slice A1 n1 p1).ownBlock := fun he => hC fr _ (.inl rfl) hv1 he.symm
    have h2 : some k ≠ (Value.slice A2 n2 p2).ownBlock := fun he => hC to _ (.inr rfl) hv2 he.symm
    rw [heapq_set, if_neg hne, heapq_set, if_neg hne, kb k (by omega) h2, hgb k hk h1]
  · rw [heapq_set, if_pos rfl, heapq_set, if_pos rfl, obb, hF.obH]
    simp [objSet_cells]
  · intro i hC
    have h1 : ¬ i = to := fun e => hC (.inr e)
    have h2 : ¬ i = fr := fun e => hC (.inl e)
    refine ⟨by rw [rowN, if_neg h1, if_neg h2], ?_⟩
    show ((F.adj.set fr (l1 ++ [N])).set to (l2 ++ [N + 1]))[i]? = F.adj[i]?
    rw [adjN, if_neg h1, if_neg h2]
  · intro i v l hC hv hl
    rw [rowN] at hv
    rw [adjN] at hl
    by_cases h1 : i = to
    · rw [if_pos h1] at hv hl
      simp only [Option.some.injEq] at hv hl
      subst hv hl
      refine ⟨?_, by simp only [List.length_append, List.length_cons, List.length_nil]; omega⟩
      rw [natCells_snoc, List.length_append, hn2]
      refine ownsRow_keep hown2 fun k hk => ?_
      simp only [Value.ownBlock, Option.some.injEq] at hk
      subst hk
      rw [heapq_set, if_neg (Ne.symm ngb), heapq_set, if_neg (Ne.symm ngb)]
    · have h2 : i = fr := by rcases hC with h | h; exact h; exact absurd h h1
      rw [if_neg h1, if_pos h2] at hv hl
      simp only [Option.some.injEq] at hv hl
      subst hv hl
      refine ⟨?_, by simp only [List.length_append, List.length_cons, List.length_nil]; omega⟩
      rw [natCells_snoc, List.length_append, hn1]
      refine ownsRow_keep hownb fun k hk => ?_
      simp only [Value.ownBlock, Option.some.injEq] at hk
      subst hk
      rw [heapq_set, if_neg (Ne.symm nga), heapq_set, if_neg (Ne.symm nga)]
  · intro i v k hC hv hb
    rw [rowN] at hv
    by_cases h1 : i = to
    · rw [if_pos h1] at hv
      simp only [Option.some.injEq] at hv
      subst hv h1
      simp only [Value.ownBlock, Option.some.injEq] at hb
      subst hb
      rcases hat2 with h | h
      · exact .inl ⟨_, hv2, h⟩
      · right; show _ ≤ gb; omega
    · have h2 : i = fr := by rcases hC with h | h; exact h; exact absurd h h1
      rw [if_neg h1, if_pos h2] at hv
      simp only [Option.some.injEq] at hv
      subst hv h2
      simp only [Value.ownBlock, Option.some.injEq] at hb
      subst hb
      rcases hat with h | h
      · exact .inl ⟨_, hv1, h⟩
      · right; show _ ≤ ga; omega
  · intro i j v v' k hi hj hij hv hv' hb hb'
    rw [rowN] at hv hv'
    by_cases h1 : i = to
    · have h2 : ¬ j = to := fun e => hij (h1.trans e.symm)
      have h3 : j = fr := by rcases hj with h | h; exact h; exact absurd h h2
      rw [if_pos h1] at hv
      rw [if_neg h2, if_pos h3] at hv'
      simp only [Option.some.injEq] at hv hv'
      subst hv hv'
      simp only [Value.ownBlock, Option.some.injEq] at hb hb'
      omega
    · have h3 : i = fr := by rcases hi with h | h; exact h; exact absurd h h1
      have h2 : ¬ j = fr := fun e => hij (h3.trans e.symm)
      have h4 : j = to := by rcases hj with h | h; exact absurd h h2; exact h
      rw [if_neg h1, if_pos h3] at hv
      rw [if_pos h4] at hv'
      simp only [Option.some.injEq] at hv hv'
      subst hv hv'
      simp only [Value.ownBlock, Option.some.injEq] at hb hb'
      omega
/-- a halt of the walk -/
def Stp (p : Prop) : Prop := p
theorem stp {p : Prop} (h : Stp p) : p := h
def JoinPost (w : World) (B g : Nat) (F' : Fl) (e : Ending) (w' : World) : Prop := e = .returned (.tuple #[]) ∧ FlowAt w' B g F' ∧ Below B w w'
set_option maxHeartbeats 8000000 in
set_option maxRecDepth 100000 in
theorem join_any (w : World) (B g : Nat) (F : Fl) (fr to : Nat) (most : Int) (h : FlowAt w B g F) (hft : fr ≠ to) (hfr : fr < F.adj.length) (hto : to < F.adj.length) (hlen : F.arcs.length ≤ 100000) :
    Calls Tryz.prog 106 #[.pointer (some ⟨g, 0, none⟩), .int .i64 fr, .int .i64 to, .int .i64 most] w (JoinPost w B g (F.join fr to most)) := by
  obtain ⟨va, ob, rows, h⟩ := h
  obtain ⟨i0, hi0, hz0, hz1, hz2⟩ := info_parts info200
  obtain ⟨i1, hi1, hy0, hy1, hy2⟩ := info_parts info3
  have hBl : B ≤ w.heap.size := Nat.le_of_lt (Nat.lt_of_le_of_lt h.hB (lt_of_block h.head))
  obtain ⟨Aa, ca, rfl⟩ := rowForm h.arcs
  have c0 := cell_of_row w g 0 _ _ _ h.head
  have f0 := frozen_of_row w g 0 _ _ h.head
  simp at c0
  have m0 := World.new_ne w _ c0
  have HH := Lib.hid h
  clear h
  generalize hN : F.arcs.length = N at *
  have HN := Lib.hid hN
  clear hN
  go_enter Tryz.func106, Tryz.ntmps106

  go_upto_region 1 with (fail)

  have ho : ∀ o, (w.alloc o).ownsRow B 200 4 (.slice Aa N ca) N (arcCells F.arcs) := fun o => by have := HH.out.arcs; rw [HN.out] at this; exact this.alloc o


  go_wp2_with (at_builtin; refine stp ?_)
  unfold Stp
  refine wpList_append_lies _ rfl _ _ 138 rfl B 200 i0 _ 4 32 Tryz.underlying138 hi0 hz0 hz1 hz2 rfl ?e0 (.slice Aa N ca) N (arcCells F.arcs) ?e8 (ho _) ⟨w.heap.size, 0, none⟩ 2 2 [.int .i64 fr, .int .i64 to, .int .i64 most, .int .i64 ((N : Int) + 1), .int .i64 to, .int .i64 fr, .int .i64 0, .int .i64 N] ?e9 ?e10 ?e1 ?e2 ?e3 ?e4 ?e5 ?e6 (w.heap.size + 1) ?e7 ?_

  case e8 => rfl
  case e9 => rfl
  case e10 => rfl
  case e0 => omega
  case e1 => exact World.news_of_block (cs := #[.int .i64 fr, .int .i64 to, .int .i64 most, .int .i64 ((N : Int) + 1), .int .i64 to, .int .i64 fr, .int .i64 0, .int .i64 N]) (t := 200) (fr := (0, 0)) (heap_alloc_new w _)
  case e2 => simp [Value.oneCell']
  case e3 => omega
  case e4 => simp only [maxLen]; omega
  case e5 => omega
  case e6 => simp; omega
  case e7 => simp
  intro gg cap w1 hown1 hgrow hat hlt

  have k1 : ∀ k, k < w.heap.size → some k ≠ (Value.slice Aa N ca).ownBlock → w1.heap[k]? = w.heap[k]? := fun k hk hne => by
    rw [hgrow.block k (by simp; omega) hne]
    exact Below.heap_alloc w _ k hk
  have hg1 : some g ≠ (Value.slice Aa N ca).ownBlock := fun he => ownBlk_ne HH.out.arcs he.symm HH.out.head (by decide) rfl
  have hgw := lt_of_block HH.out.head
  have d0 : w1.cell? ⟨g, 0, none⟩ = some (.slice Aa N ca) := (World.cell?_of_block (k1 g hgw hg1)).trans c0
  have d1 : w1.frozen? ⟨g, 0, none⟩ = false := (World.frozen?_of_block (k1 g hgw hg1)).trans f0
  have hF : FlowIn (w1.setCell ⟨g, 0, none⟩ (.slice (some ⟨gg, 0, none⟩) (N + 2) cap)) B g (.slice (some ⟨gg, 0, none⟩) (N + 2) cap) ob rows { F with arcs := F.arcs ++ [⟨fr, to, most, N + 1⟩, ⟨to, fr, 0, N⟩] } := by
    refine HH.out.arcsOn (by rw [HN.out]; exact hown1) k1 ?_
    intro k hk
    simp only [Value.ownBlock, Option.some.injEq] at hk
    subst hk
    rcases hat with h1 | h1
    · exact .inl h1
    · right; omega
  have hb1 : Below B w (w1.setCell ⟨g, 0, none⟩ (.slice (some ⟨gg, 0, none⟩) (N + 2) cap)) := by
    refine Below.setCell (((Below.refl B w).alloc hBl _).grown hgrow (by simp; omega) ?_) HH.out.hB _
    intro k hk
    exact (ownBlk HH.out.arcs hk).1
  clear c0 f0 m0 k1 hgw hg1 hown1 hgrow hat hlt ho
  go_upto_region 2 with (fail)
  generalize (w1.setCell ⟨g, 0, none⟩ (.slice (some ⟨gg, 0, none⟩) (N + 2) cap)) = W at *
  clear d0 d1
  obtain ⟨v1, hv1⟩ : ∃ v, rows[fr]? = some v := ⟨rows[fr]'(by rw [hF.rowsN]; exact hfr), by simp⟩
  obtain ⟨v2, hv2⟩ : ∃ v, rows[to]? = some v := ⟨rows[to]'(by rw [hF.rowsN]; exact hto), by simp⟩
  obtain ⟨l1, hl1⟩ : ∃ v, F.adj[fr]? = some v := ⟨F.adj[fr], by simp [hfr]⟩
  obtain ⟨l2, hl2⟩ : ∃ v, F.adj[to]? = some v := ⟨F.adj[to], by simp [hto]⟩
  obtain ⟨R1, L1⟩ := hF.row fr v1 l1 hv1 hl1
  obtain ⟨R2, L2⟩ := hF.row to v2 l2 hv2 hl2
  have P12 := fun k => hF.apart fr to v1 v2 k hft hv1 hv2
  obtain ⟨A1, p1, rfl⟩ := rowForm R1
  obtain ⟨A2, p2, rfl⟩ := rowForm R2
  have q1 := cell_of_row W g 1 _ _ _ hF.head
  have q2 := cell_of_row W ob fr _ _ _ hF.obH
  have q3 := cell_of_row W ob to _ _ _ hF.obH
  simp at q1
  simp only [List.getElem?_toArray, hv1, hv2] at q2 q3
  have t1 : ∀ k, (Value.slice A1 l1.length p1).ownBlock = some k → g ≠ k ∧ ob ≠ k := fun k hk => ⟨ownBlk_ne R1 hk hF.head (by decide), ownBlk_ne R1 hk hF.obH (by decide)⟩
  have t2 : ∀ k, (Value.slice A2 l2.length p2).ownBlock = some k → g ≠ k ∧ ob ≠ k := fun k hk => ⟨ownBlk_ne R2 hk hF.head (by decide), ownBlk_ne R2 hk hF.obH (by decide)⟩
  have s1 : some g ≠ (Value.slice A1 l1.length p1).ownBlock := fun he => (t1 g he.symm).1 rfl
  have s2 : some ob ≠ (Value.slice A1 l1.length p1).ownBlock := fun he => (t1 ob he.symm).2 rfl
  have s3 : some g ≠ (Value.slice A2 l2.length p2).ownBlock := fun he => (t2 g he.symm).1 rfl
  have s4 : some ob ≠ (Value.slice A2 l2.length p2).ownBlock := fun he => (t2 ob he.symm).2 rfl
  have u1 : (Value.slice A2 l2.length p2).ownBlock = none ∨ (Value.slice A2 l2.length p2).ownBlock ≠ (Value.slice A1 l1.length p1).ownBlock := by
    cases hq : (Value.slice A2 l2.length p2).ownBlock with
    | none => exact .inl rfl
    | some k => exact .inr fun he => P12 k he.symm hq
  have hs1 : l1.length ≤ F.arcs.length := (HH.out.row fr _ l1 hv1 hl1).2
  have hs2 : l2.length ≤ F.arcs.length := (HH.out.row to _ l2 hv2 hl2).2
  rw [HN.out] at hs1 hs2
  have HF := Lib.hid hF
  have HV1 := Lib.hid hv1
  have HV2 := Lib.hid hv2
  have HL1 := Lib.hid hl1
  have HL2 := Lib.hid hl2
  have HP := Lib.hid P12
  have U1 := Lib.hid u1
  clear hF hv1 hv2 hl1 hl2 t1 t2 P12 u1
  generalize hV : F.adj.length = V at *
  have HV := Lib.hid hV
  clear hV
  generalize hn1 : l1.length = n1 at *
  have HN1 := Lib.hid hn1
  clear hn1
  generalize hn2 : l2.length = n2 at *
  have HN2 := Lib.hid hn2
  clear hn2
  have b1 : n1 ≤ 200000 := by omega
  have b2 : n2 ≤ 200000 := by omega
  clear L1 L2
  have i1' : (0 : Int) ≤ (fr : Int) := by omega
  have i2' : (0 : Int) ≤ (to : Int) := by omega
  have i3' : (fr : Int) < (V : Int) := by omega
  have i4' : (to : Int) < (V : Int) := by omega
  have hBW : B ≤ W.heap.size := Nat.le_of_lt (Nat.lt_of_le_of_lt HF.out.hB (lt_of_block HF.out.head))
  have s5 : ∀ k, W.heap.size ≤ k → some k ≠ (Value.slice A1 n1 p1).ownBlock := fun k hk he => by
    have := (ownBlk R1 he.symm).2.1
    omega
  have U2 := U1.out
  have fz : ∀ (X : World) (i : Nat), X.heap[ob]? = W.heap[ob]? → X.frozen? ⟨ob, i, none⟩ = false := fun X i hX => frozen_of_row X ob i _ _ (hX.trans HF.out.obH)
  have hobl := lt_of_block HF.out.obH
  haveI hne : Nonempty (JoinW g ob V fr to (.slice A1 n1 p1) (.slice A2 n2 p2)) := ⟨⟨W, q1, q2, q3⟩⟩
  have x0 := fun x : JoinW g ob V fr to (.slice A1 n1 p1) (.slice A2 n2 p2) => x.c0
  have x1 := fun x : JoinW g ob V fr to (.slice A1 n1 p1) (.slice A2 n2 p2) => x.c1
  have x2 := fun x : JoinW g ob V fr to (.slice A1 n1 p1) (.slice A2 n2 p2) => x.c2
  refine wp_region_mid [9] [0, 1, 2, 3, 4, 5, 6, 7, 8, 10, 11, 12, 13, 14, 15, 16, 17, 20, 21, 22, 23, 24, 25, 26, 27, 28] 4 [31, 32, 33, 34] (fun w' => ∃ x : JoinW g ob V fr to (.slice A1 n1 p1) (.slice A2 n2 p2), w' = x.1) (by kernel_rfl) (by kernel_rfl) ⟨⟨W.drew, q1, q2, q3⟩, rfl⟩ ?_
  simp only [opsAt_nil, opsAt_cons, consOpt_some, List.getElem?_toArray, List.getElem?_cons_zero, List.getElem?_cons_succ]
  go_big_quiet_step (fail)
  refine wpQuiet_nil ?_
  show wpQuiet _ _ _ _ _ _
  repeat (go_big_quiet_step (fail))
  refine wpQuiet_nil ?_
  clear x0 x1 x2 hne
  show wpOrders _ _ _ _ _ _ _ _ W.drew
  have hF0 : FlowIn W.drew B g (.slice (some ⟨gg, 0, none⟩) (N + 2) cap) ob rows { F with arcs := F.arcs ++ [⟨fr, to, most, N + 1⟩, ⟨to, fr, 0, N⟩] } := HF.out.keep (fun _ _ => rfl)
  have hb0 : Below B w W.drew := hb1.drew
  have R10 : W.drew.ownsRow B 3 1 (.slice A1 n1 p1) n1 (natCells l1) := R1
  have R20 : W.drew.ownsRow B 3 1 (.slice A2 n2 p2) n2 (natCells l2) := R2
  have q10 : W.drew.cell? ⟨g, 1, none⟩ = _ := q1
  have q20 : W.drew.cell? ⟨ob, fr, none⟩ = _ := q2
  have q30 : W.drew.cell? ⟨ob, to, none⟩ = _ := q3
  have hBW0 : B ≤ W.drew.heap.size := hBW
  have s50 : ∀ k, W.drew.heap.size ≤ k → some k ≠ (Value.slice A1 n1 p1).ownBlock := s5
  have fz0 : ∀ (X : World) (i : Nat), X.heap[ob]? = W.drew.heap[ob]? → X.frozen? ⟨ob, i, none⟩ = false := fz
  have hobl0 : ob < W.drew.heap.size := hobl
  clear HF hb1 R1 R2 q1 q2 q3 hBW s5 fz hobl
  have HF := Lib.hid hF0
  clear hF0
  generalize W.drew = X at *
  refine wpOrders_two (i := 18) (k := 29) (by kernel_rfl) ?_ ?_
  · unfold wpMid
    simp only [opsAt_nil, opsAt_cons, consOpt_some, List.getElem?_toArray, List.getElem?_cons_zero, List.getElem?_cons_succ]
    go_wp2
    refine onlyNormal_mk ⟨⟨⟨_, cell_alloc_old _ q10, cell_alloc_old _ q20, cell_alloc_old _ q30⟩, rfl⟩, ?_⟩
    refine wpOrders_two (i := 19) (k := 29) (by kernel_rfl) ?_ ?_
    · unfold wpMid
      simp only [opsAt_nil, opsAt_cons, consOpt_some, List.getElem?_toArray, List.getElem?_cons_zero, List.getElem?_cons_succ]
      refine wpList_append_lies _ rfl _ _ 44 rfl B 3 i1 _ 1 8 Tryz.underlying44 hi1 hy0 hy1 hy2 rfl (by omega) (.slice A1 n1 p1) n1 (natCells l1) rfl (R10.alloc _) ⟨X.heap.size, 0, none⟩ 1 1 [.int .i64 N] rfl rfl (news1 (by simp)) (by simp [Value.oneCell']) (by omega) (by simp only [maxLen]; omega) (by omega) (by simp; omega) _ rfl ?_
      intro ga ca' wa hown hgrow hat hlt
      have e1 := keepS hgrow (cell_alloc_old _ q10) s1
      have e2 := keepS hgrow (cell_alloc_old _ q20) s2
      have e3 := keepS hgrow (cell_alloc_old _ q30) s2
      have hsz : X.heap.size + 1 ≤ wa.heap.size := by have := hgrow.size; simp at this; omega
      have hgb : ∀ k, k < X.heap.size → some k ≠ (Value.slice A1 n1 p1).ownBlock → wa.heap[k]? = X.heap[k]? := fun k hk hne => by
        rw [hgrow.block k (by simp; omega) hne, Below.heap_alloc _ _ k hk]
      have r2 := (R20.alloc _).kept hgrow U2
      have hba : Below B w wa := ((hb0.alloc hBW0 _).grown hgrow (by simp; omega) (fun k hk => (ownBlk R10 hk).1))
      have hat' : (Value.slice A1 n1 p1).ownBlock = some ga ∨ X.heap.size ≤ ga := hat.imp id (fun h => by simp at h; omega)
      clear hgrow hat
      refine onlyNormal_mk ⟨⟨⟨wa, e1, e2, e3⟩, rfl⟩, ?_⟩
      refine wpOrders_one (i := 29) (by kernel_rfl) ?_
      unfold wpMid
      simp only [opsAt_nil, opsAt_cons, consOpt_some, List.getElem?_toArray, List.getElem?_cons_zero, List.getElem?_cons_succ]
      go_wp2
      refine onlyNormal_mk ⟨⟨⟨_, cell_alloc_old _ e1, cell_alloc_old _ e2, cell_alloc_old _ e3⟩, rfl⟩, ?_⟩
      refine wpOrders_one (i := 30) (by kernel_rfl) ?_
      unfold wpMid
      simp only [opsAt_nil, opsAt_cons, consOpt_some, List.getElem?_toArray, List.getElem?_cons_zero, List.getElem?_cons_succ]
      refine wpList_append_lies _ rfl _ _ 44 rfl B 3 i1 _ 1 8 Tryz.underlying44 hi1 hy0 hy1 hy2 rfl (by omega) (.slice A2 n2 p2) n2 (natCells l2) rfl (r2.alloc _) ⟨wa.heap.size, 0, none⟩ 1 1 [.int .i64 ((N : Int) + 1)] rfl rfl (news1 (by simp)) (by simp [Value.oneCell']) (by omega) (by simp only [maxLen]; omega) (by omega) (by first | omega | (simp; omega)) _ rfl ?_
      intro gb cb' wb hown2 hgrow2 hat2 hlt2
      have kb : ∀ k, k < wa.heap.size → some k ≠ (Value.slice A2 n2 p2).ownBlock → wb.heap[k]? = wa.heap[k]? := fun k hk hne => by
        rw [hgrow2.block k (by simp; omega) hne, Below.heap_alloc _ _ k hk]
      have hbb : Below B w wb := (hba.alloc (by omega) _).grown hgrow2 (by simp; omega) (fun k hk => (ownBlk r2 hk).1)
      have hat2' : (Value.slice A2 n2 p2).ownBlock = some gb ∨ wa.heap.size ≤ gb := hat2.imp id (fun h => by simp at h; omega)
      have e1' := World.cell?_of_block (a := ⟨g, 1, none⟩) (kb g (by have := lt_of_cell e1; exact this) s3) |>.trans e1
      have e2' := World.cell?_of_block (a := ⟨ob, fr, none⟩) (kb ob (by have := lt_of_cell e2; exact this) s4) |>.trans e2
      have e3' := World.cell?_of_block (a := ⟨ob, to, none⟩) (kb ob (by have := lt_of_cell e2; exact this) s4) |>.trans e3
      refine onlyNormal_mk ⟨⟨⟨wb, e1', e2', e3'⟩, rfl⟩, ?_⟩
      refine wpOrders_zero ?_
      clear hgrow2 hat2
      have hob : wb.heap[ob]? = X.heap[ob]? := (kb ob (by omega) s4).trans (hgb ob hobl0 s2)
      have JE := join_end (most := most) hft HF.out HV1.out HV2.out HL1.out HL2.out HN.out HN1.out HN2.out hs1 hs2 hown hown2 hgb kb (by omega) hat' hat2' hlt
      have f1 : wb.frozen? ⟨ob, fr, none⟩ = false := fz0 wb fr hob
      have f2 : wb.frozen? ⟨ob, to, none⟩ = false := fz0 wb to hob
      have JB : Below B w ((wb.setCell ⟨ob, fr, none⟩ (.slice (some ⟨ga, 0, none⟩) (n1 + 1) ca')).setCell ⟨ob, to, none⟩ (.slice (some ⟨gb, 0, none⟩) (n2 + 1) cb')) := (hbb.setCell HF.out.hB' _).setCell HF.out.hB' _
      clear hob hgb kb hsz hat' hat2' hlt hbb hba r2 hown hown2 hlt2
      go_wp2
      refine onlyNormal_mk ?_
      refine bodyPost_end (v := .tuple #[]) (by simp [results, Tryz.f106, go_sem]) rfl ⟨rfl, JE, JB⟩
    · unfold wpMid
      simp only [opsAt_nil, opsAt_cons, consOpt_some, List.getElem?_toArray, List.getElem?_cons_zero, List.getElem?_cons_succ]
      go_wp2
      refine onlyNormal_mk ⟨⟨⟨_, cell_alloc_old _ (cell_alloc_old _ q10), cell_alloc_old _ (cell_alloc_old _ q20), cell_alloc_old _ (cell_alloc_old _ q30)⟩, rfl⟩, ?_⟩
      refine wpOrders_one (i := 19) (by kernel_rfl) ?_
      unfold wpMid
      simp only [opsAt_nil, opsAt_cons, consOpt_some, List.getElem?_toArray, List.getElem?_cons_zero, List.getElem?_cons_succ]
      refine wpList_append_lies _ rfl _ _ 44 rfl B 3 i1 _ 1 8 Tryz.underlying44 hi1 hy0 hy1 hy2 rfl (by omega) (.slice A1 n1 p1) n1 (natCells l1) rfl ((R10.alloc _).alloc _) ⟨X.heap.size, 0, none⟩ 1 1 [.int .i64 N] rfl rfl (news1 (cell_alloc_old _ (by simp))) (by simp [Value.oneCell']) (by omega) (by simp only [maxLen]; omega) (by omega) (by simp; omega) _ rfl ?_
      intro ga ca' wa hown hgrow hat hlt
      have e1 := keepS hgrow (cell_alloc_old _ (cell_alloc_old _ q10)) s1
      have e2 := keepS hgrow (cell_alloc_old _ (cell_alloc_old _ q20)) s2
      have e3 := keepS hgrow (cell_alloc_old _ (cell_alloc_old _ q30)) s2
      have hsz : X.heap.size + 2 ≤ wa.heap.size := by have := hgrow.size; simp at this; omega
      have hgb : ∀ k, k < X.heap.size → some k ≠ (Value.slice A1 n1 p1).ownBlock → wa.heap[k]? = X.heap[k]? := fun k hk hne => by
        rw [hgrow.block k (by simp; omega) hne, Below.heap_alloc _ _ k (by simp; omega), Below.heap_alloc _ _ k hk]
      have r2 := ((R20.alloc _).alloc _).kept hgrow U2
      have hba : Below B w wa := (((hb0.alloc hBW0 _).alloc (by simp; omega) _).grown hgrow (by simp; omega) (fun k hk => (ownBlk R10 hk).1))
      have hat' : (Value.slice A1 n1 p1).ownBlock = some ga ∨ X.heap.size ≤ ga := hat.imp id (fun h => by simp at h; omega)
      have nb : wa.cell? ⟨X.heap.size + 1, 0, none⟩ = some (.int .i64 ((N : Int) + 1)) := keepS hgrow (by simp) (s50 _ (by simp))
      clear hgrow hat
      refine onlyNormal_mk ⟨⟨⟨wa, e1, e2, e3⟩, rfl⟩, ?_⟩
      refine wpOrders_one (i := 30) (by kernel_rfl) ?_
      unfold wpMid
      simp only [opsAt_nil, opsAt_cons, consOpt_some, List.getElem?_toArray, List.getElem?_cons_zero, List.getElem?_cons_succ]
      refine wpList_append_lies _ rfl _ _ 44 rfl B 3 i1 _ 1 8 Tryz.underlying44 hi1 hy0 hy1 hy2 rfl (by omega) (.slice A2 n2 p2) n2 (natCells l2) rfl r2 ⟨X.heap.size + 1, 0, none⟩ 1 1 [.int .i64 ((N : Int) + 1)] rfl rfl (news1 nb) (by simp [Value.oneCell']) (by omega) (by simp only [maxLen]; omega) (by omega) (by first | omega | (simp; omega)) _ rfl ?_
      intro gb cb' wb hown2 hgrow2 hat2 hlt2
      have kb : ∀ k, k < wa.heap.size → some k ≠ (Value.slice A2 n2 p2).ownBlock → wb.heap[k]? = wa.heap[k]? := fun k hk hne => hgrow2.block k hk hne
      have hbb : Below B w wb := hba.grown hgrow2 (by omega) (fun k hk => (ownBlk r2 hk).1)
      have hat2' : (Value.slice A2 n2 p2).ownBlock = some gb ∨ wa.heap.size ≤ gb := hat2.imp id (fun h => by omega)
      have e1' := World.cell?_of_block (a := ⟨g, 1, none⟩) (kb g (by have := lt_of_cell e1; exact this) s3) |>.trans e1
      have e2' := World.cell?_of_block (a := ⟨ob, fr, none⟩) (kb ob (by have := lt_of_cell e2; exact this) s4) |>.trans e2
      have e3' := World.cell?_of_block (a := ⟨ob, to, none⟩) (kb ob (by have := lt_of_cell e2; exact this) s4) |>.trans e3
      refine onlyNormal_mk ⟨⟨⟨wb, e1', e2', e3'⟩, rfl⟩, ?_⟩
      refine wpOrders_zero ?_
      clear hgrow2 hat2
      have hob : wb.heap[ob]? = X.heap[ob]? := (kb ob (by omega) s4).trans (hgb ob hobl0 s2)
      have JE := join_end (most := most) hft HF.out HV1.out HV2.out HL1.out HL2.out HN.out HN1.out HN2.out hs1 hs2 hown hown2 hgb kb (by omega) hat' hat2' hlt
      have f1 : wb.frozen? ⟨ob, fr, none⟩ = false := fz0 wb fr hob
      have f2 : wb.frozen? ⟨ob, to, none⟩ = false := fz0 wb to hob
      have JB : Below B w ((wb.setCell ⟨ob, fr, none⟩ (.slice (some ⟨ga, 0, none⟩) (n1 + 1) ca')).setCell ⟨ob, to, none⟩ (.slice (some ⟨gb, 0, none⟩) (n2 + 1) cb')) := (hbb.setCell HF.out.hB' _).setCell HF.out.hB' _
      clear hob hgb kb hsz hat' hat2' hlt hbb hba r2 hown hown2 hlt2
      go_wp2
      refine onlyNormal_mk ?_
      refine bodyPost_end (v := .tuple #[]) (by simp [results, Tryz.f106, go_sem]) rfl ⟨rfl, JE, JB⟩
  · unfold wpMid
    simp only [opsAt_nil, opsAt_cons, consOpt_some, List.getElem?_toArray, List.getElem?_cons_zero, List.getElem?_cons_succ]
    go_wp2
    refine onlyNormal_mk ⟨⟨⟨_, cell_alloc_old _ q10, cell_alloc_old _ q20, cell_alloc_old _ q30⟩, rfl⟩, ?_⟩
    refine wpOrders_one (i := 18) (by kernel_rfl) ?_
    unfold wpMid
    simp only [opsAt_nil, opsAt_cons, consOpt_some, List.getElem?_toArray, List.getElem?_cons_zero, List.getElem?_cons_succ]
    go_wp2
    refine onlyNormal_mk ⟨⟨⟨_, cell_alloc_old _ (cell_alloc_old _ q10), cell_alloc_old _ (cell_alloc_old _ q20), cell_alloc_old _ (cell_alloc_old _ q30)⟩, rfl⟩, ?_⟩
    refine wpOrders_one (i := 19) (by kernel_rfl) ?_
    unfold wpMid
    simp only [opsAt_nil, opsAt_cons, consOpt_some, List.getElem?_toArray, List.getElem?_cons_zero, List.getElem?_cons_succ]
    refine wpList_append_lies _ rfl _ _ 44 rfl B 3 i1 _ 1 8 Tryz.underlying44 hi1 hy0 hy1 hy2 rfl (by omega) (.slice A1 n1 p1) n1 (natCells l1) rfl ((R10.alloc _).alloc _) ⟨X.heap.size + 1, 0, none⟩ 1 1 [.int .i64 N] rfl rfl (news1 (by simp)) (by simp [Value.oneCell']) (by omega) (by simp only [maxLen]; omega) (by omega) (by simp; omega) _ rfl ?_
    intro ga ca' wa hown hgrow hat hlt
    have e1 := keepS hgrow (cell_alloc_old _ (cell_alloc_old _ q10)) s1
    have e2 := keepS hgrow (cell_alloc_old _ (cell_alloc_old _ q20)) s2
    have e3 := keepS hgrow (cell_alloc_old _ (cell_alloc_old _ q30)) s2
    have hsz : X.heap.size + 2 ≤ wa.heap.size := by have := hgrow.size; simp at this; omega
    have hgb : ∀ k, k < X.heap.size → some k ≠ (Value.slice A1 n1 p1).ownBlock → wa.heap[k]? = X.heap[k]? := fun k hk hne => by
      rw [hgrow.block k (by simp; omega) hne, Below.heap_alloc _ _ k (by simp; omega), Below.heap_alloc _ _ k hk]
    have r2 := ((R20.alloc _).alloc _).kept hgrow U2
    have hba : Below B w wa := (((hb0.alloc hBW0 _).alloc (by simp; omega) _).grown hgrow (by simp; omega) (fun k hk => (ownBlk R10 hk).1))
    have hat' : (Value.slice A1 n1 p1).ownBlock = some ga ∨ X.heap.size ≤ ga := hat.imp id (fun h => by simp at h; omega)
    have nb : wa.cell? ⟨X.heap.size, 0, none⟩ = some (.int .i64 ((N : Int) + 1)) := keepS hgrow (cell_alloc_old _ (by simp)) (s50 _ (by simp))
    clear hgrow hat
    refine onlyNormal_mk ⟨⟨⟨wa, e1, e2, e3⟩, rfl⟩, ?_⟩
    refine wpOrders_one (i := 30) (by kernel_rfl) ?_
    unfold wpMid
    simp only [opsAt_nil, opsAt_cons, consOpt_some, List.getElem?_toArray, List.getElem?_cons_zero, List.getElem?_cons_succ]
    refine wpList_append_lies _ rfl _ _ 44 rfl B 3 i1 _ 1 8 Tryz.underlying44 hi1 hy0 hy1 hy2 rfl (by omega) (.slice A2 n2 p2) n2 (natCells l2) rfl r2 ⟨X.heap.size, 0, none⟩ 1 1 [.int .i64 ((N : Int) + 1)] rfl rfl (news1 nb) (by simp [Value.oneCell']) (by omega) (by simp only [maxLen]; omega) (by omega) (by first | omega | (simp; omega)) _ rfl ?_
    intro gb cb' wb hown2 hgrow2 hat2 hlt2
    have kb : ∀ k, k < wa.heap.size → some k ≠ (Value.slice A2 n2 p2).ownBlock → wb.heap[k]? = wa.heap[k]? := fun k hk hne => hgrow2.block k hk hne
    have hbb : Below B w wb := hba.grown hgrow2 (by omega) (fun k hk => (ownBlk r2 hk).1)
    have hat2' : (Value.slice A2 n2 p2).ownBlock = some gb ∨ wa.heap.size ≤ gb := hat2.imp id (fun h => by omega)
    have e1' := World.cell?_of_block (a := ⟨g, 1, none⟩) (kb g (by have := lt_of_cell e1; exact this) s3) |>.trans e1
    have e2' := World.cell?_of_block (a := ⟨ob, fr, none⟩) (kb ob (by have := lt_of_cell e2; exact this) s4) |>.trans e2
    have e3' := World.cell?_of_block (a := ⟨ob, to, none⟩) (kb ob (by have := lt_of_cell e2; exact this) s4) |>.trans e3
    refine onlyNormal_mk ⟨⟨⟨wb, e1', e2', e3'⟩, rfl⟩, ?_⟩
    refine wpOrders_zero ?_
    clear hgrow2 hat2
    have hob : wb.heap[ob]? = X.heap[ob]? := (kb ob (by omega) s4).trans (hgb ob hobl0 s2)
    have JE := join_end (most := most) hft HF.out HV1.out HV2.out HL1.out HL2.out HN.out HN1.out HN2.out hs1 hs2 hown hown2 hgb kb (by omega) hat' hat2' hlt
    have f1 : wb.frozen? ⟨ob, fr, none⟩ = false := fz0 wb fr hob
    have f2 : wb.frozen? ⟨ob, to, none⟩ = false := fz0 wb to hob
    have JB : Below B w ((wb.setCell ⟨ob, fr, none⟩ (.slice (some ⟨ga, 0, none⟩) (n1 + 1) ca')).setCell ⟨ob, to, none⟩ (.slice (some ⟨gb, 0, none⟩) (n2 + 1) cb')) := (hbb.setCell HF.out.hB' _).setCell HF.out.hB' _
    clear hob hgb kb hsz hat' hat2' hlt hbb hba r2 hown hown2 hlt2
    go_wp2
    refine onlyNormal_mk ?_
    refine bodyPost_end (v := .tuple #[]) (by simp [results, Tryz.f106, go_sem]) rfl ⟨rfl, JE, JB⟩
end Go.Proofs.YtlbgocgocanloaaGreatDoor
