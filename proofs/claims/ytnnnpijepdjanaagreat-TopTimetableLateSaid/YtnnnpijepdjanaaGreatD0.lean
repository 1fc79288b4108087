/- What stands of the net under way in memory, across an append. -/
import Derived.Test.YtnnnpijepdjanaaGreatA8
namespace Go.Proofs.YtnnnpijepdjanaaGreat
open Go.RowKit

theorem own_grown {X w1 : World} {row : Option Nat} {B e size n : Nat} {v : Value} {xs : List Value} (h : X.ownsRow B e size v n xs) (hg : X.grownBy w1 row) (hr : ∀ r, row = some r → ∀ cur, X.heap[r]? ≠ some (.cells cur e (0, 0))) : w1.ownsRow B e size v n xs :=
  own_keep h fun b cur hb => hg.block b (Array.getElem?_eq_some_iff.1 hb).1 fun e => hr b e.symm cur hb
theorem cells_ne {X : World} {r : Nat} {cur c : Array Value} {t e : TypeId} (h : X.heap[r]? = some (.cells c t (0, 0))) (ht : t ≠ e) : X.heap[r]? ≠ some (.cells cur e (0, 0)) := fun h9 => by
  rw [h] at h9
  cases h9
  exact ht rfl
theorem blk_grown {X w1 : World} {row : Option Nat} {b : Nat} {cur : Array Value} {t e : TypeId} (h : X.heap[b]? = some (.cells cur t (0, 0))) (hg : X.grownBy w1 row) (hr : ∀ r, row = some r → ∃ c, X.heap[r]? = some (.cells c e (0, 0))) (ht : t ≠ e) : w1.heap[b]? = some (.cells cur t (0, 0)) :=
  (hg.block b (Array.getElem?_eq_some_iff.1 h).1 fun e9 => by
    obtain ⟨c, hc⟩ := hr b e9.symm
    rw [h] at hc
    cases hc
    exact ht rfl).trans h
theorem news_at {X : World} {g : Nat} {cs : List Value} {t : TypeId} (h : X.heap[g]? = some (.cells cs.toArray t (0, 0))) : ∀ j u, cs[j]? = some u → X.cell? ((⟨g, 0, none⟩ : Addr).add j) = some u := by
  intro j u hu
  have h1 := cell_of_row X g j _ _ _ h
  rw [List.getElem?_toArray, hu] at h1
  rw [← h1]
  cases j with
  | zero => rfl
  | succ j => simp [Addr.add]
/-- the rows of a net under way (names, activities, one row of line numbers), above the block w4.heap.size of the net itself; all other blocks are as they were in wr -/
structure PaW (w4 : World) (re : Value) (nE : Nat) (lE : List Value) (ra : Value) (nA : Nat) (lA : List Value) (ui : Value) (nI : Nat) (lI : List Value) (wr W : World) : Prop where
  e : W.ownsRow (w4.heap.size + 1) 9 1 re nE lE
  a : W.ownsRow (w4.heap.size + 1) 43 6 ra nA lA
  i : W.ownsRow (w4.heap.size + 1) 3 1 ui nI lI
  x : Below w4.heap.size w4 W
  z : w4.heap.size + 1 ≤ W.heap.size
  p : ∀ (b : Nat) (cur : Array Value) (t : TypeId), t ≠ 9 → t ≠ 43 → t ≠ 3 → wr.heap[b]? = some (.cells cur t (0, 0)) → W.heap[b]? = some (.cells cur t (0, 0))
section
variable {w4 : World} {re : Value} {nE : Nat} {lE : List Value} {ra : Value} {nA : Nat} {lA : List Value} {ui : Value} {nI : Nat} {lI : List Value} {wr W : World}
theorem PaW.below (h : PaW w4 re nE lE ra nA lA ui nI lI wr W) {V : World} (hb : Below W.heap.size W V) : PaW w4 re nE lE ra nA lA ui nI lI wr V :=
  ⟨ownsRow_below h.e hb, ownsRow_below h.a hb, ownsRow_below h.i hb, h.x.trans (hb.mono h.x.size), Nat.le_trans h.z hb.size, fun b cur t h1 h2 h3 hc => blk hb (h.p b cur t h1 h2 h3 hc)⟩
theorem PaW.alloc (h : PaW w4 re nE lE ra nA lA ui nI lI wr W) (o : Obj) : PaW w4 re nE lE ra nA lA ui nI lI wr (W.alloc o) := h.below ((Below.refl _ _).alloc (Nat.le_refl _) o)
theorem PaW.appE (h : PaW w4 re nE lE ra nA lA ui nI lI wr W) {V : World} {re' : Value} {n' : Nat} {l' : List Value} (ho : V.ownsRow (w4.heap.size + 1) 9 1 re' n' l') (hg : W.grownBy V re.ownBlock) : PaW w4 re' n' l' ra nA lA ui nI lI wr V := by
  have hr : ∀ r, re.ownBlock = some r → ∃ c, W.heap[r]? = some (.cells c 9 (0, 0)) := fun r hr => (ownBlk h.e hr).2.2
  exact ⟨ho, own_grown h.a hg (fun r hr' cur => (hr r hr').elim fun c hc => cells_ne hc (by decide)), own_grown h.i hg (fun r hr' cur => (hr r hr').elim fun c hc => cells_ne hc (by decide)),
    h.x.grown hg h.x.size (fun k hk => by have := (ownBlk h.e hk).1; omega), Nat.le_trans h.z hg.size, fun b cur t h1 h2 h3 hc => blk_grown (h.p b cur t h1 h2 h3 hc) hg hr h1⟩
theorem PaW.appA (h : PaW w4 re nE lE ra nA lA ui nI lI wr W) {V : World} {re' : Value} {n' : Nat} {l' : List Value} (ho : V.ownsRow (w4.heap.size + 1) 43 6 re' n' l') (hg : W.grownBy V ra.ownBlock) : PaW w4 re nE lE re' n' l' ui nI lI wr V := by
  have hr : ∀ r, ra.ownBlock = some r → ∃ c, W.heap[r]? = some (.cells c 43 (0, 0)) := fun r hr => (ownBlk h.a hr).2.2
  exact ⟨own_grown h.e hg (fun r hr' cur => (hr r hr').elim fun c hc => cells_ne hc (by decide)), ho, own_grown h.i hg (fun r hr' cur => (hr r hr').elim fun c hc => cells_ne hc (by decide)),
    h.x.grown hg h.x.size (fun k hk => by have := (ownBlk h.a hk).1; omega), Nat.le_trans h.z hg.size, fun b cur t h1 h2 h3 hc => blk_grown (h.p b cur t h1 h2 h3 hc) hg hr h2⟩
theorem PaW.appI (h : PaW w4 re nE lE ra nA lA ui nI lI wr W) {V : World} {re' : Value} {n' : Nat} {l' : List Value} (ho : V.ownsRow (w4.heap.size + 1) 3 1 re' n' l') (hg : W.grownBy V ui.ownBlock) : PaW w4 re nE lE ra nA lA re' n' l' wr V := by
  have hr : ∀ r, ui.ownBlock = some r → ∃ c, W.heap[r]? = some (.cells c 3 (0, 0)) := fun r hr => (ownBlk h.i hr).2.2
  exact ⟨own_grown h.e hg (fun r hr' cur => (hr r hr').elim fun c hc => cells_ne hc (by decide)), own_grown h.a hg (fun r hr' cur => (hr r hr').elim fun c hc => cells_ne hc (by decide)), ho,
    h.x.grown hg h.x.size (fun k hk => by have := (ownBlk h.i hk).1; omega), Nat.le_trans h.z hg.size, fun b cur t h1 h2 h3 hc => blk_grown (h.p b cur t h1 h2 h3 hc) hg hr h3⟩
theorem PaW.store (h : PaW w4 re nE lE ra nA lA ui nI lI wr W) {c : Array Value} (hk : W.heap[w4.heap.size]? = some (.cells c 25 (0, 0))) (j : Nat) (v : Value) :
    (W.setCell ⟨w4.heap.size, j, none⟩ v).ownsRow (w4.heap.size + 1) 9 1 re nE lE ∧ (W.setCell ⟨w4.heap.size, j, none⟩ v).ownsRow (w4.heap.size + 1) 43 6 ra nA lA ∧ (W.setCell ⟨w4.heap.size, j, none⟩ v).ownsRow (w4.heap.size + 1) 3 1 ui nI lI ∧
      Below w4.heap.size w4 (W.setCell ⟨w4.heap.size, j, none⟩ v) ∧ (W.setCell ⟨w4.heap.size, j, none⟩ v).heap[w4.heap.size]? = some (.cells (c.setIfInBounds j v) 25 (0, 0)) := by
  have hne : ∀ {e : TypeId} (_ : (25 : TypeId) ≠ e) (k : Nat) (cur : Array Value), W.heap[k]? = some (Obj.cells cur e (0, 0)) → (W.setCell ⟨w4.heap.size, j, none⟩ v).heap[k]? = W.heap[k]? := fun he k cur hc => by
    rw [heapq_set, if_neg (fun e9 => by subst e9; exact cells_ne hk he hc)]
  refine ⟨own_keep h.e (hne (by decide)), own_keep h.a (hne (by decide)), own_keep h.i (hne (by decide)), h.x.setCell (Nat.le_refl _) _, ?_⟩
  rw [heapq_set, if_pos rfl, hk]
  simp [objSet_cells]
end
theorem wpE_put {P : Program} {ops : Array Oper} {md : Region.Mode} {S : World → Prop} {ts : List Nat} {Q : Exit → Go.Act → World → Prop} {m : Nat} {listed : Array Bool} {w : World} {l l' : List Value} {d : List Deferred} {i : Nat} {v : Value}
    (e : l.set i v = l') (h : wpE P md ops Q S ts m listed ({ tmps := l'.toArray, defers := d } : Go.Act) w) : wpE P md ops Q S ts m listed (({ tmps := l.toArray, defers := d } : Go.Act).put (some i) v) w := by
  subst e
  simpa only [Go.Act.put, List.setIfInBounds_toArray] using h
theorem wpList_put {P : Program} {ops : Array Oper} {Q : Exit → Go.Act → World → Prop} {rest : List Oper} {w : World} {l l' : List Value} {d : List Deferred} {i : Nat} {v : Value}
    (e : l.set i v = l') (h : wpList P ops Q rest ({ tmps := l'.toArray, defers := d } : Go.Act) w) : wpList P ops Q rest (({ tmps := l.toArray, defers := d } : Go.Act).put (some i) v) w := by
  subst e
  simpa only [Go.Act.put, List.setIfInBounds_toArray] using h
/-- worlds in which the blocks that are read in a line's region are as they were -/
structure KeepE (W : World) where
  v : World
  h : ∀ (b : Nat) (cur : Array Value) (t : TypeId), t ≠ 9 → t ≠ 43 → t ≠ 3 → W.heap[b]? = some (.cells cur t (0, 0)) → v.heap[b]? = some (.cells cur t (0, 0))
theorem KeepE.cell {W : World} (k : KeepE W) {b j : Nat} {cur : Array Value} {t : TypeId} {u : Value} (h1 : t ≠ 9) (h2 : t ≠ 43) (h3 : t ≠ 3) (hb : W.heap[b]? = some (.cells cur t (0, 0))) (hu : cur[j]? = some u) : k.v.cell? ⟨b, j, none⟩ = some u := by
  rw [cell_of_row _ _ _ _ _ _ (k.h b cur t h1 h2 h3 hb), hu]
end Go.Proofs.YtnnnpijepdjanaaGreat
