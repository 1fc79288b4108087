/- Rescue: the error of a rescue, whole. -/
import Derived.Test.YtlbgocgocanloaaGreatDoorf4W1
import Derived.Test.YtlbgocgocanloaaGreatDoorf4C11
import Derived.Test.YtlbgocgocanloaaGreatDoorf4R1
namespace Go.Proofs.YtlbgocgocanloaaGreatDoor
open Go.RowKit
end Go.Proofs.YtlbgocgocanloaaGreatDoor
namespace Go.Proofs.YtlbgocgocanloaaGreatDoor
open Go.RowKit
def DepOk (d : Dep) : Prop := 0 ≤ d.1 ∧ d.1 ≤ 1000000000 ∧ 0 ≤ d.2 ∧ d.2 ≤ 1000000000
structure RescueAt (w : World) (B g1 g2 : Nat) (L : Int) (A D : Option Addr) (n c m e : Nat) (l : List Dep) (ds : List Nat) : Prop where
  c0 : w.cell? ⟨g2, 0, none⟩ = some (.int .i64 L)
  c1 : w.cell? ⟨g2, 1, none⟩ = some (.slice A n c)
  d0 : w.cell? ⟨g1, 0, none⟩ = some (.slice D m e)
  rl : Rd w B A (depCells l)
  rd : Rd w B D (natCells ds)
  ln : l.length = n
  lm : ds.length = m
  ok : ∀ d ∈ l, DepOk d
  ix : ∀ i ∈ ds, i < n
  n1 : n ≤ 1000000
  m1 : m ≤ 1000000
  B1 : B ≤ w.heap.size
theorem RescueAt.keep {w w' : World} {B g1 g2 : Nat} {L : Int} {A D : Option Addr} {n c m e : Nat} {l : List Dep} {ds : List Nat} (h : RescueAt w B g1 g2 L A D n c m e l ds) (hb : Below w.heap.size w w') : RescueAt w' B g1 g2 L A D n c m e l ds :=
  ⟨kept hb h.c0, kept hb h.c1, kept hb h.d0, h.rl.keep hb, h.rd.keep hb, h.ln, h.lm, h.ok, h.ix, h.n1, h.m1, Nat.le_trans h.B1 hb.size⟩
end Go.Proofs.YtlbgocgocanloaaGreatDoor
