/- Rescue: behind what length a place is reached. -/
import Derived.Test.YtmcjnfghlpnghaaDoorW2
namespace Go.Proofs.YtmcjnfghlpnghaaDoor
open Go.RowKit

/-- twice the length behind which a depot's vehicle is at a place, told twice -/
def behindM (d : Dep) (p : Int) : Int := 2 * d.2 + sizeI (p - 2 * d.1)
def reachGo (l : List Dep) (p : Int) : Int → List Nat → Int
  | best, [] => best
  | best, i :: is => reachGo l p (if best < 0 ∨ behindM (l[i]?.getD (0, 0)) p < best then behindM (l[i]?.getD (0, 0)) p else best) is

def DepOk (d : Dep) : Prop := 0 ≤ d.1 ∧ d.1 ≤ 1000000000 ∧ 0 ≤ d.2 ∧ d.2 ≤ 1000000000

structure RescueAt (w : World) (B g1 g2 : Nat) (L : Int) (A D : Option Addr) (n c m e : Nat) (l : List Dep) (ds : List Nat) : Prop where
  c0 : w.cell? ⟨g2, 0, none⟩ = some (.int .i64 L)
  c1 : w.cell? ⟨g2, 1, none⟩ = some (.slice A n c)
  d0 : w.cell? ⟨g1, 0, none⟩ = some (.slice D m e)
  rl : Rd w B A (depCells l)
  rd : Rd w B D (natCells ds)
  ln : l.length = n
  lm : ds.length = m
  ok : ∀ d ∈ l, DepOk d
  ix : ∀ i ∈ ds, i < n
  n1 : n ≤ 1000000
  m1 : m ≤ 1000000
  B1 : B ≤ w.heap.size

theorem RescueAt.keep {w w' : World} {B g1 g2 : Nat} {L : Int} {A D : Option Addr} {n c m e : Nat} {l : List Dep} {ds : List Nat} (h : RescueAt w B g1 g2 L A D n c m e l ds) (hb : Below w.heap.size w w') : RescueAt w' B g1 g2 L A D n c m e l ds :=
  ⟨kept hb h.c0, kept hb h.c1, kept hb h.d0, h.rl.keep hb, h.rd.keep hb, h.ln, h.lm, h.ok, h.ix, h.n1, h.m1, Nat.le_trans h.B1 hb.size⟩

theorem natCells_at (l : List Nat) (k : Nat) (h : k < l.length) : (natCells l)[k]? = some (.int .i64 ((l[k]?.getD 0 : Nat) : Int)) := by simp [natCells, h]

def ReachedRel (w0 : World) (l : List Dep) (ds : List Nat) (p R : Int) (m : Nat) (u5 u13 : Value) (wr : World) : Prop :=
  ∃ (k : Nat) (best : Int), k ≤ m ∧ u13 = .int .i64 k ∧ u5 = .int .i64 best ∧ reachGo l p best (ds.drop k) = R ∧ -1 ≤ best ∧ best ≤ 10000000000 ∧ Below w0.heap.size w0 wr

set_option maxHeartbeats 4000000 in
theorem reached_any (w : World) (B g1 g2 : Nat) (L : Int) (A D : Option Addr) (n c m e : Nat) (l : List Dep) (ds : List Nat) (h : RescueAt w B g1 g2 L A D n c m e l ds) (p : Int) (hp : 0 ≤ p ∧ p ≤ 2000000000) :
    Calls Tryd.prog 160 #[.int .i64 p, .pointer (some ⟨g1, 0, none⟩), .pointer (some ⟨g2, 0, none⟩)] w (ErrVal w (reachGo l p (-1) ds)) := by
  obtain ⟨hp0, hp1⟩ := hp
  have d0 := h.d0
  have m1 := h.m1
  have H := Lib.hid h
  clear h
  generalize hR : reachGo l p (-1) ds = R
  have HR := Lib.hid hR
  clear hR
  go_enter Tryd.func160, Tryd.ntmps160
  go_wp2
  go_loopw [5, 13] (fun u5 u13 wr => ReachedRel w l ds p R m u5 u13 wr) (fun _ u13 _ => m - (intOf u13).toNat)
  case atStart => exact ⟨0, -1, Nat.zero_le _, rfl, rfl, by simpa using HR.out, by omega, by omega, Below.refl _ _⟩
  case round =>
    obtain ⟨k, best, hk, rfl, rfl, he, hb0, hb1, hb⟩ := hrel
    have HE := Lib.hid he
    clear he d0
    by_cases hlt : k < m
    · have HRr := H.out.keep hb
      have c1 := HRr.c1
      have hkd : k < ds.length := by rw [HRr.lm]; exact hlt
      obtain ⟨bd, offd, rfl, _, e0⟩ := HRr.rd.at_ (natCells_at ds k hkd)
      have hix := HRr.ix (ds[k]?.getD 0) (by rw [List.getElem?_eq_getElem hkd, Option.getD_some]; exact List.getElem_mem hkd)
      have HS := Lib.hid (drop_at ds 0 k hkd)
      generalize ds[k]?.getD 0 = i at *
      have hil : i < l.length := by rw [HRr.ln]; exact hix
      obtain ⟨z0, z1⟩ := depCells_at l i (l[i]?.getD (0, 0)) (by simp [hil])
      obtain ⟨b, off, rfl, _, e1, e2⟩ := HRr.rl.at2 z0 z1
      obtain ⟨p0, p1, p2, p3⟩ := HRr.ok (l[i]?.getD (0, 0)) (by rw [List.getElem?_eq_getElem hil, Option.getD_some]; exact List.getElem_mem hil)
      have HD : Hid (reachGo l p (if best < 0 ∨ behindM (l[i]?.getD (0, 0)) p < best then behindM (l[i]?.getD (0, 0)) p else best) (ds.drop (k + 1)) = R) := by
        rw [Hid, ← HE.out, HS.out, reachGo]
      have hn1 := HRr.n1
      have HB := Lib.hid hb
      clear hkd z0 z1 hil HRr hb HE HS
      generalize l[i]?.getD (0, 0) = d at *
      obtain ⟨d1, d2⟩ := d
      simp only at p0 p1 p2 p3 e1 e2
      go_wp2
      all_goals
        have hbq : behindM (d1, d2) p = 2 * d2 + max (p - 2 * d1) (-(p - 2 * d1)) := rfl
        have hdo := HD.out
        rw [hbq] at hdo
        first
          | (rw [if_pos (by omega)] at hdo
             exact ⟨⟨k + 1, _, by omega, by go_num, rfl, hdo, by omega, by omega, HB.out.alloc HB.out.size _⟩, by simp [intOf]; omega⟩)
          | (rw [if_neg (by omega)] at hdo
             exact ⟨⟨k + 1, _, by omega, by go_num, rfl, hdo, by omega, by omega, HB.out.alloc HB.out.size _⟩, by simp [intOf]; omega⟩)
    · have hd : ds.drop k = [] := by rw [List.drop_eq_nil_iff]; rw [H.out.lm]; omega
      have hv := HE.out
      rw [hd] at hv
      simp only [reachGo] at hv
      subst hv
      have HB := Lib.hid hb
      clear hb hd
      go_wp2
      go_ret
      exact ⟨rfl, HB.out⟩
end Go.Proofs.YtmcjnfghlpnghaaDoor
