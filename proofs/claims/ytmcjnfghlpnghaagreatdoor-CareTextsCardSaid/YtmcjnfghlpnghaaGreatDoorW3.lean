/- Rescue: the error of a rescue, whole. -/
import Derived.Test.YtmcjnfghlpnghaaGreatDoorW1
import Derived.Test.YtmcjnfghlpnghaaGreatDoorC11
import Derived.Test.YtmcjnfghlpnghaaGreatDoorR1
namespace Go.Proofs.YtmcjnfghlpnghaaGreatDoor
open Go.RowKit
def rescueHead (L : Int) (n : Nat) : Int := firstE [placeE L, unlessE (decide (0 < n)) 10, unlessE (decide ((n : Int) ≤ 8)) 8]
/-- the error of a rescue -/
def rescueM (L : Int) (l : List Dep) : Int := seqE (rescueHead L l.length) (unlessE (!l.any (badDepB L)) 2)
set_option maxHeartbeats 2000000 in
theorem rescueErr_any (w : World) (B : Nat) (L : Int) (A : Option Addr) (n c : Nat) (l : List Dep) (hl : l.length = n) (h : Rd w B A (depCells l)) (hB : B ≤ w.heap.size) (hn : n ≤ 1000000000) :
    Calls Tryz.prog 85 #[.agg #[.int .i64 L, .slice A n c]] w (ErrVal w (rescueM L l)) := by
  have hb0 : Below w.heap.size w (w.alloc (.cells #[.int .i64 L, .slice A n c] 97)) := (Below.refl _ _).alloc (Nat.le_refl _) _
  have h0 := h.below (hb0.mono hB)
  have b0 : (w.alloc (.cells #[.int .i64 L, .slice A n c] 97)).heap[w.heap.size]? = some (.cells #[.int .i64 L, .slice A n c] 97 (0, 0)) := by rw [heapq_alloc, if_pos rfl]
  have hs0 : w.heap.size + 1 ≤ (w.alloc (.cells #[.int .i64 L, .slice A n c] 97)).heap.size := by simp
  have HL := Lib.hid hl
  have H0 := Lib.hid h0
  have HB0 := Lib.hid hb0
  clear h hl h0 hb0
  go_enter Tryz.func85, Tryz.ntmps85
  go_upto_region 1 with (fail)
  generalize w.alloc (.cells #[.int .i64 L, .slice A n c] 97) = w0 at *
  have c0 := cell_of_row w0 w.heap.size 0 _ _ _ b0
  have c1 := cell_of_row w0 w.heap.size 1 _ _ _ b0
  simp at c0 c1
  generalize hx : w.heap.size = x at *
  have HX := Lib.hid hx
  clear hx b0
  have x0 := fun y : Xt w0 => y.cell c0
  have x1 := fun y : Xt w0 => y.cell c1
  refine wp_region_cut [] [0, 1, 2, 3, 4, 5, 6, 7, 8, 9, 10, 11, 12] 13 [14, 15] (fun w' => ∃ y : Xt w0, w' = y.1) (by kernel_rfl) (by kernel_rfl) ⟨⟨w0.drew, (Below.refl _ _).drew⟩, rfl⟩ ?_
  simp only [opsAt_nil, opsAt_cons, consOpt_some, List.getElem?_toArray, List.getElem?_cons_zero, List.getElem?_cons_succ]
  refine wpQuiet_nil ?_
  show wpQuiet _ _ _ _ _ _
  repeat (go_big_quiet_step (first | (go_at_call 98; exact Xt.calls_same (placeErr_any _ _)) | (go_at_call 62; exact Xt.calls_same (unless_any _ _ _))))
  refine wpQuiet_nil ?_
  intro w1 hx
  have hb1 := Xt.below hx
  clear hx x0 x1
  have c0' := cell_alloc_old (.cells #[.int .i64 (placeE L), .int .i64 (unlessE (decide (0 < n)) 10), .int .i64 (unlessE (decide ((n : Int) ≤ 8)) 8)] 29) (kept hb1 c0)
  have c1' := cell_alloc_old (.cells #[.int .i64 (placeE L), .int .i64 (unlessE (decide (0 < n)) 10), .int .i64 (unlessE (decide ((n : Int) ≤ 8)) 8)] 29) (kept hb1 c1)
  have F3 : Calls Tryz.prog 61 #[.slice (some ⟨w1.heap.size, 0, none⟩) 3 3] (w1.alloc (.cells #[.int .i64 (placeE L), .int .i64 (unlessE (decide (0 < n)) 10), .int .i64 (unlessE (decide ((n : Int) ≤ 8)) 8)] 29)) (fun e w' =>
      e = .returned (.int .i64 (rescueHead L n)) ∧ w1.alloc (.cells #[.int .i64 (placeE L), .int .i64 (unlessE (decide (0 < n)) 10), .int .i64 (unlessE (decide ((n : Int) ≤ 8)) 8)] 29) = w') := first3 w1 _ _ _
  have hb2 : Below x w (w1.alloc (.cells #[.int .i64 (placeE L), .int .i64 (unlessE (decide (0 < n)) 10), .int .i64 (unlessE (decide ((n : Int) ≤ 8)) 8)] 29)) := (HB0.out.trans (hb1.mono (by omega))).alloc (by have := hb1.size; omega) _
  have h2 := (H0.out.below (hb1.mono (by omega))).below (((Below.refl _ _).alloc (Nat.le_refl _) (.cells #[.int .i64 (placeE L), .int .i64 (unlessE (decide (0 < n)) 10), .int .i64 (unlessE (decide ((n : Int) ≤ 8)) 8)] 29)).mono (by have := hb1.size; omega))
  have hs2 : x + 1 ≤ (w1.alloc (.cells #[.int .i64 (placeE L), .int .i64 (unlessE (decide (0 < n)) 10), .int .i64 (unlessE (decide ((n : Int) ≤ 8)) 8)] 29)).heap.size := by have := hb1.size; simp; omega
  have HB2 := Lib.hid hb2
  have H2 := Lib.hid h2
  clear hb2 h2 hb1 c0 c1
  go_wp2_with (go_at_call 61; refine F3.mono ?_; rintro e w' ⟨rfl, rfl⟩)
  refine onlyNormal_mk ?_
  generalize w1.alloc (.cells #[.int .i64 (placeE L), .int .i64 (unlessE (decide (0 < n)) 10), .int .i64 (unlessE (decide ((n : Int) ≤ 8)) 8)] 29) = w2 at *
  clear F3
  by_cases hE : rescueHead L n = 0
  · have HV : Hid (rescueM L l = unlessE (!l.any (badDepB L)) 2) := by
      rw [Hid, rescueM, HL.out, hE]
      rfl
    have hE' : (rescueHead L n != 0) = false := by simp [hE]
    have C := ContainsFunc_159 A n c B x L l w2 hn HL.out H2.out (by omega) c0'
    have U := fun (b : Bool) (W : World) => unless_any b 2 W
    clear hE
    go_wp2_with (first | (go_at_call 122; refine C.mono ?_; rintro e w3 ⟨rfl, hb3⟩) | (go_at_call 62; refine (U _ _).mono ?_; rintro e w' ⟨rfl, rfl⟩))
    go_ret
    refine ⟨by rw [HV.out]; rfl, ?_⟩
    rw [HX.out]
    exact HB2.out.trans (hb3.mono (by omega))
  · have HV : Hid (rescueM L l = rescueHead L n) := by
      rw [Hid, rescueM, HL.out, seqE, if_neg hE]
    have hE' : (rescueHead L n != 0) = true := by simp [hE]
    clear hE
    go_wp2
    go_ret
    refine ⟨by rw [HV.out]; rfl, ?_⟩
    rw [HX.out]
    exact HB2.out
end Go.Proofs.YtmcjnfghlpnghaaGreatDoor

/- Rescue: behind what length a place is reached. -/
namespace Go.Proofs.YtmcjnfghlpnghaaGreatDoor
open Go.RowKit
/-- twice the length behind which a depot's vehicle is at a place, told twice -/
def behindM (d : Dep) (p : Int) : Int := 2 * d.2 + sizeI (p - 2 * d.1)
def reachGo (l : List Dep) (p : Int) : Int → List Nat → Int
  | best, [] => best
  | best, i :: is => reachGo l p (if best < 0 ∨ behindM (l[i]?.getD (0, 0)) p < best then behindM (l[i]?.getD (0, 0)) p else best) is
def DepOk (d : Dep) : Prop := 0 ≤ d.1 ∧ d.1 ≤ 1000000000 ∧ 0 ≤ d.2 ∧ d.2 ≤ 1000000000
structure RescueAt (w : World) (B g1 g2 : Nat) (L : Int) (A D : Option Addr) (n c m e : Nat) (l : List Dep) (ds : List Nat) : Prop where
  c0 : w.cell? ⟨g2, 0, none⟩ = some (.int .i64 L)
  c1 : w.cell? ⟨g2, 1, none⟩ = some (.slice A n c)
  d0 : w.cell? ⟨g1, 0, none⟩ = some (.slice D m e)
  rl : Rd w B A (depCells l)
  rd : Rd w B D (natCells ds)
  ln : l.length = n
  lm : ds.length = m
  ok : ∀ d ∈ l, DepOk d
  ix : ∀ i ∈ ds, i < n
  n1 : n ≤ 1000000
  m1 : m ≤ 1000000
  B1 : B ≤ w.heap.size
theorem RescueAt.keep {w w' : World} {B g1 g2 : Nat} {L : Int} {A D : Option Addr} {n c m e : Nat} {l : List Dep} {ds : List Nat} (h : RescueAt w B g1 g2 L A D n c m e l ds) (hb : Below w.heap.size w w') : RescueAt w' B g1 g2 L A D n c m e l ds :=
  ⟨kept hb h.c0, kept hb h.c1, kept hb h.d0, h.rl.keep hb, h.rd.keep hb, h.ln, h.lm, h.ok, h.ix, h.n1, h.m1, Nat.le_trans h.B1 hb.size⟩
theorem natCells_at (l : List Nat) (k : Nat) (h : k < l.length) : (natCells l)[k]? = some (.int .i64 ((l[k]?.getD 0 : Nat) : Int)) := by simp [natCells, h]
def ReachedRel (w0 : World) (l : List Dep) (ds : List Nat) (p R : Int) (m : Nat) (u5 u13 : Value) (wr : World) : Prop :=
  ∃ (k : Nat) (best : Int), k ≤ m ∧ u13 = .int .i64 k ∧ u5 = .int .i64 best ∧ reachGo l p best (ds.drop k) = R ∧ -1 ≤ best ∧ best ≤ 10000000000 ∧ Below w0.heap.size w0 wr
set_option maxHeartbeats 4000000 in
theorem reached_any (w : World) (B g1 g2 : Nat) (L : Int) (A D : Option Addr) (n c m e : Nat) (l : List Dep) (ds : List Nat) (h : RescueAt w B g1 g2 L A D n c m e l ds) (p : Int) (hp : 0 ≤ p ∧ p ≤ 2000000000) :
    Calls Tryz.prog 124 #[.int .i64 p, .pointer (some ⟨g1, 0, none⟩), .pointer (some ⟨g2, 0, none⟩)] w (ErrVal w (reachGo l p (-1) ds)) := by
  obtain ⟨hp0, hp1⟩ := hp
  have d0 := h.d0
  have m1 := h.m1
  have H := Lib.hid h
  clear h
  generalize hR : reachGo l p (-1) ds = R
  have HR := Lib.hid hR
  clear hR
  go_enter Tryz.func124, Tryz.ntmps124
  go_wp2
  go_loopw [5, 13] (fun u5 u13 wr => ReachedRel w l ds p R m u5 u13 wr) (fun _ u13 _ => m - (intOf u13).toNat)
  case atStart => exact ⟨0, -1, Nat.zero_le _, rfl, rfl, by simpa using HR.out, by omega, by omega, Below.refl _ _⟩
  case round =>
    obtain ⟨k, best, hk, rfl, rfl, he, hb0, hb1, hb⟩ := hrel
    have HE := Lib.hid he
    clear he d0
    by_cases hlt : k < m
    · have HRr := H.out.keep hb
      have c1 := HRr.c1
      have hkd : k < ds.length := by rw [HRr.lm]; exact hlt
      obtain ⟨bd, offd, rfl, _, e0⟩ := HRr.rd.at_ (natCells_at ds k hkd)
      have hix := HRr.ix (ds[k]?.getD 0) (by rw [List.getElem?_eq_getElem hkd, Option.getD_some]; exact List.getElem_mem hkd)
      have HS := Lib.hid (drop_at ds 0 k hkd)
      generalize ds[k]?.getD 0 = i at *
      have hil : i < l.length := by rw [HRr.ln]; exact hix
      obtain ⟨z0, z1⟩ := depCells_at l i (l[i]?.getD (0, 0)) (by simp [hil])
      obtain ⟨b, off, rfl, _, e1, e2⟩ := HRr.rl.at2 z0 z1
      obtain ⟨p0, p1, p2, p3⟩ := HRr.ok (l[i]?.getD (0, 0)) (by rw [List.getElem?_eq_getElem hil, Option.getD_some]; exact List.getElem_mem hil)
      have HD : Hid (reachGo l p (if best < 0 ∨ behindM (l[i]?.getD (0, 0)) p < best then behindM (l[i]?.getD (0, 0)) p else best) (ds.drop (k + 1)) = R) := by
        rw [Hid, ← HE.out, HS.out, reachGo]
      have hn1 := HRr.n1
      have HB := Lib.hid hb
      clear hkd z0 z1 hil HRr hb HE HS
      generalize l[i]?.getD (0, 0) = d at *
      obtain ⟨d1, d2⟩ := d
      simp only at p0 p1 p2 p3 e1 e2
      go_wp2
      all_goals
        have hbq : behindM (d1, d2) p = 2 * d2 + max (p - 2 * d1) (-(p - 2 * d1)) := rfl
        have hdo := HD.out
        rw [hbq] at hdo
        first
          | (rw [if_pos (by omega)] at hdo
             exact ⟨⟨k + 1, _, by omega, by go_num, rfl, hdo, by omega, by omega, HB.out.alloc HB.out.size _⟩, by simp [intOf]; omega⟩)
          | (rw [if_neg (by omega)] at hdo
             exact ⟨⟨k + 1, _, by omega, by go_num, rfl, hdo, by omega, by omega, HB.out.alloc HB.out.size _⟩, by simp [intOf]; omega⟩)
    · have hd : ds.drop k = [] := by rw [List.drop_eq_nil_iff]; rw [H.out.lm]; omega
      have hv := HE.out
      rw [hd] at hv
      simp only [reachGo] at hv
      subst hv
      have HB := Lib.hid hb
      clear hb hd
      go_wp2
      go_ret
      exact ⟨rfl, HB.out⟩
end Go.Proofs.YtmcjnfghlpnghaaGreatDoor
