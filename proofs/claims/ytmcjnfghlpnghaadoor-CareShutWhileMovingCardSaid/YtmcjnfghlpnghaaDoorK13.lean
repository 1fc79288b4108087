/- Rescue: the error of a rescue. Rescue: the error of a rescue, whole. Rescue: behind what length a place is reached. Rescue: places sorted; the worst place, plain. -/
import Derived.Test.YtmcjnfghlpnghaaDoorK7
import Derived.Test.YtmcjnfghlpnghaaDoorK11
import Derived.Test.YtmcjnfghlpnghaaDoorK1
namespace Go.Proofs.YtmcjnfghlpnghaaDoor
open Go.RowKit

/-- a depot: its place, and by how much it is late -/
abbrev Dep := Int × Int
def depCells (l : List Dep) : List Value := l.flatMap fun d => [.int .i64 d.1, .int .i64 d.2]
theorem depCells_len (l : List Dep) : (depCells l).length = l.length * 2 := by
  induction l with
  | nil => rfl
  | cons a l ih =>
    have : depCells (a :: l) = [.int .i64 a.1, .int .i64 a.2] ++ depCells l := by simp [depCells]
    rw [this, List.length_append, ih]
    simp
    omega
theorem depCells_at (l : List Dep) (k : Nat) (d : Dep) (h : l[k]? = some d) :
    (depCells l)[k * 2]? = some (.int .i64 d.1) ∧ (depCells l)[k * 2 + 1]? = some (.int .i64 d.2) := by
  induction l generalizing k with
  | nil => simp at h
  | cons a l ih =>
    cases k with
    | zero => simp at h; subst h; simp [depCells]
    | succ k =>
      have := ih k (by simpa using h)
      have e : depCells (a :: l) = [.int .i64 a.1, .int .i64 a.2] ++ depCells l := by simp [depCells]
      rw [e, show (k + 1) * 2 = k * 2 + 2 by omega, show k * 2 + 2 + 1 = k * 2 + 1 + 2 by omega]
      rw [List.getElem?_append_right (by simp), List.getElem?_append_right (by simp)]
      simpa using this
theorem Rd.at2 {w : World} {B : Nat} {A : Option Addr} {xs : List Value} (h : Rd w B A xs) {k : Nat} {u0 u1 : Value} (h0 : xs[k * 2]? = some u0) (h1 : xs[k * 2 + 1]? = some u1) :
    ∃ b off, A = some ⟨b, off, none⟩ ∧ b < B ∧ w.cell? ⟨b, off + k * 2, none⟩ = some u0 ∧ w.cell? ⟨b, off + k * 2 + 1, none⟩ = some u1 := by
  obtain ⟨b, off, rfl, hbB, d0⟩ := h.at_ h0
  obtain ⟨b1, off1, hA1, _, d1⟩ := h.at_ h1
  simp only [Option.some.injEq, Addr.mk.injEq, and_true] at hA1
  obtain ⟨rfl, rfl⟩ := hA1
  exact ⟨b, off, rfl, hbB, d0, by rw [← Nat.add_assoc] at d1; exact d1⟩

/-- is a depot wrong -/
def badDepB (L : Int) (d : Dep) : Bool := !withinB d.1 0 L || !isPlaceB d.2

theorem within_val (n lo hi : Int) (b : Bool) (hb : withinB n lo hi = b) (w : World) :
    Calls Tryd.prog 99 #[.int .i64 n, .int .i64 lo, .int .i64 hi] w fun e w' => e = .returned (.bool b) ∧ w = w' := by
  rw [← hb]
  exact within_any n lo hi w
theorem isPlace_val (n : Int) (b : Bool) (hb : isPlaceB n = b) (w : World) :
    Calls Tryd.prog 104 #[.int .i64 n] w fun e w' => e = .returned (.bool b) ∧ w = w' := by
  rw [← hb]
  exact isPlace_any n w

theorem badDep_any (d : Dep) (g : Nat) (L : Int) (w : World) (hc : w.cell? ⟨g, 0, none⟩ = some (.int .i64 L)) :
    Calls Tryd.prog 159 #[.agg #[.int .i64 d.1, .int .i64 d.2], .pointer (some ⟨g, 0, none⟩)] w fun e w' => e = .returned (.bool (badDepB L d)) ∧ Below w.heap.size w w' := by
  have hb0 : Below w.heap.size w (w.alloc (.cells #[.int .i64 d.1, .int .i64 d.2] 143)) := (Below.refl _ _).alloc (Nat.le_refl _) _
  have hc' := cell_alloc_old (.cells #[.int .i64 d.1, .int .i64 d.2] 143) hc
  cases h1 : withinB d.1 0 L
  · have HV : Hid (badDepB L d = true) := by simp [Hid, badDepB, h1]
    go_enter Tryd.func159, Tryd.ntmps159
    go_wp2_with (go_at_call 99; refine (within_val _ _ _ _ h1 _).mono ?_; rintro e w' ⟨rfl, rfl⟩)
    go_ret
    exact ⟨by rw [HV.out]; rfl, hb0⟩
  · cases h2 : isPlaceB d.2
    all_goals
      have HV : Hid (badDepB L d = !isPlaceB d.2) := by simp [Hid, badDepB, h1]
      have HP := Lib.hid h2
      go_enter Tryd.func159, Tryd.ntmps159
      go_wp2_with (first | (go_at_call 99; refine (within_val _ _ _ _ h1 _).mono ?_; rintro e w' ⟨rfl, rfl⟩) | (go_at_call 104; refine (isPlace_val _ _ h2 _).mono ?_; rintro e w' ⟨rfl, rfl⟩))
      go_ret
      exact ⟨by rw [HV.out, HP.out]; rfl, hb0⟩

/-- slices.IndexFunc at depots -/
theorem IndexFunc_159 (A : Option Addr) (n c B g : Nat) (L : Int) (l : List Dep) (w : World) (hn : n ≤ 1000000000) (hl : l.length = n) (h : Rd w B A (depCells l)) (hB : B ≤ w.heap.size) (hc : w.cell? ⟨g, 0, none⟩ = some (.int .i64 L)) :
    Calls Tryd.prog 184 #[.slice A n c, .func (.func 159) #[] #[.pointer (some ⟨g, 0, none⟩)]] w fun e w' => e = .returned (.int .i64 (idxGo (badDepB L) l 0)) ∧ Below w.heap.size w w' := by
  have HL := Lib.hid hl; clear hl
  go_enter Tryd.func184, Tryd.ntmps184
  go_wp2
  go_loopw [5, 8] (fun _ i wr => ∃ k : Nat, k ≤ n ∧ i = .int .i64 k ∧ idxGo (badDepB L) (l.drop k) k = idxGo (badDepB L) l 0 ∧ Below w.heap.size w wr) (fun _ i _ => n - (intOf i).toNat)
  case atStart => exact ⟨0, Nat.zero_le _, rfl, rfl, Below.refl _ _⟩
  case round =>
    obtain ⟨k, hk, rfl, he, hb⟩ := hrel
    have HE := Lib.hid he; clear he
    by_cases hlt : k < n
    · have hkl : k < l.length := by rw [HL.out]; exact hlt
      obtain ⟨z0, z1⟩ := depCells_at l k (l[k]?.getD (0, 0)) (by simp [hkl])
      obtain ⟨b, off, rfl, _, e0, e1⟩ := (h.below (hb.mono hB)).at2 z0 z1
      have HS := Lib.hid (drop_at l (0, 0) k hkl)
      have hcr := kept hb hc
      clear hkl z0 z1
      generalize l[k]?.getD (0, 0) = d at *
      have C := badDep_any d g L wr hcr
      cases hz : badDepB L d
      · rw [hz] at C
        have HZ := Lib.hid hz
        have HB := Lib.hid hb
        have hsz := hb.size
        clear hz hb
        go_wp2_with (go_at_call 159; refine C.mono ?_; rintro e w1 ⟨rfl, hb1⟩)
        go_roundw
        case rel => exact ⟨k + 1, by omega, by go_num, by rw [← HE.out, HS.out, idxGo]; simp [HZ.out], HB.out.trans (hb1.mono hsz)⟩
        case measure => simp [intOf]; omega
      · rw [hz] at C
        have HZ := Lib.hid hz
        have HB := Lib.hid hb
        have hsz := hb.size
        clear hz hb
        go_wp2_with (go_at_call 159; refine C.mono ?_; rintro e w1 ⟨rfl, hb1⟩)
        go_ret
        exact ⟨by rw [← HE.out, HS.out, idxGo, HZ.out]; rfl, HB.out.trans (hb1.mono hsz)⟩
    · go_wp2
      go_ret
      have : l.drop k = [] := by rw [List.drop_eq_nil_iff]; rw [HL.out]; omega
      exact ⟨by rw [← HE.out, this]; rfl, hb⟩

theorem ContainsFunc_159 (A : Option Addr) (n c B g : Nat) (L : Int) (l : List Dep) (w : World) (hn : n ≤ 1000000000) (hl : l.length = n) (h : Rd w B A (depCells l)) (hB : B ≤ w.heap.size) (hc : w.cell? ⟨g, 0, none⟩ = some (.int .i64 L)) :
    Calls Tryd.prog 158 #[.slice A n c, .func (.func 159) #[] #[.pointer (some ⟨g, 0, none⟩)]] w fun e w' => e = .returned (.bool (l.any (badDepB L))) ∧ Below w.heap.size w w' := by
  have C := IndexFunc_159 A n c B g L l w hn hl h hB hc
  clear h
  go_enter Tryd.func158, Tryd.ntmps158
  go_wp2_with (go_at_call 184; refine C.mono ?_; rintro e w1 ⟨rfl, hb1⟩)
  go_ret
  exact ⟨by rw [← idxGo_nonneg _ l 0]; rfl, hb1⟩
end Go.Proofs.YtmcjnfghlpnghaaDoor

namespace Go.Proofs.YtmcjnfghlpnghaaDoor
open Go.RowKit

def rescueHead (L : Int) (n : Nat) : Int := firstE [placeE L, unlessE (decide (0 < n)) 10, unlessE (decide ((n : Int) ≤ 8)) 8]
/-- the error of a rescue -/
def rescueM (L : Int) (l : List Dep) : Int := seqE (rescueHead L l.length) (unlessE (!l.any (badDepB L)) 2)

set_option maxHeartbeats 2000000 in
theorem rescueErr_any (w : World) (B : Nat) (L : Int) (A : Option Addr) (n c : Nat) (l : List Dep) (hl : l.length = n) (h : Rd w B A (depCells l)) (hB : B ≤ w.heap.size) (hn : n ≤ 1000000000) :
    Calls Tryd.prog 124 #[.agg #[.int .i64 L, .slice A n c]] w (ErrVal w (rescueM L l)) := by
  have hb0 : Below w.heap.size w (w.alloc (.cells #[.int .i64 L, .slice A n c] 107)) := (Below.refl _ _).alloc (Nat.le_refl _) _
  have h0 := h.below (hb0.mono hB)
  have b0 : (w.alloc (.cells #[.int .i64 L, .slice A n c] 107)).heap[w.heap.size]? = some (.cells #[.int .i64 L, .slice A n c] 107 (0, 0)) := by rw [heapq_alloc, if_pos rfl]
  have hs0 : w.heap.size + 1 ≤ (w.alloc (.cells #[.int .i64 L, .slice A n c] 107)).heap.size := by simp
  have HL := Lib.hid hl
  have H0 := Lib.hid h0
  have HB0 := Lib.hid hb0
  clear h hl h0 hb0
  go_enter Tryd.func124, Tryd.ntmps124
  go_upto_region 1 with (fail)
  generalize w.alloc (.cells #[.int .i64 L, .slice A n c] 107) = w0 at *
  have c0 := cell_of_row w0 w.heap.size 0 _ _ _ b0
  have c1 := cell_of_row w0 w.heap.size 1 _ _ _ b0
  simp at c0 c1
  generalize hx : w.heap.size = x at *
  have HX := Lib.hid hx
  clear hx b0
  have x0 := fun y : Xt w0 => y.cell c0
  have x1 := fun y : Xt w0 => y.cell c1
  refine wp_region_cut [] [0, 1, 2, 3, 4, 5, 6, 7, 8, 9, 10, 11, 12] 13 [14, 15] (fun w' => ∃ y : Xt w0, w' = y.1) (by kernel_rfl) (by kernel_rfl) ⟨⟨w0.drew, (Below.refl _ _).drew⟩, rfl⟩ ?_
  simp only [opsAt_nil, opsAt_cons, consOpt_some, List.getElem?_toArray, List.getElem?_cons_zero, List.getElem?_cons_succ]
  refine wpQuiet_nil ?_
  show wpQuiet _ _ _ _ _ _
  repeat (go_big_quiet_step (first | (go_at_call 126; exact Xt.calls_same (placeErr_any _ _)) | (go_at_call 92; exact Xt.calls_same (unless_any _ _ _))))
  refine wpQuiet_nil ?_
  intro w1 hx
  have hb1 := Xt.below hx
  clear hx x0 x1
  have c0' := cell_alloc_old (.cells #[.int .i64 (placeE L), .int .i64 (unlessE (decide (0 < n)) 10), .int .i64 (unlessE (decide ((n : Int) ≤ 8)) 8)] 29) (kept hb1 c0)
  have c1' := cell_alloc_old (.cells #[.int .i64 (placeE L), .int .i64 (unlessE (decide (0 < n)) 10), .int .i64 (unlessE (decide ((n : Int) ≤ 8)) 8)] 29) (kept hb1 c1)
  have F3 : Calls Tryd.prog 91 #[.slice (some ⟨w1.heap.size, 0, none⟩) 3 3] (w1.alloc (.cells #[.int .i64 (placeE L), .int .i64 (unlessE (decide (0 < n)) 10), .int .i64 (unlessE (decide ((n : Int) ≤ 8)) 8)] 29)) (fun e w' =>
      e = .returned (.int .i64 (rescueHead L n)) ∧ w1.alloc (.cells #[.int .i64 (placeE L), .int .i64 (unlessE (decide (0 < n)) 10), .int .i64 (unlessE (decide ((n : Int) ≤ 8)) 8)] 29) = w') := first3 w1 _ _ _
  have hb2 : Below x w (w1.alloc (.cells #[.int .i64 (placeE L), .int .i64 (unlessE (decide (0 < n)) 10), .int .i64 (unlessE (decide ((n : Int) ≤ 8)) 8)] 29)) := (HB0.out.trans (hb1.mono (by omega))).alloc (by have := hb1.size; omega) _
  have h2 := (H0.out.below (hb1.mono (by omega))).below (((Below.refl _ _).alloc (Nat.le_refl _) (.cells #[.int .i64 (placeE L), .int .i64 (unlessE (decide (0 < n)) 10), .int .i64 (unlessE (decide ((n : Int) ≤ 8)) 8)] 29)).mono (by have := hb1.size; omega))
  have hs2 : x + 1 ≤ (w1.alloc (.cells #[.int .i64 (placeE L), .int .i64 (unlessE (decide (0 < n)) 10), .int .i64 (unlessE (decide ((n : Int) ≤ 8)) 8)] 29)).heap.size := by have := hb1.size; simp; omega
  have HB2 := Lib.hid hb2
  have H2 := Lib.hid h2
  clear hb2 h2 hb1 c0 c1
  go_wp2_with (go_at_call 91; refine F3.mono ?_; rintro e w' ⟨rfl, rfl⟩)
  refine onlyNormal_mk ?_
  generalize w1.alloc (.cells #[.int .i64 (placeE L), .int .i64 (unlessE (decide (0 < n)) 10), .int .i64 (unlessE (decide ((n : Int) ≤ 8)) 8)] 29) = w2 at *
  clear F3
  by_cases hE : rescueHead L n = 0
  · have HV : Hid (rescueM L l = unlessE (!l.any (badDepB L)) 2) := by
      rw [Hid, rescueM, HL.out, hE]
      rfl
    have hE' : (rescueHead L n != 0) = false := by simp [hE]
    have C := ContainsFunc_159 A n c B x L l w2 hn HL.out H2.out (by omega) c0'
    have U := fun (b : Bool) (W : World) => unless_any b 2 W
    clear hE
    go_wp2_with (first | (go_at_call 158; refine C.mono ?_; rintro e w3 ⟨rfl, hb3⟩) | (go_at_call 92; refine (U _ _).mono ?_; rintro e w' ⟨rfl, rfl⟩))
    go_ret
    refine ⟨by rw [HV.out]; rfl, ?_⟩
    rw [HX.out]
    exact HB2.out.trans (hb3.mono (by omega))
  · have HV : Hid (rescueM L l = rescueHead L n) := by
      rw [Hid, rescueM, HL.out, seqE, if_neg hE]
    have hE' : (rescueHead L n != 0) = true := by simp [hE]
    clear hE
    go_wp2
    go_ret
    refine ⟨by rw [HV.out]; rfl, ?_⟩
    rw [HX.out]
    exact HB2.out
end Go.Proofs.YtmcjnfghlpnghaaDoor

namespace Go.Proofs.YtmcjnfghlpnghaaDoor
open Go.RowKit

/-- twice the length behind which a depot's vehicle is at a place, told twice -/
def behindM (d : Dep) (p : Int) : Int := 2 * d.2 + sizeI (p - 2 * d.1)
def reachGo (l : List Dep) (p : Int) : Int → List Nat → Int
  | best, [] => best
  | best, i :: is => reachGo l p (if best < 0 ∨ behindM (l[i]?.getD (0, 0)) p < best then behindM (l[i]?.getD (0, 0)) p else best) is

def DepOk (d : Dep) : Prop := 0 ≤ d.1 ∧ d.1 ≤ 1000000000 ∧ 0 ≤ d.2 ∧ d.2 ≤ 1000000000

structure RescueAt (w : World) (B g1 g2 : Nat) (L : Int) (A D : Option Addr) (n c m e : Nat) (l : List Dep) (ds : List Nat) : Prop where
  c0 : w.cell? ⟨g2, 0, none⟩ = some (.int .i64 L)
  c1 : w.cell? ⟨g2, 1, none⟩ = some (.slice A n c)
  d0 : w.cell? ⟨g1, 0, none⟩ = some (.slice D m e)
  rl : Rd w B A (depCells l)
  rd : Rd w B D (natCells ds)
  ln : l.length = n
  lm : ds.length = m
  ok : ∀ d ∈ l, DepOk d
  ix : ∀ i ∈ ds, i < n
  n1 : n ≤ 1000000
  m1 : m ≤ 1000000
  B1 : B ≤ w.heap.size

theorem RescueAt.keep {w w' : World} {B g1 g2 : Nat} {L : Int} {A D : Option Addr} {n c m e : Nat} {l : List Dep} {ds : List Nat} (h : RescueAt w B g1 g2 L A D n c m e l ds) (hb : Below w.heap.size w w') : RescueAt w' B g1 g2 L A D n c m e l ds :=
  ⟨kept hb h.c0, kept hb h.c1, kept hb h.d0, h.rl.keep hb, h.rd.keep hb, h.ln, h.lm, h.ok, h.ix, h.n1, h.m1, Nat.le_trans h.B1 hb.size⟩

theorem natCells_at (l : List Nat) (k : Nat) (h : k < l.length) : (natCells l)[k]? = some (.int .i64 ((l[k]?.getD 0 : Nat) : Int)) := by simp [natCells, h]

def ReachedRel (w0 : World) (l : List Dep) (ds : List Nat) (p R : Int) (m : Nat) (u5 u13 : Value) (wr : World) : Prop :=
  ∃ (k : Nat) (best : Int), k ≤ m ∧ u13 = .int .i64 k ∧ u5 = .int .i64 best ∧ reachGo l p best (ds.drop k) = R ∧ -1 ≤ best ∧ best ≤ 10000000000 ∧ Below w0.heap.size w0 wr

set_option maxHeartbeats 4000000 in
theorem reached_any (w : World) (B g1 g2 : Nat) (L : Int) (A D : Option Addr) (n c m e : Nat) (l : List Dep) (ds : List Nat) (h : RescueAt w B g1 g2 L A D n c m e l ds) (p : Int) (hp : 0 ≤ p ∧ p ≤ 2000000000) :
    Calls Tryd.prog 160 #[.int .i64 p, .pointer (some ⟨g1, 0, none⟩), .pointer (some ⟨g2, 0, none⟩)] w (ErrVal w (reachGo l p (-1) ds)) := by
  obtain ⟨hp0, hp1⟩ := hp
  have d0 := h.d0
  have m1 := h.m1
  have H := Lib.hid h
  clear h
  generalize hR : reachGo l p (-1) ds = R
  have HR := Lib.hid hR
  clear hR
  go_enter Tryd.func160, Tryd.ntmps160
  go_wp2
  go_loopw [5, 13] (fun u5 u13 wr => ReachedRel w l ds p R m u5 u13 wr) (fun _ u13 _ => m - (intOf u13).toNat)
  case atStart => exact ⟨0, -1, Nat.zero_le _, rfl, rfl, by simpa using HR.out, by omega, by omega, Below.refl _ _⟩
  case round =>
    obtain ⟨k, best, hk, rfl, rfl, he, hb0, hb1, hb⟩ := hrel
    have HE := Lib.hid he
    clear he d0
    by_cases hlt : k < m
    · have HRr := H.out.keep hb
      have c1 := HRr.c1
      have hkd : k < ds.length := by rw [HRr.lm]; exact hlt
      obtain ⟨bd, offd, rfl, _, e0⟩ := HRr.rd.at_ (natCells_at ds k hkd)
      have hix := HRr.ix (ds[k]?.getD 0) (by rw [List.getElem?_eq_getElem hkd, Option.getD_some]; exact List.getElem_mem hkd)
      have HS := Lib.hid (drop_at ds 0 k hkd)
      generalize ds[k]?.getD 0 = i at *
      have hil : i < l.length := by rw [HRr.ln]; exact hix
      obtain ⟨z0, z1⟩ := depCells_at l i (l[i]?.getD (0, 0)) (by simp [hil])
      obtain ⟨b, off, rfl, _, e1, e2⟩ := HRr.rl.at2 z0 z1
      obtain ⟨p0, p1, p2, p3⟩ := HRr.ok (l[i]?.getD (0, 0)) (by rw [List.getElem?_eq_getElem hil, Option.getD_some]; exact List.getElem_mem hil)
      have HD : Hid (reachGo l p (if best < 0 ∨ behindM (l[i]?.getD (0, 0)) p < best then behindM (l[i]?.getD (0, 0)) p else best) (ds.drop (k + 1)) = R) := by
        rw [Hid, ← HE.out, HS.out, reachGo]
      have hn1 := HRr.n1
      have HB := Lib.hid hb
      clear hkd z0 z1 hil HRr hb HE HS
      generalize l[i]?.getD (0, 0) = d at *
      obtain ⟨d1, d2⟩ := d
      simp only at p0 p1 p2 p3 e1 e2
      go_wp2
      all_goals
        have hbq : behindM (d1, d2) p = 2 * d2 + max (p - 2 * d1) (-(p - 2 * d1)) := rfl
        have hdo := HD.out
        rw [hbq] at hdo
        first
          | (rw [if_pos (by omega)] at hdo
             exact ⟨⟨k + 1, _, by omega, by go_num, rfl, hdo, by omega, by omega, HB.out.alloc HB.out.size _⟩, by simp [intOf]; omega⟩)
          | (rw [if_neg (by omega)] at hdo
             exact ⟨⟨k + 1, _, by omega, by go_num, rfl, hdo, by omega, by omega, HB.out.alloc HB.out.size _⟩, by simp [intOf]; omega⟩)
    · have hd : ds.drop k = [] := by rw [List.drop_eq_nil_iff]; rw [H.out.lm]; omega
      have hv := HE.out
      rw [hd] at hv
      simp only [reachGo] at hv
      subst hv
      have HB := Lib.hid hb
      clear hb hd
      go_wp2
      go_ret
      exact ⟨rfl, HB.out⟩
end Go.Proofs.YtmcjnfghlpnghaaDoor

namespace Go.Proofs.YtmcjnfghlpnghaaDoor
open Go.RowKit

def sortI (l : List Int) : List Int := l.mergeSort fun x y => decide (x ≤ y)
theorem sortI_len (l : List Int) : (sortI l).length = l.length := List.length_mergeSort _
theorem sortI_mem {l : List Int} {x : Int} : x ∈ sortI l ↔ x ∈ l := List.mem_mergeSort

def SortPost (w : World) (blk : Nat) (zs : List Int) (e : Ending) (w' : World) : Prop :=
  e = .returned (.tuple #[]) ∧ (∀ k u, (intCells (sortI zs))[k]? = some u → w'.cell? ⟨blk, k, none⟩ = some u) ∧ (∀ k, k < w.heap.size → k ≠ blk → w'.heap[k]? = w.heap[k]?) ∧ Below blk w w'

open Go.Sort in
theorem Sort_own (w : World) (B blk cap : Nat) (zs : List Int) (h : w.ownsRow B 3 1 (.slice (some ⟨blk, 0, none⟩) zs.length cap) zs.length (intCells zs)) (hlen : zs.length ≤ 1000000) :
    Calls Tryd.prog 112 #[.slice (some ⟨blk, 0, none⟩) zs.length cap] w (SortPost w blk zs) := by
  have hblk : blk < w.heap.size := (ownBlk h rfl).2.1
  have hH : Holds (Value.int .i64) w blk 0 zs.toArray := by
    intro j hj
    have hj' : j < zs.length := by simpa using hj
    refine ⟨?_, by simpa using h.frozenAt (0 + j)⟩
    rw [Nat.zero_add, h.cellAt j (by omega)]
    simp [intCells, hj']
  refine (Tryd.slices_Sort_int blk 0 cap zs w hH hblk (by omega)).mono ?_
  rintro e w' ⟨rfl, n, os, rfl⟩
  have hs : (sortI zs).toArray.size = zs.toArray.size := by simp [sortI_len]
  have hsz : (putRow (Value.int .i64) (Sort.ahead w n) blk 0 (sortI zs).toArray).heap.size = w.heap.size := by simp [putRow, mapBlock, Sort.ahead]
  refine ⟨rfl, ?_, ?_, ⟨rfl, rfl, rfl, ?_, ?_⟩⟩
  · intro k u hu
    have hk : k < (sortI zs).length := by
      have := (List.getElem?_eq_some_iff.1 hu).1
      simpa [intCells] using this
    show World.cell? (grow (putRow (Value.int .i64) (Sort.ahead w n) blk 0 (sortI zs).toArray) os) _ = _
    rw [cell?_grow _ _ _ (by rw [hsz]; exact hblk)]
    have h1 := cell?_putRow (Value.int .i64) (Sort.ahead w n) blk 0 zs.toArray (sortI zs).toArray hH hs k (by simpa using hk)
    rw [Nat.zero_add] at h1
    rw [h1]
    rw [← hu]
    simp [intCells, hk]
  · intro k hk hne
    show (grow (putRow (Value.int .i64) (Sort.ahead w n) blk 0 (sortI zs).toArray) os).heap[k]? = _
    rw [heap_grow_old _ _ (by rw [hsz]; exact hk)]
    simp only [putRow, mapBlock, Sort.ahead, Array.getElem?_modify]
    rw [if_neg (fun e => hne e.symm)]
  · show w.heap.size ≤ (grow (putRow (Value.int .i64) (Sort.ahead w n) blk 0 (sortI zs).toArray) os).heap.size
    rw [size_grow, hsz]
    omega
  · intro k hk
    show (grow (putRow (Value.int .i64) (Sort.ahead w n) blk 0 (sortI zs).toArray) os).heap[k]? = _
    rw [heap_grow_old _ _ (by rw [hsz]; omega)]
    simp only [putRow, mapBlock, Sort.ahead, Array.getElem?_modify]
    rw [if_neg (by omega)]

/-- where the vehicles of two depots meet -/
def meetM (l : List Dep) (i k : Nat) : Int := (l[i]?.getD (0, 0)).1 + (l[k]?.getD (0, 0)).1 + (l[k]?.getD (0, 0)).2 - (l[i]?.getD (0, 0)).2
def meetK (l : List Dep) (L : Int) (i : Nat) : List Int → List Nat → List Int
  | acc, [] => acc
  | acc, k :: ks => meetK l L i (if withinB (meetM l i k) 0 (2 * L) = true then acc ++ [meetM l i k] else acc) ks
def meetI (l : List Dep) (L : Int) (ds : List Nat) : List Int → List Nat → List Int
  | acc, [] => acc
  | acc, i :: is => meetI l L ds (meetK l L i acc ds) is
/-- the last of the places that are reached latest -/
def worstGo (l : List Dep) (ds : List Nat) : Int × Int → List Int → Int × Int
  | o, [] => o
  | o, p :: ps => worstGo l ds (if o.2 < reachGo l p (-1) ds then (p, reachGo l p (-1) ds) else o) ps
def worstM (l : List Dep) (L : Int) (ds : List Nat) : Int × Int := worstGo l ds (0, -1) (sortI (meetI l L ds [0, 2 * L] ds))
end Go.Proofs.YtmcjnfghlpnghaaDoor
