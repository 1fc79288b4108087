/- Rescue: WorstPlace of right depots. -/
import Derived.Test.YtmcjnfghlpnghaaGreatDoorW5
namespace Go.Proofs.YtmcjnfghlpnghaaGreatDoor
open Go.RowKit
/-- the error of depots -/
def depsGo (n : Nat) : Int → List Int → Int
  | _, [] => 0
  | last, d :: ds => seqE (firstE [unlessE (withinB d 0 ((n : Int) - 1)) 6, unlessE (decide (last < d)) 9]) (depsGo n d ds)
theorem depsGo_cons {n : Nat} {last d : Int} {ds : List Int} (h : depsGo n last (d :: ds) = 0) : withinB d 0 ((n : Int) - 1) = true ∧ last < d ∧ depsGo n d ds = 0 := by
  simp only [depsGo, seqE] at h
  split at h
  · rename_i he
    obtain ⟨h1, h2⟩ := firstE2_zero he
    rw [unlessE_zero (by omega)] at h1 h2
    exact ⟨h1, by simpa using h2, h⟩
  · rename_i he
    exact absurd h he
theorem depsGo_mem {n : Nat} : ∀ (ds : List Int) (last : Int), depsGo n last ds = 0 → ∀ d ∈ ds, 0 ≤ d ∧ d < n
  | [], _, _, d, hd => by simp at hd
  | x :: ds, last, h, d, hd => by
    obtain ⟨h1, _, h3⟩ := depsGo_cons h
    rcases List.mem_cons.1 hd with rfl | hd
    · simp only [withinB, Bool.and_eq_true, decide_eq_true_eq] at h1
      omega
    · exact depsGo_mem ds x h3 d hd
theorem depsGo_len {n : Nat} : ∀ (ds : List Int) (last : Int), depsGo n last ds = 0 → -1 ≤ last → last + ds.length < n ∨ ds = []
  | [], _, _, _ => .inr rfl
  | x :: ds, last, h, hl => by
    obtain ⟨h1, h2, h3⟩ := depsGo_cons h
    simp only [withinB, Bool.and_eq_true, decide_eq_true_eq] at h1
    rcases depsGo_len ds x h3 (by omega) with h4 | rfl
    · left; simp; omega
    · left; simp; omega
theorem nat_of_ints : ∀ (ds : List Int), (∀ d ∈ ds, 0 ≤ d) → natCells (ds.map Int.toNat) = intCells ds
  | [], _ => rfl
  | d :: ds, h => by
    have h1 := h d (by simp)
    have ih := nat_of_ints ds (fun x hx => h x (by simp [hx]))
    simp only [natCells, intCells, List.map_cons] at ih ⊢
    rw [ih]
    congr 2
    omega
theorem rescueM_ok {L : Int} {l : List Dep} (h : rescueM L l = 0) : (0 ≤ L ∧ L ≤ 1000000000) ∧ 0 < l.length ∧ l.length ≤ 8 ∧ ∀ d ∈ l, DepOk d ∧ d.1 ≤ L := by
  unfold rescueM seqE at h
  split at h
  · rename_i hh
    have h3 : ∀ a b c : Int, firstE [a, b, c] = 0 → a = 0 ∧ b = 0 ∧ c = 0 := by
      intro a b c h
      simp only [firstE] at h
      split at h
      · split at h
        · split at h <;> simp_all
        · contradiction
      · contradiction
    obtain ⟨a1, a2, a3⟩ := h3 _ _ _ hh
    rw [unlessE_zero (by omega)] at h a2 a3
    have hL := placeE_zero a1
    simp only [decide_eq_true_eq] at a2 a3
    refine ⟨hL, a2, by omega, fun d hd => ?_⟩
    have h4 : l.any (badDepB L) = false := by simpa using h
    have h5 := List.any_eq_false.1 h4 d hd
    simp only [badDepB, isPlaceB, withinB, Bool.or_eq_true, Bool.not_eq_true', Bool.and_eq_false_iff, decide_eq_false_iff_not, not_or, Classical.not_not] at h5
    unfold DepOk
    omega
  · rename_i hh
    exact absurd h hh
def DepsRel (w0 : World) (n m : Nat) (ds : List Int) (u7 u25 : Value) (wr : World) : Prop :=
  ∃ (k : Nat) (last : Int), k ≤ m ∧ u25 = .int .i64 k ∧ u7 = .int .i64 last ∧ depsGo n last (ds.drop k) = 0 ∧ Below w0.heap.size w0 wr
def WPPost (w : World) (o : Int × Int) (e : Int) (x : Ending) (w' : World) : Prop := x = .returned (.tuple #[.agg #[.int .i64 o.1, .int .i64 o.2], .int .i64 e]) ∧ Below w.heap.size w w'
set_option maxRecDepth 100000 in
set_option maxHeartbeats 8000000 in
theorem WorstPlace_yes (w : World) (B : Nat) (L : Int) (A D : Option Addr) (n c m e : Nat) (l : List Dep) (ds : List Int) (hl : l.length = n) (hm : ds.length = m) (h : Rd w B A (depCells l)) (hd : Rd w B D (intCells ds)) (hB : B ≤ w.heap.size)
    (h0 : rescueM L l = 0) (hm0 : 0 < m) (hds : depsGo n (-1) ds = 0) :
    Calls Tryz.prog 40 #[.agg #[.int .i64 L, .slice A n c], .slice D m e] w (WPPost w (worstM l L (ds.map Int.toNat)) 0) := by
  obtain ⟨⟨hL0, hL1⟩, hn0, hn8, hok⟩ := rescueM_ok h0
  rw [hl] at hn0 hn8
  have hm8 : m ≤ 8 := by
    rcases depsGo_len ds (-1) hds (by omega) with h1 | h1
    · omega
    · rw [h1] at hm; simp at hm; omega
  have hmem := depsGo_mem ds (-1) hds
  have hnat := nat_of_ints ds (fun d hd => (hmem d hd).1)
  have hb0 : Below w.heap.size w ((w.alloc (.cells #[.int .i64 L, .slice A n c] 97)).alloc (.cells #[.int .i64 0, .int .i64 0] 90)) :=
    ((Below.refl _ _).alloc (Nat.le_refl _) _).alloc (by simp) _
  have k0 : ((w.alloc (.cells #[.int .i64 L, .slice A n c] 97)).alloc (.cells #[.int .i64 0, .int .i64 0] 90)).heap[w.heap.size]? = some (.cells #[.int .i64 L, .slice A n c] 97 (0, 0)) := by
    rw [heapq_alloc, if_neg (by simp), heapq_alloc, if_pos rfl]
  have k1 : ((w.alloc (.cells #[.int .i64 L, .slice A n c] 97)).alloc (.cells #[.int .i64 0, .int .i64 0] 90)).heap[w.heap.size + 1]? = some (.cells #[.int .i64 0, .int .i64 0] 90 (0, 0)) := by
    rw [heapq_alloc, if_pos (by simp)]
  have hsz : ((w.alloc (.cells #[.int .i64 L, .slice A n c] 97)).alloc (.cells #[.int .i64 0, .int .i64 0] 90)).heap.size = w.heap.size + 2 := by simp
  have HL := Lib.hid hl
  have HM := Lib.hid hm
  have HOK := Lib.hid hok
  have HMEM := Lib.hid hmem
  have HNAT := Lib.hid hnat
  have HDS := Lib.hid hds
  have h1 := h.below (hb0.mono hB)
  have hd1 := hd.below (hb0.mono hB)
  have R := rescueErr_any ((w.alloc (.cells #[.int .i64 L, .slice A n c] 97)).alloc (.cells #[.int .i64 0, .int .i64 0] 90)) B L A n c l hl h1 (by omega) (by omega)
  unfold ErrVal at R
  rw [h0] at R
  have H1 := Lib.hid h1
  have HD1 := Lib.hid hd1
  have HB0 := Lib.hid hb0
  have HSZ := Lib.hid hsz
  have hmi : (0 : Int) < (m : Int) := by omega
  have U := fun (W : World) => unless_any true 10 W
  clear hl hm hok hmem hnat hds h hd h1 hd1 hb0 hsz h0
  go_enter Tryz.func40, Tryz.ntmps40
  go_upto_region 1 with (fail)
  generalize (w.alloc (.cells #[.int .i64 L, .slice A n c] 97)).alloc (.cells #[.int .i64 0, .int .i64 0] 90) = w0 at *
  have a0 := cell_of_row w0 w.heap.size 0 _ _ _ k0
  have a1 := cell_of_row w0 w.heap.size 1 _ _ _ k0
  simp at a0 a1
  generalize hx : w.heap.size = x at *
  have HX := Lib.hid hx
  have K1 := Lib.hid k1
  clear hx k0 k1
  go_upto_region 2 with (first | (go_at_call 85; refine R.mono ?_; rintro e1 w1 ⟨rfl, hb1⟩; have a0' := kept hb1 a0; have a1' := kept hb1 a1) | (go_at_call 62; refine (U _).mono ?_; rintro e2 w' ⟨rfl, rfl⟩) | (go_at_call 61; refine (first00 _).mono ?_; rintro e3 w' ⟨rfl, rfl⟩))
  have hbw2 : Below w0.heap.size w0 (w1.alloc (.cells #[.int .i64 0, .int .i64 0] 29)) := hb1.alloc hb1.size _
  have c0 := cell_alloc_old (.cells #[.int .i64 0, .int .i64 0] 29) a0'
  have c1 := cell_alloc_old (.cells #[.int .i64 0, .int .i64 0] 29) a1'
  have h2 := H1.out.below (hbw2.mono (by have := HSZ.out; omega))
  have hd2 := HD1.out.below (hbw2.mono (by have := HSZ.out; omega))
  have k12 : (w1.alloc (.cells #[.int .i64 0, .int .i64 0] 29)).heap[x + 1]? = some (.cells #[.int .i64 0, .int .i64 0] 90 (0, 0)) := by
    rw [hbw2.block (x + 1) (by have := HSZ.out; omega)]
    exact K1.out
  have hsz2 : x + 2 ≤ (w1.alloc (.cells #[.int .i64 0, .int .i64 0] 29)).heap.size := by have h1 := hbw2.size; have := HSZ.out; omega
  have hbx2 : Below x w (w1.alloc (.cells #[.int .i64 0, .int .i64 0] 29)) := HB0.out.trans (hbw2.mono (by have := HSZ.out; omega))
  have H2 := Lib.hid h2
  have HD2 := Lib.hid hd2
  have K12 := Lib.hid k12
  have HBX2 := Lib.hid hbx2
  clear a0 a1 a0' a1' hb1 hbw2 h2 hd2 k12 hbx2 R U
  generalize (w1.alloc (.cells #[.int .i64 0, .int .i64 0] 29)) = w2 at *
  go_wp2
  go_loopw [7, 25] (fun u7 u25 wr => DepsRel w2 n m ds u7 u25 wr) (fun _ u25 _ => m - (intOf u25).toNat)
  case atStart => exact ⟨0, -1, Nat.zero_le _, rfl, rfl, by simpa using HDS.out, Below.refl _ _⟩
  case round =>
    obtain ⟨k, last, hk, rfl, rfl, he, hb⟩ := hrel
    have c1r := kept hb c1
    have c0r := kept hb c0
    by_cases hlt : k < m
    · have hkd : k < ds.length := by rw [HM.out]; exact hlt
      obtain ⟨bd, offd, rfl, _, e0⟩ := (HD2.out.below (hb.mono (by omega))).at_ (intCells_at ds k hkd)
      rw [drop_at ds 0 k hkd] at he
      generalize ds[k]?.getD 0 = d at *
      obtain ⟨q1, q2, q3⟩ := depsGo_cons he
      have hsz := hb.size
      have HB := Lib.hid hb
      have HE := Lib.hid q3
      clear he q3 hkd hb c0 c1
      go_wp2_with (first | (go_at_call 41; refine (within_val _ _ _ _ q1 _).mono ?_; rintro e1 w' ⟨rfl, rfl⟩) | (go_at_call 62; refine (unless_any _ _ _).mono ?_; rintro e2 w' ⟨rfl, rfl⟩) | (go_at_call 61; refine (first00 _).mono ?_; rintro e3 w' ⟨rfl, rfl⟩))
      go_roundw
      case rel => exact ⟨k + 1, d, by omega, by go_num, rfl, HE.out, HB.out.alloc hsz _⟩
      case measure => simp [intOf]; omega
    · have hrw := H2.out.below (hb.mono (by omega))
      have hdw := HD2.out.below (hb.mono (by omega))
      rw [← HNAT.out] at hdw
      have C := worst_any wr B L A D n c m e l (ds.map Int.toNat) HL.out (by rw [List.length_map]; exact HM.out) hrw hdw (by have := hb.size; omega) ⟨hL0, hL1⟩ (fun d hd => (HOK.out d hd).1) (by
        intro i hi
        obtain ⟨d, hd, rfl⟩ := List.mem_map.1 hi
        have := HMEM.out d hd
        omega) (by omega) hm8
      generalize worstM l L (ds.map Int.toNat) = o at *
      have hsz := hb.size
      have HB := Lib.hid hb
      clear hrw hdw he hb c0 c1
      go_wp2_with fail
      refine C.mono ?_
      rintro e1 w3 ⟨rfl, hb3⟩
      have kz : w3.heap[x + 1]? = some (.cells #[.int .i64 0, .int .i64 0] 90 (0, 0)) := by
        rw [hb3.block (x + 1) (by omega), HB.out.block (x + 1) (by omega)]
        exact K12.out
      have zc0 := cell_of_row w3 (x + 1) 0 _ _ _ kz
      have zc1 := cell_of_row w3 (x + 1) 1 _ _ _ kz
      simp at zc0 zc1
      have fz0 := frozen_of_row w3 (x + 1) 0 _ _ kz
      have zs1 : (w3.setCell ⟨x + 1, 0, none⟩ (.int .i64 o.1)).cell? ⟨x + 1, 1, none⟩ = some (.int .i64 0) := by
        rw [cell_of_row _ (x + 1) 1 #[.int .i64 o.1, .int .i64 0] 90 (0, 0) (by rw [heapq_set, if_pos rfl, kz]; simp [objSet_cells])]
        rfl
      have fs1 : (w3.setCell ⟨x + 1, 0, none⟩ (.int .i64 o.1)).frozen? ⟨x + 1, 1, none⟩ = false := frozen_of_row _ (x + 1) 1 #[.int .i64 o.1, .int .i64 0] 90 (by rw [heapq_set, if_pos rfl, kz]; simp [objSet_cells])
      have kf : ((w3.setCell ⟨x + 1, 0, none⟩ (.int .i64 o.1)).setCell ⟨x + 1, 1, none⟩ (.int .i64 o.2)).heap[x + 1]? = some (.cells #[.int .i64 o.1, .int .i64 o.2] 90 (0, 0)) := by
        rw [heapq_set, if_pos rfl, heapq_set, if_pos rfl, kz]
        simp [objSet_cells]
      have HBF : Hid (Below x w ((w3.setCell ⟨x + 1, 0, none⟩ (.int .i64 o.1)).setCell ⟨x + 1, 1, none⟩ (.int .i64 o.2))) :=
        (((HBX2.out.trans (HB.out.mono (by omega))).trans (hb3.mono (by omega))).setCell (by simp only; omega) _).setCell (by simp only; omega) _
      have r0 := cell_of_row _ (x + 1) 0 _ _ _ kf
      have r1 := cell_of_row _ (x + 1) 1 _ _ _ kf
      simp at r0 r1
      clear kf hb3 kz C
      go_wp2
      refine bodyPost_ret (v := .tuple #[.agg #[.int .i64 o.1, .int .i64 o.2], .int .i64 0]) (by simp [results, Tryz.results40, go_sem, r0, r1]) rfl ⟨rfl, by rw [HX.out]; exact HBF.out⟩
end Go.Proofs.YtmcjnfghlpnghaaGreatDoor
