/- The possible events, plainly. What other texts lend to this one: only the declarations that are used. Events held against each other: SameEvents. Possible of the reference. The candidates: the closure. Possible: where there is an error. Possible: where there is no error. CarePossible: the walk . CarePossible: states of whatever size. -/
import Derived.Test.YtmcjnfghlpnghaaDoorM15
import Derived.Test.YtmcjnfghlpnghaaDoorC8
import Derived.Test.YtmcjnfghlpnghaaDoorC10
import Derived.Test.YtmcjnfghlpnghaaDoorD1
import Derived.Test.YtmcjnfghlpnghaaDoorR4
import Derived.Test.YtmcjnfghlpnghaaDoorC2
import Derived.Test.YtmcjnfghlpnghaaDoorF1
import Derived.Test.YtmcjnfghlpnghaaDoorR3
import Derived.Deep.Cut
import Derived.Test.YtmcjnfghlpnghaaDoorB4
import Derived.Test.YtmcjnfghlpnghaaDoorR6
import Derived.RangeFuncNested
import Derived.RangeFuncBound
import Derived.RangeFuncCalls
import Derived.RangeFuncLeaves
import Derived.Shelf.Abstract
import Derived.Shelf.RegionOpen
import Derived.WalkKit
import Derived.OwnWalkIn
import Derived.TacticsInMore
import Derived.LoopNIn
import Derived.LoopIn
import Derived.Deep.MidRow
import Derived.Maps.AppendAt
import Derived.Test.YtmcjnfghlpnghaaDoorE1
namespace Go.Proofs.YtmcjnfghlpnghaaDoor

/-- the candidates of a kind, and all -/
def kindN (D k : Nat) : Nat := if usesDB k = true then D else 1
def kindEv (pl : Int) (k d : Nat) : Ev := ((k : Int), (if usesPB k = true then pl else 0), (d : Int))
def kindC (D : Nat) (pl : Int) (k : Nat) : List Ev := (List.range (kindN D k)).map (kindEv pl k)
def candM (D : Nat) (pl : Int) : List Ev := (List.range 8).flatMap (kindC D pl)
def accB (D : Nat) (T S : Int) (s : Tr) (x : Ev) : Bool := decide (applyE D T S s x.1 x.2.1 x.2.2 = 0)
def possM (D : Nat) (T S : Int) (s : Tr) (pl : Int) : List Ev := (candM D pl).filter (accB D T S s)

theorem evE_iff {D : Nat} {p d : Bool} {pl dr : Int} : evE D p d pl dr = 0 ↔ ((p = true ∨ pl = 0) ∧ (d = true ∨ dr = 0)) ∧ (p = true → placeE pl = 0) ∧ (d = true → 0 ≤ dr ∧ dr < D) := by
  unfold evE placeE
  simp only [firstE_cons, firstE_nil, and_true]
  rw [unlessE_zero (by omega), unlessE_zero (by omega), unlessE_zero (by omega), unlessE_zero (by omega)]
  have hw : withinB dr 0 ((D : Int) - 1) = true ↔ 0 ≤ dr ∧ dr < D := by
    simp [withinB]
    omega
  simp only [Bool.and_eq_true, Bool.or_eq_true, beq_iff_eq, Bool.not_eq_true']
  rw [hw]
  cases p <;> cases d <;> simp
theorem cand_ev {D : Nat} {pl : Int} (hp : placeE pl = 0) : ∀ x ∈ candM D pl, evErrM D x.1 x.2.1 x.2.2 = 0 := by
  intro x hx
  simp only [candM, kindC, List.mem_flatMap, List.mem_map, List.mem_range] at hx
  obtain ⟨k, hk, d, hd, rfl⟩ := hx
  have hw : withinB (k : Int) 0 7 = true := by
    simp [withinB]
    omega
  simp only [evErrM, kindEv, hw, if_true]
  rw [evE_iff]
  unfold kindN at hd
  cases h1 : usesPB (k : Int) <;> cases h2 : usesDB (k : Int) <;> simp only [h2, if_true, if_false, Bool.false_eq_true] at hd <;> simp [hp] <;> omega
theorem ev_cand {D : Nat} {pl k p d : Int} (h : evErrM D k p d = 0) (h1 : k = 1 → p = pl) : (k, p, d) ∈ candM D pl := by
  unfold evErrM at h
  split at h
  · rename_i hw
    have hk : 0 ≤ k ∧ k ≤ 7 := by simpa [withinB] using hw
    obtain ⟨kn, rfl⟩ := Int.eq_ofNat_of_zero_le hk.1
    rw [evE_iff] at h
    obtain ⟨⟨g1, g2⟩, g3, g4⟩ := h
    have hd0 : 0 ≤ d := by
      rcases g2 with g | g
      · exact (g4 g).1
      · omega
    obtain ⟨dn, rfl⟩ := Int.eq_ofNat_of_zero_le hd0
    simp only [candM, kindC, List.mem_flatMap, List.mem_map, List.mem_range]
    refine ⟨kn, by omega, dn, ?_, ?_⟩
    · unfold kindN
      cases h2 : usesDB (kn : Int)
      · rw [h2] at g2
        rcases g2 with g | g
        · cases g
        · simp
          omega
      · have := (g4 h2).2
        simp
        omega
    · unfold kindEv
      cases h2 : usesPB (kn : Int)
      · rw [h2] at g1
        rcases g1 with g | g
        · cases g
        · rw [g]
          rfl
      · have : (kn : Int) = 1 := by simpa [usesPB] using h2
        rw [if_pos rfl, h1 this]
  · cases h
theorem poss_has {D : Nat} {T S : Int} {s : Tr} {pl k p d : Int} (hne : ¬(k = 1 ∧ p ≠ pl)) : (k, p, d) ∈ possM D T S s pl ↔ applyE D T S s k p d = 0 := by
  simp only [possM, List.mem_filter, accB, decide_eq_true_eq]
  constructor
  · exact fun h => h.2
  · intro h
    refine ⟨ev_cand ?_ fun hk => ?_, h⟩
    · by_cases h0 : evErrM D k p d = 0
      · exact h0
      · rw [applyE_of_ev h0] at h
        exact absurd h h0
    · exact Decidable.byContradiction fun hp => hne ⟨hk, hp⟩
theorem poss_len (D : Nat) (T S : Int) (s : Tr) (pl : Int) (hD : D ≤ 6) : (possM D T S s pl).length ≤ 28 := by
  refine Nat.le_trans (List.length_filter_le _ _) ?_
  simp only [candM, kindC, kindN, List.length_flatMap, List.length_map, List.length_range]
  simp [List.range_succ, usesDB]
  omega
end Go.Proofs.YtmcjnfghlpnghaaDoor

namespace Go.Proofs.YtmcjnfghlpnghaaDoor
open Go.RowKit
theorem rd_own {w : World} {B e size n c : Nat} {A : Option Addr} {xs : List Value} (h : w.ownsRow B e size (.slice A n c) n xs) : Rd w w.heap.size A xs := by
  rcases h.2 with ⟨h1, h2⟩ | ⟨g, cap, cur, h1, _⟩
  · intro k u hk
    have := h.1
    rw [h2, Nat.zero_mul] at this
    rw [List.eq_nil_of_length_eq_zero this] at hk
    simp at hk
  · simp only [Value.slice.injEq] at h1
    obtain ⟨rfl, _, rfl⟩ := h1
    exact Rd_of_own h
end Go.Proofs.YtmcjnfghlpnghaaDoor
namespace Go.Proofs.YtmcjnfghlpnghaaDoor
open Go.RowKit
def zeroTr : Tr := ⟨false, false, 0, [], []⟩
theorem zeroAt (w : World) (B : Nat) : StAt w B none none 0 0 zeroTr := ⟨rfl, rfl, fun k u h => by simp [zeroTr] at h, fun k u h => by simp [zeroTr] at h, by omega, by omega⟩
end Go.Proofs.YtmcjnfghlpnghaaDoor
namespace Go.Proofs.YtmcjnfghlpnghaaDoor
open Go.RowKit
theorem put5_below {W : World} {B y : Nat} (a0 a1 a2 a3 a4 : Value) (h : B ≤ y) : Below B W (((((W.setCell ⟨y, 0, none⟩ a0).setCell ⟨y, 1, none⟩ a1).setCell ⟨y, 2, none⟩ a2).setCell ⟨y, 3, none⟩ a3).setCell ⟨y, 4, none⟩ a4) :=
  (((((Below.refl B W).setCell (p := ⟨y, 0, none⟩) h _).setCell (p := ⟨y, 1, none⟩) h _).setCell (p := ⟨y, 2, none⟩) h _).setCell (p := ⟨y, 3, none⟩) h _).setCell (p := ⟨y, 4, none⟩) h _
end Go.Proofs.YtmcjnfghlpnghaaDoor
namespace Go.Proofs.YtmcjnfghlpnghaaDoor
open Go.RowKit
/-- a state and an error, the state's slices made by the call -/
def ApRes (w : World) (s : Tr) (c : Int) (e : Ending) (w' : World) : Prop :=
  ∃ Ag Ad ng nd cg cd, e = .returned (.tuple #[stV s Ag Ad ng nd cg cd, .int .i64 c]) ∧ StAt w' w'.heap.size Ag Ad ng nd s ∧ (∀ a, Ag = some a → w.heap.size ≤ a.block) ∧ (∀ a, Ad = some a → w.heap.size ≤ a.block) ∧ Below w.heap.size w w'
theorem apRes_of {w w' : World} {D : Nat} {s : Tr} {c : Int} {e : Ending} (hD : D ≤ 1000000000) (h : RApplyPost w D s c e w') : ApRes w (if c = 0 then s else zeroTr) c e w' := by
  obtain ⟨⟨v, rfl, hv⟩, hb⟩ := h
  by_cases hc : c = 0
  · rw [if_pos hc] at hv ⊢
    obtain ⟨g1, g2, c1, c2, rfl, ho⟩ := hv
    exact ⟨_, _, _, _, _, _, rfl, ho.at_ hD hD, fun _ h => by cases h; exact (ownBlk ho.og rfl).1, fun _ h => by cases h; exact (ownBlk ho.od rfl).1, hb⟩
  · rw [if_neg hc] at hv ⊢
    rw [hv]
    exact ⟨none, none, 0, 0, 0, 0, rfl, zeroAt _ _, fun _ h => (by cases h), fun _ h => (by cases h), hb⟩
end Go.Proofs.YtmcjnfghlpnghaaDoor

namespace Go.Proofs.YtmcjnfghlpnghaaDoor
open Go.RowKit

theorem eq_int2 (d : Nat) (x y : Int) (W : World) : Sem.run Tryd.prog (Op.equalIn (d + 1) 3 (.int .i64 x) (.int .i64 y)) W = .ok (x == y) W := by
  simp [Op.equalIn, run_underlying Tryd.underlying3]
theorem stood66 : Tryd.prog.stoodInHeld 66 = false := by kernel_rfl
set_option maxRecDepth 100000 in
theorem eq3_gen (d : Nat) (a b c a' b' c' : Int) (W : World) : Sem.run Tryd.prog (Op.equalIn (d + 1 + 1) 66 (.agg #[.int .i64 a, .int .i64 b, .int .i64 c]) (.agg #[.int .i64 a', .int .i64 b', .int .i64 c'])) W = .ok (decide (a = a' ∧ b = b' ∧ c = c')) W := by
  have h := eq_int2 d
  have s0 := stood66
  have p0 : ∀ a b c W, Sem.run Tryd.prog (part 3 #[Value.int IntKind.i64 a, Value.int IntKind.i64 b, Value.int IntKind.i64 c] 0) W = .ok (.int .i64 a) W := fun a b c W => by kernel_rfl
  have p1 : ∀ a b c W, Sem.run Tryd.prog (part 3 #[Value.int IntKind.i64 a, Value.int IntKind.i64 b, Value.int IntKind.i64 c] 1) W = .ok (.int .i64 b) W := fun a b c W => by kernel_rfl
  have p2 : ∀ a b c W, Sem.run Tryd.prog (part 3 #[Value.int IntKind.i64 a, Value.int IntKind.i64 b, Value.int IntKind.i64 c] 2) W = .ok (.int .i64 c) W := fun a b c W => by kernel_rfl
  rw [Op.equalIn]
  by_cases h1 : a = a'
  · subst h1
    by_cases h2 : b = b'
    · subst h2
      by_cases h3 : c = c'
      · subst h3
        simp [run_underlying Tryd.underlying66, s0, h, p0, p1, p2, Result.andThen]
      · simp [run_underlying Tryd.underlying66, s0, h, p0, p1, p2, h3, Result.andThen]
    · simp [run_underlying Tryd.underlying66, s0, h, p0, p1, h2, Result.andThen]
  · simp [run_underlying Tryd.underlying66, s0, h, p0, h1, Result.andThen]
theorem run_eq3 (a b c a' b' c' : Int) (W : World) : Sem.run Tryd.prog (Op.equalIn 10000 66 (.agg #[.int .i64 a, .int .i64 b, .int .i64 c]) (.agg #[.int .i64 a', .int .i64 b', .int .i64 c'])) W = .ok (decide (a = a' ∧ b = b' ∧ c = c')) W :=
  eq3_gen 9998 a b c a' b' c' W

set_option maxRecDepth 100000 in
set_option maxHeartbeats 2000000 in
theorem SameEvents_same (A1 A2 : Option Addr) (n c1 c2 B1 B2 : Nat) (l : List Ev) (w : World) (hn : n ≤ 1000000000) (hl : l.length = n) (h1 : Rd w B1 A1 (evCells l)) (h2 : Rd w B2 A2 (evCells l)) (hB1 : B1 ≤ w.heap.size) (hB2 : B2 ≤ w.heap.size) :
    Calls Tryd.prog 77 #[.slice A1 n c1, .slice A2 n c2] w fun e w' => e = .returned (.bool true) ∧ Below w.heap.size w w' := by
  have HL := Lib.hid hl; clear hl
  go_enter Tryd.func77, Tryd.ntmps77
  go_wp2
  go_loopw [5] (fun i wr => ∃ k : Nat, k ≤ n ∧ i = .int .i64 k ∧ Below w.heap.size w wr) (fun i _ => n - (intOf i).toNat)
  case atStart => exact ⟨0, Nat.zero_le _, rfl, Below.refl _ _⟩
  case round =>
    obtain ⟨k, hk, rfl, hb⟩ := hrel
    by_cases hlt : k < n
    · have hkl : k < l.length := by rw [HL.out]; exact hlt
      obtain ⟨ev, hev⟩ : ∃ ev, l[k]? = some ev := ⟨_, List.getElem?_eq_getElem hkl⟩
      obtain ⟨z0, z1, z2⟩ := evCells_at l k ev hev
      obtain ⟨b, off, rfl, _, d0, d1, d2⟩ := (h1.below (hb.mono hB1)).at3 z0 z1 z2
      obtain ⟨b', off', rfl, _, f0, f1, f2⟩ := (h2.below (hb.mono hB2)).at3 z0 z1 z2
      have HBW := Lib.hid hb
      have hsz := hb.size
      clear hkl hb z0 z1 z2 hev
      obtain ⟨x, y, z⟩ := ev
      simp only at d0 d1 d2 f0 f1 f2
      have E3 := fun W => run_eq3 x y z x y z W
      simp only [and_self, decide_true] at E3
      go_upto_region 6 with (fail)
      have x0 := fun y : Xt wr => y.cell d0
      have x1 := fun y : Xt wr => y.cell d1
      have x2 := fun y : Xt wr => y.cell d2
      have x3 := fun y : Xt wr => y.cell f0
      have x4 := fun y : Xt wr => y.cell f1
      have x5 := fun y : Xt wr => y.cell f2
      refine wp_region_xt (by kernel_rfl) (by kernel_rfl) ?_
      repeat (go_big_quiet_step (fail))
      refine wpQuiet_nil ?_
      intro w1 hx
      have hb1 := Xt.below hx
      clear hx x0 x1 x2 x3 x4 x5 d0 d1 d2 f0 f1 f2
      have HBN := Lib.hid (HBW.out.trans (hb1.mono hsz))
      clear hb1
      go_wp2
      go_roundw
      case rel => exact ⟨k + 1, by omega, by go_num, HBN.out⟩
      case measure => simp [intOf]; omega
    · go_wp2
      go_ret
      exact ⟨rfl, hb⟩
end Go.Proofs.YtmcjnfghlpnghaaDoor

namespace Go.Proofs.YtmcjnfghlpnghaaDoor
open Go.RowKit

def PossPost (w : World) (l : List Ev) (e : Ending) (w' : World) : Prop :=
  ∃ A c, e = .returned (.slice A l.length c) ∧ Rd w' w'.heap.size A (evCells l) ∧ Below w.heap.size w w'
def restK (D : Nat) (T S : Int) (s : Tr) (pl : Int) (k : Nat) : List Ev := (((List.range 8).drop k).flatMap (kindC D pl)).filter (accB D T S s)
theorem drop_consE {α : Type} {l : List α} {k : Nat} {a : α} (h : l[k]? = some a) : l.drop k = a :: l.drop (k + 1) := by
  obtain ⟨hk, rfl⟩ := List.getElem?_eq_some_iff.1 h
  exact List.drop_eq_getElem_cons hk
theorem restK_succ {D : Nat} {T S : Int} {s : Tr} {pl : Int} {k : Nat} (h : k < 8) : restK D T S s pl k = (kindC D pl k).filter (accB D T S s) ++ restK D T S s pl (k + 1) := by
  rw [restK, drop_consE (a := k) (by simp [h]), List.flatMap_cons, List.filter_append]
  rfl
theorem restK_zero {D : Nat} {T S : Int} {s : Tr} {pl : Int} : restK D T S s pl 0 = possM D T S s pl := rfl
theorem restK_end {D : Nat} {T S : Int} {s : Tr} {pl : Int} : restK D T S s pl 8 = [] := rfl
theorem cand_mem {D : Nat} {pl : Int} {k j : Nat} (hk : k < 8) (hj : j < kindN D k) : kindEv pl k j ∈ candM D pl := by
  simp only [candM, kindC, List.mem_flatMap, List.mem_map, List.mem_range]
  exact ⟨k, hk, j, hj, rfl⟩
theorem evCells_snoc (l : List Ev) (e : Ev) : evCells (l ++ [e]) = evCells l ++ [.int .i64 e.1, .int .i64 e.2.1, .int .i64 e.2.2] := by simp [evCells]
theorem news3 {X : World} {k : Nat} {x y z : Value} (h0 : X.cell? ⟨k, 0, none⟩ = some x) (h1 : X.cell? ⟨k, 1, none⟩ = some y) (h2 : X.cell? ⟨k, 2, none⟩ = some z) : ∀ j u, [x, y, z][j]? = some u → X.cell? ((⟨k, 0, none⟩ : Addr).add j) = some u := by
  intro j u hu
  match j with
  | 0 => simp at hu; subst hu; exact h0
  | 1 => simp at hu; subst hu; exact h1
  | 2 => simp at hu; subst hu; exact h2
  | j + 3 => simp at hu
def PoRel (w0 : World) (D : Nat) (T S : Int) (s : Tr) (pl : Int) (FIN : List Ev) (u7 u8 : Value) (wr : World) : Prop :=
  ∃ (k : Nat) (out : List Ev), k ≤ 8 ∧ u8 = .int .i64 k ∧ out.length ≤ k * 6 ∧ out ++ restK D T S s pl k = FIN ∧ wr.ownsRow w0.heap.size 66 3 u7 out.length (evCells out) ∧ Below w0.heap.size w0 wr
def PiRel (w0 : World) (D : Nat) (T S : Int) (s : Tr) (pl : Int) (k cnt : Nat) (rest FIN : List Ev) (u7 u10 : Value) (wr : World) : Prop :=
  ∃ (j : Nat) (out : List Ev), j ≤ cnt ∧ u10 = .int .i64 j ∧ out.length ≤ k * 6 + j ∧ out ++ (((List.range cnt).map (kindEv pl k)).drop j).filter (accB D T S s) ++ rest = FIN ∧ wr.ownsRow w0.heap.size 66 3 u7 out.length (evCells out) ∧ Below w0.heap.size w0 wr

set_option maxRecDepth 100000 in
set_option maxHeartbeats 16000000 in
theorem refPossible_any (w : World) (B : Nat) (D : Nat) (T S : Int) (Ag Ad : Option Addr) (cg cd : Nat) (s : Tr) (pl : Int) (h : StAt w B Ag Ad D D s) (hB : B ≤ w.heap.size) (hD : D ≤ 6)
    (hp : 0 ≤ s.place ∧ s.place ≤ 1000000000) (hT : 0 ≤ T ∧ T ≤ 1000000000) (hpl : placeE pl = 0) :
    Calls Tryd.prog 78 #[.agg #[.int .i64 D, .int .i64 T, .int .i64 S], stV s Ag Ad D D cg cd, .int .i64 pl] w (PossPost w (possM D T S s pl)) := by
  obtain ⟨i1, hi1, hy0, hy1, hy2⟩ := info_parts info66
  obtain ⟨FIN, hF⟩ : ∃ F, possM D T S s pl = F := ⟨_, rfl⟩
  rw [hF]
  have HF := Lib.hid hF
  have HPL := Lib.hid hpl
  clear hF hpl
  simp only [stV]
  have hb0 : Below w.heap.size w ((w.alloc (.cells #[.int .i64 D, .int .i64 T, .int .i64 S] 23)).alloc (.cells #[.bool s.mv, .bool s.al, .int .i64 s.place, .slice Ag D cg, .slice Ad D cd] 28)) := ((Below.refl _ _).alloc (Nat.le_refl _) _).alloc (by simp) _
  have k0 : ((w.alloc (.cells #[.int .i64 D, .int .i64 T, .int .i64 S] 23)).alloc (.cells #[.bool s.mv, .bool s.al, .int .i64 s.place, .slice Ag D cg, .slice Ad D cd] 28)).heap[w.heap.size]? = some (.cells #[.int .i64 D, .int .i64 T, .int .i64 S] 23 (0, 0)) := by rw [heapq_alloc, if_neg (by simp), heapq_alloc, if_pos rfl]
  have k1 : ((w.alloc (.cells #[.int .i64 D, .int .i64 T, .int .i64 S] 23)).alloc (.cells #[.bool s.mv, .bool s.al, .int .i64 s.place, .slice Ag D cg, .slice Ad D cd] 28)).heap[w.heap.size + 1]? = some (.cells #[.bool s.mv, .bool s.al, .int .i64 s.place, .slice Ag D cg, .slice Ad D cd] 28 (0, 0)) := by rw [heapq_alloc, if_pos (by simp)]
  obtain ⟨a0, a1, a2⟩ := cells3w k0
  obtain ⟨b0, b1, b2, b3, b4⟩ := cells5 k1
  have HST := Lib.hid (h.below (hb0.mono hB))
  have HB0 := Lib.hid hb0
  have HSB := Lib.hid (Nat.le_trans hB hb0.size)
  have HSX := Lib.hid hb0.size
  clear k0 k1 hb0 h
  go_enter Tryd.func78, Tryd.ntmps78
  go_upto_region 1 with (fail)
  generalize ((w.alloc (.cells #[.int .i64 D, .int .i64 T, .int .i64 S] 23)).alloc (.cells #[.bool s.mv, .bool s.al, .int .i64 s.place, .slice Ag D cg, .slice Ad D cd] 28)) = w0 at *
  have A0 := Lib.hid a0
  have A1 := Lib.hid a1
  have A2 := Lib.hid a2
  have B0 := Lib.hid b0
  have B1 := Lib.hid b1
  have B2 := Lib.hid b2
  have B3 := Lib.hid b3
  have B4 := Lib.hid b4
  clear a0 a1 a2 b0 b1 b2 b3 b4
  generalize hx : w.heap.size = x at *
  have HX := Lib.hid hx
  clear hx
  go_wp2
  go_loopw [7, 8] (fun u7 u8 wr => PoRel w0 D T S s pl FIN u7 u8 wr) (fun _ u8 _ => 8 - (intOf u8).toNat)
  case atStart => exact ⟨0, [], Nat.zero_le _, rfl, by simp, by rw [List.nil_append, restK_zero]; exact HF.out, ⟨rfl, .inl ⟨rfl, rfl⟩⟩, Below.refl _ _⟩
  case round =>
    obtain ⟨k, out, hk, rfl, hol, hfin, hown, hb⟩ := hrel
    obtain ⟨Ao, co, rfl⟩ := rowForm hown
    have HBK := Lib.hid hb
    have HOWN := Lib.hid hown
    have HFIN := Lib.hid hfin
    clear hb hown hfin
    by_cases hlt : k < 8
    · obtain ⟨r0, r1, r2, r3, r4, r5, r6, r7⟩ : _ ∧ _ ∧ _ ∧ _ ∧ _ ∧ _ ∧ _ ∧ _ := ⟨kept HBK.out A0.out, kept HBK.out A1.out, kept HBK.out A2.out, kept HBK.out B0.out, kept HBK.out B1.out, kept HBK.out B2.out, kept HBK.out B3.out, kept HBK.out B4.out⟩
      by_cases hc1 : k = 1
      · have U : ∀ W : World, Calls Tryd.prog 110 #[.int .i64 (k : Int)] W fun e w' => e = .returned (.string ⟨#[112]⟩) ∧ W = w' := fun W => by
          rw [show (k : Int) = 1 by omega]
          exact uses_p W
        have HUP : Hid (usesPB (k : Int) = true) := by rw [Hid]; simp [usesPB]; omega
        have HCN : Hid (kindN D k = 1) := by rw [Hid, kindN, if_neg (by simp [usesDB]; omega)]
        have HKF : Hid (out ++ ((List.range 1).map (kindEv pl k)).filter (accB D T S s) ++ restK D T S s pl (k + 1) = FIN) := by
          have := HFIN.out
          rw [restK_succ hlt, kindC, HCN.out, ← List.append_assoc] at this
          exact this
        have HC1 := Lib.hid hc1
        clear hc1
        go_upto_region 9 with (go_at_call 110; refine (U _).mono ?_; rintro e w' ⟨rfl, rfl⟩)
        have HREL : Hid (PiRel w0 D T S s pl k 1 (restK D T S s pl (k + 1)) FIN (.slice Ao out.length co) (.int .i64 0) wr) := ⟨0, out, Nat.zero_le _, rfl, by omega, by rw [List.drop_zero]; exact HKF.out, HOWN.out, HBK.out⟩
        clear r0 r1 r2 r3 r4 r5 r6 r7 HOWN
        generalize wr = wq at *
        go_loopw [7, 10] (fun u7 u10 wr2 => PiRel w0 D T S s pl k 1 (restK D T S s pl (k + 1)) FIN u7 u10 wr2) (fun _ u10 _ => 1 - (intOf u10).toNat)
        case atStart => exact HREL.out
        case round =>
          clear HREL
          obtain ⟨j, out2, hj, rfl, hol2, hfin2, hown2, hb2⟩ := hrel
          obtain ⟨Av, cv, rfl⟩ := rowForm hown2
          have HB2 := Lib.hid hb2
          have HOWN2 := Lib.hid hown2
          have HFIN2 := Lib.hid hfin2
          have hs2 := hb2.size
          have hst := HST.out.below (hb2.mono HSB.out)
          clear hb2 hown2 hfin2
          by_cases hjl : j < 1
          · have HS : Hid ((((List.range 1).map (kindEv pl k)).drop j) = kindEv pl k j :: (((List.range 1).map (kindEv pl k)).drop (j + 1))) := by
              rw [Hid]
              exact drop_consE (by rw [List.getElem?_map, List.getElem?_range hjl]; rfl)
            have HEV : Hid (kindEv pl k j = ((k : Int), pl, (j : Int))) := by rw [Hid, kindEv, HUP.out]; rfl
            have hev : evErrM D (k : Int) pl (j : Int) = 0 := by
              have := cand_ev (D := D) HPL.out (kindEv pl k j) (cand_mem (by omega) (by rw [HCN.out]; exact hjl))
              rw [HEV.out] at this
              exact this
            go_upto_region 12 with fail
            have hba : Below wr.heap.size wr (wr.alloc (.cells #[.int .i64 (k : Int), .int .i64 0, .int .i64 (j : Int)] 66)) := (Below.refl _ _).alloc (Nat.le_refl _) _
            have ky : (wr.alloc (.cells #[.int .i64 (k : Int), .int .i64 0, .int .i64 (j : Int)] 66)).heap[wr.heap.size]? = some (.cells #[.int .i64 (k : Int), .int .i64 0, .int .i64 (j : Int)] 66 (0, 0)) := by rw [heapq_alloc, if_pos rfl]
            obtain ⟨e0, e1, e2⟩ := cells3w ky
            have hy : wr.heap.size < (wr.alloc (.cells #[.int .i64 (k : Int), .int .i64 0, .int .i64 (j : Int)] 66)).heap.size := by simp
            have hne : Value.ownBlock (.slice Av out2.length cv) ≠ some wr.heap.size := fun he => by have := (ownBlk HOWN2.out he).2.1; omega
            have hown3 := ownsRow_below HOWN2.out hba
            have HBA := Lib.hid (HB2.out.trans (hba.mono hs2))
            have hst3 := hst.below (hba.mono (Nat.le_trans HSB.out hs2))
            have f1 := frozen_of_row _ _ 1 _ _ ky
            clear ky HOWN2 hst
            generalize wr.alloc (.cells #[.int .i64 (k : Int), .int .i64 0, .int .i64 (j : Int)] 66) = wa at *
            have hwa : Below wr.heap.size wr wa := hba
            have hq2 : w0.heap.size ≤ wr.heap.size := hs2
            clear hba
            generalize wr.heap.size = y at *
            go_upto_region 14 with (go_at_call 110; refine (U _).mono ?_; rintro e w' ⟨rfl, rfl⟩)
            have hown4 := ownsRow_setCell_other hown3 (a := ⟨y, 1, none⟩) hne (.int .i64 pl)
            have g0 := (World.cell?_setCell_other wa ⟨y, 1, none⟩ ⟨y, 0, none⟩ (.int .i64 pl) (by simp)).trans e0
            have g1 := World.cell?_setCell_same' wa ⟨y, 1, none⟩ (.int .i64 pl) (by rw [e1]; rfl)
            have g2 := (World.cell?_setCell_other wa ⟨y, 1, none⟩ ⟨y, 2, none⟩ (.int .i64 pl) (by simp)).trans e2
            have HBC := Lib.hid (HBA.out.setCell (p := ⟨y, 1, none⟩) hq2 (.int .i64 pl))
            have hst4 := hst3.below (((Below.refl B wa).setCell (p := ⟨y, 1, none⟩) (Nat.le_trans HSB.out hq2) (.int .i64 pl)))
            have hy4 : y < (wa.setCell ⟨y, 1, none⟩ (.int .i64 pl)).heap.size := by simpa using hy
            clear e0 e1 e2 f1 hown3 HBA hst3 hy
            generalize wa.setCell ⟨y, 1, none⟩ (.int .i64 pl) = wc at *
            have e0 := g0
            have e1 := g1
            have e2 := g2
            clear g0 g1 g2
            obtain ⟨r0, r1, r2, r3, r4, r5, r6, r7⟩ : _ ∧ _ ∧ _ ∧ _ ∧ _ ∧ _ ∧ _ ∧ _ := ⟨kept HBC.out A0.out, kept HBC.out A1.out, kept HBC.out A2.out, kept HBC.out B0.out, kept HBC.out B1.out, kept HBC.out B2.out, kept HBC.out B3.out, kept HBC.out B4.out⟩
            have hsc : w0.heap.size ≤ wc.heap.size := HBC.out.size
            have RA := refApply_any wc B D T S Ag Ad cg cd s (k : Int) pl (j : Int) hst4 (Nat.le_trans HSB.out hsc) (by omega) hp hT hev
            simp only [stV] at RA
            have HAC : Hid ((accB D T S s (kindEv pl k j)) = decide (applyE D T S s (k : Int) pl (j : Int) = 0)) := by rw [HEV.out]; rfl
            generalize applyE D T S s (k : Int) pl (j : Int) = cc at *
            by_cases hcc : cc = 0
            · subst hcc
              have HN : Hid ((out2 ++ [kindEv pl k j]) ++ (((List.range 1).map (kindEv pl k)).drop (j + 1)).filter (accB D T S s) ++ restK D T S s pl (k + 1) = FIN) := by
                have := HFIN2.out
                rw [HS.out, List.filter_cons_of_pos (by rw [HAC.out]; rfl)] at this
                rw [Hid]
                simpa using this
              go_upto_region 15 with (go_at_call 45; refine RA.mono ?_; rintro e w5 ⟨⟨v, rfl, hv⟩, hb5⟩; rw [if_pos rfl] at hv; obtain ⟨h1, h2, d1', d2', rfl, ho⟩ := hv; simp only [stV])
              have hb6 := hb5.alloc hb5.size (.cells #[.bool (applyS s (k : Int) pl (j : Int)).mv, .bool (applyS s (k : Int) pl (j : Int)).al, .int .i64 (applyS s (k : Int) pl (j : Int)).place, .slice (some ⟨h1, 0, none⟩) D d1', .slice (some ⟨h2, 0, none⟩) D d2'] 28)
              clear RA ho r0 r1 r2 r3 r4 r5 r6 r7
              generalize w5.alloc (.cells #[.bool (applyS s (k : Int) pl (j : Int)).mv, .bool (applyS s (k : Int) pl (j : Int)).al, .int .i64 (applyS s (k : Int) pl (j : Int)).place, .slice (some ⟨h1, 0, none⟩) D d1', .slice (some ⟨h2, 0, none⟩) D d2'] 28) = w6 at *
              replace e0 := kept hb6 e0
              replace e1 := kept hb6 e1
              replace e2 := kept hb6 e2
              have OW6 := ownsRow_below hown4 hb6
              have HB6 := Lib.hid (HBC.out.trans (hb6.mono hsc))
              have hs6 := Nat.le_trans hsc hb6.size
              clear hb5 hb6 hown4 HBC hst4
              generalize w5.heap.size = z5 at *
              have ky : (w6.alloc (.cells #[.int .i64 (k : Int), .int .i64 pl, .int .i64 (j : Int)] 66)).heap[w6.heap.size]? = some (.cells #[.int .i64 (k : Int), .int .i64 pl, .int .i64 (j : Int)] 66 (0, 0)) := by rw [heapq_alloc, if_pos rfl]
              obtain ⟨n0, n1, n2⟩ := cells3w ky
              have NW := news3 n0 n1 n2
              clear ky n0 n1 n2
              go_wp2_with (at_builtin; refine stp ?_)
              unfold Stp
              refine wpList_append_lies _ rfl _ _ 24 rfl w0.heap.size 66 i1 _ 3 24 Tryd.underlying24 hi1 hy0 hy1 hy2 rfl (by omega) (.slice Av out2.length cv) out2.length (evCells out2) rfl (OW6.alloc _) ⟨w6.heap.size, 0, none⟩ 1 1 [.int .i64 (k : Int), .int .i64 pl, .int .i64 (j : Int)] rfl rfl NW (by simp [Value.oneCell']) (by omega) (by simp only [maxLen]; omega) (by omega) (by simp; omega) _ rfl ?_
              intro gg cap w7 hown7 hgrow7 hat7 hlt7
              have HB7 := Lib.hid ((HB6.out.alloc hs6 _).grown hgrow7 (by simp; omega) (fun q hq => (ownBlk OW6 hq).1))
              have OW7 : Hid (w7.ownsRow w0.heap.size 66 3 (.slice (some ⟨gg, 0, none⟩) (out2.length + 1) cap) (out2 ++ [kindEv pl k j]).length (evCells (out2 ++ [kindEv pl k j]))) := by
                rw [Hid, HEV.out, evCells_snoc, List.length_append]
                exact hown7
              clear hown7 hgrow7 hat7 hlt7 NW OW6
              go_wp2
              go_roundw
              case rel => exact ⟨j + 1, out2 ++ [kindEv pl k j], by omega, by go_num, by simp; omega, HN.out, OW7.out, HB7.out⟩
              case measure => simp [intOf]; omega
            · have HN : Hid (out2 ++ (((List.range 1).map (kindEv pl k)).drop (j + 1)).filter (accB D T S s) ++ restK D T S s pl (k + 1) = FIN) := by
                have := HFIN2.out
                rw [HS.out, List.filter_cons_of_neg (by rw [HAC.out]; simpa using hcc)] at this
                exact this
              have e9 : (cc == 0) = false := beq_eq_false_iff_ne.2 hcc
              have HCC := Lib.hid hcc
              go_upto_region 15 with (go_at_call 45; refine RA.mono ?_; rintro e w5 ⟨⟨v, rfl, hv⟩, hb5⟩; rw [if_neg HCC.out] at hv; subst hv; simp only [zeroSt])
              have hb6 := hb5.alloc hb5.size (.cells #[.bool false, .bool false, .int .i64 0, .slice none 0 0, .slice none 0 0] 28)
              clear RA r0 r1 r2 r3 r4 r5 r6 r7
              generalize w5.alloc (.cells #[.bool false, .bool false, .int .i64 0, .slice none 0 0, .slice none 0 0] 28) = w6 at *
              have OW6 := Lib.hid (ownsRow_below hown4 hb6)
              have HB6 := Lib.hid (HBC.out.trans (hb6.mono hsc))
              clear hb5 hb6 hown4 HBC hst4
              go_wp2
              go_roundw
              case rel => exact ⟨j + 1, out2, by omega, by go_num, by omega, HN.out, OW6.out, HB6.out⟩
              case measure => simp [intOf]; omega
          · obtain rfl : 1 = j := by omega
            have HN : Hid (out2 ++ restK D T S s pl (k + 1) = FIN) := by
              have := HFIN2.out
              rw [List.drop_eq_nil_iff.2 (by simp)] at this
              rw [Hid]
              simpa using this
            go_wp2
            go_roundw
            case rel => exact ⟨k + 1, out2, by omega, by go_num, by omega, HN.out, HOWN2.out, HB2.out⟩
            case measure => simp [intOf]; omega
      · by_cases hc2 : 2 ≤ k ∧ k ≤ 5
        · have U : ∀ W : World, Calls Tryd.prog 110 #[.int .i64 (k : Int)] W fun e w' => e = .returned (.string ⟨#[100]⟩) ∧ W = w' := fun W => uses_d _ W (by omega)
          have HUP : Hid (usesPB (k : Int) = false) := by rw [Hid]; simp [usesPB]; omega
          have HCN : Hid (kindN D k = D) := by rw [Hid, kindN, if_pos (by simp [usesDB]; omega)]
          have HKF : Hid (out ++ ((List.range D).map (kindEv pl k)).filter (accB D T S s) ++ restK D T S s pl (k + 1) = FIN) := by
            have := HFIN.out
            rw [restK_succ hlt, kindC, HCN.out, ← List.append_assoc] at this
            exact this
          have HC1 := Lib.hid hc1
          clear hc1
          have HC2 := Lib.hid hc2
          clear hc2
          go_upto_region 9 with (go_at_call 110; refine (U _).mono ?_; rintro e w' ⟨rfl, rfl⟩)
          have HREL : Hid (PiRel w0 D T S s pl k D (restK D T S s pl (k + 1)) FIN (.slice Ao out.length co) (.int .i64 0) wr) := ⟨0, out, Nat.zero_le _, rfl, by omega, by rw [List.drop_zero]; exact HKF.out, HOWN.out, HBK.out⟩
          clear r0 r1 r2 r3 r4 r5 r6 r7 HOWN
          generalize wr = wq at *
          go_loopw [7, 10] (fun u7 u10 wr2 => PiRel w0 D T S s pl k D (restK D T S s pl (k + 1)) FIN u7 u10 wr2) (fun _ u10 _ => D - (intOf u10).toNat)
          case atStart => exact HREL.out
          case round =>
            clear HREL
            obtain ⟨j, out2, hj, rfl, hol2, hfin2, hown2, hb2⟩ := hrel
            obtain ⟨Av, cv, rfl⟩ := rowForm hown2
            have HB2 := Lib.hid hb2
            have HOWN2 := Lib.hid hown2
            have HFIN2 := Lib.hid hfin2
            have hs2 := hb2.size
            have hst := HST.out.below (hb2.mono HSB.out)
            clear hb2 hown2 hfin2
            by_cases hjl : j < D
            · have HS : Hid ((((List.range D).map (kindEv pl k)).drop j) = kindEv pl k j :: (((List.range D).map (kindEv pl k)).drop (j + 1))) := by
                rw [Hid]
                exact drop_consE (by rw [List.getElem?_map, List.getElem?_range hjl]; rfl)
              have HEV : Hid (kindEv pl k j = ((k : Int), 0, (j : Int))) := by rw [Hid, kindEv, HUP.out]; rfl
              have hev : evErrM D (k : Int) 0 (j : Int) = 0 := by
                have := cand_ev (D := D) HPL.out (kindEv pl k j) (cand_mem (by omega) (by rw [HCN.out]; exact hjl))
                rw [HEV.out] at this
                exact this
              go_upto_region 12 with fail
              have hba : Below wr.heap.size wr (wr.alloc (.cells #[.int .i64 (k : Int), .int .i64 0, .int .i64 (j : Int)] 66)) := (Below.refl _ _).alloc (Nat.le_refl _) _
              have ky : (wr.alloc (.cells #[.int .i64 (k : Int), .int .i64 0, .int .i64 (j : Int)] 66)).heap[wr.heap.size]? = some (.cells #[.int .i64 (k : Int), .int .i64 0, .int .i64 (j : Int)] 66 (0, 0)) := by rw [heapq_alloc, if_pos rfl]
              obtain ⟨e0, e1, e2⟩ := cells3w ky
              have hy : wr.heap.size < (wr.alloc (.cells #[.int .i64 (k : Int), .int .i64 0, .int .i64 (j : Int)] 66)).heap.size := by simp
              have hne : Value.ownBlock (.slice Av out2.length cv) ≠ some wr.heap.size := fun he => by have := (ownBlk HOWN2.out he).2.1; omega
              have hown3 := ownsRow_below HOWN2.out hba
              have HBA := Lib.hid (HB2.out.trans (hba.mono hs2))
              have hst3 := hst.below (hba.mono (Nat.le_trans HSB.out hs2))
              have f1 := frozen_of_row _ _ 1 _ _ ky
              clear ky HOWN2 hst
              generalize wr.alloc (.cells #[.int .i64 (k : Int), .int .i64 0, .int .i64 (j : Int)] 66) = wa at *
              have hwa : Below wr.heap.size wr wa := hba
              have hq2 : w0.heap.size ≤ wr.heap.size := hs2
              clear hba
              generalize wr.heap.size = y at *
              go_upto_region 14 with (go_at_call 110; refine (U _).mono ?_; rintro e w' ⟨rfl, rfl⟩)
              have hown4 := hown3
              have HBC := HBA
              have hst4 := hst3
              have hy4 := hy
              clear f1 hown3 HBA hst3 hy
              generalize wa = wc at *
              obtain ⟨r0, r1, r2, r3, r4, r5, r6, r7⟩ : _ ∧ _ ∧ _ ∧ _ ∧ _ ∧ _ ∧ _ ∧ _ := ⟨kept HBC.out A0.out, kept HBC.out A1.out, kept HBC.out A2.out, kept HBC.out B0.out, kept HBC.out B1.out, kept HBC.out B2.out, kept HBC.out B3.out, kept HBC.out B4.out⟩
              have hsc : w0.heap.size ≤ wc.heap.size := HBC.out.size
              have RA := refApply_any wc B D T S Ag Ad cg cd s (k : Int) 0 (j : Int) hst4 (Nat.le_trans HSB.out hsc) (by omega) hp hT hev
              simp only [stV] at RA
              have HAC : Hid ((accB D T S s (kindEv pl k j)) = decide (applyE D T S s (k : Int) 0 (j : Int) = 0)) := by rw [HEV.out]; rfl
              generalize applyE D T S s (k : Int) 0 (j : Int) = cc at *
              by_cases hcc : cc = 0
              · subst hcc
                have HN : Hid ((out2 ++ [kindEv pl k j]) ++ (((List.range D).map (kindEv pl k)).drop (j + 1)).filter (accB D T S s) ++ restK D T S s pl (k + 1) = FIN) := by
                  have := HFIN2.out
                  rw [HS.out, List.filter_cons_of_pos (by rw [HAC.out]; rfl)] at this
                  rw [Hid]
                  simpa using this
                go_upto_region 15 with (go_at_call 45; refine RA.mono ?_; rintro e w5 ⟨⟨v, rfl, hv⟩, hb5⟩; rw [if_pos rfl] at hv; obtain ⟨h1, h2, d1', d2', rfl, ho⟩ := hv; simp only [stV])
                have hb6 := hb5.alloc hb5.size (.cells #[.bool (applyS s (k : Int) 0 (j : Int)).mv, .bool (applyS s (k : Int) 0 (j : Int)).al, .int .i64 (applyS s (k : Int) 0 (j : Int)).place, .slice (some ⟨h1, 0, none⟩) D d1', .slice (some ⟨h2, 0, none⟩) D d2'] 28)
                clear RA ho r0 r1 r2 r3 r4 r5 r6 r7
                generalize w5.alloc (.cells #[.bool (applyS s (k : Int) 0 (j : Int)).mv, .bool (applyS s (k : Int) 0 (j : Int)).al, .int .i64 (applyS s (k : Int) 0 (j : Int)).place, .slice (some ⟨h1, 0, none⟩) D d1', .slice (some ⟨h2, 0, none⟩) D d2'] 28) = w6 at *
                replace e0 := kept hb6 e0
                replace e1 := kept hb6 e1
                replace e2 := kept hb6 e2
                have OW6 := ownsRow_below hown4 hb6
                have HB6 := Lib.hid (HBC.out.trans (hb6.mono hsc))
                have hs6 := Nat.le_trans hsc hb6.size
                clear hb5 hb6 hown4 HBC hst4
                generalize w5.heap.size = z5 at *
                have ky : (w6.alloc (.cells #[.int .i64 (k : Int), .int .i64 0, .int .i64 (j : Int)] 66)).heap[w6.heap.size]? = some (.cells #[.int .i64 (k : Int), .int .i64 0, .int .i64 (j : Int)] 66 (0, 0)) := by rw [heapq_alloc, if_pos rfl]
                obtain ⟨n0, n1, n2⟩ := cells3w ky
                have NW := news3 n0 n1 n2
                clear ky n0 n1 n2
                go_wp2_with (at_builtin; refine stp ?_)
                unfold Stp
                refine wpList_append_lies _ rfl _ _ 24 rfl w0.heap.size 66 i1 _ 3 24 Tryd.underlying24 hi1 hy0 hy1 hy2 rfl (by omega) (.slice Av out2.length cv) out2.length (evCells out2) rfl (OW6.alloc _) ⟨w6.heap.size, 0, none⟩ 1 1 [.int .i64 (k : Int), .int .i64 0, .int .i64 (j : Int)] rfl rfl NW (by simp [Value.oneCell']) (by omega) (by simp only [maxLen]; omega) (by omega) (by simp; omega) _ rfl ?_
                intro gg cap w7 hown7 hgrow7 hat7 hlt7
                have HB7 := Lib.hid ((HB6.out.alloc hs6 _).grown hgrow7 (by simp; omega) (fun q hq => (ownBlk OW6 hq).1))
                have OW7 : Hid (w7.ownsRow w0.heap.size 66 3 (.slice (some ⟨gg, 0, none⟩) (out2.length + 1) cap) (out2 ++ [kindEv pl k j]).length (evCells (out2 ++ [kindEv pl k j]))) := by
                  rw [Hid, HEV.out, evCells_snoc, List.length_append]
                  exact hown7
                clear hown7 hgrow7 hat7 hlt7 NW OW6
                go_wp2
                go_roundw
                case rel => exact ⟨j + 1, out2 ++ [kindEv pl k j], by omega, by go_num, by simp; omega, HN.out, OW7.out, HB7.out⟩
                case measure => simp [intOf]; omega
              · have HN : Hid (out2 ++ (((List.range D).map (kindEv pl k)).drop (j + 1)).filter (accB D T S s) ++ restK D T S s pl (k + 1) = FIN) := by
                  have := HFIN2.out
                  rw [HS.out, List.filter_cons_of_neg (by rw [HAC.out]; simpa using hcc)] at this
                  exact this
                have e9 : (cc == 0) = false := beq_eq_false_iff_ne.2 hcc
                have HCC := Lib.hid hcc
                go_upto_region 15 with (go_at_call 45; refine RA.mono ?_; rintro e w5 ⟨⟨v, rfl, hv⟩, hb5⟩; rw [if_neg HCC.out] at hv; subst hv; simp only [zeroSt])
                have hb6 := hb5.alloc hb5.size (.cells #[.bool false, .bool false, .int .i64 0, .slice none 0 0, .slice none 0 0] 28)
                clear RA r0 r1 r2 r3 r4 r5 r6 r7
                generalize w5.alloc (.cells #[.bool false, .bool false, .int .i64 0, .slice none 0 0, .slice none 0 0] 28) = w6 at *
                have OW6 := Lib.hid (ownsRow_below hown4 hb6)
                have HB6 := Lib.hid (HBC.out.trans (hb6.mono hsc))
                clear hb5 hb6 hown4 HBC hst4
                go_wp2
                go_roundw
                case rel => exact ⟨j + 1, out2, by omega, by go_num, by omega, HN.out, OW6.out, HB6.out⟩
                case measure => simp [intOf]; omega
            · obtain rfl : D = j := by omega
              have HN : Hid (out2 ++ restK D T S s pl (k + 1) = FIN) := by
                have := HFIN2.out
                rw [List.drop_eq_nil_iff.2 (by simp)] at this
                rw [Hid]
                simpa using this
              go_wp2
              go_roundw
              case rel => exact ⟨k + 1, out2, by omega, by go_num, by omega, HN.out, HOWN2.out, HB2.out⟩
              case measure => simp [intOf]; omega
        · have U : ∀ W : World, Calls Tryd.prog 110 #[.int .i64 (k : Int)] W fun e w' => e = .returned (.string ⟨#[]⟩) ∧ W = w' := fun W => uses_no _ W (by omega) (by omega)
          have HUP : Hid (usesPB (k : Int) = false) := by rw [Hid]; simp [usesPB]; omega
          have HCN : Hid (kindN D k = 1) := by rw [Hid, kindN, if_neg (by simp [usesDB]; omega)]
          have HKF : Hid (out ++ ((List.range 1).map (kindEv pl k)).filter (accB D T S s) ++ restK D T S s pl (k + 1) = FIN) := by
            have := HFIN.out
            rw [restK_succ hlt, kindC, HCN.out, ← List.append_assoc] at this
            exact this
          have HC1 := Lib.hid hc1
          clear hc1
          have HC2 := Lib.hid hc2
          clear hc2
          go_upto_region 9 with (go_at_call 110; refine (U _).mono ?_; rintro e w' ⟨rfl, rfl⟩)
          have HREL : Hid (PiRel w0 D T S s pl k 1 (restK D T S s pl (k + 1)) FIN (.slice Ao out.length co) (.int .i64 0) wr) := ⟨0, out, Nat.zero_le _, rfl, by omega, by rw [List.drop_zero]; exact HKF.out, HOWN.out, HBK.out⟩
          clear r0 r1 r2 r3 r4 r5 r6 r7 HOWN
          generalize wr = wq at *
          go_loopw [7, 10] (fun u7 u10 wr2 => PiRel w0 D T S s pl k 1 (restK D T S s pl (k + 1)) FIN u7 u10 wr2) (fun _ u10 _ => 1 - (intOf u10).toNat)
          case atStart => exact HREL.out
          case round =>
            clear HREL
            obtain ⟨j, out2, hj, rfl, hol2, hfin2, hown2, hb2⟩ := hrel
            obtain ⟨Av, cv, rfl⟩ := rowForm hown2
            have HB2 := Lib.hid hb2
            have HOWN2 := Lib.hid hown2
            have HFIN2 := Lib.hid hfin2
            have hs2 := hb2.size
            have hst := HST.out.below (hb2.mono HSB.out)
            clear hb2 hown2 hfin2
            by_cases hjl : j < 1
            · have HS : Hid ((((List.range 1).map (kindEv pl k)).drop j) = kindEv pl k j :: (((List.range 1).map (kindEv pl k)).drop (j + 1))) := by
                rw [Hid]
                exact drop_consE (by rw [List.getElem?_map, List.getElem?_range hjl]; rfl)
              have HEV : Hid (kindEv pl k j = ((k : Int), 0, (j : Int))) := by rw [Hid, kindEv, HUP.out]; rfl
              have hev : evErrM D (k : Int) 0 (j : Int) = 0 := by
                have := cand_ev (D := D) HPL.out (kindEv pl k j) (cand_mem (by omega) (by rw [HCN.out]; exact hjl))
                rw [HEV.out] at this
                exact this
              go_upto_region 12 with fail
              have hba : Below wr.heap.size wr (wr.alloc (.cells #[.int .i64 (k : Int), .int .i64 0, .int .i64 (j : Int)] 66)) := (Below.refl _ _).alloc (Nat.le_refl _) _
              have ky : (wr.alloc (.cells #[.int .i64 (k : Int), .int .i64 0, .int .i64 (j : Int)] 66)).heap[wr.heap.size]? = some (.cells #[.int .i64 (k : Int), .int .i64 0, .int .i64 (j : Int)] 66 (0, 0)) := by rw [heapq_alloc, if_pos rfl]
              obtain ⟨e0, e1, e2⟩ := cells3w ky
              have hy : wr.heap.size < (wr.alloc (.cells #[.int .i64 (k : Int), .int .i64 0, .int .i64 (j : Int)] 66)).heap.size := by simp
              have hne : Value.ownBlock (.slice Av out2.length cv) ≠ some wr.heap.size := fun he => by have := (ownBlk HOWN2.out he).2.1; omega
              have hown3 := ownsRow_below HOWN2.out hba
              have HBA := Lib.hid (HB2.out.trans (hba.mono hs2))
              have hst3 := hst.below (hba.mono (Nat.le_trans HSB.out hs2))
              have f1 := frozen_of_row _ _ 1 _ _ ky
              clear ky HOWN2 hst
              generalize wr.alloc (.cells #[.int .i64 (k : Int), .int .i64 0, .int .i64 (j : Int)] 66) = wa at *
              have hwa : Below wr.heap.size wr wa := hba
              have hq2 : w0.heap.size ≤ wr.heap.size := hs2
              clear hba
              generalize wr.heap.size = y at *
              go_upto_region 14 with (go_at_call 110; refine (U _).mono ?_; rintro e w' ⟨rfl, rfl⟩)
              have hown4 := hown3
              have HBC := HBA
              have hst4 := hst3
              have hy4 := hy
              clear f1 hown3 HBA hst3 hy
              generalize wa = wc at *
              obtain ⟨r0, r1, r2, r3, r4, r5, r6, r7⟩ : _ ∧ _ ∧ _ ∧ _ ∧ _ ∧ _ ∧ _ ∧ _ := ⟨kept HBC.out A0.out, kept HBC.out A1.out, kept HBC.out A2.out, kept HBC.out B0.out, kept HBC.out B1.out, kept HBC.out B2.out, kept HBC.out B3.out, kept HBC.out B4.out⟩
              have hsc : w0.heap.size ≤ wc.heap.size := HBC.out.size
              have RA := refApply_any wc B D T S Ag Ad cg cd s (k : Int) 0 (j : Int) hst4 (Nat.le_trans HSB.out hsc) (by omega) hp hT hev
              simp only [stV] at RA
              have HAC : Hid ((accB D T S s (kindEv pl k j)) = decide (applyE D T S s (k : Int) 0 (j : Int) = 0)) := by rw [HEV.out]; rfl
              generalize applyE D T S s (k : Int) 0 (j : Int) = cc at *
              by_cases hcc : cc = 0
              · subst hcc
                have HN : Hid ((out2 ++ [kindEv pl k j]) ++ (((List.range 1).map (kindEv pl k)).drop (j + 1)).filter (accB D T S s) ++ restK D T S s pl (k + 1) = FIN) := by
                  have := HFIN2.out
                  rw [HS.out, List.filter_cons_of_pos (by rw [HAC.out]; rfl)] at this
                  rw [Hid]
                  simpa using this
                go_upto_region 15 with (go_at_call 45; refine RA.mono ?_; rintro e w5 ⟨⟨v, rfl, hv⟩, hb5⟩; rw [if_pos rfl] at hv; obtain ⟨h1, h2, d1', d2', rfl, ho⟩ := hv; simp only [stV])
                have hb6 := hb5.alloc hb5.size (.cells #[.bool (applyS s (k : Int) 0 (j : Int)).mv, .bool (applyS s (k : Int) 0 (j : Int)).al, .int .i64 (applyS s (k : Int) 0 (j : Int)).place, .slice (some ⟨h1, 0, none⟩) D d1', .slice (some ⟨h2, 0, none⟩) D d2'] 28)
                clear RA ho r0 r1 r2 r3 r4 r5 r6 r7
                generalize w5.alloc (.cells #[.bool (applyS s (k : Int) 0 (j : Int)).mv, .bool (applyS s (k : Int) 0 (j : Int)).al, .int .i64 (applyS s (k : Int) 0 (j : Int)).place, .slice (some ⟨h1, 0, none⟩) D d1', .slice (some ⟨h2, 0, none⟩) D d2'] 28) = w6 at *
                replace e0 := kept hb6 e0
                replace e1 := kept hb6 e1
                replace e2 := kept hb6 e2
                have OW6 := ownsRow_below hown4 hb6
                have HB6 := Lib.hid (HBC.out.trans (hb6.mono hsc))
                have hs6 := Nat.le_trans hsc hb6.size
                clear hb5 hb6 hown4 HBC hst4
                generalize w5.heap.size = z5 at *
                have ky : (w6.alloc (.cells #[.int .i64 (k : Int), .int .i64 0, .int .i64 (j : Int)] 66)).heap[w6.heap.size]? = some (.cells #[.int .i64 (k : Int), .int .i64 0, .int .i64 (j : Int)] 66 (0, 0)) := by rw [heapq_alloc, if_pos rfl]
                obtain ⟨n0, n1, n2⟩ := cells3w ky
                have NW := news3 n0 n1 n2
                clear ky n0 n1 n2
                go_wp2_with (at_builtin; refine stp ?_)
                unfold Stp
                refine wpList_append_lies _ rfl _ _ 24 rfl w0.heap.size 66 i1 _ 3 24 Tryd.underlying24 hi1 hy0 hy1 hy2 rfl (by omega) (.slice Av out2.length cv) out2.length (evCells out2) rfl (OW6.alloc _) ⟨w6.heap.size, 0, none⟩ 1 1 [.int .i64 (k : Int), .int .i64 0, .int .i64 (j : Int)] rfl rfl NW (by simp [Value.oneCell']) (by omega) (by simp only [maxLen]; omega) (by omega) (by simp; omega) _ rfl ?_
                intro gg cap w7 hown7 hgrow7 hat7 hlt7
                have HB7 := Lib.hid ((HB6.out.alloc hs6 _).grown hgrow7 (by simp; omega) (fun q hq => (ownBlk OW6 hq).1))
                have OW7 : Hid (w7.ownsRow w0.heap.size 66 3 (.slice (some ⟨gg, 0, none⟩) (out2.length + 1) cap) (out2 ++ [kindEv pl k j]).length (evCells (out2 ++ [kindEv pl k j]))) := by
                  rw [Hid, HEV.out, evCells_snoc, List.length_append]
                  exact hown7
                clear hown7 hgrow7 hat7 hlt7 NW OW6
                go_wp2
                go_roundw
                case rel => exact ⟨j + 1, out2 ++ [kindEv pl k j], by omega, by go_num, by simp; omega, HN.out, OW7.out, HB7.out⟩
                case measure => simp [intOf]; omega
              · have HN : Hid (out2 ++ (((List.range 1).map (kindEv pl k)).drop (j + 1)).filter (accB D T S s) ++ restK D T S s pl (k + 1) = FIN) := by
                  have := HFIN2.out
                  rw [HS.out, List.filter_cons_of_neg (by rw [HAC.out]; simpa using hcc)] at this
                  exact this
                have e9 : (cc == 0) = false := beq_eq_false_iff_ne.2 hcc
                have HCC := Lib.hid hcc
                go_upto_region 15 with (go_at_call 45; refine RA.mono ?_; rintro e w5 ⟨⟨v, rfl, hv⟩, hb5⟩; rw [if_neg HCC.out] at hv; subst hv; simp only [zeroSt])
                have hb6 := hb5.alloc hb5.size (.cells #[.bool false, .bool false, .int .i64 0, .slice none 0 0, .slice none 0 0] 28)
                clear RA r0 r1 r2 r3 r4 r5 r6 r7
                generalize w5.alloc (.cells #[.bool false, .bool false, .int .i64 0, .slice none 0 0, .slice none 0 0] 28) = w6 at *
                have OW6 := Lib.hid (ownsRow_below hown4 hb6)
                have HB6 := Lib.hid (HBC.out.trans (hb6.mono hsc))
                clear hb5 hb6 hown4 HBC hst4
                go_wp2
                go_roundw
                case rel => exact ⟨j + 1, out2, by omega, by go_num, by omega, HN.out, OW6.out, HB6.out⟩
                case measure => simp [intOf]; omega
            · obtain rfl : 1 = j := by omega
              have HN : Hid (out2 ++ restK D T S s pl (k + 1) = FIN) := by
                have := HFIN2.out
                rw [List.drop_eq_nil_iff.2 (by simp)] at this
                rw [Hid]
                simpa using this
              go_wp2
              go_roundw
              case rel => exact ⟨k + 1, out2, by omega, by go_num, by omega, HN.out, HOWN2.out, HB2.out⟩
              case measure => simp [intOf]; omega
    · obtain rfl : k = 8 := by omega
      have HN : Hid (out = FIN) := by
        have := HFIN.out
        rw [restK_end, List.append_nil] at this
        exact this
      have hrd := rd_own HOWN.out
      go_wp2
      go_ret
      exact ⟨Ao, co, by rw [← HN.out]; rfl, by rw [← HN.out]; exact hrd, by rw [HX.out]; exact HB0.out.trans (HBK.out.mono HSX.out)⟩
end Go.Proofs.YtmcjnfghlpnghaaDoor

namespace Go.Proofs.YtmcjnfghlpnghaaDoor
open Go.RowKit Go.Shelf
attribute [local go_sem] Oper.semAt_some

theorem load_kinds {W : World} (hk : KindsAt W) : Sem.run Tryd.prog (Instr.loadAt 197 (.pointer (some ⟨0, 0, none⟩))) W = .ok (.agg kindCells.toArray) W :=
  run_loadAt_mid W 0 0 197 kindCells _ (fun j v h => by rw [Nat.zero_add]; exact hk j v h) Tryd.underlying197 rfl (by kernel_rfl)
set_option maxRecDepth 100000 in
theorem index_kinds (k : Nat) (h : k < 8) : ∃ (nm : ByteArray) (fv : Nat), ∀ W, Sem.run Tryd.prog (Instr.index 197 (.agg kindCells.toArray) (.int .i64 (k : Int))) W = .ok (.agg #[.string nm, .bool (usesPB (k : Int)), .bool (usesDB (k : Int)), .func (.func fv) #[] #[]]) W := by
  match k, h with
  | 0, _ => exact ⟨⟨#[103, 111]⟩, 223, fun W => by kernel_rfl⟩
  | 1, _ => exact ⟨⟨#[115, 116, 111, 112]⟩, 224, fun W => by kernel_rfl⟩
  | 2, _ => exact ⟨⟨#[103, 97, 116, 101]⟩, 225, fun W => by kernel_rfl⟩
  | 3, _ => exact ⟨⟨#[98, 97, 114]⟩, 226, fun W => by kernel_rfl⟩
  | 4, _ => exact ⟨⟨#[111, 112, 101, 110]⟩, 227, fun W => by kernel_rfl⟩
  | 5, _ => exact ⟨⟨#[115, 104, 117, 116]⟩, 228, fun W => by kernel_rfl⟩
  | 6, _ => exact ⟨⟨#[97, 108, 97, 114, 109]⟩, 229, fun W => by kernel_rfl⟩
  | 7, _ => exact ⟨⟨#[99, 97, 108, 109]⟩, 230, fun W => by kernel_rfl⟩
theorem wpListIn_loadG {F : Fence} {n : Nat} {ops : Array Oper} {rest : List Oper} {o : Oper} {a : Act} {w : World} {Q : Exit → Act → World → Prop} (hg : o.guard = none) (ho : o.op = .load 197 (.global 0)) (V : Value) (ha : a.eval (.global 0) = .pointer (some ⟨0, 0, none⟩))
    (hl : Sem.run Tryd.prog (Instr.loadAt 197 (.pointer (some ⟨0, 0, none⟩))) w = .ok V w) (h : wpListIn F n Tryd.prog ops Q rest (a.put o.dst V) w) : wpListIn F n Tryd.prog ops Q (o :: rest) a w :=
  wpListIn_plain hg fun K hK => by
    have hK := hK _ _ h
    refine ⟨fun f hf => ?_, ?_⟩
    · simp [Oper.about, ho] at hf
    · rw [Oper.semAt_eq _ _ _ (by intro c; rw [ho]; simp)]
      simp only [execOp, ho, ha, hl, Sem.run_bind, Sem.run_pure, Result.andThen_ok]
      exact hK

def candEnc (e : Ev) : Array Value := #[.agg #[.int .i64 e.1, .int .i64 e.2.1, .int .i64 e.2.2]]
def restC (D : Nat) (pl : Int) (k : Nat) : List Ev := ((List.range 8).drop k).flatMap (kindC D pl)
theorem restC_succ {D : Nat} {pl : Int} {k : Nat} (h : k < 8) : restC D pl k = kindC D pl k ++ restC D pl (k + 1) := by
  rw [restC, drop_consE (a := k) (by simp [h]), List.flatMap_cons]
  rfl
theorem restC_zero {D : Nat} {pl : Int} : restC D pl 0 = candM D pl := rfl
theorem restC_end {D : Nat} {pl : Int} : restC D pl 8 = [] := rfl
/-- what a round keeps: every box of a kind or of a number -/
def KpC (W W' : World) : Prop := ∀ (b : Nat) (cur : Array Value) (t : TypeId), t = 196 ∨ t = 3 → W.heap[b]? = some (.cells cur t (0, 0)) → W'.heap[b]? = some (.cells cur t (0, 0))
/-- the two captured boxes -/
def BoxesC (b2 b3 D : Nat) (pl : Int) (W : World) : Prop := W.heap[b2]? = some (.cells #[.int .i64 D] 3 (0, 0)) ∧ W.heap[b3]? = some (.cells #[.int .i64 pl] 3 (0, 0))
theorem BoxesC.below {b2 b3 D : Nat} {pl : Int} {W W' : World} (h : BoxesC b2 b3 D pl W) (hb : Below W.heap.size W W') : BoxesC b2 b3 D pl W' :=
  ⟨(hb.block _ (Array.getElem?_eq_some_iff.1 h.1).1).trans h.1, (hb.block _ (Array.getElem?_eq_some_iff.1 h.2).1).trans h.2⟩
theorem BoxesC.kp {b2 b3 D : Nat} {pl : Int} {W W' : World} (h : BoxesC b2 b3 D pl W) (hk : KpC W W') : BoxesC b2 b3 D pl W' := ⟨hk _ _ _ (.inr rfl) h.1, hk _ _ _ (.inr rfl) h.2⟩
theorem BoxesC.c2 {b2 b3 D : Nat} {pl : Int} {W : World} (h : BoxesC b2 b3 D pl W) : W.cell? ⟨b2, 0, none⟩ = some (.int .i64 D) := (cell_of_row _ _ 0 _ _ _ h.1).trans rfl
theorem BoxesC.c3 {b2 b3 D : Nat} {pl : Int} {W : World} (h : BoxesC b2 b3 D pl W) : W.cell? ⟨b3, 0, none⟩ = some (.int .i64 pl) := (cell_of_row _ _ 0 _ _ _ h.2).trans rfl
def CoRel (b2 b3 : Nat) (J : List Ev → World → Prop) (D : Nat) (pl : Int) (u10 : Value) (wr : World) : Prop :=
  ∃ (k : Nat) (pre : List Ev), k ≤ 8 ∧ u10 = .int .i64 k ∧ pre ++ restC D pl k = candM D pl ∧ J pre wr ∧ BoxesC b2 b3 D pl wr
def CiRel (b2 b3 : Nat) (J : List Ev → World → Prop) (D : Nat) (pl : Int) (k cnt y : Nat) (row : Array Value) (u18 : Value) (wr : World) : Prop :=
  ∃ (j : Nat) (pre : List Ev), j ≤ cnt ∧ u18 = .int .i64 j ∧ pre ++ ((List.range cnt).map (kindEv pl k)).drop j ++ restC D pl (k + 1) = candM D pl ∧ J pre wr ∧ BoxesC b2 b3 D pl wr ∧ wr.heap[y]? = some (.cells row 196 (0, 0))
/-- new blocks, and cells of new blocks: nothing of the old has turned -/
theorem grown_of_below {W W' : World} (h : Below W.heap.size W W') : W.grownBy W' none := ⟨h.os, h.tape, h.output, h.size, fun k hk _ => h.block k hk⟩

/-- the maker of the candidates: a closure over two boxes -/
def CandPost (w : World) (D : Nat) (pl : Int) (e : Ending) (w' : World) : Prop := ∃ b2 b3, e = .returned (.func (.func 162) #[] #[.pointer (some ⟨b2, 0, none⟩), .pointer (some ⟨b3, 0, none⟩)]) ∧ BoxesC b2 b3 D pl w' ∧ Below w.heap.size w w'
theorem candidates_any (D : Nat) (pl : Int) (w : World) : Calls Tryd.prog 132 #[.int .i64 D, .int .i64 pl] w (CandPost w D pl) := by
  go_enter Tryd.func132, Tryd.ntmps132
  go_wp2
  go_ret
  exact ⟨_, _, rfl, ⟨by rw [heapq_alloc, if_neg (by simp), heapq_alloc, if_pos rfl], by rw [heapq_alloc, if_pos (by simp)]⟩, ((Below.refl _ _).alloc (Nat.le_refl _) _).alloc (by simp) _⟩

set_option maxRecDepth 100000 in
set_option maxHeartbeats 8000000 in
theorem cand_stops (n : Nat) (hn : 1 ≤ n) (b2 b3 : Nat) (D : Nat) (pl : Int) (hD : D ≤ 6) (w : World) (hk : KindsAt w) (h2 : BoxesC b2 b3 D pl w) :
    SeqStopsK Fence.wide n Tryd.prog 162 #[.pointer (some ⟨b2, 0, none⟩), .pointer (some ⟨b3, 0, none⟩)] candEnc KpC (fun xs => xs = candM D pl) (fun _ => True) (candM D pl).length w := by
  intro l J Jx W hW hJ hJx hY hJ0
  have LD := load_kinds (hk.below hW)
  have IX := index_kinds
  obtain ⟨KV, hKV⟩ : ∃ v, Value.agg kindCells.toArray = v := ⟨_, rfl⟩
  rw [hKV] at LD IX
  clear hKV
  replace IX := Lib.hid IX
  have HBW := Lib.hid (h2.below hW)
  have hro : Fence.wide.round = none := rfl
  clear h2 hk
  refine callsIn_of_wp Tryd.func162 rfl trivial ?_ hro
  simp only [Tryd.ntmps162, List.size_toArray, List.length_cons, List.length_nil, Nat.reduceAdd, Nat.reduceSub, Array.replicate_succ, Array.replicate_zero, List.push_toArray, List.append_toArray, List.nil_append, List.cons_append]
  gi_wp2_with (refine wpListIn_loadG rfl rfl KV rfl LD ?_)
  clear LD
  gi_loopw [10] (fun u10 wr => CoRel b2 b3 J D pl u10 wr) (fun u10 _ => 8 - (intOf u10).toNat)
  case atStart => exact ⟨0, [], Nat.zero_le _, rfl, by rw [List.nil_append, restC_zero], hJ0, HBW.out⟩
  case round =>
    obtain ⟨k, pre, hk8, rfl, hpre, hJp, hbk0⟩ := hrel
    have HPRE := Lib.hid hpre
    have HBK := Lib.hid hbk0
    clear hpre hbk0
    by_cases hlt : k < 8
    · obtain ⟨nm, fv, hIX⟩ := IX.out k hlt
      by_cases hc1 : k = 1
      · have HUP : Hid (usesPB (k : Int) = true) := by rw [Hid]; simp [usesPB]; omega
        have HUD : Hid (usesDB (k : Int) = false) := by rw [Hid]; simp [usesDB]; omega
        rw [HUP.out, HUD.out] at hIX
        have HCN : Hid (kindN D k = 1) := by rw [Hid, kindN, HUD.out]; rfl
        have HC1 := Lib.hid hc1
        clear hc1
        have HKF : Hid (pre ++ (List.range 1).map (kindEv pl k) ++ restC D pl (k + 1) = candM D pl) := by
          have := HPRE.out
          rw [restC_succ hlt, kindC, HCN.out, ← List.append_assoc] at this
          exact this
        have hba : Below wr.heap.size wr (wr.alloc (.cells #[.string nm, .bool true, .bool false, .func (.func fv) #[] #[]] 196)) := (Below.refl _ _).alloc (Nat.le_refl _) _
        have ky : (wr.alloc (.cells #[.string nm, .bool true, .bool false, .func (.func fv) #[] #[]] 196)).heap[wr.heap.size]? = some (.cells #[.string nm, .bool true, .bool false, .func (.func fv) #[] #[]] 196 (0, 0)) := by rw [heapq_alloc, if_pos rfl]
        have HREL : Hid (CiRel b2 b3 J D pl k 1 wr.heap.size #[.string nm, .bool true, .bool false, .func (.func fv) #[] #[]] (.int .i64 0) (wr.alloc (.cells #[.string nm, .bool true, .bool false, .func (.func fv) #[] #[]] 196))) := ⟨0, pre, Nat.zero_le _, rfl, by rw [List.drop_zero]; exact HKF.out, hJ _ _ _ none hJp (grown_of_below hba) (fun r e => by cases e), HBK.out.below hba, ky⟩
        have cd := (cell_of_row _ _ 2 _ _ _ ky).trans (by rfl : _ = some (.bool false))
        have h2 := (HBK.out.below hba).c2
        clear ky
        gi_wp2
        generalize wr.alloc (.cells #[.string nm, .bool true, .bool false, .func (.func fv) #[] #[]] 196) = wq at *
        generalize wr.heap.size = y at *
        clear cd h2 hba hIX
        have hd8 : decide ((k : Int) < 8) = true := by simp; omega
        rw [hd8]
        clear hd8
        have HLT := Lib.hid hlt
        clear hlt
        gi_loopw [18] (fun u18 wr => CiRel b2 b3 J D pl k 1 y #[.string nm, .bool true, .bool false, .func (.func fv) #[] #[]] u18 wr) (fun u18 _ => 1 - (intOf u18).toNat)
        case atStart => exact HREL.out
        case round =>
          clear HREL
          obtain ⟨j, pre2, hj, rfl, hpre2, hJ2, hb2, hrow⟩ := hrel
          have HPRE2 := Lib.hid hpre2
          have HB2 := Lib.hid hb2
          have h3 := hb2.c3
          clear hpre2
          by_cases hjl : j < 1
          · have HS : Hid ((((List.range 1).map (kindEv pl k)).drop j) = kindEv pl k j :: (((List.range 1).map (kindEv pl k)).drop (j + 1))) := by
              rw [Hid]
              exact drop_consE (by rw [List.getElem?_map, List.getElem?_range hjl]; rfl)
            have HEV : Hid (kindEv pl k j = ((k : Int), pl, (j : Int))) := by rw [Hid, kindEv, HUP.out]; rfl
            have hlen : pre2.length < (candM D pl).length := by
              rw [← HPRE2.out, HS.out]
              simp
            have hba : Below wr.heap.size wr (wr.alloc (.cells #[.int .i64 (k : Int), .int .i64 pl, .int .i64 (j : Int)] 66)) := (Below.refl _ _).alloc (Nat.le_refl _) _
            have hJ3 := hJ _ _ _ none hJ2 (grown_of_below hba) (fun r e => by cases e)
            obtain ⟨fn, tmps, assign, body, hy, hR⟩ := hY pre2 (kindEv pl k j) _ hJ3 hlen
            rw [HEV.out] at hy
            simp only [candEnc] at hy
            have hb1 : Below wr.heap.size wr (wr.alloc (.cells #[.int .i64 (k : Int), .int .i64 0, .int .i64 (j : Int)] 66)) := (Below.refl _ _).alloc (Nat.le_refl _) _
            have c1 := kept hb1 ((cell_of_row _ _ 1 _ _ _ hrow).trans (by rfl : _ = some (.bool true)))
            replace h3 := kept hb1 h3
            have hrow9 := (hba.block y (Array.getElem?_eq_some_iff.1 hrow).1).trans hrow
            have HB3 := Lib.hid (HB2.out.below hba)
            gi_wp2
            refine hR.mono ?_
            rintro e W3 (⟨rfl, hJ4, hk4⟩ | ⟨rfl, hJx⟩)
            · have HN : Hid ((pre2 ++ [kindEv pl k j]) ++ (((List.range 1).map (kindEv pl k)).drop (j + 1)) ++ restC D pl (k + 1) = candM D pl) := by
                have := HPRE2.out
                rw [HS.out] at this
                rw [Hid]
                simpa using this
              have hrow4 := hk4 y _ _ (.inl rfl) hrow9
              have HREL : Hid (CiRel b2 b3 J D pl k 1 y #[.string nm, .bool true, .bool false, .func (.func fv) #[] #[]] (.int .i64 ((j : Int) + 1)) W3) := ⟨j + 1, pre2 ++ [kindEv pl k j], by omega, by simp, HN.out, hJ4, HB3.out.kp hk4, hrow4⟩
              gi_wp2
              go_roundw
              case rel =>
                first
                  | exact HREL.out
                  | (repeat apply Exists.intro
                     exact ⟨HREL.out, rfl⟩)
              case measure => simp [intOf]; omega
            · gi_wp2
              refine bodyPost_ret (results_none rfl _ _ _) rfl ?_
              exact ⟨⟨_, rfl⟩, .inr ⟨_, trivial, hJx⟩⟩
          · obtain rfl : 1 = j := by omega
            have HN : Hid (pre2 ++ restC D pl (k + 1) = candM D pl) := by
              have := HPRE2.out
              rw [List.drop_eq_nil_iff.2 (by simp)] at this
              rw [Hid]
              simpa using this
            have HREL : Hid (CoRel b2 b3 J D pl (.int .i64 ((k : Int) + 1)) wr) := ⟨k + 1, pre2, by have := HLT.out; omega, by simp, HN.out, hJ2, HB2.out⟩
            gi_wp2
            go_roundw
            case rel =>
              first
                | exact HREL.out
                | (repeat apply Exists.intro
                   exact ⟨HREL.out, rfl⟩)
            case measure => simp [intOf]; omega
      · by_cases hc2 : 2 ≤ k ∧ k ≤ 5
        · have HUP : Hid (usesPB (k : Int) = false) := by rw [Hid]; simp [usesPB]; omega
          have HUD : Hid (usesDB (k : Int) = true) := by rw [Hid]; simp [usesDB]; omega
          rw [HUP.out, HUD.out] at hIX
          have HCN : Hid (kindN D k = D) := by rw [Hid, kindN, HUD.out]; rfl
          have HC1 := Lib.hid hc1
          clear hc1
          have HC2 := Lib.hid hc2
          clear hc2
          have HKF : Hid (pre ++ (List.range D).map (kindEv pl k) ++ restC D pl (k + 1) = candM D pl) := by
            have := HPRE.out
            rw [restC_succ hlt, kindC, HCN.out, ← List.append_assoc] at this
            exact this
          have hba : Below wr.heap.size wr (wr.alloc (.cells #[.string nm, .bool false, .bool true, .func (.func fv) #[] #[]] 196)) := (Below.refl _ _).alloc (Nat.le_refl _) _
          have ky : (wr.alloc (.cells #[.string nm, .bool false, .bool true, .func (.func fv) #[] #[]] 196)).heap[wr.heap.size]? = some (.cells #[.string nm, .bool false, .bool true, .func (.func fv) #[] #[]] 196 (0, 0)) := by rw [heapq_alloc, if_pos rfl]
          have HREL : Hid (CiRel b2 b3 J D pl k D wr.heap.size #[.string nm, .bool false, .bool true, .func (.func fv) #[] #[]] (.int .i64 0) (wr.alloc (.cells #[.string nm, .bool false, .bool true, .func (.func fv) #[] #[]] 196))) := ⟨0, pre, Nat.zero_le _, rfl, by rw [List.drop_zero]; exact HKF.out, hJ _ _ _ none hJp (grown_of_below hba) (fun r e => by cases e), HBK.out.below hba, ky⟩
          have cd := (cell_of_row _ _ 2 _ _ _ ky).trans (by rfl : _ = some (.bool true))
          have h2 := (HBK.out.below hba).c2
          clear ky
          gi_wp2
          generalize wr.alloc (.cells #[.string nm, .bool false, .bool true, .func (.func fv) #[] #[]] 196) = wq at *
          generalize wr.heap.size = y at *
          clear cd h2 hba hIX
          have hd8 : decide ((k : Int) < 8) = true := by simp; omega
          rw [hd8]
          clear hd8
          have HLT := Lib.hid hlt
          clear hlt
          gi_loopw [18] (fun u18 wr => CiRel b2 b3 J D pl k D y #[.string nm, .bool false, .bool true, .func (.func fv) #[] #[]] u18 wr) (fun u18 _ => D - (intOf u18).toNat)
          case atStart => exact HREL.out
          case round =>
            clear HREL
            obtain ⟨j, pre2, hj, rfl, hpre2, hJ2, hb2, hrow⟩ := hrel
            have HPRE2 := Lib.hid hpre2
            have HB2 := Lib.hid hb2
            have h3 := hb2.c3
            clear hpre2
            by_cases hjl : j < D
            · have HS : Hid ((((List.range D).map (kindEv pl k)).drop j) = kindEv pl k j :: (((List.range D).map (kindEv pl k)).drop (j + 1))) := by
                rw [Hid]
                exact drop_consE (by rw [List.getElem?_map, List.getElem?_range hjl]; rfl)
              have HEV : Hid (kindEv pl k j = ((k : Int), 0, (j : Int))) := by rw [Hid, kindEv, HUP.out]; rfl
              have hlen : pre2.length < (candM D pl).length := by
                rw [← HPRE2.out, HS.out]
                simp
              have hba : Below wr.heap.size wr (wr.alloc (.cells #[.int .i64 (k : Int), .int .i64 0, .int .i64 (j : Int)] 66)) := (Below.refl _ _).alloc (Nat.le_refl _) _
              have hJ3 := hJ _ _ _ none hJ2 (grown_of_below hba) (fun r e => by cases e)
              obtain ⟨fn, tmps, assign, body, hy, hR⟩ := hY pre2 (kindEv pl k j) _ hJ3 hlen
              rw [HEV.out] at hy
              simp only [candEnc] at hy
              have hb1 : Below wr.heap.size wr (wr.alloc (.cells #[.int .i64 (k : Int), .int .i64 0, .int .i64 (j : Int)] 66)) := (Below.refl _ _).alloc (Nat.le_refl _) _
              have c1 := kept hb1 ((cell_of_row _ _ 1 _ _ _ hrow).trans (by rfl : _ = some (.bool false)))
              replace h3 := kept hb1 h3
              have hrow9 := (hba.block y (Array.getElem?_eq_some_iff.1 hrow).1).trans hrow
              have HB3 := Lib.hid (HB2.out.below hba)
              gi_wp2
              refine hR.mono ?_
              rintro e W3 (⟨rfl, hJ4, hk4⟩ | ⟨rfl, hJx⟩)
              · have HN : Hid ((pre2 ++ [kindEv pl k j]) ++ (((List.range D).map (kindEv pl k)).drop (j + 1)) ++ restC D pl (k + 1) = candM D pl) := by
                  have := HPRE2.out
                  rw [HS.out] at this
                  rw [Hid]
                  simpa using this
                have hrow4 := hk4 y _ _ (.inl rfl) hrow9
                have HREL : Hid (CiRel b2 b3 J D pl k D y #[.string nm, .bool false, .bool true, .func (.func fv) #[] #[]] (.int .i64 ((j : Int) + 1)) W3) := ⟨j + 1, pre2 ++ [kindEv pl k j], by omega, by simp, HN.out, hJ4, HB3.out.kp hk4, hrow4⟩
                gi_wp2
                go_roundw
                case rel =>
                  first
                    | exact HREL.out
                    | (repeat apply Exists.intro
                       exact ⟨HREL.out, rfl⟩)
                case measure => simp [intOf]; omega
              · gi_wp2
                refine bodyPost_ret (results_none rfl _ _ _) rfl ?_
                exact ⟨⟨_, rfl⟩, .inr ⟨_, trivial, hJx⟩⟩
            · obtain rfl : D = j := by omega
              have HN : Hid (pre2 ++ restC D pl (k + 1) = candM D pl) := by
                have := HPRE2.out
                rw [List.drop_eq_nil_iff.2 (by simp)] at this
                rw [Hid]
                simpa using this
              have HREL : Hid (CoRel b2 b3 J D pl (.int .i64 ((k : Int) + 1)) wr) := ⟨k + 1, pre2, by have := HLT.out; omega, by simp, HN.out, hJ2, HB2.out⟩
              gi_wp2
              go_roundw
              case rel =>
                first
                  | exact HREL.out
                  | (repeat apply Exists.intro
                     exact ⟨HREL.out, rfl⟩)
              case measure => simp [intOf]; omega
        · have HUP : Hid (usesPB (k : Int) = false) := by rw [Hid]; simp [usesPB]; omega
          have HUD : Hid (usesDB (k : Int) = false) := by rw [Hid]; simp [usesDB]; omega
          rw [HUP.out, HUD.out] at hIX
          have HCN : Hid (kindN D k = 1) := by rw [Hid, kindN, HUD.out]; rfl
          have HC1 := Lib.hid hc1
          clear hc1
          have HC2 := Lib.hid hc2
          clear hc2
          have HKF : Hid (pre ++ (List.range 1).map (kindEv pl k) ++ restC D pl (k + 1) = candM D pl) := by
            have := HPRE.out
            rw [restC_succ hlt, kindC, HCN.out, ← List.append_assoc] at this
            exact this
          have hba : Below wr.heap.size wr (wr.alloc (.cells #[.string nm, .bool false, .bool false, .func (.func fv) #[] #[]] 196)) := (Below.refl _ _).alloc (Nat.le_refl _) _
          have ky : (wr.alloc (.cells #[.string nm, .bool false, .bool false, .func (.func fv) #[] #[]] 196)).heap[wr.heap.size]? = some (.cells #[.string nm, .bool false, .bool false, .func (.func fv) #[] #[]] 196 (0, 0)) := by rw [heapq_alloc, if_pos rfl]
          have HREL : Hid (CiRel b2 b3 J D pl k 1 wr.heap.size #[.string nm, .bool false, .bool false, .func (.func fv) #[] #[]] (.int .i64 0) (wr.alloc (.cells #[.string nm, .bool false, .bool false, .func (.func fv) #[] #[]] 196))) := ⟨0, pre, Nat.zero_le _, rfl, by rw [List.drop_zero]; exact HKF.out, hJ _ _ _ none hJp (grown_of_below hba) (fun r e => by cases e), HBK.out.below hba, ky⟩
          have cd := (cell_of_row _ _ 2 _ _ _ ky).trans (by rfl : _ = some (.bool false))
          have h2 := (HBK.out.below hba).c2
          clear ky
          gi_wp2
          generalize wr.alloc (.cells #[.string nm, .bool false, .bool false, .func (.func fv) #[] #[]] 196) = wq at *
          generalize wr.heap.size = y at *
          clear cd h2 hba hIX
          have hd8 : decide ((k : Int) < 8) = true := by simp; omega
          rw [hd8]
          clear hd8
          have HLT := Lib.hid hlt
          clear hlt
          gi_loopw [18] (fun u18 wr => CiRel b2 b3 J D pl k 1 y #[.string nm, .bool false, .bool false, .func (.func fv) #[] #[]] u18 wr) (fun u18 _ => 1 - (intOf u18).toNat)
          case atStart => exact HREL.out
          case round =>
            clear HREL
            obtain ⟨j, pre2, hj, rfl, hpre2, hJ2, hb2, hrow⟩ := hrel
            have HPRE2 := Lib.hid hpre2
            have HB2 := Lib.hid hb2
            have h3 := hb2.c3
            clear hpre2
            by_cases hjl : j < 1
            · have HS : Hid ((((List.range 1).map (kindEv pl k)).drop j) = kindEv pl k j :: (((List.range 1).map (kindEv pl k)).drop (j + 1))) := by
                rw [Hid]
                exact drop_consE (by rw [List.getElem?_map, List.getElem?_range hjl]; rfl)
              have HEV : Hid (kindEv pl k j = ((k : Int), 0, (j : Int))) := by rw [Hid, kindEv, HUP.out]; rfl
              have hlen : pre2.length < (candM D pl).length := by
                rw [← HPRE2.out, HS.out]
                simp
              have hba : Below wr.heap.size wr (wr.alloc (.cells #[.int .i64 (k : Int), .int .i64 0, .int .i64 (j : Int)] 66)) := (Below.refl _ _).alloc (Nat.le_refl _) _
              have hJ3 := hJ _ _ _ none hJ2 (grown_of_below hba) (fun r e => by cases e)
              obtain ⟨fn, tmps, assign, body, hy, hR⟩ := hY pre2 (kindEv pl k j) _ hJ3 hlen
              rw [HEV.out] at hy
              simp only [candEnc] at hy
              have hb1 : Below wr.heap.size wr (wr.alloc (.cells #[.int .i64 (k : Int), .int .i64 0, .int .i64 (j : Int)] 66)) := (Below.refl _ _).alloc (Nat.le_refl _) _
              have c1 := kept hb1 ((cell_of_row _ _ 1 _ _ _ hrow).trans (by rfl : _ = some (.bool false)))
              replace h3 := kept hb1 h3
              have hrow9 := (hba.block y (Array.getElem?_eq_some_iff.1 hrow).1).trans hrow
              have HB3 := Lib.hid (HB2.out.below hba)
              gi_wp2
              refine hR.mono ?_
              rintro e W3 (⟨rfl, hJ4, hk4⟩ | ⟨rfl, hJx⟩)
              · have HN : Hid ((pre2 ++ [kindEv pl k j]) ++ (((List.range 1).map (kindEv pl k)).drop (j + 1)) ++ restC D pl (k + 1) = candM D pl) := by
                  have := HPRE2.out
                  rw [HS.out] at this
                  rw [Hid]
                  simpa using this
                have hrow4 := hk4 y _ _ (.inl rfl) hrow9
                have HREL : Hid (CiRel b2 b3 J D pl k 1 y #[.string nm, .bool false, .bool false, .func (.func fv) #[] #[]] (.int .i64 ((j : Int) + 1)) W3) := ⟨j + 1, pre2 ++ [kindEv pl k j], by omega, by simp, HN.out, hJ4, HB3.out.kp hk4, hrow4⟩
                gi_wp2
                go_roundw
                case rel =>
                  first
                    | exact HREL.out
                    | (repeat apply Exists.intro
                       exact ⟨HREL.out, rfl⟩)
                case measure => simp [intOf]; omega
              · gi_wp2
                refine bodyPost_ret (results_none rfl _ _ _) rfl ?_
                exact ⟨⟨_, rfl⟩, .inr ⟨_, trivial, hJx⟩⟩
            · obtain rfl : 1 = j := by omega
              have HN : Hid (pre2 ++ restC D pl (k + 1) = candM D pl) := by
                have := HPRE2.out
                rw [List.drop_eq_nil_iff.2 (by simp)] at this
                rw [Hid]
                simpa using this
              have HREL : Hid (CoRel b2 b3 J D pl (.int .i64 ((k : Int) + 1)) wr) := ⟨k + 1, pre2, by have := HLT.out; omega, by simp, HN.out, hJ2, HB2.out⟩
              gi_wp2
              go_roundw
              case rel =>
                first
                  | exact HREL.out
                  | (repeat apply Exists.intro
                     exact ⟨HREL.out, rfl⟩)
              case measure => simp [intOf]; omega
    · obtain rfl : k = 8 := by omega
      have HN : Hid (pre = candM D pl) := by
        have := HPRE.out
        rw [restC_end, List.append_nil] at this
        exact this
      gi_wp2
      go_end0
      exact ⟨⟨_, rfl⟩, .inl ⟨pre, HN.out, hJp⟩⟩
end Go.Proofs.YtmcjnfghlpnghaaDoor

namespace Go.Proofs.YtmcjnfghlpnghaaDoor
open Go.RowKit

def PossNo (w : World) (E : Int) (e : Ending) (w' : World) : Prop := e = .returned (.tuple #[.slice none 0 0, .int .i64 E]) ∧ Below w.heap.size w w'
set_option maxRecDepth 100000 in
set_option maxHeartbeats 8000000 in
theorem Possible_no (w : World) (B : Nat) (D T S : Int) (Ag Ad : Option Addr) (ng nd cg cd : Nat) (s : Tr) (pl : Int) (h : StAt w B Ag Ad ng nd s) (hB : B ≤ w.heap.size) (E : Int) (hE : firstE [chkE D T S s, placeE pl] = E) (h0 : E ≠ 0) :
    Calls Tryd.prog 76 #[.agg #[.int .i64 D, .int .i64 T, .int .i64 S], stV s Ag Ad ng nd cg cd, .int .i64 pl] w (PossNo w E) := by
  have hb0 : Below w.heap.size w ((w.alloc (.cells #[.int .i64 D, .int .i64 T, .int .i64 S] 23)).alloc (.cells #[.bool s.mv, .bool s.al, .int .i64 s.place, .slice Ag ng cg, .slice Ad nd cd] 28)) := ((Below.refl _ _).alloc (Nat.le_refl _) _).alloc (by simp) _
  have k0 : ((w.alloc (.cells #[.int .i64 D, .int .i64 T, .int .i64 S] 23)).alloc (.cells #[.bool s.mv, .bool s.al, .int .i64 s.place, .slice Ag ng cg, .slice Ad nd cd] 28)).heap[w.heap.size]? = some (.cells #[.int .i64 D, .int .i64 T, .int .i64 S] 23 (0, 0)) := by rw [heapq_alloc, if_neg (by simp), heapq_alloc, if_pos rfl]
  have k1 : ((w.alloc (.cells #[.int .i64 D, .int .i64 T, .int .i64 S] 23)).alloc (.cells #[.bool s.mv, .bool s.al, .int .i64 s.place, .slice Ag ng cg, .slice Ad nd cd] 28)).heap[w.heap.size + 1]? = some (.cells #[.bool s.mv, .bool s.al, .int .i64 s.place, .slice Ag ng cg, .slice Ad nd cd] 28 (0, 0)) := by rw [heapq_alloc, if_pos (by simp)]
  obtain ⟨a0, a1, a2⟩ := cells3w k0
  obtain ⟨b0, b1, b2, b3, b4⟩ := cells5 k1
  have HST := Lib.hid (h.below (hb0.mono hB))
  have HB0 := Lib.hid hb0
  have HSB := Lib.hid (Nat.le_trans hB hb0.size)
  have HSX := Lib.hid hb0.size
  simp only [stV]
  clear k0 k1 hb0 h
  go_enter Tryd.func76, Tryd.ntmps76
  go_upto_region 1 with (fail)
  generalize ((w.alloc (.cells #[.int .i64 D, .int .i64 T, .int .i64 S] 23)).alloc (.cells #[.bool s.mv, .bool s.al, .int .i64 s.place, .slice Ag ng cg, .slice Ad nd cd] 28)) = w0 at *
  generalize hx : w.heap.size = x at *
  have HX := Lib.hid hx
  clear hx
  have CS := CheckState_any w0 B D T S Ag Ad ng nd cg cd s HST.out HSB.out
  unfold IntPost at CS
  simp only [stV] at CS
  have PE := placeErr_any pl
  have hEh := Lib.hid hE
  have H0 := Lib.hid h0
  have e9 : (E != 0) = true := bne_iff_ne.2 h0
  clear hE h0
  generalize chkE D T S s = ec at *
  generalize placeE pl = ep at *
  go_upto_region 2 with (first | (go_at_call 41; refine CS.mono ?_; rintro e w1 ⟨rfl, hb1⟩) | (go_at_call 126; refine (PE _).mono ?_; rintro e w2 ⟨rfl, rfl⟩) | (go_at_call 91; refine (first2 _ _ _).mono ?_; rintro e w3 ⟨rfl, rfl⟩))
  rw [hEh.out]
  have hb2 := hb1.alloc hb1.size (.cells #[.int .i64 ec, .int .i64 ep] 29)
  generalize w1.alloc (.cells #[.int .i64 ec, .int .i64 ep] 29) = w4 at *
  go_wp2
  go_ret2
  exact ⟨rfl, by rw [HX.out]; exact HB0.out.trans (hb2.mono HSX.out)⟩
end Go.Proofs.YtmcjnfghlpnghaaDoor

namespace Go.Proofs.YtmcjnfghlpnghaaDoor
open Go.RowKit Go.Shelf
attribute [local go_sem] Oper.semAt_some

theorem cand_len (D : Nat) (pl : Int) (hD : D ≤ 6) : (candM D pl).length ≤ 28 := by
  simp only [candM, kindC, kindN, List.length_flatMap, List.length_map, List.length_range]
  simp [List.range_succ, usesDB]
  omega
theorem kpC_t {A B C : World} (h : KpC A B) (k : KpC B C) : KpC A C := fun b cur t ht hb => k b cur t ht (h b cur t ht hb)
theorem kpC_below {W W' : World} (h : Below W.heap.size W W') : KpC W W' := fun b _ _ _ hb => (h.block b (Array.getElem?_eq_some_iff.1 hb).1).trans hb
theorem kpC_grown {W W' : World} {row : Option Nat} (h : W.grownBy W' row) (hr : ∀ r, row = some r → ∀ cur t, t = 196 ∨ t = 3 → W.heap[r]? ≠ some (.cells cur t (0, 0))) : KpC W W' := fun b cur t ht hb => (h.block b (Array.getElem?_eq_some_iff.1 hb).1 (fun e => hr b e.symm cur t ht hb)).trans hb
theorem kpC_b {w : World} (W : World) (l : Nat) (o o' : Obj) (_ : w.heap.size ≤ l) (h : W.heap[l]? = some o) (hc : o.isCells = false) (_ : o.isWalk = false) : KpC W (W.putObj l o') := kpC_grown (grownBy_putObj' W l o') (fun r e cur t _ hr => by
  obtain rfl := Option.some.inj e
  rw [h] at hr
  cases hr
  simp [Obj.isCells] at hc)
/-- what stays as it lay at every round -/
def PossS (w : World) (M B x D : Nat) (T S : Int) (Ag Ad : Option Addr) (cg cd : Nat) (s : Tr) (W : World) : Prop :=
  W.heap[x]? = some (.cells #[.int .i64 D, .int .i64 T, .int .i64 S] 23 (0, 0)) ∧ W.heap[x + 1]? = some (.cells #[.bool s.mv, .bool s.al, .int .i64 s.place, .slice Ag D cg, .slice Ad D cd] 28 (0, 0)) ∧ StAt W B Ag Ad D D s ∧ KindsAt W ∧ Below x w W ∧ M ≤ W.heap.size
theorem PossS.below {w W W' : World} {M B x D N : Nat} {T S : Int} {Ag Ad : Option Addr} {cg cd : Nat} {s : Tr} (h : PossS w M B x D T S Ag Ad cg cd s W) (hb : Below N W W') (hx : x + 2 ≤ N) (hB : B ≤ N) : PossS w M B x D T S Ag Ad cg cd s W' :=
  ⟨(hb.block x (by omega)).trans h.1, (hb.block (x + 1) (by omega)).trans h.2.1, h.2.2.1.below (hb.mono hB), h.2.2.2.1.belowB hb (by omega), h.2.2.2.2.1.trans (hb.mono (by omega)), Nat.le_trans h.2.2.2.2.2 hb.size⟩
def PossYes (w : World) (l : List Ev) (e : Ending) (w' : World) : Prop := ∃ A c, e = .returned (.tuple #[.slice A l.length c, .int .i64 0]) ∧ Rd w' w'.heap.size A (evCells l) ∧ Below w.heap.size w w'
set_option maxRecDepth 100000 in
set_option maxHeartbeats 8000000 in
theorem Possible_yes (w : World) (B : Nat) (D : Nat) (T S : Int) (Ag Ad : Option Addr) (cg cd : Nat) (s : Tr) (pl : Int) (h : StAt w B Ag Ad D D s) (hB : B ≤ w.heap.size) (hk : KindsAt w) (hD : D ≤ 6) (hc : chkE D T S s = 0) (hpl : placeE pl = 0) :
    Calls Tryd.prog 76 #[.agg #[.int .i64 D, .int .i64 T, .int .i64 S], stV s Ag Ad D D cg cd, .int .i64 pl] w (PossYes w (possM D T S s pl)) := by
  have hb0 : Below w.heap.size w ((w.alloc (.cells #[.int .i64 D, .int .i64 T, .int .i64 S] 23)).alloc (.cells #[.bool s.mv, .bool s.al, .int .i64 s.place, .slice Ag D cg, .slice Ad D cd] 28)) := ((Below.refl _ _).alloc (Nat.le_refl _) _).alloc (by simp) _
  have HST := Lib.hid (h.below (hb0.mono hB))
  have HB0 := Lib.hid hb0
  have HSB := Lib.hid (Nat.le_trans hB hb0.size)
  have HSX := Lib.hid hb0.size
  have HK := Lib.hid hk
  simp only [stV]
  have CS := CheckState_any ((w.alloc (.cells #[.int .i64 D, .int .i64 T, .int .i64 S] 23)).alloc (.cells #[.bool s.mv, .bool s.al, .int .i64 s.place, .slice Ag D cg, .slice Ad D cd] 28)) B D T S Ag Ad D D cg cd s HST.out HSB.out
  unfold IntPost at CS
  simp only [stV, hc] at CS
  have PE := placeErr_any pl
  simp only [hpl] at PE
  have k0 : ((w.alloc (.cells #[.int .i64 D, .int .i64 T, .int .i64 S] 23)).alloc (.cells #[.bool s.mv, .bool s.al, .int .i64 s.place, .slice Ag D cg, .slice Ad D cd] 28)).heap[w.heap.size]? = some (.cells #[.int .i64 D, .int .i64 T, .int .i64 S] 23 (0, 0)) := by rw [heapq_alloc, if_neg (by simp), heapq_alloc, if_pos rfl]
  have k1 : ((w.alloc (.cells #[.int .i64 D, .int .i64 T, .int .i64 S] 23)).alloc (.cells #[.bool s.mv, .bool s.al, .int .i64 s.place, .slice Ag D cg, .slice Ad D cd] 28)).heap[w.heap.size + 1]? = some (.cells #[.bool s.mv, .bool s.al, .int .i64 s.place, .slice Ag D cg, .slice Ad D cd] 28 (0, 0)) := by rw [heapq_alloc, if_pos (by simp)]
  have K0 := Lib.hid k0
  have K1 := Lib.hid k1
  clear hb0 h hk k0 k1
  refine (callsIn_wide (n := 3)).1 ?_
  refine callsIn_of_wp_marks Tryd.func76 rfl trivial ?_ rfl
  simp only [Tryd.ntmps76, List.size_toArray, List.length_cons, List.length_nil, Nat.reduceAdd, Nat.reduceSub, Array.replicate_succ, Array.replicate_zero, List.push_toArray, List.append_toArray, List.nil_append, List.cons_append]
  gi_wp2_with (first | (refine ⟨trivial, ?_⟩; gi_at_call 41; refine (callsIn_wide.2 CS).mono ?_; rintro e w1 ⟨rfl, hb1⟩; have hz : Below w1.heap.size w1 ((w1.alloc (.cells #[.int .i64 0, .int .i64 0] 29)).alloc (.cells #[.slice none 0 0] 24)) := ((Below.refl _ _).alloc (Nat.le_refl _) _).alloc (by simp) _; have aZ := kept hz (kept hb1 (cells3w K0.out).1); clear CS) | (refine ⟨trivial, ?_⟩; gi_at_call 126; refine (callsIn_wide.2 (PE _)).mono ?_; rintro e w2 ⟨rfl, rfl⟩) | (refine ⟨trivial, ?_⟩; gi_at_call 91; refine (callsIn_wide.2 (first00 _)).mono ?_; rintro e w3 ⟨rfl, rfl⟩) | (refine ⟨trivial, ?_⟩; gi_at_call 132; refine (callsIn_wide.2 (candidates_any D pl _)).mono ?_; rintro e w5 ⟨b2, b3, rfl, p23, hb5⟩))
  have HB5 := Lib.hid (HB0.out.trans ((hb1.trans ((hz.trans (hb5.mono hz.size)).mono hb1.size)).mono HSX.out))
  have hbW : Below ((w.alloc (.cells #[.int .i64 D, .int .i64 T, .int .i64 S] 23)).alloc (.cells #[.bool s.mv, .bool s.al, .int .i64 s.place, .slice Ag D cg, .slice Ad D cd] 28)).heap.size ((w.alloc (.cells #[.int .i64 D, .int .i64 T, .int .i64 S] 23)).alloc (.cells #[.bool s.mv, .bool s.al, .int .i64 s.place, .slice Ag D cg, .slice Ad D cd] 28)) w5 := hb1.trans ((hz.trans (hb5.mono hz.size)).mono hb1.size)
  have k0 := (hbW.block w.heap.size (by simp; omega)).trans K0.out
  have k1 := (hbW.block (w.heap.size + 1) (by simp)).trans K1.out
  have bx : Boxed w5 (w1.heap.size + 1) 24 (.slice none 0 0) := (hb5.block _ (by simp)).trans (by rw [heapq_alloc, if_pos (by simp)])
  have hst := HST.out.below (hbW.mono HSB.out)
  have hkw := HK.out.below HB5.out
  have hx1 : w.heap.size + 2 ≤ w1.heap.size := by have := hb1.size; simpa using this
  have hB5 : B ≤ w5.heap.size := Nat.le_trans hB HB5.out.size
  have HX5 := Lib.hid HB5.out.size
  clear hbW hb1 hz hb5 aZ K0 K1 HST HK HB0 HSB HSX
  generalize w1.heap.size = y1 at *
  generalize hx : w.heap.size = x at *
  have HX := Lib.hid hx
  clear hx
  have h0 : PossS w w5.heap.size B x D T S Ag Ad cg cd s w5 := ⟨k0, k1, hst, hkw, HB5.out, Nat.le_refl _⟩
  have hy5 := bx.lt
  refine wpIn_rangeFunc_ownH (F := Fence.wide) rfl (by omega) (gf := 162) (lb := #[.pointer (some ⟨b2, 0, none⟩), .pointer (some ⟨b3, 0, none⟩)]) rfl trivial (enters_of Tryd.func162 (by kernel_rfl) rfl)
    (cand_stops (3 - 1) (by omega) b2 b3 D pl hD w5 hkw p23) kpC_t kpC_b (Below.refl _ _) (fun _ => rfl)
    (fun pre W => (∃ v, Boxed W (y1 + 1) 24 v ∧ W.ownsRow (y1 + 1) 66 3 v (pre.filter (accB D T S s)).length (evCells (pre.filter (accB D T S s))) ∧ True) ∧ PossS w w5.heap.size B x D T S Ag Ad cg cd s W)
    (fun _ _ _ => False)
    (OwnFrom.and (Own.from (holdsRow_own (y1 + 1) (y1 + 1) 24 66 3 (fun (pre : List Ev) => (pre.filter (accB D T S s)).length) (fun (pre : List Ev) => evCells (pre.filter (accB D T S s))) (fun _ _ => True)) _)
      (fun _ _ _ _ hs hg hr => hs.below ((Below.refl w5.heap.size _).grown hg hs.2.2.2.2.2 (fun k e => (hr k e).1)) (by omega) hB5))
    (fun _ _ _ _ _ hs _ _ => hs)
    ⟨⟨_, bx, ⟨rfl, .inl ⟨rfl, rfl⟩⟩, trivial⟩, h0⟩
    (fun e a' W => ∃ Bx, y1 + 1 < Bx ∧ W.heap[Bx]? = some (.cells #[.int .i64 e.1, .int .i64 e.2.1, .int .i64 e.2.2] 66 (0, 0)) ∧ a' = ({ tmps := #[.agg #[.int .i64 D, .int .i64 T, .int .i64 S], .agg #[.bool s.mv, .bool s.al, .int .i64 s.place, .slice Ag D cg, .slice Ad D cd], .int .i64 pl, .pointer (some ⟨x, 0, none⟩), .pointer (some ⟨x + 1, 0, none⟩), undef, .slice none 0 0, .int .i64 0, .int .i64 0, .pointer (some ⟨y1 + 1, 0, none⟩), .pointer (some ⟨Bx, 0, none⟩), undef, undef, .agg #[.int .i64 D, .int .i64 T, .int .i64 S], .agg #[.bool s.mv, .bool s.al, .int .i64 s.place, .slice Ag D cg, .slice Ad D cd], .int .i64 0, .int .i64 pl, .int .i64 0, .slice (some ⟨y1, 0, none⟩) 2 2, .int .i64 0, .int .i64 0, .bool false, undef, .pointer (some ⟨x, 0, none⟩), .int .i64 D, .int .i64 pl, .func (.func 162) #[] #[.pointer (some ⟨b2, 0, none⟩), .pointer (some ⟨b3, 0, none⟩)], .agg #[.int .i64 e.1, .int .i64 e.2.1, .int .i64 e.2.2], undef, undef, undef, undef, undef, undef, undef, undef, undef, undef, undef, undef, undef, undef], defers := [] } : Act))
    (fun e a' _ A A' row hs hg hr => by
      obtain ⟨Bx, h1, h2, h3⟩ := hs
      exact ⟨Bx, h1, (hg.block Bx (Array.getElem?_eq_some_iff.1 h2).1 (fun q => by
        obtain ⟨_, o, ho, hoc⟩ := hr Bx q.symm
        rw [h2] at ho
        cases ho
        simp [Obj.isCells] at hoc)).trans h2, h3⟩)
    ?assign ?body ?done ?stop
  case assign =>
    rintro l pre e W K ⟨⟨v, bx1, hown, _⟩, hs⟩ hK
    simp only [candEnc]
    gi_wp2
    have hba : Below W.heap.size W (W.alloc (.cells #[.int .i64 e.1, .int .i64 e.2.1, .int .i64 e.2.2] 66)) := (Below.refl _ _).alloc (Nat.le_refl _) _
    exact hK _ _ ((KeepsOthers.alloc _ _).from _) (kpC_below hba) ⟨⟨v, bx1.alloc _, hown.alloc _, trivial⟩, hs.below hba (by have := hs.2.2.2.2.2; omega) (by have := hs.2.2.2.2.2; omega)⟩ ⟨W.heap.size, by have := hs.2.2.2.2.2; omega, by rw [heapq_alloc, if_pos rfl], rfl⟩
  case body =>
    rintro l pre e a' W hl ⟨rec, hrec⟩ ⟨⟨v, bx1, hown, _⟩, hs⟩ ⟨Bx, hBx, kx, rfl⟩ hlt
    obtain ⟨Ao, co, rfl⟩ := rowForm hown
    obtain ⟨ek, ep, ed⟩ := e
    simp only at kx
    obtain ⟨r0, r1, r2⟩ := cells3w hs.1
    obtain ⟨r3, r4, r5, r6, r7⟩ := cells5 hs.2.1
    obtain ⟨e0, e1, e2⟩ := cells3w kx
    have hsW := hs.2.2.2.2.2
    have AP := Apply_any W B D T S Ag Ad D D cg cd s ek ep ed hs.2.2.1 (by omega) hs.2.2.2.1
    simp only [fullE, hc, if_true, Int.toNat_natCast, stV] at AP
    have HAC : Hid (accB D T S s (ek, ep, ed) = decide (applyE D T S s ek ep ed = 0)) := rfl
    have hro : (Fence.wide.inRound l).round = some l := rfl
    generalize applyE D T S s ek ep ed = cc at *
    by_cases hcc : cc = 0
    · subst hcc
      have hfl : (pre ++ [(ek, ep, ed)]).filter (accB D T S s) = pre.filter (accB D T S s) ++ [(ek, ep, ed)] := by
        rw [List.filter_append, List.filter_cons_of_pos (by rw [HAC.out]; rfl), List.filter_nil]
      have hlen : (pre.filter (accB D T S s)).length ≤ 48 := Nat.le_trans (List.length_filter_le _ _) (by have := cand_len D pl hD; omega)
      obtain ⟨i1, hi1, hy0, hy1, hy2⟩ := info_parts info66
      gi_wp2_with (first | (refine ⟨trivial, ?_⟩; gi_at_call 43; refine (CallsIn.inRound l (callsIn_wide.2 AP)).mono ?_; rintro e' w2 ⟨⟨v, rfl, hv⟩, hb2⟩; rw [if_pos rfl] at hv; obtain ⟨h1, h2, d1', d2', rfl, ho⟩ := hv; simp only [stV]; clear ho AP; have hb6 : Below W.heap.size W (w2.alloc (.cells #[.bool (applyS s ek ep ed).mv, .bool (applyS s ek ep ed).al, .int .i64 (applyS s ek ep ed).place, .slice (some ⟨h1, 0, none⟩) D d1', .slice (some ⟨h2, 0, none⟩) D d2'] 28)) := hb2.alloc hb2.size _; have q9 := (bx1.kept (grown_of_below hb6) (by simp)); have q9c := q9.cell; have q9f := q9.frozen; obtain ⟨f0, f1, f2⟩ := cells3w ((hb6.block Bx (Array.getElem?_eq_some_iff.1 kx).1).trans kx); have ow6 := ownsRow_below hown hb6; have s6 := hb6.size; have kz : ((w2.alloc (.cells #[.bool (applyS s ek ep ed).mv, .bool (applyS s ek ep ed).al, .int .i64 (applyS s ek ep ed).place, .slice (some ⟨h1, 0, none⟩) D d1', .slice (some ⟨h2, 0, none⟩) D d2'] 28)).alloc (.cells #[.int .i64 ek, .int .i64 ep, .int .i64 ed] 66)).heap[w2.heap.size + 1]? = some (.cells #[.int .i64 ek, .int .i64 ep, .int .i64 ed] 66 (0, 0)) := by rw [heapq_alloc, if_pos (by simp)]) | (gi_at_builtin; refine stp ?_))
      unfold Stp
      have hb9 : y1 + 1 ≤ ((w2.alloc (.cells #[.bool (applyS s ek ep ed).mv, .bool (applyS s ek ep ed).al, .int .i64 (applyS s ek ep ed).place, .slice (some ⟨h1, 0, none⟩) D d1', .slice (some ⟨h2, 0, none⟩) D d2'] 28)).alloc (.cells #[.int .i64 ek, .int .i64 ep, .int .i64 ed] 66)).heap.size := by
        have h9 := hs.2.2.2.2.2
        have h8 := s6
        simp at h8 ⊢
        omega
      refine wpListIn_append_own _ rfl _ _ 24 rfl (y1 + 1) 66 i1 _ 3 24 Tryd.underlying24 hi1 hy0 hy1 hy2 rfl (by decide) _ _ _ rfl (ow6.alloc _) ⟨w2.heap.size + 1, 0, none⟩ 1 1 [.int .i64 ek, .int .i64 ep, .int .i64 ed] rfl rfl (news3 (cells3w kz).1 (cells3w kz).2.1 (cells3w kz).2.2) (by simp [Value.oneCell']) (by simp only [maxLen]; omega) (by omega) (hb9) ?_
      intro v' w8 hown8 hgrow8 _
      obtain ⟨g8, cap8, rfl⟩ := ownsRow_succ hown8
      have q9a := q9.alloc (.cells #[.int .i64 ek, .int .i64 ep, .int .i64 ed] 66)
      have o9 := ow6.alloc (.cells #[.int .i64 ek, .int .i64 ep, .int .i64 ed] 66)
      have q8 := q9a.kept hgrow8 (q9a.not_row (by decide) o9)
      have q8c := q8.cell
      have q8f := q8.frozen
      have hne8 := q8.not_row (by decide) hown8
      have hba : Below (w2.alloc (.cells #[.bool (applyS s ek ep ed).mv, .bool (applyS s ek ep ed).al, .int .i64 (applyS s ek ep ed).place, .slice (some ⟨h1, 0, none⟩) D d1', .slice (some ⟨h2, 0, none⟩) D d2'] 28)).heap.size (w2.alloc (.cells #[.bool (applyS s ek ep ed).mv, .bool (applyS s ek ep ed).al, .int .i64 (applyS s ek ep ed).place, .slice (some ⟨h1, 0, none⟩) D d1', .slice (some ⟨h2, 0, none⟩) D d2'] 28)) ((w2.alloc (.cells #[.bool (applyS s ek ep ed).mv, .bool (applyS s ek ep ed).al, .int .i64 (applyS s ek ep ed).place, .slice (some ⟨h1, 0, none⟩) D d1', .slice (some ⟨h2, 0, none⟩) D d2'] 28)).alloc (.cells #[.int .i64 ek, .int .i64 ep, .int .i64 ed] 66)) := (Below.refl _ _).alloc (Nat.le_refl _) _
      have hy1W : y1 + 1 ≤ W.heap.size := by omega
      have hbb := ((hb6.mono hy1W).trans (hba.mono (Nat.le_trans hy1W s6))).grown hgrow8 hb9 (fun q hq => (ownBlk o9 hq).1)
      have hcells : ∀ (j : Nat) (o : Obj), Value.ownBlock (.slice Ao (pre.filter (accB D T S s)).length co) = some j → ((w2.alloc (.cells #[.bool (applyS s ek ep ed).mv, .bool (applyS s ek ep ed).al, .int .i64 (applyS s ek ep ed).place, .slice (some ⟨h1, 0, none⟩) D d1', .slice (some ⟨h2, 0, none⟩) D d2'] 28)).alloc (.cells #[.int .i64 ek, .int .i64 ep, .int .i64 ed] 66)).heap[j]? = some o → ∃ cur, o = .cells cur 66 (0, 0) := fun j o e ho => by
        obtain ⟨_, _, cur, hcur⟩ := ownBlk o9 e
        rw [hcur] at ho
        exact ⟨cur, (Option.some.inj ho).symm⟩
      have hkf : KeepsFrom w5.heap.size W w8 := (KeepsFrom.of_grownBy (grown_of_below hb6) (fun j e => by cases e)).trans ((KeepsFrom.of_grownBy (grown_of_below hba) (fun j e => by cases e)).trans ((KeepsOthers.of_grownBy hgrow8 (fun j o e ho => by obtain ⟨cur, rfl⟩ := hcells j o e ho; rfl)).from _))
      have hkp : KpC W w8 := kpC_t (kpC_below hb6) (kpC_t (kpC_below hba) (kpC_grown hgrow8 (fun r e cur t ht hr => by
        obtain ⟨c9, h9⟩ := hcells r _ e hr
        rcases ht with rfl | rfl <;> simp at h9)))
      clear hcells hba hb6 hb2 ow6 s6 kz f0 f1 f2 q9c q9f o9 q9a q9 hgrow8
      gi_wp2
      refine ⟨hkf.trans ((KeepsOthers.setCell _ _ _).from _), kpC_t hkp (kpC_grown (grownBy_setCell' w8 (y1 + 1) _) (fun r e cur t ht hr => by
        obtain rfl := Option.some.inj e
        rw [show w8.heap[y1 + 1]? = _ from q8] at hr
        rcases ht with rfl | rfl <;> simp at hr)), ⟨_, q8.set _, ?_, trivial⟩, hs.below (hbb.setCell (p := ⟨y1 + 1, 0, none⟩) (Nat.le_refl _) _) (by omega) (by omega)⟩
      rw [hfl, List.length_append, evCells_snoc]
      exact ownsRow_setCell_other hown8 (a := ⟨y1 + 1, 0, none⟩) (Ne.symm hne8) _
    · have e9 : (cc == 0) = false := beq_eq_false_iff_ne.2 hcc
      have HCC := Lib.hid hcc
      gi_wp2_with (refine ⟨trivial, ?_⟩; gi_at_call 43; refine (CallsIn.inRound l (callsIn_wide.2 AP)).mono ?_; rintro e' w2 ⟨⟨v, rfl, hv⟩, hb2⟩; rw [if_neg HCC.out] at hv; subst hv; simp only [zeroSt])
      have hb6 := hb2.alloc hb2.size (.cells #[.bool false, .bool false, .int .i64 0, .slice none 0 0, .slice none 0 0] 28)
      generalize w2.alloc (.cells #[.bool false, .bool false, .int .i64 0, .slice none 0 0, .slice none 0 0] 28) = w6 at *
      have hfl : (pre ++ [(ek, ep, ed)]).filter (accB D T S s) = pre.filter (accB D T S s) := by
        rw [List.filter_append, List.filter_cons_of_neg (by rw [HAC.out]; simpa using HCC.out), List.filter_nil, List.append_nil]
      refine ⟨KeepsFrom.of_grownBy (grown_of_below hb6) (fun j e => by cases e), kpC_below hb6, ⟨.slice Ao (pre.filter (accB D T S s)).length co, bx1.kept (grown_of_below hb6) (by simp), ?_, trivial⟩, hs.below hb6 (by omega) (by omega)⟩
      rw [hfl]
      exact ownsRow_below hown hb6
  case done =>
    rintro N xs W hN rfl ⟨⟨v, bx9, hown, _⟩, hs9⟩ hK
    obtain ⟨Ao, co, rfl⟩ := rowForm hown
    have hv := bx9.cell
    gi_wp2
    refine ⟨by simp, .inl ⟨_, _, rfl, run_takeDeferred hK, ?_⟩⟩
    have hbp : Below x W (W.putObj N (.deferred none)) := (Below.refl x W).grown (grownBy_putObj' W N _) (by have := hs9.2.2.2.2.2; omega) (fun k e => by cases e; omega)
    refine ⟨_, by simp [results, Tryd.results76, go_sem]; rfl, Ao, co, rfl, ?_, ?_⟩
    · exact rd_own (ownsRow_putObj hown _ hK rfl)
    · rw [HX.out]
      exact hs9.2.2.2.2.1.trans hbp
  case stop =>
    rintro N c pre W _ _ h _
    exact h.elim
end Go.Proofs.YtmcjnfghlpnghaaDoor

namespace Go.Proofs.YtmcjnfghlpnghaaDoor
open Go.RowKit
theorem cells4w {W : World} {r t : Nat} {a0 a1 a2 a3 : Value} (h : W.heap[r]? = some (.cells #[a0, a1, a2, a3] t (0, 0))) :
    W.cell? ⟨r, 0, none⟩ = some a0 ∧ W.cell? ⟨r, 1, none⟩ = some a1 ∧ W.cell? ⟨r, 2, none⟩ = some a2 ∧ W.cell? ⟨r, 3, none⟩ = some a3 := by
  refine ⟨?_, ?_, ?_, ?_⟩ <;> rw [cell_of_row _ _ _ _ _ _ h] <;> rfl
def PoCut (w : World) (F : Int) (_v v11 : Value) (W : World) : Prop := v11 = .int .i64 F ∧ Below w.heap.size w W
/-- an event is among the first ones -/
def hasEv (P : List Ev) (k : Nat) (a b c : Int) : Bool := decide ((a, b, c) ∈ P.take k)
theorem hasEv_zero (P : List Ev) (a b c : Int) : hasEv P 0 a b c = false := by simp [hasEv]
theorem hasEv_all (P : List Ev) (a b c : Int) : hasEv P P.length a b c = decide ((a, b, c) ∈ P) := by simp [hasEv]
theorem hasEv_true {P : List Ev} {k : Nat} {a b c : Int} (h : hasEv P k a b c = true) : hasEv P (k + 1) a b c = true := by
  simp only [hasEv, decide_eq_true_eq] at h ⊢
  rw [List.take_add_one]
  exact List.mem_append_left _ h
theorem hasEv_step {P : List Ev} {k : Nat} {a b c x y z : Int} (h : hasEv P k a b c = false) (hk : P[k]? = some (x, y, z)) : hasEv P (k + 1) a b c = decide (x = a ∧ y = b ∧ z = c) := by
  have h1 : (a, b, c) ∉ P.take k := by simpa [hasEv] using h
  unfold hasEv
  rw [List.take_add_one, hk]
  simp only [Option.toList_some, List.mem_append, List.mem_singleton, Prod.mk.injEq, decide_eq_decide]
  constructor
  · rintro (h2 | ⟨rfl, rfl, rfl⟩)
    · exact absurd h2 h1
    · exact ⟨rfl, rfl, rfl⟩
  · rintro ⟨rfl, rfl, rfl⟩
    exact .inr ⟨rfl, rfl, rfl⟩
def PhRel (w : World) (P : List Ev) (m : Nat) (a b c : Int) (u12 u13 : Value) (W : World) : Prop := ∃ k h, k ≤ m ∧ hasEv P k a b c = h ∧ u12 = .bool h ∧ u13 = .int .i64 k ∧ Below w.heap.size w W
set_option maxRecDepth 100000 in
set_option maxHeartbeats 8000000 in
theorem CarePossible_any (w : World) (D T S : Int) (Ag Ad : Option Addr) (ng nd cg cd : Nat) (s : Tr) (pl ek ep ed : Int) (hk : KindsAt w) (h : StAt w w.heap.size Ag Ad ng nd s) :
    Calls Tryd.prog 15 #[.agg #[.int .i64 D, .int .i64 T, .int .i64 S], stV s Ag Ad ng nd cg cd, .agg #[.int .i64 pl, .int .i64 ek, .int .i64 ep, .int .i64 ed]] w (AwakePost w) := by
  have hb0 : Below w.heap.size w (((w.alloc (.cells #[.int .i64 D, .int .i64 T, .int .i64 S] 23)).alloc (.cells #[.bool s.mv, .bool s.al, .int .i64 s.place, .slice Ag ng cg, .slice Ad nd cd] 28)).alloc (.cells #[.int .i64 pl, .int .i64 ek, .int .i64 ep, .int .i64 ed] 122)) :=
    (((Below.refl _ _).alloc (Nat.le_refl _) _).alloc (by simp) _).alloc (by simp; omega) _
  have k0 : (((w.alloc (.cells #[.int .i64 D, .int .i64 T, .int .i64 S] 23)).alloc (.cells #[.bool s.mv, .bool s.al, .int .i64 s.place, .slice Ag ng cg, .slice Ad nd cd] 28)).alloc (.cells #[.int .i64 pl, .int .i64 ek, .int .i64 ep, .int .i64 ed] 122)).heap[w.heap.size]? = some (.cells #[.int .i64 D, .int .i64 T, .int .i64 S] 23 (0, 0)) := by
    rw [heapq_alloc, if_neg (by simp; omega), heapq_alloc, if_neg (by simp), heapq_alloc, if_pos rfl]
  have k1 : (((w.alloc (.cells #[.int .i64 D, .int .i64 T, .int .i64 S] 23)).alloc (.cells #[.bool s.mv, .bool s.al, .int .i64 s.place, .slice Ag ng cg, .slice Ad nd cd] 28)).alloc (.cells #[.int .i64 pl, .int .i64 ek, .int .i64 ep, .int .i64 ed] 122)).heap[w.heap.size + 1]? = some (.cells #[.bool s.mv, .bool s.al, .int .i64 s.place, .slice Ag ng cg, .slice Ad nd cd] 28 (0, 0)) := by
    rw [heapq_alloc, if_neg (by simp), heapq_alloc, if_pos (by simp)]
  have k2 : (((w.alloc (.cells #[.int .i64 D, .int .i64 T, .int .i64 S] 23)).alloc (.cells #[.bool s.mv, .bool s.al, .int .i64 s.place, .slice Ag ng cg, .slice Ad nd cd] 28)).alloc (.cells #[.int .i64 pl, .int .i64 ek, .int .i64 ep, .int .i64 ed] 122)).heap[w.heap.size + 2]? = some (.cells #[.int .i64 pl, .int .i64 ek, .int .i64 ep, .int .i64 ed] 122 (0, 0)) := by
    rw [heapq_alloc, if_pos (by simp)]
  have hs1 : w.heap.size ≤ (((w.alloc (.cells #[.int .i64 D, .int .i64 T, .int .i64 S] 23)).alloc (.cells #[.bool s.mv, .bool s.al, .int .i64 s.place, .slice Ag ng cg, .slice Ad nd cd] 28)).alloc (.cells #[.int .i64 pl, .int .i64 ek, .int .i64 ep, .int .i64 ed] 122)).heap.size := by simp; omega
  obtain ⟨d0, d1, d2⟩ := cells3w k0
  obtain ⟨c0, c1, c2, c3, c4⟩ := cells5 k1
  obtain ⟨v0, v1, v2, v3⟩ := cells4w k2
  have hk0 := hk.below hb0
  have A0 := awake_any _ hk0
  have hst := (h.below hb0).mono hs1
  have HB := Lib.hid hb0
  clear k0 k1 k2 hb0 h hk
  simp only [stV]
  go_enter Tryd.func15, Tryd.ntmps15
  go_upto_region 1 with (fail)
  generalize (((w.alloc (.cells #[.int .i64 D, .int .i64 T, .int .i64 S] 23)).alloc (.cells #[.bool s.mv, .bool s.al, .int .i64 s.place, .slice Ag ng cg, .slice Ad nd cd] 28)).alloc (.cells #[.int .i64 pl, .int .i64 ek, .int .i64 ep, .int .i64 ed] 122)) = w0 at *
  go_wp2_with fail
  refine A0.mono ?_
  rintro e w1 ⟨rfl, hb1⟩
  replace hk0 := hk0.below hb1
  replace d0 := kept hb1 d0
  replace d1 := kept hb1 d1
  replace d2 := kept hb1 d2
  replace c0 := kept hb1 c0
  replace c1 := kept hb1 c1
  replace c2 := kept hb1 c2
  replace c3 := kept hb1 c3
  replace c4 := kept hb1 c4
  replace v0 := kept hb1 v0
  replace v1 := kept hb1 v1
  replace v2 := kept hb1 v2
  replace v3 := kept hb1 v3
  replace hst := (hst.below hb1).mono hb1.size
  replace HB := Lib.hid (HB.out.trans (hb1.mono hs1))
  have hs2 := Nat.le_trans hs1 hb1.size
  clear hb1 A0
  have F := fun b hb => few_any w1 Ag Ad ng nd cg cd s b hb
  simp only [stV] at F
  by_cases hf : (decide ((ng : Int) ≤ 8) && decide ((nd : Int) ≤ 8)) = true
  · have hf2 := hf
    simp only [Bool.and_eq_true, decide_eq_true_eq] at hf2
    obtain ⟨f1, f2⟩ := hf2
    go_upto_region 5 with (go_at_call 39; refine (F _ hf).mono ?_; rintro e w2 ⟨rfl, hb1⟩)
    replace hk0 := hk0.below hb1
    replace d0 := kept hb1 d0
    replace d1 := kept hb1 d1
    replace d2 := kept hb1 d2
    replace c0 := kept hb1 c0
    replace c1 := kept hb1 c1
    replace c2 := kept hb1 c2
    replace c3 := kept hb1 c3
    replace c4 := kept hb1 c4
    replace v0 := kept hb1 v0
    replace v1 := kept hb1 v1
    replace v2 := kept hb1 v2
    replace v3 := kept hb1 v3
    replace hst := (hst.below hb1).mono hb1.size
    replace HB := Lib.hid (HB.out.trans (hb1.mono hs2))
    have hs3 := Nat.le_trans hs2 hb1.size
    have hlt := Nat.lt_of_lt_of_le (lt_of_cell d0) (Nat.le_refl w2.heap.size)
    clear hb1 F hf
    have x0 := fun x : Xt w2 => x.cell d0
    have x1 := fun x : Xt w2 => x.cell d1
    have x2 := fun x : Xt w2 => x.cell d2
    have x3 := fun x : Xt w2 => x.cell c0
    have x4 := fun x : Xt w2 => x.cell c1
    have x5 := fun x : Xt w2 => x.cell c2
    have x6 := fun x : Xt w2 => x.cell c3
    have x7 := fun x : Xt w2 => x.cell c4
    have x8 := fun x : Xt w2 => x.cell v0
    have CP := fun (W : World) (hW : Below w2.heap.size w2 W) => Copy_any W w2.heap.size Ag Ad ng nd cg cd s (hst.below hW) hW.size (by omega) (by omega)
    simp only [stV] at CP
    obtain ⟨E, hE⟩ : ∃ E, firstE [chkE D T S s, placeE pl] = E := ⟨_, rfl⟩
    by_cases hE0 : E = 0
    · have hc : chkE D T S s = 0 := Decidable.byContradiction fun h => by
        rw [firstE, if_neg h] at hE
        omega
      have hp : placeE pl = 0 := Decidable.byContradiction fun h => by
        rw [firstE, if_pos hc, firstE, if_neg h] at hE
        omega
      have hd : doorsE D T S = 0 := Decidable.byContradiction fun h => by
        have h9 := hc
        unfold chkE at h9
        rw [if_neg h] at h9
        exact h h9
      have hS : stateE D T S s = 0 := by
        have h9 := hc
        unfold chkE at h9
        rwa [if_pos hd] at h9
      obtain ⟨⟨hD1, hD2⟩, hT, _⟩ := doorsE_zero hd
      obtain ⟨d, rfl⟩ := Int.eq_ofNat_of_zero_le (show 0 ≤ D by omega)
      have R := right_iff.1 hS
      obtain rfl : d = ng := by rw [← R.lg]; exact hst.lg
      obtain rfl : d = nd := by rw [← R.ld]; exact hst.ld
      have zp := placeE_zero R.place
      have PY := fun (W : World) (Ag Ad : Option Addr) (cg cd : Nat) (h : StAt W W.heap.size Ag Ad d d s) (hk : KindsAt W) => Possible_yes W W.heap.size d T S Ag Ad cg cd s pl h (Nat.le_refl _) hk (by omega) hc hp
      have hpl0 := poss_len d T S s pl (by omega)
      obtain ⟨P, hP⟩ : ∃ P, possM d T S s pl = P := ⟨_, rfl⟩
      rw [hP] at hpl0
      obtain ⟨m, hm⟩ : ∃ m, P.length = m := ⟨_, rfl⟩
      rw [hm] at hpl0
      have hm9 : m ≤ 1000000000 := by omega
      have HM9 := Lib.hid hm9
      have HM := Lib.hid hm
      have HP := Lib.hid hP
      unfold PossYes at PY
      simp only [stV] at PY
      rw [hP, hm] at PY
      clear hpl0 hm hm9 hP
      refine wp_region_eager [10] (fun w' => ∃ x : Xt w2, w' = x.1) (by kernel_rfl) ⟨⟨w2.drew, (Below.refl _ _).drew⟩, rfl⟩ ?_
      refine wpE_reads [0, 1, 3, 4] 7 rfl (by kernel_rfl) ?_
      simp only [opsAt_nil, opsAt_cons, consOpt_some, List.getElem?_toArray, List.getElem?_cons_zero, List.getElem?_cons_succ]
      repeat (go_big_quiet_step (fail))
      refine wpQuiet_nil ?_
      have hbd : Below w2.heap.size w2 w2.drew := (Below.refl _ _).drew
      show wpE _ _ _ _ _ _ _ _ _ w2.drew
      generalize w2.drew = wd at *
      refine wpE_one (i := 2) rfl (by kernel_rfl) rfl ?_
      unfold wpMid
      simp only [opsAt_nil, opsAt_cons, consOpt_some, List.getElem?_toArray, List.getElem?_cons_zero, List.getElem?_cons_succ]
      go_wp2_with (go_at_call 42; refine (CP wd hbd).mono ?_; rintro e wA ⟨g1, g2, m1, m2, rfl, ho, hbT⟩; simp only [stV])
      have hbA := hbd.trans (hbT.mono hbd.size)
      have hat := ho.at_ (by omega) (by omega)
      refine onlyNormal_mk ⟨⟨⟨_, hbA⟩, rfl⟩, ?_⟩
      refine wpE_one (i := 5) rfl (by kernel_rfl) rfl ?_
      unfold wpMid
      simp only [opsAt_nil, opsAt_cons, consOpt_some, List.getElem?_toArray, List.getElem?_cons_zero, List.getElem?_cons_succ]
      go_wp2_with (go_at_call 76; refine (PY wA (some ⟨g1, 0, none⟩) (some ⟨g2, 0, none⟩) m1 m2 hat (hk0.below hbA)).mono ?_; rintro e wB ⟨Ap, cp, rfl, hps, hbU⟩)
      have hbB := hbA.trans (hbU.mono hbA.size)
      refine onlyNormal_mk ⟨⟨⟨_, hbB⟩, rfl⟩, ?_⟩
      refine wpE_reads [6, 7, 8, 9] 1 rfl (by kernel_rfl) ?_
      simp only [opsAt_nil, opsAt_cons, consOpt_some, List.getElem?_toArray, List.getElem?_cons_zero, List.getElem?_cons_succ]
      repeat (go_big_quiet_step (fail))
      refine wpQuiet_nil ?_
      refine wpE_tail rfl (by kernel_rfl) ?_
      simp only [opsAt_nil, opsAt_cons, consOpt_some, List.getElem?_toArray, List.getElem?_cons_zero, List.getElem?_cons_succ]
      go_wp2
      refine onlyNormal_mk ?_
      have hb1 := hbB
      clear CP PY ho hat hbT hbA hbU hbd hbB x0 x1 x2 x3 x4 x5 x6 x7 x8
      replace hk0 := hk0.below hb1
      replace d0 := kept hb1 d0
      replace d1 := kept hb1 d1
      replace d2 := kept hb1 d2
      replace c0 := kept hb1 c0
      replace c1 := kept hb1 c1
      replace c2 := kept hb1 c2
      replace c3 := kept hb1 c3
      replace c4 := kept hb1 c4
      replace v0 := kept hb1 v0
      replace v1 := kept hb1 v1
      replace v2 := kept hb1 v2
      replace v3 := kept hb1 v3
      replace hst := (hst.below hb1).mono hb1.size
      replace HB := Lib.hid (HB.out.trans (hb1.mono hs3))
      replace hs3 := Nat.le_trans hs3 hb1.size
      clear hb1
      have DE := DoorsErr_any d T S
      have SE := fun (W : World) (h : StAt W W.heap.size Ag Ad d d s) => StateErr_any W W.heap.size d T S Ag Ad d d cg cd s h (Nat.le_refl _) hT
      unfold IntPost at SE
      simp only [stV, hS] at SE
      simp only [hd] at DE
      have PE := fun W => PlaceErr_val pl 0 hp W
      have RP := fun (W : World) (h : StAt W W.heap.size Ag Ad d d s) => refPossible_any W W.heap.size d T S Ag Ad cg cd s pl h (Nat.le_refl _) (by omega) zp hT hp
      unfold PossPost at RP
      simp only [stV] at RP
      rw [HP.out, HM.out] at RP
      have HCH := Lib.hid hc
      clear hE hE0 hc hp hd hS R hT zp hD1
      go_upto_region 7 with (go_at_call 22; refine (DE _).mono ?_; rintro e w4 ⟨rfl, hb1⟩)
      replace hps := (hps.below hb1).mono hb1.size
      replace hk0 := hk0.below hb1
      replace d0 := kept hb1 d0
      replace d1 := kept hb1 d1
      replace d2 := kept hb1 d2
      replace c0 := kept hb1 c0
      replace c1 := kept hb1 c1
      replace c2 := kept hb1 c2
      replace c3 := kept hb1 c3
      replace c4 := kept hb1 c4
      replace v0 := kept hb1 v0
      replace v1 := kept hb1 v1
      replace v2 := kept hb1 v2
      replace v3 := kept hb1 v3
      replace hst := (hst.below hb1).mono hb1.size
      replace HB := Lib.hid (HB.out.trans (hb1.mono hs3))
      replace hs3 := Nat.le_trans hs3 hb1.size
      clear hb1
      go_upto_region 9 with (go_at_call 40; refine (SE _ hst).mono ?_; rintro e w5 ⟨rfl, hb1⟩)
      replace hps := (hps.below hb1).mono hb1.size
      replace hk0 := hk0.below hb1
      replace d0 := kept hb1 d0
      replace d1 := kept hb1 d1
      replace d2 := kept hb1 d2
      replace c0 := kept hb1 c0
      replace c1 := kept hb1 c1
      replace c2 := kept hb1 c2
      replace c3 := kept hb1 c3
      replace c4 := kept hb1 c4
      replace v0 := kept hb1 v0
      replace v1 := kept hb1 v1
      replace v2 := kept hb1 v2
      replace v3 := kept hb1 v3
      replace hst := (hst.below hb1).mono hb1.size
      replace HB := Lib.hid (HB.out.trans (hb1.mono hs3))
      replace hs3 := Nat.le_trans hs3 hb1.size
      clear hb1
      go_upto_region 13 with (go_at_call 23; refine (PE _).mono ?_; rintro e w6 ⟨rfl, rfl⟩)
      go_upto_region 15 with (first | (go_at_call 78; refine (RP _ hst).mono ?_; rintro e w6 ⟨Aq, cq, rfl, hqs, hb1⟩; replace hps := (hps.below hb1).mono hb1.size; replace hk0 := hk0.below hb1; replace d0 := kept hb1 d0; replace d1 := kept hb1 d1; replace d2 := kept hb1 d2; replace c0 := kept hb1 c0; replace c1 := kept hb1 c1; replace c2 := kept hb1 c2; replace c3 := kept hb1 c3; replace c4 := kept hb1 c4; replace v0 := kept hb1 v0; replace v1 := kept hb1 v1; replace v2 := kept hb1 v2; replace v3 := kept hb1 v3; replace hst := (hst.below hb1).mono hb1.size; replace HB := Lib.hid (HB.out.trans (hb1.mono hs3)); replace hs3 := Nat.le_trans hs3 hb1.size; clear hb1) | (go_at_call 77; refine (SameEvents_same Ap Aq m cp cq w6.heap.size w6.heap.size P w6 HM9.out HM.out hps hqs (Nat.le_refl _) (Nat.le_refl _)).mono ?_; rintro e w7 ⟨rfl, hb1⟩; replace hps := (hps.below hb1).mono hb1.size; clear hqs; replace hk0 := hk0.below hb1; replace d0 := kept hb1 d0; replace d1 := kept hb1 d1; replace d2 := kept hb1 d2; replace c0 := kept hb1 c0; replace c1 := kept hb1 c1; replace c2 := kept hb1 c2; replace c3 := kept hb1 c3; replace c4 := kept hb1 c4; replace v0 := kept hb1 v0; replace v1 := kept hb1 v1; replace v2 := kept hb1 v2; replace v3 := kept hb1 v3; replace hst := (hst.below hb1).mono hb1.size; replace HB := Lib.hid (HB.out.trans (hb1.mono hs3)); replace hs3 := Nat.le_trans hs3 hb1.size; clear hb1))
      clear RP PE SE DE
      have x0 := fun x : Xt w7 => x.cell d0
      have x1 := fun x : Xt w7 => x.cell d1
      have x2 := fun x : Xt w7 => x.cell d2
      have x3 := fun x : Xt w7 => x.cell c0
      have x4 := fun x : Xt w7 => x.cell c1
      have x5 := fun x : Xt w7 => x.cell c2
      have x6 := fun x : Xt w7 => x.cell c3
      have x7 := fun x : Xt w7 => x.cell c4
      have x8 := fun x : Xt w7 => x.cell v1
      have x9 := fun x : Xt w7 => x.cell v2
      have x10 := fun x : Xt w7 => x.cell v3
      have CP := fun (W : World) (hW : Below w7.heap.size w7 W) => Copy_any W w7.heap.size Ag Ad d d cg cd s (hst.below hW) hW.size (by omega) (by omega)
      simp only [stV] at CP
      obtain ⟨F, hF⟩ : ∃ F, fullE d T S s ek ep ed = F := ⟨_, rfl⟩
      obtain ⟨sC, hsC⟩ : ∃ sC, (if F = 0 then applyS s ek ep ed else zeroTr) = sC := ⟨_, rfl⟩
      have AP : ∀ (W : World) (Ag Ad : Option Addr) (cg cd : Nat), KindsAt W → StAt W W.heap.size Ag Ad d d s → Calls Tryd.prog 43 #[.agg #[.int .i64 d, .int .i64 T, .int .i64 S], stV s Ag Ad d d cg cd, .agg #[.int .i64 ek, .int .i64 ep, .int .i64 ed]] W (ApRes W sC F) := by
        intro W Ag Ad cg cd hk h
        rw [← hsC, ← hF]
        exact (Apply_any W W.heap.size d T S Ag Ad d d cg cd s ek ep ed h (Nat.le_refl _) hk).mono fun e w' hp => apRes_of (by omega) hp
      simp only [stV] at AP
      have HF := Lib.hid hF
      clear hF hsC
      go_cut [10, 11] from 16 (fun s10 s11 wc => PoCut w7 F s10 s11 wc)
      case first =>
        refine wp_region_eager [11] (fun w' => ∃ x : Xt w7, w' = x.1) (by kernel_rfl) ⟨⟨w7.drew, (Below.refl _ _).drew⟩, rfl⟩ ?_
        refine wpE_reads [0, 1, 3, 4] 8 rfl (by kernel_rfl) ?_
        simp only [opsAt_nil, opsAt_cons, consOpt_some, List.getElem?_toArray, List.getElem?_cons_zero, List.getElem?_cons_succ]
        repeat (go_big_quiet_step (fail))
        refine wpQuiet_nil ?_
        have hbd : Below w7.heap.size w7 w7.drew := (Below.refl _ _).drew
        show wpE _ _ _ _ _ _ _ _ _ w7.drew
        generalize w7.drew = wd at *
        refine wpE_two (i := 2) (k := 9) rfl (by kernel_rfl) rfl rfl ?_ ?_
        · unfold wpMid
          simp only [opsAt_nil, opsAt_cons, consOpt_some, List.getElem?_toArray, List.getElem?_cons_zero, List.getElem?_cons_succ]
          go_wp2_with (go_at_call 42; refine (CP wd hbd).mono ?_; rintro e wA ⟨a1, a2, m1, m2, rfl, ho, hbT⟩; simp only [stV])
          have hbA := hbd.trans (hbT.mono hbd.size)
          refine onlyNormal_mk ⟨⟨⟨_, hbA⟩, rfl⟩, ?_⟩
          refine wpE_two (i := 5) (k := 9) rfl (by kernel_rfl) rfl rfl ?_ ?_
          · unfold wpMid
            simp only [opsAt_nil, opsAt_cons, consOpt_some, List.getElem?_toArray, List.getElem?_cons_zero, List.getElem?_cons_succ]
            go_wp2_with (go_at_call 43; refine (AP wA _ _ _ _ (hk0.below hbA) (ho.at_ (by omega) (by omega))).mono ?_; rintro e wB ⟨A1, A2, n1, n2, p1, p2, rfl, hst', f1', f2', hbS⟩; simp only [stV])
            have hbB := hbA.trans (hbS.mono hbA.size)
            refine onlyNormal_mk ⟨⟨⟨_, hbB⟩, rfl⟩, ?_⟩
            refine wpE_reads [6, 7, 8] 3 rfl (by kernel_rfl) ?_
            simp only [opsAt_nil, opsAt_cons, consOpt_some, List.getElem?_toArray, List.getElem?_cons_zero, List.getElem?_cons_succ]
            repeat (go_big_quiet_step (fail))
            refine wpQuiet_nil ?_
            refine wpE_one (i := 9) rfl (by kernel_rfl) rfl ?_
            unfold wpMid
            simp only [opsAt_nil, opsAt_cons, consOpt_some, List.getElem?_toArray, List.getElem?_cons_zero, List.getElem?_cons_succ]
            go_wp2
            have ky0 : (wB.alloc (.cells #[.bool false, .bool false, .int .i64 0, .slice none 0 0, .slice none 0 0] 28)).heap[wB.heap.size]? = some (.cells #[.bool false, .bool false, .int .i64 0, .slice none 0 0, .slice none 0 0] 28 (0, 0)) := by rw [heapq_alloc, if_pos rfl]
            have hbY := hbB.alloc hbB.size (.cells #[.bool false, .bool false, .int .i64 0, .slice none 0 0, .slice none 0 0] 28)
            have hyl := hbB.size
            have hstY := hst'.below ((Below.refl _ _).alloc (Nat.le_refl _) (.cells #[.bool false, .bool false, .int .i64 0, .slice none 0 0, .slice none 0 0] 28))
            generalize wB.alloc (.cells #[.bool false, .bool false, .int .i64 0, .slice none 0 0, .slice none 0 0] 28) = wY at *
            generalize wB.heap.size = y at *
            refine onlyNormal_mk ⟨⟨⟨_, hbY⟩, rfl⟩, ?_⟩
            obtain ⟨t0, t1, t2, t3, t4, q0, q1, q2, q3, q4⟩ := res5 ky0
            refine wpE_one (i := 10) rfl (by kernel_rfl) rfl ?_
            unfold wpMid
            simp only [opsAt_nil, opsAt_cons, consOpt_some, List.getElem?_toArray, List.getElem?_cons_zero, List.getElem?_cons_succ]
            go_wp2
            refine onlyNormal_mk ⟨⟨⟨_, hbY.trans (put5_below _ _ _ _ _ hyl)⟩, rfl⟩, ?_⟩
            refine wpE_tail rfl (by kernel_rfl) ?_
            simp only [opsAt_nil, opsAt_cons, consOpt_some, List.getElem?_toArray, List.getElem?_cons_zero, List.getElem?_cons_succ]
            go_wp2
            refine onlyNormal_mk ?_
            go_wp2_with fail
            go_meet
            exact ⟨rfl, hbY.trans (put5_below _ _ _ _ _ hyl)⟩
          · unfold wpMid
            simp only [opsAt_nil, opsAt_cons, consOpt_some, List.getElem?_toArray, List.getElem?_cons_zero, List.getElem?_cons_succ]
            go_wp2
            have ky0 : (wA.alloc (.cells #[.bool false, .bool false, .int .i64 0, .slice none 0 0, .slice none 0 0] 28)).heap[wA.heap.size]? = some (.cells #[.bool false, .bool false, .int .i64 0, .slice none 0 0, .slice none 0 0] 28 (0, 0)) := by rw [heapq_alloc, if_pos rfl]
            have hbY := hbA.alloc hbA.size (.cells #[.bool false, .bool false, .int .i64 0, .slice none 0 0, .slice none 0 0] 28)
            have hyl := hbA.size
            have hoY := ho.below ((Below.refl wA.heap.size wA).alloc (Nat.le_refl _) (.cells #[.bool false, .bool false, .int .i64 0, .slice none 0 0, .slice none 0 0] 28))
            generalize wA.alloc (.cells #[.bool false, .bool false, .int .i64 0, .slice none 0 0, .slice none 0 0] 28) = wY at *
            generalize wA.heap.size = y at *
            refine onlyNormal_mk ⟨⟨⟨_, hbY⟩, rfl⟩, ?_⟩
            refine wpE_one (i := 5) rfl (by kernel_rfl) rfl ?_
            unfold wpMid
            simp only [opsAt_nil, opsAt_cons, consOpt_some, List.getElem?_toArray, List.getElem?_cons_zero, List.getElem?_cons_succ]
            go_wp2_with (go_at_call 43; refine (AP wY _ _ _ _ (hk0.below hbY) (hoY.at_ (by omega) (by omega))).mono ?_; rintro e wB ⟨A1, A2, n1, n2, p1, p2, rfl, hst', f1', f2', hbS⟩; simp only [stV])
            have hbB := hbY.trans (hbS.mono hbY.size)
            have ky := (hbS.block y (lt_of_block ky0)).trans ky0
            refine onlyNormal_mk ⟨⟨⟨_, hbB⟩, rfl⟩, ?_⟩
            refine wpE_reads [6, 7, 8] 2 rfl (by kernel_rfl) ?_
            simp only [opsAt_nil, opsAt_cons, consOpt_some, List.getElem?_toArray, List.getElem?_cons_zero, List.getElem?_cons_succ]
            repeat (go_big_quiet_step (fail))
            refine wpQuiet_nil ?_
            obtain ⟨t0, t1, t2, t3, t4, q0, q1, q2, q3, q4⟩ := res5 ky
            refine wpE_one (i := 10) rfl (by kernel_rfl) rfl ?_
            unfold wpMid
            simp only [opsAt_nil, opsAt_cons, consOpt_some, List.getElem?_toArray, List.getElem?_cons_zero, List.getElem?_cons_succ]
            go_wp2
            refine onlyNormal_mk ⟨⟨⟨_, hbB.trans (put5_below _ _ _ _ _ hyl)⟩, rfl⟩, ?_⟩
            refine wpE_tail rfl (by kernel_rfl) ?_
            simp only [opsAt_nil, opsAt_cons, consOpt_some, List.getElem?_toArray, List.getElem?_cons_zero, List.getElem?_cons_succ]
            go_wp2
            refine onlyNormal_mk ?_
            go_wp2_with fail
            go_meet
            exact ⟨rfl, hbB.trans (put5_below _ _ _ _ _ hyl)⟩
        · unfold wpMid
          simp only [opsAt_nil, opsAt_cons, consOpt_some, List.getElem?_toArray, List.getElem?_cons_zero, List.getElem?_cons_succ]
          go_wp2
          have ky0 : (wd.alloc (.cells #[.bool false, .bool false, .int .i64 0, .slice none 0 0, .slice none 0 0] 28)).heap[wd.heap.size]? = some (.cells #[.bool false, .bool false, .int .i64 0, .slice none 0 0, .slice none 0 0] 28 (0, 0)) := by rw [heapq_alloc, if_pos rfl]
          have hbY := hbd.alloc hbd.size (.cells #[.bool false, .bool false, .int .i64 0, .slice none 0 0, .slice none 0 0] 28)
          have hyl := hbd.size
          generalize wd.alloc (.cells #[.bool false, .bool false, .int .i64 0, .slice none 0 0, .slice none 0 0] 28) = wY at *
          generalize wd.heap.size = y at *
          refine onlyNormal_mk ⟨⟨⟨_, hbY⟩, rfl⟩, ?_⟩
          refine wpE_one (i := 2) rfl (by kernel_rfl) rfl ?_
          unfold wpMid
          simp only [opsAt_nil, opsAt_cons, consOpt_some, List.getElem?_toArray, List.getElem?_cons_zero, List.getElem?_cons_succ]
          go_wp2_with (go_at_call 42; refine (CP wY hbY).mono ?_; rintro e wA ⟨a1, a2, m1, m2, rfl, ho, hbT⟩; simp only [stV])
          have hbA := hbY.trans (hbT.mono hbY.size)
          have ky1 := (hbT.block y (lt_of_block ky0)).trans ky0
          refine onlyNormal_mk ⟨⟨⟨_, hbA⟩, rfl⟩, ?_⟩
          refine wpE_one (i := 5) rfl (by kernel_rfl) rfl ?_
          unfold wpMid
          simp only [opsAt_nil, opsAt_cons, consOpt_some, List.getElem?_toArray, List.getElem?_cons_zero, List.getElem?_cons_succ]
          go_wp2_with (go_at_call 43; refine (AP wA _ _ _ _ (hk0.below hbA) (ho.at_ (by omega) (by omega))).mono ?_; rintro e wB ⟨A1, A2, n1, n2, p1, p2, rfl, hst', f1', f2', hbS⟩; simp only [stV])
          have hbB := hbA.trans (hbS.mono hbA.size)
          have ky := (hbS.block y (lt_of_block ky1)).trans ky1
          refine onlyNormal_mk ⟨⟨⟨_, hbB⟩, rfl⟩, ?_⟩
          refine wpE_reads [6, 7, 8] 2 rfl (by kernel_rfl) ?_
          simp only [opsAt_nil, opsAt_cons, consOpt_some, List.getElem?_toArray, List.getElem?_cons_zero, List.getElem?_cons_succ]
          repeat (go_big_quiet_step (fail))
          refine wpQuiet_nil ?_
          obtain ⟨t0, t1, t2, t3, t4, q0, q1, q2, q3, q4⟩ := res5 ky
          refine wpE_one (i := 10) rfl (by kernel_rfl) rfl ?_
          unfold wpMid
          simp only [opsAt_nil, opsAt_cons, consOpt_some, List.getElem?_toArray, List.getElem?_cons_zero, List.getElem?_cons_succ]
          go_wp2
          refine onlyNormal_mk ⟨⟨⟨_, hbB.trans (put5_below _ _ _ _ _ hyl)⟩, rfl⟩, ?_⟩
          refine wpE_tail rfl (by kernel_rfl) ?_
          simp only [opsAt_nil, opsAt_cons, consOpt_some, List.getElem?_toArray, List.getElem?_cons_zero, List.getElem?_cons_succ]
          go_wp2
          refine onlyNormal_mk ?_
          go_wp2_with fail
          go_meet
          exact ⟨rfl, hbB.trans (put5_below _ _ _ _ _ hyl)⟩
      case rest =>
        obtain ⟨rfl, hb1⟩ := hcut
        replace hps := (hps.below hb1).mono hb1.size
        replace v0 := kept hb1 v0
        replace v1 := kept hb1 v1
        replace v2 := kept hb1 v2
        replace v3 := kept hb1 v3
        replace HB := Lib.hid (HB.out.trans (hb1.mono hs3))
        replace hs3 := Nat.le_trans hs3 hb1.size
        clear hb1 x0 x1 x2 x3 x4 x5 x6 x7 x8 x9 x10 AP CP d0 d1 d2 c0 c1 c2 c3 c4 hst hk0
        go_wp2
        go_loopw [12, 13] (fun u12 u13 wr => PhRel wc P m ek ep ed u12 u13 wr) (fun _ u13 _ => m - (intOf u13).toNat)
        case atStart => exact ⟨0, false, Nat.zero_le _, hasEv_zero P ek ep ed, rfl, rfl, Below.refl _ _⟩
        case round =>
          obtain ⟨k, h, hk, hh, rfl, rfl, hb⟩ := hrel
          have HBW := Lib.hid hb
          have hm9 := HM9.out
          have hsz := hb.size
          replace v0 := kept hb v0
          replace v1 := kept hb v1
          replace v2 := kept hb v2
          replace v3 := kept hb v3
          by_cases hlt : k < m
          · have hkl : k < P.length := by rw [HM.out]; exact hlt
            obtain ⟨ev, hev⟩ : ∃ ev, P[k]? = some ev := ⟨_, List.getElem?_eq_getElem hkl⟩
            obtain ⟨z0, z1, z2⟩ := evCells_at P k ev hev
            obtain ⟨b, off, rfl, _, l0, l1, l2⟩ := (hps.below hb).at3 z0 z1 z2
            obtain ⟨x, y, z⟩ := ev
            simp only at l0 l1 l2
            clear hkl hb z0 z1 z2
            cases h with
            | true =>
              have HH := Lib.hid (hasEv_true (a := ek) (b := ep) (c := ed) hh)
              clear hh hev
              go_upto_region 20 with (fail)
              refine wp_region_xt (by kernel_rfl) (by kernel_rfl) ?_
              repeat (go_big_quiet_step (fail))
              refine wpQuiet_nil ?_
              intro w1 hx
              have hb1 := Xt.below hx
              clear hx
              have HBN := Lib.hid (HBW.out.trans (hb1.mono hsz))
              clear hb1
              go_wp2
              go_roundw
              case rel => exact ⟨k + 1, true, by omega, HH.out, rfl, by go_num, HBN.out⟩
              case measure => simp [intOf]; omega
            | false =>
              have y0 := fun q : Xt wr => q.cell l0
              have y1 := fun q : Xt wr => q.cell l1
              have y2 := fun q : Xt wr => q.cell l2
              have y3 := fun q : Xt wr => q.cell v1
              have y4 := fun q : Xt wr => q.cell v2
              have y5 := fun q : Xt wr => q.cell v3
              obtain ⟨q, hq⟩ : ∃ q, decide (x = ek ∧ y = ep ∧ z = ed) = q := ⟨_, rfl⟩
              have E3 := fun W => run_eq3 x y z ek ep ed W
              have HH := Lib.hid ((hasEv_step hh hev).trans hq)
              simp only [hq] at E3
              clear hh hev hq
              go_upto_region 20 with (fail)
              refine wp_region_xt (by kernel_rfl) (by kernel_rfl) ?_
              repeat (go_big_quiet_step (fail))
              refine wpQuiet_nil ?_
              intro w1 hx
              have hb1 := Xt.below hx
              clear hx y0 y1 y2 y3 y4 y5
              have HBN := Lib.hid (HBW.out.trans (hb1.mono hsz))
              clear hb1
              go_wp2
              go_roundw
              case rel => exact ⟨k + 1, q, by omega, HH.out, rfl, by go_num, HBN.out⟩
              case measure => simp [intOf]; omega
          · have hkm : k = m := by omega
            have hall : h = decide ((ek, ep, ed) ∈ P) := by
              rw [← hh, hkm, ← HM.out]
              exact hasEv_all P ek ep ed
            have hFa : applyE d T S s ek ep ed = F := by
              have h9 := HF.out
              unfold fullE at h9
              rw [if_pos HCH.out, Int.toNat_natCast] at h9
              exact h9
            have hmem : ¬(ek = 1 ∧ ep ≠ pl) → ((ek, ep, ed) ∈ P ↔ F = 0) := fun hne => by
              rw [← HP.out, poss_has hne, hFa]
            have HE9 := Lib.hid (HB.out.trans (hb.mono hs3))
            clear hkm hFa hb HBW hh
            by_cases hF0 : F = 0
            · subst hF0
              cases h with
              | true =>
                clear hall hmem
                go_wp2
                go_ret
                exact ⟨rfl, HE9.out⟩
              | false =>
                have hne : ek = 1 ∧ ep ≠ pl := Decidable.byContradiction fun hne => by
                  have := (hmem hne).2 rfl
                  simp [this] at hall
                obtain ⟨rfl, hne⟩ := hne
                have e1 : (ep != pl) = true := bne_iff_ne.2 hne
                clear hall hmem
                go_wp2
                go_ret
                exact ⟨rfl, HE9.out⟩
            · have e0 : (F == 0) = false := beq_eq_false_iff_ne.2 hF0
              cases h with
              | true =>
                have hne : ek = 1 ∧ ep ≠ pl := Decidable.byContradiction fun hne => by
                  exact hF0 ((hmem hne).1 (by simpa using hall.symm))
                obtain ⟨rfl, hne⟩ := hne
                have e1 : (ep != pl) = true := bne_iff_ne.2 hne
                clear hall hmem
                go_wp2
                go_ret
                exact ⟨rfl, HE9.out⟩
              | false =>
                clear hall hmem
                go_wp2
                go_ret
                exact ⟨rfl, HE9.out⟩
    · have PN := fun (W : World) (Ag Ad : Option Addr) (cg cd : Nat) (h : StAt W W.heap.size Ag Ad ng nd s) => Possible_no W W.heap.size D T S Ag Ad ng nd cg cd s pl h (Nat.le_refl _) E hE hE0
      unfold PossNo at PN
      simp only [stV] at PN
      refine wp_region_eager [10] (fun w' => ∃ x : Xt w2, w' = x.1) (by kernel_rfl) ⟨⟨w2.drew, (Below.refl _ _).drew⟩, rfl⟩ ?_
      refine wpE_reads [0, 1, 3, 4] 7 rfl (by kernel_rfl) ?_
      simp only [opsAt_nil, opsAt_cons, consOpt_some, List.getElem?_toArray, List.getElem?_cons_zero, List.getElem?_cons_succ]
      repeat (go_big_quiet_step (fail))
      refine wpQuiet_nil ?_
      have hbd : Below w2.heap.size w2 w2.drew := (Below.refl _ _).drew
      show wpE _ _ _ _ _ _ _ _ _ w2.drew
      generalize w2.drew = wd at *
      refine wpE_one (i := 2) rfl (by kernel_rfl) rfl ?_
      unfold wpMid
      simp only [opsAt_nil, opsAt_cons, consOpt_some, List.getElem?_toArray, List.getElem?_cons_zero, List.getElem?_cons_succ]
      go_wp2_with (go_at_call 42; refine (CP wd hbd).mono ?_; rintro e wA ⟨g1, g2, m1, m2, rfl, ho, hbT⟩; simp only [stV])
      have hbA := hbd.trans (hbT.mono hbd.size)
      have hat := ho.at_ (by omega) (by omega)
      refine onlyNormal_mk ⟨⟨⟨_, hbA⟩, rfl⟩, ?_⟩
      refine wpE_one (i := 5) rfl (by kernel_rfl) rfl ?_
      unfold wpMid
      simp only [opsAt_nil, opsAt_cons, consOpt_some, List.getElem?_toArray, List.getElem?_cons_zero, List.getElem?_cons_succ]
      go_wp2_with (go_at_call 76; refine (PN wA (some ⟨g1, 0, none⟩) (some ⟨g2, 0, none⟩) m1 m2 hat).mono ?_; rintro e wB ⟨rfl, hbU⟩)
      have hbB := hbA.trans (hbU.mono hbA.size)
      refine onlyNormal_mk ⟨⟨⟨_, hbB⟩, rfl⟩, ?_⟩
      refine wpE_reads [6, 7, 8, 9] 1 rfl (by kernel_rfl) ?_
      simp only [opsAt_nil, opsAt_cons, consOpt_some, List.getElem?_toArray, List.getElem?_cons_zero, List.getElem?_cons_succ]
      repeat (go_big_quiet_step (fail))
      refine wpQuiet_nil ?_
      refine wpE_tail rfl (by kernel_rfl) ?_
      simp only [opsAt_nil, opsAt_cons, consOpt_some, List.getElem?_toArray, List.getElem?_cons_zero, List.getElem?_cons_succ]
      go_wp2
      refine onlyNormal_mk ?_
      have hb1 := hbB
      clear CP PN ho hat hbT hbA hbU hbd hbB x0 x1 x2 x3 x4 x5 x6 x7 x8
      replace hk0 := hk0.below hb1
      replace d0 := kept hb1 d0
      replace d1 := kept hb1 d1
      replace d2 := kept hb1 d2
      replace c0 := kept hb1 c0
      replace c1 := kept hb1 c1
      replace c2 := kept hb1 c2
      replace c3 := kept hb1 c3
      replace c4 := kept hb1 c4
      replace v0 := kept hb1 v0
      replace v1 := kept hb1 v1
      replace v2 := kept hb1 v2
      replace v3 := kept hb1 v3
      replace hst := (hst.below hb1).mono hb1.size
      replace HB := Lib.hid (HB.out.trans (hb1.mono hs3))
      replace hs3 := Nat.le_trans hs3 hb1.size
      clear hb1
      have HE0 := Lib.hid hE0
      have e9 : (E != 0) = true := bne_iff_ne.2 hE0
      have e8 : (E == 0) = false := beq_eq_false_iff_ne.2 hE0
      have DE := DoorsErr_any D T S
      by_cases q1 : doorsE D T S = 0
      · have hT : 0 ≤ T ∧ T ≤ 1000000000 := by have := doorsE_zero q1; omega
        have SE := fun (W : World) (h : StAt W W.heap.size Ag Ad ng nd s) => StateErr_any W W.heap.size D T S Ag Ad ng nd cg cd s h (Nat.le_refl _) hT
        unfold IntPost at SE
        simp only [stV] at SE
        have hC : chkE D T S s = stateE D T S s := by rw [chkE, if_pos q1]
        rw [hC] at hE
        simp only [q1] at DE
        clear hC
        by_cases q2 : stateE D T S s = 0
        · have hE2 : placeE pl = E := by
            rw [q2] at hE
            have h9 : (if placeE pl = 0 then 0 else placeE pl) = E := by simpa [firstE] using hE
            split at h9 <;> omega
          have PE := fun W => PlaceErr_val pl E hE2 W
          simp only [q2] at SE
          clear hE hE2 q1 q2 hE0
          go_upto_region 7 with (go_at_call 22; refine (DE _).mono ?_; rintro e w4 ⟨rfl, hb1⟩)
          replace hk0 := hk0.below hb1
          replace d0 := kept hb1 d0
          replace d1 := kept hb1 d1
          replace d2 := kept hb1 d2
          replace c0 := kept hb1 c0
          replace c1 := kept hb1 c1
          replace c2 := kept hb1 c2
          replace c3 := kept hb1 c3
          replace c4 := kept hb1 c4
          replace v0 := kept hb1 v0
          replace v1 := kept hb1 v1
          replace v2 := kept hb1 v2
          replace v3 := kept hb1 v3
          replace hst := (hst.below hb1).mono hb1.size
          replace HB := Lib.hid (HB.out.trans (hb1.mono hs3))
          replace hs3 := Nat.le_trans hs3 hb1.size
          clear hb1
          go_upto_region 9 with (go_at_call 40; refine (SE _ hst).mono ?_; rintro e w5 ⟨rfl, hb1⟩)
          replace hk0 := hk0.below hb1
          replace d0 := kept hb1 d0
          replace d1 := kept hb1 d1
          replace d2 := kept hb1 d2
          replace c0 := kept hb1 c0
          replace c1 := kept hb1 c1
          replace c2 := kept hb1 c2
          replace c3 := kept hb1 c3
          replace c4 := kept hb1 c4
          replace v0 := kept hb1 v0
          replace v1 := kept hb1 v1
          replace v2 := kept hb1 v2
          replace v3 := kept hb1 v3
          replace hst := (hst.below hb1).mono hb1.size
          replace HB := Lib.hid (HB.out.trans (hb1.mono hs3))
          replace hs3 := Nat.le_trans hs3 hb1.size
          clear hb1
          go_wp2_with (go_at_call 23; refine (PE _).mono ?_; rintro e w6 ⟨rfl, rfl⟩)
          go_ret
          exact ⟨rfl, HB.out⟩
        · have hE2 : stateE D T S s = E := by simpa [firstE, q2] using hE
          simp only [hE2] at SE
          clear hE hE2 q1 q2 hE0
          go_upto_region 7 with (go_at_call 22; refine (DE _).mono ?_; rintro e w4 ⟨rfl, hb1⟩)
          replace hk0 := hk0.below hb1
          replace d0 := kept hb1 d0
          replace d1 := kept hb1 d1
          replace d2 := kept hb1 d2
          replace c0 := kept hb1 c0
          replace c1 := kept hb1 c1
          replace c2 := kept hb1 c2
          replace c3 := kept hb1 c3
          replace c4 := kept hb1 c4
          replace v0 := kept hb1 v0
          replace v1 := kept hb1 v1
          replace v2 := kept hb1 v2
          replace v3 := kept hb1 v3
          replace hst := (hst.below hb1).mono hb1.size
          replace HB := Lib.hid (HB.out.trans (hb1.mono hs3))
          replace hs3 := Nat.le_trans hs3 hb1.size
          clear hb1
          go_upto_region 9 with (go_at_call 40; refine (SE _ hst).mono ?_; rintro e w5 ⟨rfl, hb1⟩)
          replace hk0 := hk0.below hb1
          replace d0 := kept hb1 d0
          replace d1 := kept hb1 d1
          replace d2 := kept hb1 d2
          replace c0 := kept hb1 c0
          replace c1 := kept hb1 c1
          replace c2 := kept hb1 c2
          replace c3 := kept hb1 c3
          replace c4 := kept hb1 c4
          replace v0 := kept hb1 v0
          replace v1 := kept hb1 v1
          replace v2 := kept hb1 v2
          replace v3 := kept hb1 v3
          replace hst := (hst.below hb1).mono hb1.size
          replace HB := Lib.hid (HB.out.trans (hb1.mono hs3))
          replace hs3 := Nat.le_trans hs3 hb1.size
          clear hb1
          go_wp2
          go_ret
          exact ⟨rfl, HB.out⟩
      · have hE2 : doorsE D T S = E := by
          rw [chkE, if_neg q1] at hE
          simpa [firstE, q1] using hE
        simp only [hE2] at DE
        clear hE hE2 q1 hE0
        go_upto_region 7 with (go_at_call 22; refine (DE _).mono ?_; rintro e w4 ⟨rfl, hb1⟩)
        replace hk0 := hk0.below hb1
        replace d0 := kept hb1 d0
        replace d1 := kept hb1 d1
        replace d2 := kept hb1 d2
        replace c0 := kept hb1 c0
        replace c1 := kept hb1 c1
        replace c2 := kept hb1 c2
        replace c3 := kept hb1 c3
        replace c4 := kept hb1 c4
        replace v0 := kept hb1 v0
        replace v1 := kept hb1 v1
        replace v2 := kept hb1 v2
        replace v3 := kept hb1 v3
        replace hst := (hst.below hb1).mono hb1.size
        replace HB := Lib.hid (HB.out.trans (hb1.mono hs3))
        replace hs3 := Nat.le_trans hs3 hb1.size
        clear hb1
        go_wp2
        go_ret
        exact ⟨rfl, HB.out⟩
  · go_wp2_with (go_at_call 39; refine (F false (by simpa using hf)).mono ?_; rintro e w2 ⟨rfl, hb1⟩)
    go_ret
    exact ⟨rfl, HB.out.trans (hb1.mono hs2)⟩
end Go.Proofs.YtmcjnfghlpnghaaDoor

namespace Go.Proofs.YtmcjnfghlpnghaaDoor
open Go.RowKit

theorem CarePossible_big (w : World) (D T S : Int) (Ag Ad : Option Addr) (ng nd cg cd : Nat) (s : Tr) (pl ek ep ed : Int) (hk : KindsAt w) (hf : (decide ((ng : Int) ≤ 8) && decide ((nd : Int) ≤ 8)) = false) :
    Calls Tryd.prog 15 #[.agg #[.int .i64 D, .int .i64 T, .int .i64 S], stV s Ag Ad ng nd cg cd, .agg #[.int .i64 pl, .int .i64 ek, .int .i64 ep, .int .i64 ed]] w (AwakePost w) := by
  have hb0 : Below w.heap.size w (((w.alloc (.cells #[.int .i64 D, .int .i64 T, .int .i64 S] 23)).alloc (.cells #[.bool s.mv, .bool s.al, .int .i64 s.place, .slice Ag ng cg, .slice Ad nd cd] 28)).alloc (.cells #[.int .i64 pl, .int .i64 ek, .int .i64 ep, .int .i64 ed] 122)) := (((Below.refl _ _).alloc (Nat.le_refl _) _).alloc (by simp) _).alloc (by simp; omega) _
  have hs1 : w.heap.size ≤ (((w.alloc (.cells #[.int .i64 D, .int .i64 T, .int .i64 S] 23)).alloc (.cells #[.bool s.mv, .bool s.al, .int .i64 s.place, .slice Ag ng cg, .slice Ad nd cd] 28)).alloc (.cells #[.int .i64 pl, .int .i64 ek, .int .i64 ep, .int .i64 ed] 122)).heap.size := hb0.size
  have k1 : (((w.alloc (.cells #[.int .i64 D, .int .i64 T, .int .i64 S] 23)).alloc (.cells #[.bool s.mv, .bool s.al, .int .i64 s.place, .slice Ag ng cg, .slice Ad nd cd] 28)).alloc (.cells #[.int .i64 pl, .int .i64 ek, .int .i64 ep, .int .i64 ed] 122)).heap[w.heap.size + 1]? = some (.cells #[.bool s.mv, .bool s.al, .int .i64 s.place, .slice Ag ng cg, .slice Ad nd cd] 28 (0, 0)) := by
    rw [heapq_alloc, if_neg (by simp), heapq_alloc, if_pos (by simp)]
  obtain ⟨c0, c1, c2, c3, c4⟩ := cells5 k1
  have A0 := awake_any _ (hk.below hb0)
  have HB := Lib.hid hb0
  clear hb0 hk k1
  simp only [stV]
  go_enter Tryd.func15, Tryd.ntmps15
  go_upto_region 1 with (fail)
  generalize (((w.alloc (.cells #[.int .i64 D, .int .i64 T, .int .i64 S] 23)).alloc (.cells #[.bool s.mv, .bool s.al, .int .i64 s.place, .slice Ag ng cg, .slice Ad nd cd] 28)).alloc (.cells #[.int .i64 pl, .int .i64 ek, .int .i64 ep, .int .i64 ed] 122)) = w0 at *
  go_wp2_with fail
  refine A0.mono ?_
  rintro e w1 ⟨rfl, hb1⟩
  replace c0 := kept hb1 c0
  replace c1 := kept hb1 c1
  replace c2 := kept hb1 c2
  replace c3 := kept hb1 c3
  replace c4 := kept hb1 c4
  replace HB := Lib.hid (HB.out.trans (hb1.mono hs1))
  have hs2 := Nat.le_trans hs1 hb1.size
  clear hb1 A0
  have F := fun b hb => few_any w1 Ag Ad ng nd cg cd s b hb
  simp only [stV] at F
  go_wp2_with fail
  refine (F _ hf).mono ?_
  rintro e w2 ⟨rfl, hb1⟩
  go_wp2
  go_ret
  exact ⟨rfl, HB.out.trans (hb1.mono hs2)⟩

theorem CarePossible_all (w : World) (D T S : Int) (Ag Ad : Option Addr) (ng nd cg cd : Nat) (s : Tr) (pl ek ep ed : Int) (hk : KindsAt w)
    (h : s.gates.length = ng ∧ s.doors.length = nd ∧ Rd w w.heap.size Ag (s.gates.map .bool) ∧ Rd w w.heap.size Ad (s.doors.map .bool)) :
    Calls Tryd.prog 15 #[.agg #[.int .i64 D, .int .i64 T, .int .i64 S], stV s Ag Ad ng nd cg cd, .agg #[.int .i64 pl, .int .i64 ek, .int .i64 ep, .int .i64 ed]] w (AwakePost w) := by
  cases hf : (decide ((ng : Int) ≤ 8) && decide ((nd : Int) ≤ 8)) with
  | false => exact CarePossible_big w D T S Ag Ad ng nd cg cd s pl ek ep ed hk hf
  | true =>
    simp only [Bool.and_eq_true, decide_eq_true_eq] at hf
    exact CarePossible_any w D T S Ag Ad ng nd cg cd s pl ek ep ed hk ⟨h.1, h.2.1, h.2.2.1, h.2.2.2, by omega, by omega⟩

end Go.Proofs.YtmcjnfghlpnghaaDoor
