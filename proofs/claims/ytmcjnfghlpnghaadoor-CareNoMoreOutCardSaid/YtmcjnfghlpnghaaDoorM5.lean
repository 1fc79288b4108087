/- A square of numbers in memory. -/
import Derived.Test.YtmcjnfghlpnghaaDoorM2
import Derived.Test.YtmcjnfghlpnghaaDoorM1
import Derived.Deep.CutRange
namespace Go.Proofs.YtmcjnfghlpnghaaDoor
open Go.RowKit

def rowsV (bl : List Nat) (V : Nat) : List Value := bl.map fun b => Value.slice (some ⟨b, 0, none⟩) V V

structure SqAt (w : World) (B ob V : Nat) (bl : List Nat) (M : List (List Int)) : Prop where
  head : w.heap[ob]? = some (.cells (rowsV bl V).toArray 39 (0, 0))
  len : bl.length = V
  row : ∀ (i b : Nat), bl[i]? = some b → ∃ r, M[i]? = some r ∧ w.heap[b]? = some (.cells (intCells r).toArray 3 (0, 0)) ∧ B ≤ b ∧ b ≠ ob
  apart : ∀ (i j b : Nat), bl[i]? = some b → bl[j]? = some b → i = j
  hob : B ≤ ob
  sq : Sq V M

theorem SqAt.keep {w w' : World} {B ob V : Nat} {bl : List Nat} {M : List (List Int)} (h : SqAt w B ob V bl M) (hk : ∀ k, k < w.heap.size → w'.heap[k]? = w.heap[k]?) : SqAt w' B ob V bl M :=
  ⟨(hk ob (lt_of_block h.head)).trans h.head, h.len, fun i b hb => by
    obtain ⟨r, h1, h2, h3⟩ := h.row i b hb
    exact ⟨r, h1, (hk b (lt_of_block h2)).trans h2, h3⟩, h.apart, h.hob, h.sq⟩

theorem SqAt.cell {w : World} {B ob V u v : Nat} {bl : List Nat} {M : List (List Int)} (h : SqAt w B ob V bl M) (hu : u < V) (hv : v < V) :
    ∃ b, bl[u]? = some b ∧ w.cell? ⟨ob, u, none⟩ = some (.slice (some ⟨b, 0, none⟩) V V) ∧ w.cell? ⟨b, v, none⟩ = some (.int .i64 (cellR M u v)) ∧ w.frozen? ⟨b, v, none⟩ = false ∧ b < w.heap.size := by
  have hub : u < bl.length := by rw [h.len]; exact hu
  obtain ⟨b, hb⟩ : ∃ b, bl[u]? = some b := ⟨_, List.getElem?_eq_getElem hub⟩
  obtain ⟨r, h1, h2, _⟩ := h.row u b hb
  have hr := h.sq.row u r h1
  refine ⟨b, hb, ?_, ?_, frozen_of_row w b v _ _ h2, lt_of_block h2⟩
  · rw [cell_of_row w ob u _ _ _ h.head]
    simp [rowsV, hb]
  · rw [cell_of_row w b v _ _ _ h2]
    unfold cellR
    rw [h1, Option.getD_some]
    simp only [List.getElem?_toArray]
    exact intCells_at r v (by rw [hr]; exact hv)

theorem SqAt.put {w : World} {B ob V u v b : Nat} {bl : List Nat} {M : List (List Int)} (h : SqAt w B ob V bl M) (hu : u < V) (hb : bl[u]? = some b) (x : Int) : SqAt (w.setCell ⟨b, v, none⟩ (.int .i64 x)) B ob V bl (setR M u v x) := by
  obtain ⟨r, h1, h2, h3, h4⟩ := h.row u b hb
  refine ⟨?_, h.len, fun i b' hb' => ?_, h.apart, h.hob, h.sq.set hu x⟩
  · rw [heapq_set, if_neg (fun e => h4 e.symm)]
    exact h.head
  · obtain ⟨r', g1, g2, g3⟩ := h.row i b' hb'
    by_cases hi : i = u
    · subst hi
      rw [hb] at hb'
      obtain rfl := Option.some.inj hb'
      rw [h1] at g1
      obtain rfl := Option.some.inj g1
      refine ⟨r.set v x, ?_, ?_, g3⟩
      · unfold setR
        rw [List.getElem?_set_self (by rw [h.sq.len]; exact hu), h1]
        rfl
      · rw [heapq_set, if_pos rfl, h2]
        simp [objSet_cells, intCells, List.map_set]
    · refine ⟨r', ?_, ?_, g3⟩
      · unfold setR
        rw [List.getElem?_set_ne (Ne.symm hi)]
        exact g1
      · rw [heapq_set, if_neg (fun (e : b' = b) => hi (h.apart i u b (by rw [← e]; exact hb') hb))]
        exact g2

def PushPost (w : World) (B ob V : Nat) (bl : List Nat) (x : Option (List (List Int) × Int)) (e : Ending) (w' : World) : Prop :=
  match x with
  | none => e = .returned (.int .i64 0) ∧ Below w.heap.size w w'
  | some (M', d) => e = .returned (.int .i64 d) ∧ SqAt w' B ob V bl M' ∧ Below B w w'

/-- the start: the source's own, no other -/
def negL (k V : Nat) : List Int := 0 :: (List.replicate (k - 1) (-1) ++ List.replicate (V - k) 0)
def NegRel (w : World) (gb V : Nat) (u6 : Value) (wr : World) : Prop := ∃ k : Nat, 1 ≤ k ∧ k ≤ V ∧ u6 = .int .i64 k ∧ wr.heap[gb]? = some (.cells (intCells (negL k V)).toArray 3 (0, 0)) ∧ Below w.heap.size w wr

theorem negL_set {k V : Nat} (h1 : 1 ≤ k) (h2 : k < V) : (negL k V).set k (-1) = negL (k + 1) V := by
  obtain ⟨j, rfl⟩ : ∃ j, k = j + 1 := ⟨k - 1, by omega⟩
  unfold negL
  rw [List.set_cons_succ]
  congr 1
  obtain ⟨m, hm⟩ : ∃ m, V - (j + 1) = m + 1 := ⟨V - (j + 1) - 1, by omega⟩
  rw [hm, show V - (j + 1 + 1) = m by omega, Nat.add_sub_cancel, Nat.add_sub_cancel, List.replicate_succ, List.replicate_succ' (n := j), List.append_assoc, List.set_append]
  simp
theorem negL_one (V : Nat) (h : 1 ≤ V) : negL 1 V = List.replicate V 0 := by
  obtain ⟨m, rfl⟩ : ∃ m, V = m + 1 := ⟨V - 1, by omega⟩
  simp [negL, List.replicate_succ]
theorem negL_full (V : Nat) : negL V V = startR (V - 1) := by
  simp [negL, startR]

/-- the nodes one by one -/
def OutRel (w : World) (G gb last : Nat) (M : List (List Int)) (r : List Int) (gk : Nat) (u7 u8 : Value) (wr : World) : Prop :=
  ∃ (i : Nat) (y : List Int) (q : List Nat), i ≤ q.length ∧ u8 = .int .i64 i ∧ ReachAt w G gb (last + 1) u7 y q wr ∧ bfsR M last gk i y q = some r
/-- one node's numbers -/
def InRel (w : World) (G gb last u i : Nat) (M : List (List Int)) (z : List Int × List Nat) (gk : Nat) (u7 u9 : Value) (wr : World) : Prop :=
  ∃ (k : Nat) (y : List Int) (q : List Nat), 1 ≤ k ∧ k + gk = last + 1 ∧ u9 = .int .i64 k ∧ ReachAt w G gb (last + 1) u7 y q wr ∧ scanR M u gk k y q = z ∧ q[i]? = some u

theorem scanR_rng {M : List (List Int)} {u n : Nat} (hu : u < n) : ∀ (c k : Nat) (y : List Int) (q : List Nat), k + c ≤ n → (∀ (v : Nat) (x : Int), y[v]? = some x → x < n) → (∀ v ∈ q, v < n) →
    (∀ (v : Nat) (x : Int), (scanR M u c k y q).1[v]? = some x → x < n) ∧ ∀ v ∈ (scanR M u c k y q).2, v < n
  | 0, k, y, q, _, h1, h2 => by
    unfold scanR
    exact ⟨h1, h2⟩
  | c + 1, k, y, q, hk, h1, h2 => by
    unfold scanR
    split
    · refine scanR_rng hu c (k + 1) _ _ (by omega) (fun v x hx => ?_) (fun v hv => ?_)
      · by_cases hv : k = v
        · subst hv
          rw [List.getElem?_set] at hx
          simp only [if_true] at hx
          split at hx
          · obtain rfl := Option.some.inj hx
            omega
          · cases hx
        · rw [List.getElem?_set_ne hv] at hx
          exact h1 v x hx
      · rcases List.mem_append.1 hv with h | h
        · exact h2 v h
        · have : v = k := by simpa using h
          omega
    · exact scanR_rng hu c (k + 1) _ _ (by omega) h1 h2
theorem bfsR_rng {M : List (List Int)} {last : Nat} {r : List Int} : ∀ (f i : Nat) (y : List Int) (q : List Nat), (∀ (v : Nat) (x : Int), y[v]? = some x → x < ((last + 1 : Nat) : Int)) → (∀ v ∈ q, v < last + 1) → bfsR M last f i y q = some r →
    ∀ (v : Nat) (x : Int), r[v]? = some x → x < ((last + 1 : Nat) : Int)
  | f, i, y, q, h1, h2, h => by
    unfold bfsR at h
    split at h
    · obtain rfl := Option.some.inj h
      exact h1
    · rename_i u hu
      have hu' := h2 u (List.mem_of_getElem? hu)
      split at h
      · cases h
      · rename_i f
        have hs := scanR_rng (M := M) hu' last 1 y q (by omega) h1 h2
        exact bfsR_rng f (i + 1) _ _ hs.1 hs.2 h
theorem startR_rng (last : Nat) : ∀ (v : Nat) (x : Int), (startR last)[v]? = some x → x < ((last + 1 : Nat) : Int) := by
  intro v x hx
  have := List.mem_of_getElem? hx
  unfold startR at this
  rcases List.mem_cons.1 this with h | h
  · omega
  · have := List.eq_of_mem_replicate h
    omega
theorem scanR_pre (M : List (List Int)) (u : Nat) : ∀ (c k : Nat) (y : List Int) (q : List Nat), ∃ t, (scanR M u c k y q).2 = q ++ t
  | 0, k, y, q => ⟨[], by simp [scanR]⟩
  | c + 1, k, y, q => by
    unfold scanR
    split
    · obtain ⟨t, ht⟩ := scanR_pre M u c (k + 1) (y.set k (u : Int)) (q ++ [k])
      exact ⟨k :: t, by rw [ht]; simp⟩
    · exact scanR_pre M u c (k + 1) y q

def MinRelR (wq : World) (M : List (List Int)) (y : List Int) (last : Nat) (d : Int) (gk : Nat) (u10 u11 : Value) (wr : World) : Prop :=
  ∃ (k : Nat) (acc : Int), u11 = .int .i64 k ∧ u10 = .int .i64 acc ∧ k ≤ last ∧ minR M y gk k acc = some d ∧ wr = wq
def PushRelR (w : World) (B ob gb last : Nat) (bl : List Nat) (M' : List (List Int)) (y : List Int) (d : Int) (gk : Nat) (u12 : Value) (wr : World) : Prop :=
  ∃ (k : Nat) (M2 : List (List Int)), u12 = .int .i64 k ∧ k ≤ last ∧ SqAt wr B ob (last + 1) bl M2 ∧ wr.heap[gb]? = some (.cells (intCells y).toArray 3 (0, 0)) ∧ Below B w wr ∧ pushRm y d gk k M2 = some M'

theorem ghost_in {w : World} {B ob V : Nat} {bl : List Nat} {M : List (List Int)} (h : SqAt w B ob V bl M) (i b : Nat) (hb : bl[i]? = some b) : b < w.heap.size := by
  obtain ⟨r, _, h2, _⟩ := h.row i b hb
  exact lt_of_block h2

set_option maxRecDepth 100000 in
set_option maxHeartbeats 8000000 in
theorem push_any (w : World) (B ob last : Nat) (bl : List Nat) (M : List (List Int)) (h : SqAt w B ob (last + 1) bl M) (h1 : 1 ≤ last) (hl : last ≤ 200) (f : Nat) (x : Option (List (List Int) × Int)) (hx : pushTot M last f = some x) :
    Calls Tryd.prog 103 #[.slice (some ⟨ob, 0, none⟩) (last + 1) (last + 1), .int .i64 last] w (PushPost w B ob (last + 1) bl x) := by
  have hmk := run_make_row' (P := Tryd.prog) 39 3 (.int .i64 0) 8 Tryd.underlying39 info3 rfl .i64 .i64 (last + 1) (by omega) (by omega)
  rw [show ((last + 1 : Nat) : Int) = (last : Int) + 1 by omega] at hmk
  have HS := Lib.hid h
  have HX := Lib.hid hx
  have hBw : B ≤ w.heap.size := Nat.le_of_lt (Nat.lt_of_le_of_lt h.hob (lt_of_block h.head))
  clear h hx
  go_enter Tryd.func103, Tryd.ntmps103
  go_upto_region 2 with (fail)
  have hg : (w.alloc (.cells (madeCells #[.int .i64 0] (last + 1)) 3)).heap[w.heap.size]? = some (.cells (intCells (negL 1 (last + 1))).toArray 3 (0, 0)) := by
    rw [heapq_alloc, if_pos rfl]
    congr 2
    apply Array.ext'
    rw [toList_madeCells_one, negL_one _ (by omega)]
    simp [intCells]
  have hb : Below w.heap.size w (w.alloc (.cells (madeCells #[.int .i64 0] (last + 1)) 3)) := (Below.refl _ _).alloc (Nat.le_refl _) _
  clear hmk
  generalize w.alloc (.cells (madeCells #[.int .i64 0] (last + 1)) 3) = w0 at *
  obtain ⟨gb, hgb⟩ : ∃ gb, gb = w.heap.size := ⟨_, rfl⟩
  rw [← hgb] at hg ⊢
  have HGB := Lib.hid hgb
  clear hgb
  go_wp2
  go_loopw [6] (fun u6 wr => NegRel w gb (last + 1) u6 wr) (fun u6 _ => (last + 1) - (intOf u6).toNat)
  case atStart => exact ⟨1, Nat.le_refl _, by omega, rfl, hg, hb⟩
  case round =>
    obtain ⟨k, hk1, hk2, rfl, hgr, hbr⟩ := hrel
    clear hg hb
    have HK1 := Lib.hid hk1
    clear hk1
    by_cases hlt : k ≤ last
    · have k0 : wr.cell? ⟨gb, k, none⟩ = some (.int .i64 ((negL k (last + 1))[k]?.getD 0)) := by
        rw [cell_of_row wr gb k _ _ _ hgr]
        simp only [List.getElem?_toArray]
        exact intCells_at _ _ (by simp [negL]; omega)
      have k1 := frozen_of_row wr gb k _ _ hgr
      have HR := Lib.hid (show NegRel w gb (last + 1) (.int .i64 ((k : Int) + 1)) (wr.setCell ⟨gb, k, none⟩ (.int .i64 (-1))) from ⟨k + 1, by omega, by omega, by simp, by
        rw [heapq_set, if_pos rfl, hgr, ← negL_set HK1.out (by omega)]
        simp [objSet_cells, intCells, List.map_set], hbr.setCell (by rw [HGB.out]; exact Nat.le_refl _) _⟩)
      have HB := Lib.hid hbr
      clear hgr hbr
      go_wp2
      go_roundw
      case rel => exact HR.out
      case measure => simp [intOf]; omega
    · obtain rfl : k = last + 1 := by omega
      rw [negL_full] at hgr
      have hs := hbr.size
      have hglr := lt_of_block hgr
      have hat0 : ReachAt w w.heap.size gb (last + 1) (.slice (some ⟨wr.heap.size, 0, none⟩) 1 1) (startR last) [0] (wr.alloc (.cells #[.int .i64 0] 3)) := by
        refine ⟨QAt.start wr _ gb 0 hs hglr, ?_, by simp [startR], ?_, ?_, hbr.alloc hs _⟩
        · rw [heapq_alloc, if_neg (by omega), hgr]
          simp
        · intro n hn
          simp at hn
          omega
        · have := List.length_filter_le (fun x : Int => decide (x < 0)) (List.replicate last (-1))
          simp [negs, startR] at this ⊢
          try omega
      have HAT := Lib.hid hat0
      clear hat0 hgr hbr hglr
      go_upto_region 7 with (fail)
      generalize wr.heap.size = qb at *
      generalize wr.alloc (.cells #[.int .i64 0] 3) = wq at *
      obtain ⟨r, hr⟩ : ∃ r, bfsR M last f 0 (startR last) [0] = some r := by
        have hx := HX.out
        unfold pushTot at hx
        split at hx
        · cases hx
        · exact ⟨_, by assumption⟩
      have HRR := Lib.hid hr
      clear hr
      go_wp2
      go_loopg [7, 8] f (fun gk u7 u8 wr => OutRel w w.heap.size gb last M r gk u7 u8 wr)
      case atStart => exact ⟨0, startR last, [0], by simp, rfl, HAT.out, HRR.out⟩
      case round =>
        clear HAT hs
        obtain ⟨i, y, q, hi, rfl, hat, hbf⟩ := hrel
        obtain ⟨b, off, cap, hv, hq1, hq2, hq3, hq4⟩ := hat.1.form
        subst hv
        have HA := Lib.hid hat
        have HBF := Lib.hid hbf
        clear hat hbf
        by_cases hiq : i < q.length
        · obtain ⟨u, hu⟩ : ∃ u, q[i]? = some u := ⟨_, List.getElem?_eq_getElem hiq⟩
          have huV : u < last + 1 := HA.out.2.2.2.1 u (List.mem_of_getElem? hu)
          obtain ⟨m, hm⟩ : ∃ m, gk = m + 1 := by
            have hbf := HBF.out
            cases gk with
            | zero =>
              unfold bfsR at hbf
              rw [hu] at hbf
              cases hbf
            | succ m => exact ⟨m, rfl⟩
          subst hm
          obtain ⟨z, hz⟩ : ∃ z, scanR M u last 1 y q = z := ⟨_, rfl⟩
          have HBF2 := Lib.hid (show bfsR M last m (i + 1) z.1 z.2 = some r from by
            have hbf := HBF.out
            unfold bfsR at hbf
            rw [hu] at hbf
            simpa [hz] using hbf)
          have HZ := Lib.hid hz
          have HU := Lib.hid hu
          clear hz hu HBF
          go_wp2
          go_loopg [7, 9] last (fun gk u7 u9 wr => InRel w w.heap.size gb last u i M z gk u7 u9 wr)
          case atStart => exact ⟨1, y, q, Nat.le_refl _, by omega, rfl, HA.out, HZ.out, HU.out⟩
          case round =>
            clear hq1 hq2 hq3 hq4 HA HZ HU hi hiq
            obtain ⟨k, y', q', hk1, hkg, rfl, hat, hs, hui⟩ := hrel
            obtain ⟨b', off', cap', hv, p1, p2, p3, p4⟩ := hat.1.form
            subst hv
            have hil : i < q'.length := (List.getElem?_eq_some_iff.1 hui).1
            have hq9 : q'.length ≤ 1000 := by have := hat.2.2.2.2.1; omega
            by_cases hlt : k ≤ last
            · have SQ := HS.out.keep (fun k hk => hat.2.2.2.2.2.block k hk)
              obtain ⟨rb, _, c1, c2, _, _⟩ := SQ.cell huV (show k < last + 1 by omega)
              have hyl : y'.length = last + 1 := hat.2.2.1
              have c3 : wr.cell? ⟨gb, k, none⟩ = some (.int .i64 (y'[k]?.getD 0)) := by
                rw [cell_of_row wr gb k _ _ _ hat.2.1]
                simp only [List.getElem?_toArray]
                exact intCells_at _ _ (by omega)
              have f3 := frozen_of_row wr gb k _ _ hat.2.1
              have c4 := p4 i u hui
              obtain ⟨g, rfl⟩ : ∃ g, gk = g + 1 := ⟨gk - 1, by omega⟩
              obtain ⟨yv, hyv⟩ : ∃ yv, yv = y'[k]?.getD 0 := ⟨_, rfl⟩
              obtain ⟨cv, hcv⟩ : ∃ cv, cv = cellR M u k := ⟨_, rfl⟩
              rw [← hyv] at c3
              rw [← hcv] at c2
              have hs' : (if yv < 0 ∧ 0 < cv then scanR M u g (k + 1) (y'.set k (u : Int)) (q' ++ [k]) else scanR M u g (k + 1) y' q') = z := by
                rw [hyv, hcv, ← hs]
                simp only [scanR]
              have HSS := Lib.hid hs'
              have HYV := Lib.hid hyv
              have HCV := Lib.hid hcv
              have HAT := Lib.hid hat
              have HUI := Lib.hid hui
              have HHK := Lib.hid hk1
              have HKG := Lib.hid hkg
              clear hs hs' hyv hcv hat hui SQ p4 hkg hk1
              have i0 : (i : Int) < (q'.length : Int) := by omega
              rcases Int.lt_or_le yv 0 with h2 | h2
              · have d1 : decide (yv < 0) = true := by simp; omega
                rcases Int.lt_or_le 0 cv with h3 | h3
                · have d2 : decide (0 < cv) = true := by simp; omega
                  have hge' : w.heap.size ≤ gb := by rw [HGB.out]; exact Nat.le_refl _
                  have hW : (wr.setCell ⟨gb, k, none⟩ (.int .i64 (u : Int))).heap[gb]? = some (.cells (intCells (y'.set k (u : Int))).toArray 3 (0, 0)) := by
                    rw [heapq_set, if_pos rfl, HAT.out.2.1]
                    simp [objSet_cells, intCells, List.map_set]
                  have hB6 : Below w.heap.size w (wr.setCell ⟨gb, k, none⟩ (.int .i64 (u : Int))) := HAT.out.2.2.2.2.2.setCell hge' _
                  have hQ6 : QAt (wr.setCell ⟨gb, k, none⟩ (.int .i64 (u : Int))) w.heap.size gb (.slice (some ⟨b', off', none⟩) q'.length cap') q' := HAT.out.1.keep (fun k _ _ hne => by rw [heapq_set, if_neg hne])
                  have hgb6 := lt_of_block HAT.out.2.1
                  have hG6 : w.heap.size ≤ wr.heap.size := HAT.out.2.2.2.2.2.size
                  have HW := Lib.hid hW
                  clear hW
                  go_wp2_with (at_builtin; refine stp ?_)
                  unfold Stp
                  refine wpList_append_q _ rfl (.tmp 61) (.tmp 63) rfl w.heap.size gb _ q' rfl ?qa ?hG ?hgb (by omega) _ k rfl ?hc ?_
                  case qa => exact hQ6.keep (fun k hk _ _ => Below.heap_alloc _ _ k hk)
                  case hG => first | omega | (simp; omega)
                  case hgb => simp; omega
                  case hc =>
                    refine (cell_of_row _ _ 0 #[.int .i64 (k : Int)] 3 (0, 0) ?_).trans rfl
                    rw [heapq_alloc, if_pos (by simp [World.setCell])]
                  intro v' w7 hq7 hb7 hg7
                  have hb8 : Below w.heap.size w w7 := (hB6.alloc (by simp; omega) _).trans hb7
                  have hg8 : w7.heap[gb]? = some (.cells (intCells (y'.set k (u : Int))).toArray 3 (0, 0)) := by
                    rw [hg7, Below.heap_alloc _ _ _ (by simp; omega)]
                    exact HW.out
                  have hrel' : InRel w w.heap.size gb last u i M z g v' (.int .i64 ((k : Int) + 1)) w7 := by
                    obtain ⟨_, _, h33, h44, h55, _⟩ := HAT.out
                    have hng := negs_set (u : Int) (by omega) y' k (by rw [← HYV.out]; exact h2)
                    refine ⟨k + 1, y'.set k (u : Int), q' ++ [k], by omega, by have := HKG.out; omega, by simp, ⟨hq7, hg8, by simp [h33], ?_, ?_, hb8⟩, ?_, ?_⟩
                    · intro n hn
                      rcases List.mem_append.1 hn with h | h
                      · exact h44 n h
                      · have : n = k := by simpa using h
                        omega
                    · simp
                      omega
                    · have := HSS.out
                      rwa [if_pos ⟨h2, h3⟩] at this
                    · rw [List.getElem?_append_left hil]
                      exact HUI.out
                  have HREL := Lib.hid hrel'
                  clear hrel' hq7 hb7 hg7 hb8 hg8 hQ6 hB6
                  go_wp2
                  go_roundg g
                  case measure => omega
                  case rel => exact HREL.out
                · have d2 : decide (0 < cv) = false := by simp; omega
                  have HREL := Lib.hid (show InRel w w.heap.size gb last u i M z g (.slice (some ⟨b', off', none⟩) q'.length cap') (.int .i64 ((k : Int) + 1)) wr from ⟨k + 1, y', q', by omega, by have := HKG.out; omega, by simp, HAT.out, by
                    have := HSS.out
                    rwa [if_neg (fun hh => by omega)] at this, HUI.out⟩)
                  go_wp2
                  go_roundg g
                  case measure => omega
                  case rel => exact HREL.out
              · have d1 : decide (yv < 0) = false := by simp; omega
                have HREL := Lib.hid (show InRel w w.heap.size gb last u i M z g (.slice (some ⟨b', off', none⟩) q'.length cap') (.int .i64 ((k : Int) + 1)) wr from ⟨k + 1, y', q', by omega, by have := HKG.out; omega, by simp, HAT.out, by
                  have := HSS.out
                  rwa [if_neg (fun hh => by omega)] at this, HUI.out⟩)
                go_wp2
                go_roundg g
                case measure => omega
                case rel => exact HREL.out
            · obtain rfl : gk = 0 := by omega
              have hz2 : z = (y', q') := by rw [← hs]; rfl
              have hil' : i + 1 ≤ q'.length := hil
              have HREL := Lib.hid (show OutRel w w.heap.size gb last M r m (.slice (some ⟨b', off', none⟩) q'.length cap') (.int .i64 ((i : Int) + 1)) wr from ⟨i + 1, y', q', hil', by simp, hat, by
                have := HBF2.out
                rwa [hz2] at this⟩)
              have HKG := Lib.hid hkg
              clear hat hs hui hz2 p4 hkg
              go_wp2
              go_roundg m
              case measure => omega
              case rel => exact HREL.out
        · obtain rfl : i = q.length := by omega
          have hy : y = r := by
            have hbf := HBF.out
            unfold bfsR at hbf
            rw [List.getElem?_eq_none_iff.2 (Nat.le_refl _)] at hbf
            exact Option.some.inj hbf
          subst hy
          have hyr := bfsR_rng f 0 (startR last) [0] (startR_rng last) (fun v hv => by simp at hv; omega) HRR.out
          have hyl : y.length = last + 1 := HA.out.2.2.1
          have CY : ∀ k, k < last + 1 → wr.cell? ⟨gb, k, none⟩ = some (.int .i64 (y[k]?.getD 0)) := fun k hk => by
            rw [cell_of_row wr gb k _ _ _ HA.out.2.1]
            simp only [List.getElem?_toArray]
            exact intCells_at _ _ (by omega)
          obtain ⟨j, hj⟩ : ∃ j, y[last]? = some j := ⟨_, List.getElem?_eq_getElem (by omega)⟩
          have c0 := CY last (by omega)
          rw [hj, Option.getD_some] at c0
          have hX2 : (if j < 0 then some none else match minR M y f last (cellR M j.toNat last) with
              | none => none
              | some d => match pushRm y d f last M with
                | none => none
                | some M' => some (some (M', d))) = some x := by
            have := HX.out
            unfold pushTot at this
            rw [HRR.out] at this
            simp only [hj] at this
            exact this
          have hq9 : q.length ≤ 1000 := by have := HA.out.2.2.2.2.1; omega
          rcases Int.lt_or_le j 0 with hneg | hpos
          · have d0 : decide (j < 0) = true := by simp; omega
            rw [if_pos hneg] at hX2
            obtain rfl := Option.some.inj hX2
            clear hX2 hj hq4 HX CY hyr
            go_wp2
            go_ret
            exact ⟨rfl, HA.out.2.2.2.2.2⟩
          · have d0 : decide (j < 0) = false := by simp; omega
            rw [if_neg (by omega)] at hX2
            have hjl := hyr last j hj
            obtain ⟨jn, rfl⟩ : ∃ n : Nat, j = n := ⟨j.toNat, by omega⟩
            rw [Int.toNat_natCast] at hX2
            split at hX2
            · cases hX2
            · rename_i d hd
              split at hX2
              · cases hX2
              · rename_i M' hM'
                obtain rfl := Option.some.inj hX2
                have SQ := HS.out.keep (fun k hk => HA.out.2.2.2.2.2.block k hk)
                obtain ⟨rb, _, c1, c2, _, _⟩ := SQ.cell (show jn < last + 1 by omega) (show last < last + 1 by omega)
                have HSQ := Lib.hid SQ
                have HD := Lib.hid hd
                have HM := Lib.hid hM'
                have HYR := Lib.hid hyr
                have HCY := Lib.hid CY
                obtain ⟨c, hc⟩ : ∃ c, c = cellR M jn last := ⟨_, rfl⟩
                rw [← hc] at c2
                have HC := Lib.hid hc
                clear hX2 hj hq4 HX SQ hd hM' hyr CY hc HRR HBF
                go_wp2
                go_loopg [10, 11] f (fun gk u10 u11 wr' => MinRelR wr M y last d gk u10 u11 wr')
                case atStart => exact ⟨last, c, rfl, rfl, Nat.le_refl _, by rw [HC.out]; exact HD.out, rfl⟩
                case round =>
                  obtain ⟨k, acc, rfl, rfl, hkl, hmn, rfl⟩ := hrel
                  clear c0 c1 c2 hjl hq1 hq2 hq3 hi
                  by_cases hk0 : k = 0
                  · subst hk0
                    have hacc : d = acc := by
                      unfold minR at hmn
                      rw [if_pos rfl] at hmn
                      exact (Option.some.inj hmn).symm
                    subst hacc
                    have hrel0 : PushRelR w B ob gb last bl M' y d f (.int .i64 last) wr := ⟨last, M, rfl, Nat.le_refl _, HSQ.out, HA.out.2.1, HA.out.2.2.2.2.2.mono hBw, HM.out⟩
                    have HR0 := Lib.hid hrel0
                    clear hmn hrel0 HSQ HCY HA
                    go_wp2
                    go_loopg [12] f (fun gk u12 wr => PushRelR w B ob gb last bl M' y d gk u12 wr)
                    case atStart => exact HR0.out
                    case round =>
                      clear HR0 hkl
                      obtain ⟨k, M2, rfl, hkl, hsq, hgy, hbw, hp⟩ := hrel
                      by_cases hk0 : k = 0
                      · subst hk0
                        have hm : M2 = M' := by
                          unfold pushRm at hp
                          rw [if_pos rfl] at hp
                          exact Option.some.inj hp
                        subst hm
                        go_wp2
                        go_ret
                        exact ⟨rfl, hsq, hbw⟩
                      · obtain ⟨g, rfl⟩ : ∃ g, gk = g + 1 := by
                          cases gk with
                          | zero =>
                            unfold pushRm at hp
                            rw [if_neg hk0] at hp
                            cases hp
                          | succ g => exact ⟨g, rfl⟩
                        unfold pushRm at hp
                        rw [if_neg hk0] at hp
                        obtain ⟨jk, hjk⟩ : ∃ j, y[k]? = some j := ⟨_, List.getElem?_eq_getElem (by omega)⟩
                        simp only [hjk] at hp
                        split at hp
                        · cases hp
                        · have hjl := HYR.out k jk hjk
                          obtain ⟨jn, rfl⟩ : ∃ n : Nat, jk = n := ⟨jk.toNat, by omega⟩
                          rw [Int.toNat_natCast] at hp
                          split at hp
                          · rename_i hok
                            rw [Bool.and_eq_true] at hok
                            obtain ⟨o1, o2⟩ := okI_spec hok.1
                            obtain ⟨o3, o4⟩ := okI_spec hok.2
                            clear hok
                            have hkV : k < last + 1 := by omega
                            have hjV : jn < last + 1 := by omega
                            obtain ⟨b1, hb1, p1, p2, p3, p4⟩ := hsq.cell hjV hkV
                            have c0 : wr.cell? ⟨gb, k, none⟩ = some (.int .i64 (jn : Int)) := by
                              rw [cell_of_row wr gb k _ _ _ hgy]
                              simp only [List.getElem?_toArray]
                              rw [intCells_at _ _ (by omega), hjk]
                              rfl
                            obtain ⟨a1, ha1⟩ : ∃ a, a = cellR M2 jn k := ⟨_, rfl⟩
                            rw [← ha1] at p2 o1 o2 o3 o4 hp
                            have HA1 := Lib.hid ha1
                            have HP := Lib.hid hp
                            have HJK := Lib.hid hjk
                            have hbd : Below wr.heap.size wr wr.drew := (Below.refl _ _).drew
                            have sqd := hsq.put (v := k) hjV hb1 (a1 - d)
                            have hsq1 := sqd.keep (w' := (wr.setCell ⟨b1, k, none⟩ (.int .i64 (a1 - d))).drew) (fun k hk => ((Below.refl _ _).drew).block k hk)
                            have hgbb : gb ≠ b1 := by have := ghost_in HS.out jn b1 hb1; have := HGB.out; omega
                            have hBb1 : B ≤ b1 := by
                              obtain ⟨_, _, _, h, _⟩ := hsq.row jn b1 hb1
                              exact h
                            have hgy1 : (wr.setCell ⟨b1, k, none⟩ (.int .i64 (a1 - d))).drew.heap[gb]? = some (.cells (intCells y).toArray 3 (0, 0)) := by
                              show (wr.setCell _ _).heap[gb]? = _
                              rw [heapq_set, if_neg hgbb]
                              exact hgy
                            have hbw1 : Below B w (wr.setCell ⟨b1, k, none⟩ (.int .i64 (a1 - d))).drew := (hbw.setCell hBb1 _).drew
                            have HSQ1 := Lib.hid hsq1
                            have HGY1 := Lib.hid hgy1
                            have HBW1 := Lib.hid hbw1
                            have p2d := kept hbd p2
                            have p3d : wr.drew.frozen? ⟨b1, k, none⟩ = false := p3
                            clear hsq1 hgy1 hbw1 sqd hsq hgy hbw hp hjk ha1
                            go_upto_region 26 with (fail)
                            have x0 := fun x : Xt wr => x.cell c0
                            have x1 := fun x : Xt wr => x.cell p1
                            have x2 := fun x : Xt wr => x.cell p2
                            refine wp_region_eager [21] (fun w' => ∃ x : Xt wr, w' = x.1) (by kernel_rfl) ⟨⟨wr.drew, (Below.refl _ _).drew⟩, rfl⟩ ?_
                            refine wpE_reads [0, 1, 2, 3, 4, 5, 6, 7, 8, 9, 10, 11, 12, 13, 14, 15, 16, 17, 18, 19, 20] 1 rfl (by kernel_rfl) ?_
                            simp only [opsAt_nil, opsAt_cons, consOpt_some, List.getElem?_toArray, List.getElem?_cons_zero, List.getElem?_cons_succ]
                            repeat (go_big_quiet_step (fail))
                            refine wpQuiet_nil ?_
                            clear x0 x1 x2
                            refine wpE_tail rfl (by kernel_rfl) ?_
                            simp only [opsAt_nil, opsAt_cons, consOpt_some, List.getElem?_toArray, List.getElem?_cons_zero, List.getElem?_cons_succ]
                            go_wp2
                            refine onlyNormal_mk ?_
                            clear c0 p1 p2 p3 p4 p2d p3d hbd
                            generalize (wr.setCell ⟨b1, k, none⟩ (.int .i64 (a1 - d))).drew = w2 at *
                            generalize setR M2 jn k (a1 - d) = M3 at *
                            have hsq2 := HSQ1.out
                            have hgy2 := HGY1.out
                            have hbw2 := HBW1.out
                            obtain ⟨b2, hb2, q1, q2, q3, q4⟩ := hsq2.cell hkV hjV
                            obtain ⟨b1', hb1', r1, r2, _, _⟩ := hsq2.cell hjV hkV
                            have c0 : w2.cell? ⟨gb, k, none⟩ = some (.int .i64 (jn : Int)) := by
                              rw [cell_of_row w2 gb k _ _ _ hgy2]
                              simp only [List.getElem?_toArray]
                              rw [intCells_at _ _ (by omega), HJK.out]
                              rfl
                            obtain ⟨a2, ha2⟩ : ∃ a, a = cellR M3 k jn := ⟨_, rfl⟩
                            rw [← ha2] at q2 o3 o4
                            have hp := HP.out
                            rw [← ha2] at hp
                            have HP2 := Lib.hid hp
                            have HA2 := Lib.hid ha2
                            have hbd : Below w2.heap.size w2 w2.drew := (Below.refl _ _).drew
                            have sqd := hsq2.put (v := jn) hkV hb2 (a2 + d)
                            have hsq3 := sqd.keep (w' := (w2.setCell ⟨b2, jn, none⟩ (.int .i64 (a2 + d))).drew) (fun k hk => ((Below.refl _ _).drew).block k hk)
                            have hgbb2 : gb ≠ b2 := by have := ghost_in HS.out k b2 hb2; have := HGB.out; omega
                            have hBb2 : B ≤ b2 := by
                              obtain ⟨_, _, _, h, _⟩ := hsq2.row k b2 hb2
                              exact h
                            have hgy3 : (w2.setCell ⟨b2, jn, none⟩ (.int .i64 (a2 + d))).drew.heap[gb]? = some (.cells (intCells y).toArray 3 (0, 0)) := by
                              show (w2.setCell _ _).heap[gb]? = _
                              rw [heapq_set, if_neg hgbb2]
                              exact hgy2
                            have hbw3 : Below B w (w2.setCell ⟨b2, jn, none⟩ (.int .i64 (a2 + d))).drew := (hbw2.setCell hBb2 _).drew
                            have q2d := kept hbd q2
                            have q3d : w2.drew.frozen? ⟨b2, jn, none⟩ = false := q3
                            have c9 : (w2.setCell ⟨b2, jn, none⟩ (.int .i64 (a2 + d))).drew.cell? ⟨gb, k, none⟩ = some (.int .i64 (jn : Int)) := by
                              rw [cell_of_row _ gb k _ _ _ hgy3]
                              simp only [List.getElem?_toArray]
                              rw [intCells_at _ _ (by omega), HJK.out]
                              rfl
                            have HREL := Lib.hid (show PushRelR w B ob gb last bl M' y d g (.int .i64 jn) (w2.setCell ⟨b2, jn, none⟩ (.int .i64 (a2 + d))).drew from ⟨jn, _, rfl, by omega, hsq3, hgy3, hbw3, HP2.out⟩)
                            clear hsq2 hgy2 hbw2 hsq3 hgy3 hbw3 sqd hp ha2 HSQ1 HGY1 HBW1
                            go_upto_region 27 with (fail)
                            have x0 := fun x : Xt w2 => x.cell c0
                            have x1 := fun x : Xt w2 => x.cell q1
                            have x2 := fun x : Xt w2 => x.cell q2
                            have x3 := fun x : Xt w2 => x.cell r1
                            have x4 := fun x : Xt w2 => x.cell r2
                            refine wp_region_eager [21] (fun w' => ∃ x : Xt w2, w' = x.1) (by kernel_rfl) ⟨⟨w2.drew, (Below.refl _ _).drew⟩, rfl⟩ ?_
                            refine wpE_reads [0, 1, 2, 3, 4, 5, 6, 7, 8, 9, 10, 11, 12, 13, 14, 15, 16, 17, 18, 19, 20] 1 rfl (by kernel_rfl) ?_
                            simp only [opsAt_nil, opsAt_cons, consOpt_some, List.getElem?_toArray, List.getElem?_cons_zero, List.getElem?_cons_succ]
                            repeat (go_big_quiet_step (fail))
                            refine wpQuiet_nil ?_
                            clear x0 x1 x2 x3 x4
                            refine wpE_tail rfl (by kernel_rfl) ?_
                            simp only [opsAt_nil, opsAt_cons, consOpt_some, List.getElem?_toArray, List.getElem?_cons_zero, List.getElem?_cons_succ]
                            go_wp2
                            refine onlyNormal_mk ?_
                            generalize (w2.setCell ⟨b2, jn, none⟩ (.int .i64 (a2 + d))).drew = w3 at *
                            go_wp2
                            go_roundg g
                            case measure => omega
                            case rel => exact HREL.out
                          · cases hp
                  · obtain ⟨g, rfl⟩ : ∃ g, gk = g + 1 := by
                      cases gk with
                      | zero =>
                        unfold minR at hmn
                        rw [if_neg hk0] at hmn
                        cases hmn
                      | succ g => exact ⟨g, rfl⟩
                    unfold minR at hmn
                    rw [if_neg hk0] at hmn
                    obtain ⟨jk, hjk⟩ : ∃ j, y[k]? = some j := ⟨_, List.getElem?_eq_getElem (by omega)⟩
                    simp only [hjk] at hmn
                    split at hmn
                    · cases hmn
                    · have hjl := HYR.out k jk hjk
                      obtain ⟨jn, rfl⟩ : ∃ n : Nat, jk = n := ⟨jk.toNat, by omega⟩
                      rw [Int.toNat_natCast] at hmn
                      obtain ⟨rb, _, c1, c2, _, _⟩ := HSQ.out.cell (show jn < last + 1 by omega) (show k < last + 1 by omega)
                      have c0 := HCY.out k (by omega)
                      rw [hjk, Option.getD_some] at c0
                      obtain ⟨c, hc⟩ : ∃ c, c = cellR M jn k := ⟨_, rfl⟩
                      rw [← hc] at c2 hmn
                      have HMN := Lib.hid hmn
                      have e0 : ((k : Int) == 0) = false := beq_eq_false_iff_ne.2 (by omega)
                      clear hmn hjk hc
                      go_wp2
                      go_roundg g
                      case measure => omega
                      case rel => exact ⟨jn, min acc c, rfl, rfl, by omega, HMN.out, rfl⟩
end Go.Proofs.YtmcjnfghlpnghaaDoor
