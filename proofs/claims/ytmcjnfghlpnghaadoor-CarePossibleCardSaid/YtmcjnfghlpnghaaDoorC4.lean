/- reach: from the source by arcs that let somebody pass yet. -/
import Derived.Test.YtmcjnfghlpnghaaDoorC3
namespace Go.Proofs.YtmcjnfghlpnghaaDoor
open Go.RowKit

/-- one node's arcs -/
def scanM (F : Fl) : List Nat → List Int → List Nat → List Int × List Nat
  | [], y, q => (y, q)
  | i :: is, y, q =>
    match F.arcs[i]? with
    | none => (y, q)
    | some a => if 0 < a.lf ∧ y[a.to]?.getD 0 < 0 ∧ a.to ≠ F.src then scanM F is (y.set a.to (i : Int)) (q ++ [a.to]) else scanM F is y q
/-- all nodes of the queue -/
def bfsM (F : Fl) : Nat → List Int → List Nat → Option (List Int)
  | _, y, [] => some y
  | 0, _, _ :: _ => none
  | f + 1, y, n :: q => bfsM F f (scanM F (F.adj[n]?.getD []) y (n :: q)).1 (scanM F (F.adj[n]?.getD []) y (n :: q)).2.tail

theorem arcCells_at : ∀ (l : List Arc) (i : Nat) (a : Arc) (j : Nat), l[i]? = some a → j < 4 → (arcCells l)[i * 4 + j]? = (arcVals a)[j]?
  | [], i, a, j, h, _ => by simp at h
  | b :: l, 0, a, j, h, hj => by
    simp at h
    subst h
    have : arcCells (b :: l) = arcVals b ++ arcCells l := by simp [arcCells]
    rw [this, List.getElem?_append_left (by simp [arcVals]; omega), Nat.zero_mul, Nat.zero_add]
  | b :: l, i + 1, a, j, h, hj => by
    have : arcCells (b :: l) = arcVals b ++ arcCells l := by simp [arcCells]
    rw [this, List.getElem?_append_right (by simp [arcVals]; omega)]
    have := arcCells_at l i a j (by simpa using h) hj
    rw [← this]
    congr 1
    simp [arcVals]
    omega

theorem scanM_pre (F : Fl) : ∀ (l : List Nat) (y : List Int) (q : List Nat), ∃ t, (scanM F l y q).2 = q ++ t
  | [], y, q => ⟨[], by simp [scanM]⟩
  | i :: l, y, q => by
    unfold scanM
    split
    · exact ⟨[], by simp⟩
    · rename_i a _
      split
      · obtain ⟨t, ht⟩ := scanM_pre F l (y.set a.to (i : Int)) (q ++ [a.to])
        exact ⟨a.to :: t, by rw [ht]; simp⟩
      · exact scanM_pre F l y q

/-- the least number with a property -/
theorem least_ex {p : Nat → Prop} (h : ∃ n, p n) : ∃ n, p n ∧ ∀ m, p m → n ≤ m := by
  obtain ⟨n, hn⟩ := h
  induction n using Nat.strongRecOn with
  | _ n ih =>
    by_cases hm : ∃ m, m < n ∧ p m
    · obtain ⟨m, hm, hp⟩ := hm
      exact ih m hm hp
    · exact ⟨n, hn, fun m hp => by
        rcases Nat.lt_or_ge m n with h | h
        · exact absurd ⟨m, h, hp⟩ hm
        · exact h⟩
noncomputable def least (p : Nat → Prop) : Nat := @dite Nat (∃ n, p n) (Classical.propDecidable _) (fun h => Classical.choose (least_ex h)) (fun _ => 0)
theorem least_spec {p : Nat → Prop} (h : ∃ n, p n) : p (least p) ∧ ∀ m, p m → least p ≤ m := by
  unfold least
  rw [dif_pos h]
  exact Classical.choose_spec (least_ex h)

/-- numbers within bounds -/
structure FlOk (F : Fl) : Prop where
  arc : ∀ (i : Nat) (a : Arc), F.arcs[i]? = some a → a.fr < F.adj.length ∧ a.to < F.adj.length ∧ a.bk < F.arcs.length
  adj : ∀ (n i : Nat) (l : List Nat), F.adj[n]? = some l → i ∈ l → i < F.arcs.length
  src : F.src < F.adj.length
  outn : F.outn < F.adj.length
  few : F.adj.length ≤ 1000
  few' : F.arcs.length ≤ 10000

def negs (y : List Int) : Nat := (y.filter fun x => decide (x < 0)).length
theorem negs_set (i : Int) (hi : 0 ≤ i) : ∀ (y : List Int) (k : Nat), y[k]?.getD 0 < 0 → negs (y.set k i) + 1 = negs y
  | [], k, h => by simp at h
  | x :: y, 0, h => by
    have hx : x < 0 := by simpa using h
    have hx' : ¬ i < 0 := by omega
    simp [negs, hx, hx']
  | x :: y, k + 1, h => by
    have ih := negs_set i hi y k (by simpa using h)
    unfold negs at ih ⊢
    by_cases hx : x < 0
    · simp only [List.set_cons_succ, List.filter_cons, hx, decide_true, if_true, List.length_cons]
      omega
    · simp only [List.set_cons_succ, List.filter_cons, hx, decide_false, Bool.false_eq_true, if_false]
      exact ih

def ReachPost (w : World) (r : List Int) (e : Ending) (w' : World) : Prop :=
  ∃ gb, e = .returned (.slice (some ⟨gb, 0, none⟩) r.length r.length) ∧ w'.heap[gb]? = some (.cells (intCells r).toArray 3 (0, 0)) ∧ w.heap.size ≤ gb ∧ Below w.heap.size w w'

def ReachAt (w : World) (G gb V : Nat) (nodes : Value) (y : List Int) (q : List Nat) (wr : World) : Prop :=
  QAt wr G gb nodes q ∧ wr.heap[gb]? = some (.cells (intCells y).toArray 3 (0, 0)) ∧ y.length = V ∧ (∀ n ∈ q, n < V) ∧ q.length + negs y ≤ V + 1 ∧ Below G w wr

def ReachRel (w : World) (F : Fl) (G gb V : Nat) (r : List Int) (f : Nat) (nodes : Value) (wr : World) : Prop :=
  ∃ y q, ReachAt w G gb V nodes y q wr ∧ bfsM F f y q = some r

def ScanRel (w : World) (F : Fl) (G gb V : Nat) (l : List Nat) (z : List Int × List Nat) (nodes idx : Value) (wr : World) : Prop :=
  ∃ (k : Nat) (y : List Int) (q : List Nat), k ≤ l.length ∧ idx = .int .i64 k ∧ ReachAt w G gb V nodes y q wr ∧ scanM F (l.drop k) y q = z

theorem ReachAt.on {w wr w3 : World} {G gb V : Nat} {nodes : Value} {y : List Int} {q : List Nat} (h : ReachAt w G gb V nodes y q wr) (hb : Below wr.heap.size wr w3) (hG : G ≤ wr.heap.size) : ReachAt w G gb V nodes y q w3 := by
  obtain ⟨h1, h2, h3, h4, h5, h6⟩ := h
  exact ⟨h1.keep (fun k hk _ _ => hb.block k hk), by rw [hb.block gb (lt_of_block h2)]; exact h2, h3, h4, h5, h6.trans (hb.mono hG)⟩

set_option maxRecDepth 100000 in
set_option maxHeartbeats 8000000 in
theorem reach_any (w : World) (B g : Nat) (F : Fl) (h : FlowAt w B g F) (ok : FlOk F) (f : Nat) (r : List Int) (hr : bfsM F f (List.replicate F.adj.length (-1)) [F.src] = some r) :
    Calls Tryd.prog 151 #[.pointer (some ⟨g, 0, none⟩)] w (ReachPost w r) := by
  obtain ⟨va, ob, rows, h⟩ := h
  obtain ⟨Aa, ca, rfl⟩ := rowForm h.arcs
  have hBl : B ≤ w.heap.size := Nat.le_of_lt (Nat.lt_of_le_of_lt h.hB (lt_of_block h.head))
  have c1 := cell_of_row w g 1 _ _ _ h.head
  have c2 := cell_of_row w g 2 _ _ _ h.head
  simp at c1 c2
  have HH := Lib.hid h
  have OK := Lib.hid ok
  have HR := Lib.hid hr
  have hV1 : 1 ≤ F.adj.length := by have := ok.src; omega
  have hV2 : F.adj.length ≤ 1000 := ok.few
  clear h ok hr
  generalize hV : F.adj.length = V at *
  have HV := Lib.hid hV
  clear hV
  go_enter Tryd.func151, Tryd.ntmps151
  go_upto_region 1 with (fail)
  have R := Repeat_any (w.alloc (.cells #[.int .i64 (-1)] 3)) w.heap.size V (-1) hV1 (by omega) (by simp)
  have c1' := cell_alloc_old (.cells #[.int .i64 (-1)] 3) c1
  go_upto_region 2 with (go_at_call 182; refine R.mono ?_; rintro e w1 ⟨gb, rfl, hgb, hge, hb1⟩)
  have hsz1 : w.heap.size + 1 ≤ w1.heap.size := by have := hb1.size; simp at this; omega
  have c2' : w1.cell? ⟨g, 2, none⟩ = some (.int .i64 F.src) := kept hb1 (cell_alloc_old _ c2)
  have hbw : Below w.heap.size w w1 := ((Below.refl _ _).alloc (Nat.le_refl _) _).trans (hb1.mono (by simp))
  have hgl := lt_of_block hgb
  have hge' : w.heap.size ≤ gb := by simp at hge; omega
  have hat0 : ReachAt w w.heap.size gb V (.slice (some ⟨w1.heap.size, 0, none⟩) 1 1) (List.replicate V (-1)) [F.src] (w1.alloc (.cells #[.int .i64 (F.src : Int)] 3)) := by
    refine ⟨QAt.start w1 _ gb F.src (by omega) hgl, ?_, by simp, ?_, ?_, hbw.alloc (by omega) _⟩
    · rw [heapq_alloc, if_neg (by omega), hgb]
      simp [intCells]
    · intro n hn
      simp at hn
      subst hn
      have := OK.out.src
      rw [HV.out] at this
      exact this
    · simp [negs]
      omega
  have HB := Lib.hid hbw
  clear R c1' hgb hge hb1 hbw
  go_wp2
  have HAT := Lib.hid hat0
  clear hat0 c2'
  generalize w1.heap.size = h1 at *
  generalize w1.alloc (.cells #[.int .i64 (F.src : Int)] 3) = w2 at *
  go_loopw [4] (fun nodes wr => ∃ f, ReachRel w F w.heap.size gb V r f nodes wr) (fun nodes wr => least (fun f => ReachRel w F w.heap.size gb V r f nodes wr))
  case atStart => exact ⟨f, _, _, HAT.out, HR.out⟩
  case round =>
    obtain ⟨⟨y, q, hat, hbf⟩, hmin⟩ := least_spec hrel
    generalize hm : least (fun f => ReachRel w F w.heap.size gb V r f u4 wr) = m at *
    have HM := Lib.hid hm
    have HBF := Lib.hid hbf
    clear hm hbf hmin hrel HAT HB
    obtain ⟨b, off, cap, hv, hq1, hq2, hq3, hq4⟩ := hat.1.form
    subst hv
    have HA := Lib.hid hat
    clear hat
    cases q with
    | nil =>
      go_wp2
      go_ret
      have hy : y = r := by have := HBF.out; unfold bfsM at this; exact Option.some.inj this
      subst hy
      obtain ⟨_, h2, h3, _, _, h6⟩ := HA.out
      exact ⟨gb, by rw [h3]; rfl, h2, hge', h6⟩
    | cons n q =>
      have hnV : n < V := HA.out.2.2.2.1 n (by simp)
      have HF := HH.out.keep (fun k hk => HA.out.2.2.2.2.2.block k hk)
      obtain ⟨v1, hv1⟩ : ∃ v, rows[n]? = some v := ⟨rows[n]'(by rw [HF.rowsN, HV.out]; exact hnV), by simp⟩
      obtain ⟨l1, hl1⟩ : ∃ v, F.adj[n]? = some v := ⟨F.adj[n]'(by rw [HV.out]; exact hnV), by simp⟩
      obtain ⟨R1, L1⟩ := HF.row n v1 l1 hv1 hl1
      obtain ⟨A1, p1, rfl⟩ := rowForm R1
      have q0 := hq4 0 n rfl
      have q1 := cell_of_row wr g 1 _ _ _ HF.head
      have q2 := cell_of_row wr ob n _ _ _ HF.obH
      simp at q1
      rw [HV.out] at q1
      simp only [List.getElem?_toArray, hv1] at q2
      simp only [Nat.add_zero] at q0
      have i0 : (0 : Int) ≤ (n : Int) := by omega
      have i1 : (n : Int) < (V : Int) := by omega
      have few := OK.out.few'
      have HL1 := Lib.hid hl1
      have HV1 := Lib.hid hv1
      clear hq4 hv1 hl1
      simp only [List.length_cons] at hq1
      go_wp2
      have x1 := fun x : Xt wr => x.cell q1
      have x2 := fun x : Xt wr => x.cell q2
      have x3 := fun x : Xt wr => x.cell q0
      refine wp_region_xt (by kernel_rfl) (by kernel_rfl) ?_
      repeat (go_big_quiet_step (fail))
      refine wpQuiet_nil ?_
      intro w3 hx
      have hb3 := Xt.below hx
      clear hx x1 x2 x3
      have hGw : w.heap.size ≤ wr.heap.size := HA.out.2.2.2.2.2.size
      have hat3 := HA.out.on hb3 hGw
      have HA3 := Lib.hid hat3
      have R3 := Lib.hid (ownsRow_keep R1 fun k hk => hb3.block k (ownBlk R1 hk).2.1)
      clear hat3 q0 q1 q2 hb3 R1
      generalize hz : scanM F l1 y (n :: q) = z at *
      have HZ := Lib.hid hz
      clear hz
      go_wp2
      go_loopw [4, 35] (fun nodes idx w4 => ScanRel w F w.heap.size gb V l1 z nodes idx w4) (fun _ idx _ => l1.length - (intOf idx).toNat)
      case atStart => exact ⟨0, y, n :: q, Nat.zero_le _, rfl, HA3.out, HZ.out⟩
      case round =>
        obtain ⟨k, y', q', hk, rfl, hat, hs⟩ := hrel
        have HS := Lib.hid hs
        have HA' := Lib.hid hat
        clear hs hat HA HF R3 HA3
        by_cases hlt : k < l1.length
        · have HF := HH.out.keep (fun k hk => HA'.out.2.2.2.2.2.block k hk)
          obtain ⟨R1, _⟩ := HF.row n _ l1 HV1.out HL1.out
          obtain ⟨rb, cap', hve, _, _⟩ := R1.form (by omega)
          simp only [Value.slice.injEq, true_and] at hve
          obtain ⟨rfl, rfl⟩ := hve
          have hi : l1[k] < F.arcs.length := OK.out.adj n _ l1 HL1.out (by simp)
          have r0 := R1.cellAt k (by omega)
          have hkk : (natCells l1)[k]? = some (.int .i64 ((l1[k] : Nat) : Int)) := by simp [natCells, hlt]
          rw [hkk] at r0
          obtain ⟨ab, cab, hae, _, _⟩ := HF.arcs.form (by omega)
          simp only [Value.slice.injEq, true_and] at hae
          obtain ⟨rfl, rfl⟩ := hae
          obtain ⟨a, ha⟩ : ∃ a, F.arcs[l1[k]]? = some a := ⟨F.arcs[l1[k]], by simp [hi]⟩
          have a0 := (HF.arcs.cellAt (l1[k] * 4 + 0) (by omega)).trans (arcCells_at F.arcs _ a 0 ha (by omega))
          have a1 := (HF.arcs.cellAt (l1[k] * 4 + 1) (by omega)).trans (arcCells_at F.arcs _ a 1 ha (by omega))
          have a2 := (HF.arcs.cellAt (l1[k] * 4 + 2) (by omega)).trans (arcCells_at F.arcs _ a 2 ha (by omega))
          have a3 := (HF.arcs.cellAt (l1[k] * 4 + 3) (by omega)).trans (arcCells_at F.arcs _ a 3 ha (by omega))
          have g0 := cell_of_row wr g 0 _ _ _ HF.head
          have g2 := cell_of_row wr g 2 _ _ _ HF.head
          simp at g0 g2
          simp only [arcVals, List.getElem?_cons_zero, List.getElem?_cons_succ, Nat.add_zero] at a0 a1 a2 a3
          generalize hix : l1[k] = ix at *
          have HIX := Lib.hid hix
          have HARC := Lib.hid ha
          clear hix ha hkk
          go_upto_region 9 with (fail)
          have hto : a.to < V := by have := (OK.out.arc ix a HARC.out).2.1; rw [HV.out] at this; exact this
          have hyl : y'.length = V := HA'.out.2.2.1
          obtain ⟨yv, hyv⟩ : ∃ x, y'[a.to]? = some x := ⟨y'[a.to]'(by omega), by simp [hyl, hto]⟩
          have e0' := cell_of_row wr gb a.to _ _ _ HA'.out.2.1
          simp only [intCells, List.getElem?_toArray, List.getElem?_map, hyv, Option.map_some] at e0'
          have e0 := cell_alloc_old (.cells #[.int .i64 (a.fr : Int), .int .i64 (a.to : Int), .int .i64 a.lf, .int .i64 (a.bk : Int)] 215) e0'
          have g2' := cell_alloc_old (.cells #[.int .i64 (a.fr : Int), .int .i64 (a.to : Int), .int .i64 a.lf, .int .i64 (a.bk : Int)] 215) g2
          have e1 : (wr.alloc (.cells #[.int .i64 (a.fr : Int), .int .i64 (a.to : Int), .int .i64 a.lf, .int .i64 (a.bk : Int)] 215)).cell? ⟨wr.heap.size, 1, none⟩ = some (.int .i64 (a.to : Int)) := by simp
          have e2 : (wr.alloc (.cells #[.int .i64 (a.fr : Int), .int .i64 (a.to : Int), .int .i64 a.lf, .int .i64 (a.bk : Int)] 215)).cell? ⟨wr.heap.size, 2, none⟩ = some (.int .i64 a.lf) := by simp
          have hat4 := HA'.out.on ((Below.refl _ _).alloc (Nat.le_refl _) (.cells #[.int .i64 (a.fr : Int), .int .i64 (a.to : Int), .int .i64 a.lf, .int .i64 (a.bk : Int)] 215)) HA'.out.2.2.2.2.2.size
          have HA4 := Lib.hid hat4
          have hga : gb < wr.heap.size := lt_of_block HA'.out.2.1
          clear hat4 R1 r0 a0 a1 a2 a3 g0 g2 HF
          generalize wr.alloc (.cells #[.int .i64 (a.fr : Int), .int .i64 (a.to : Int), .int .i64 a.lf, .int .i64 (a.bk : Int)] 215) = w5 at *
          generalize wr.heap.size = ga at *
          have HYV := Lib.hid hyv
          clear hyv HA' e0'
          have j0 : (0 : Int) ≤ (a.to : Int) := by omega
          have j1 : (a.to : Int) < (V : Int) := by omega
          have x0 := fun x : Xt w5 => x.cell e0
          have x1 := fun x : Xt w5 => x.cell e1
          have x2 := fun x : Xt w5 => x.cell e2
          have x3 := fun x : Xt w5 => x.cell g2'
          rcases Int.lt_or_le 0 a.lf with h1 | h1
          · have d1 : decide (0 < a.lf) = true := by simp; omega
            rcases Int.lt_or_le yv 0 with h2 | h2
            · have d2 : decide (yv < 0) = true := by simp; omega
              by_cases h3 : a.to = F.src
              · have hsk : scanM F (l1.drop (k + 1)) y' q' = z := by
                  rw [← HS.out, List.drop_eq_getElem_cons hlt, HIX.out, scanM, HARC.out]
                  simp only
                  rw [if_neg (fun hh => hh.2.2 h3)]
                have HSK := Lib.hid hsk
                clear hsk HARC HYV
                generalize a.to = tt at *
                subst h3
                refine wp_region_xt (by kernel_rfl) (by kernel_rfl) ?_
                repeat (go_big_quiet_step (fail))
                refine wpQuiet_nil ?_
                intro w6 hx
                have hb6 := Xt.below hx
                clear hx x0 x1 x2 x3
                have hG5 : w.heap.size ≤ w5.heap.size := HA4.out.2.2.2.2.2.size
                have HREL := Lib.hid (show ScanRel w F w.heap.size gb V l1 z u4 (.int .i64 ((k : Int) + 1)) w6 from ⟨k + 1, y', q', by omega, by simp, HA4.out.on hb6 hG5, HSK.out⟩)
                clear hb6 e0 e1 e2 g2'
                go_wp2
                go_roundw
                case rel => exact HREL.out
                case measure => simp [intOf]; omega
              · have d3 : decide ((a.to : Int) = (F.src : Int)) = false := by simp; omega
                refine wp_region_xt (by kernel_rfl) (by kernel_rfl) ?_
                repeat (go_big_quiet_step (fail))
                refine wpQuiet_nil ?_
                intro w6 hx
                have hb6 := Xt.below hx
                clear hx x0 x1 x2 x3
                have hG5 : w.heap.size ≤ w5.heap.size := HA4.out.2.2.2.2.2.size
                have hat6 := HA4.out.on hb6 hG5
                have m0 := kept hb6 e0
                have m1 := kept hb6 e1
                have f0 := frozen_of_row w6 gb a.to _ _ hat6.2.1
                have hgb6 := lt_of_block hat6.2.1
                have hW : (w6.setCell ⟨gb, a.to, none⟩ (.int .i64 (ix : Int))).heap[gb]? = some (.cells (intCells (y'.set a.to (ix : Int))).toArray 3 (0, 0)) := by
                  rw [heapq_set, if_pos rfl, hat6.2.1]
                  simp [objSet_cells, intCells, List.map_set]
                have hB6 : Below w.heap.size w (w6.setCell ⟨gb, a.to, none⟩ (.int .i64 (ix : Int))) := hat6.2.2.2.2.2.setCell hge' _
                have hQ6 : QAt (w6.setCell ⟨gb, a.to, none⟩ (.int .i64 (ix : Int))) w.heap.size gb u4 q' := hat6.1.keep (fun k _ _ hne => by rw [heapq_set, if_neg hne])
                have hlen : q'.length ≤ 1000000 := by have := hat6.2.2.2.2.1; omega
                have hG6 : w.heap.size ≤ w6.heap.size := hat6.2.2.2.2.2.size
                have HA6 := Lib.hid hat6
                have HW := Lib.hid hW
                clear hat6 hW hb6 e0 e1 e2 g2'
                have m1' : (w6.setCell ⟨gb, a.to, none⟩ (.int .i64 (ix : Int))).cell? ⟨ga, 1, none⟩ = some (.int .i64 (a.to : Int)) := by
                  rw [World.cell?_setCell_far _ _ _ _ (by simp; omega)]
                  exact m1
                go_wp2_with (at_builtin; refine stp ?_)
                unfold Stp
                refine wpList_append_q _ rfl (.tmp 71) (.tmp 74) rfl w.heap.size gb u4 q' rfl ?qa ?hG ?hgb hlen _ a.to rfl ?hc ?_
                case qa => exact hQ6.keep (fun k hk _ _ => Below.heap_alloc _ _ k hk)
                case hG => first | omega | (simp; omega)
                case hgb => simp; omega
                case hc =>
                  refine (cell_of_row _ _ 0 #[.int .i64 (a.to : Int)] 3 (0, 0) ?_).trans rfl
                  rw [heapq_alloc, if_pos (by simp [World.setCell])]
                intro v' w7 hq7 hb7 hg7
                have hb8 : Below w.heap.size w w7 := (hB6.alloc (by simp; omega) _).trans hb7
                have hg8 : w7.heap[gb]? = some (.cells (intCells (y'.set a.to (ix : Int))).toArray 3 (0, 0)) := by
                  rw [hg7, Below.heap_alloc _ _ _ (by simp; omega)]
                  exact HW.out
                have hrel' : ScanRel w F w.heap.size gb V l1 z v' (.int .i64 ((k : Int) + 1)) w7 := by
                  obtain ⟨_, _, h33, h44, h55, _⟩ := HA6.out
                  have hng := negs_set (ix : Int) (by omega) y' a.to (by rw [HYV.out]; exact h2)
                  refine ⟨k + 1, y'.set a.to (ix : Int), q' ++ [a.to], by omega, by simp, ⟨hq7, hg8, by simp [h33], ?_, ?_, hb8⟩, ?_⟩
                  · intro n hn
                    rcases List.mem_append.1 hn with h | h
                    · exact h44 n h
                    · have : n = a.to := by simpa using h
                      omega
                  · simp
                    omega
                  · rw [← HS.out, List.drop_eq_getElem_cons hlt, HIX.out, scanM, HARC.out]
                    simp only
                    rw [if_pos ⟨h1, by rw [HYV.out]; exact h2, h3⟩]
                have HREL := Lib.hid hrel'
                clear hrel' hq7 hb7 hg7 hb8 hg8 hQ6 hB6 m0 m1 m1' f0
                go_wp2
                go_roundw
                case rel =>
                  repeat apply Exists.intro
                  exact ⟨HREL.out, rfl⟩
                case measure => simp [intOf]; omega
            · have d2 : decide (yv < 0) = false := by simp; omega
              refine wp_region_xt (by kernel_rfl) (by kernel_rfl) ?_
              repeat (go_big_quiet_step (fail))
              refine wpQuiet_nil ?_
              intro w6 hx
              have hb6 := Xt.below hx
              clear hx x0 x1 x2 x3
              have hG5 : w.heap.size ≤ w5.heap.size := HA4.out.2.2.2.2.2.size
              have hrel' : ScanRel w F w.heap.size gb V l1 z u4 (.int .i64 ((k : Int) + 1)) w6 := by
                refine ⟨k + 1, y', q', by omega, by simp, HA4.out.on hb6 hG5, ?_⟩
                rw [← HS.out, List.drop_eq_getElem_cons hlt, HIX.out, scanM, HARC.out]
                simp only
                rw [if_neg (fun hh => by have := hh.2.1; rw [HYV.out] at this; simp at this; omega)]
              have HREL := Lib.hid hrel'
              clear hrel' hb6 e0 e1 e2 g2'
              go_wp2
              go_roundw
              case rel => exact HREL.out
              case measure => simp [intOf]; omega
          · have d1 : decide (0 < a.lf) = false := by simp; omega
            refine wp_region_xt (by kernel_rfl) (by kernel_rfl) ?_
            repeat (go_big_quiet_step (fail))
            refine wpQuiet_nil ?_
            intro w6 hx
            have hb6 := Xt.below hx
            clear hx x0 x1 x2 x3
            have hG5 : w.heap.size ≤ w5.heap.size := HA4.out.2.2.2.2.2.size
            have hrel' : ScanRel w F w.heap.size gb V l1 z u4 (.int .i64 ((k : Int) + 1)) w6 := by
              refine ⟨k + 1, y', q', by omega, by simp, HA4.out.on hb6 hG5, ?_⟩
              rw [← HS.out, List.drop_eq_getElem_cons hlt, HIX.out, scanM, HARC.out]
              simp only
              rw [if_neg (fun hh => by have := hh.1; omega)]
            have HREL := Lib.hid hrel'
            clear hrel' hb6 e0 e1 e2 g2'
            go_wp2
            go_roundw
            case rel => exact HREL.out
            case measure => simp [intOf]; omega
        · have hd : l1.drop k = [] := by rw [List.drop_eq_nil_iff]; omega
          have hz2 := HS.out
          rw [hd] at hz2
          simp only [scanM] at hz2
          obtain ⟨t, ht⟩ := scanM_pre F l1 y (n :: q)
          rw [HZ.out, ← hz2] at ht
          simp only [List.cons_append] at ht
          subst ht
          obtain ⟨b', off', cap', hv', hc1, _, _, _⟩ := HA'.out.1.form
          subst hv'
          simp only [List.length_cons] at hc1
          have HZ2 := Lib.hid hz2
          clear hz2 hd
          have hG3 : ReachRel w F w.heap.size gb V r (m - 1) (Value.slice (if cap' = 1 then some { block := b', off := off' } else some { block := b', off := off' + 1 }) (q.length + t.length) (cap' - 1)) wr ∧ m ≠ 0 := by
            have hbf := HBF.out
            cases m with
            | zero => unfold bfsM at hbf; cases hbf
            | succ m =>
              unfold bfsM at hbf
              rw [HL1.out, Option.getD_some, HZ.out, ← HZ2.out] at hbf
              simp only [List.tail_cons] at hbf
              obtain ⟨h1, h2, h3, h4, h5, h6⟩ := HA'.out
              simp only [List.length_cons] at h1 h5
              refine ⟨⟨y', q ++ t, ⟨?_, h2, h3, fun x hx => h4 x (by simp [hx]), by simp at h5 ⊢; omega, h6⟩, hbf⟩, by omega⟩
              split
              · rename_i hc
                have := h1.tail0 hc
                simpa using this
              · have := h1.tail
                simpa using this
          have HG3 := Lib.hid hG3
          clear hG3
          go_wp2
          case roundEnd =>
            refine ⟨⟨_, HG3.out.1⟩, ?_⟩
            have h1 := (least_spec (p := fun f => ReachRel w F w.heap.size gb V r f (Value.slice (if cap' = 1 then some { block := b', off := off' } else some { block := b', off := off' + 1 }) (q.length + t.length) (cap' - 1)) wr) ⟨_, HG3.out.1⟩).2 _ HG3.out.1
            have h2 := HG3.out.2
            rw [HM.out]
            omega
end Go.Proofs.YtmcjnfghlpnghaaDoor
