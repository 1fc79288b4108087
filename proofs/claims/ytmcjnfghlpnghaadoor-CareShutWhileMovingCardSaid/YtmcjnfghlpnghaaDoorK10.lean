/- reach: from the source by arcs that let somebody pass yet. more: one way out, as many as it takes. more: the walk. more: a way out. The flow of rooms, as it is built: plain. -/
import Derived.Test.YtmcjnfghlpnghaaDoorK9
namespace Go.Proofs.YtmcjnfghlpnghaaDoor
open Go.RowKit

/-- one node's arcs -/
def scanM (F : Fl) : List Nat → List Int → List Nat → List Int × List Nat
  | [], y, q => (y, q)
  | i :: is, y, q =>
    match F.arcs[i]? with
    | none => (y, q)
    | some a => if 0 < a.lf ∧ y[a.to]?.getD 0 < 0 ∧ a.to ≠ F.src then scanM F is (y.set a.to (i : Int)) (q ++ [a.to]) else scanM F is y q
/-- all nodes of the queue -/
def bfsM (F : Fl) : Nat → List Int → List Nat → Option (List Int)
  | _, y, [] => some y
  | 0, _, _ :: _ => none
  | f + 1, y, n :: q => bfsM F f (scanM F (F.adj[n]?.getD []) y (n :: q)).1 (scanM F (F.adj[n]?.getD []) y (n :: q)).2.tail

theorem arcCells_at : ∀ (l : List Arc) (i : Nat) (a : Arc) (j : Nat), l[i]? = some a → j < 4 → (arcCells l)[i * 4 + j]? = (arcVals a)[j]?
  | [], i, a, j, h, _ => by simp at h
  | b :: l, 0, a, j, h, hj => by
    simp at h
    subst h
    have : arcCells (b :: l) = arcVals b ++ arcCells l := by simp [arcCells]
    rw [this, List.getElem?_append_left (by simp [arcVals]; omega), Nat.zero_mul, Nat.zero_add]
  | b :: l, i + 1, a, j, h, hj => by
    have : arcCells (b :: l) = arcVals b ++ arcCells l := by simp [arcCells]
    rw [this, List.getElem?_append_right (by simp [arcVals]; omega)]
    have := arcCells_at l i a j (by simpa using h) hj
    rw [← this]
    congr 1
    simp [arcVals]
    omega

theorem scanM_pre (F : Fl) : ∀ (l : List Nat) (y : List Int) (q : List Nat), ∃ t, (scanM F l y q).2 = q ++ t
  | [], y, q => ⟨[], by simp [scanM]⟩
  | i :: l, y, q => by
    unfold scanM
    split
    · exact ⟨[], by simp⟩
    · rename_i a _
      split
      · obtain ⟨t, ht⟩ := scanM_pre F l (y.set a.to (i : Int)) (q ++ [a.to])
        exact ⟨a.to :: t, by rw [ht]; simp⟩
      · exact scanM_pre F l y q

/-- the least number with a property -/
theorem least_ex {p : Nat → Prop} (h : ∃ n, p n) : ∃ n, p n ∧ ∀ m, p m → n ≤ m := by
  obtain ⟨n, hn⟩ := h
  induction n using Nat.strongRecOn with
  | _ n ih =>
    by_cases hm : ∃ m, m < n ∧ p m
    · obtain ⟨m, hm, hp⟩ := hm
      exact ih m hm hp
    · exact ⟨n, hn, fun m hp => by
        rcases Nat.lt_or_ge m n with h | h
        · exact absurd ⟨m, h, hp⟩ hm
        · exact h⟩
noncomputable def least (p : Nat → Prop) : Nat := @dite Nat (∃ n, p n) (Classical.propDecidable _) (fun h => Classical.choose (least_ex h)) (fun _ => 0)
theorem least_spec {p : Nat → Prop} (h : ∃ n, p n) : p (least p) ∧ ∀ m, p m → least p ≤ m := by
  unfold least
  rw [dif_pos h]
  exact Classical.choose_spec (least_ex h)

/-- numbers within bounds -/
structure FlOk (F : Fl) : Prop where
  arc : ∀ (i : Nat) (a : Arc), F.arcs[i]? = some a → a.fr < F.adj.length ∧ a.to < F.adj.length ∧ a.bk < F.arcs.length
  adj : ∀ (n i : Nat) (l : List Nat), F.adj[n]? = some l → i ∈ l → i < F.arcs.length
  src : F.src < F.adj.length
  outn : F.outn < F.adj.length
  few : F.adj.length ≤ 1000
  few' : F.arcs.length ≤ 10000

def negs (y : List Int) : Nat := (y.filter fun x => decide (x < 0)).length
theorem negs_set (i : Int) (hi : 0 ≤ i) : ∀ (y : List Int) (k : Nat), y[k]?.getD 0 < 0 → negs (y.set k i) + 1 = negs y
  | [], k, h => by simp at h
  | x :: y, 0, h => by
    have hx : x < 0 := by simpa using h
    have hx' : ¬ i < 0 := by omega
    simp [negs, hx, hx']
  | x :: y, k + 1, h => by
    have ih := negs_set i hi y k (by simpa using h)
    unfold negs at ih ⊢
    by_cases hx : x < 0
    · simp only [List.set_cons_succ, List.filter_cons, hx, decide_true, if_true, List.length_cons]
      omega
    · simp only [List.set_cons_succ, List.filter_cons, hx, decide_false, Bool.false_eq_true, if_false]
      exact ih

def ReachPost (w : World) (r : List Int) (e : Ending) (w' : World) : Prop :=
  ∃ gb, e = .returned (.slice (some ⟨gb, 0, none⟩) r.length r.length) ∧ w'.heap[gb]? = some (.cells (intCells r).toArray 3 (0, 0)) ∧ w.heap.size ≤ gb ∧ Below w.heap.size w w'

def ReachAt (w : World) (G gb V : Nat) (nodes : Value) (y : List Int) (q : List Nat) (wr : World) : Prop :=
  QAt wr G gb nodes q ∧ wr.heap[gb]? = some (.cells (intCells y).toArray 3 (0, 0)) ∧ y.length = V ∧ (∀ n ∈ q, n < V) ∧ q.length + negs y ≤ V + 1 ∧ Below G w wr

def ReachRel (w : World) (F : Fl) (G gb V : Nat) (r : List Int) (f : Nat) (nodes : Value) (wr : World) : Prop :=
  ∃ y q, ReachAt w G gb V nodes y q wr ∧ bfsM F f y q = some r

def ScanRel (w : World) (F : Fl) (G gb V : Nat) (l : List Nat) (z : List Int × List Nat) (nodes idx : Value) (wr : World) : Prop :=
  ∃ (k : Nat) (y : List Int) (q : List Nat), k ≤ l.length ∧ idx = .int .i64 k ∧ ReachAt w G gb V nodes y q wr ∧ scanM F (l.drop k) y q = z

theorem ReachAt.on {w wr w3 : World} {G gb V : Nat} {nodes : Value} {y : List Int} {q : List Nat} (h : ReachAt w G gb V nodes y q wr) (hb : Below wr.heap.size wr w3) (hG : G ≤ wr.heap.size) : ReachAt w G gb V nodes y q w3 := by
  obtain ⟨h1, h2, h3, h4, h5, h6⟩ := h
  exact ⟨h1.keep (fun k hk _ _ => hb.block k hk), by rw [hb.block gb (lt_of_block h2)]; exact h2, h3, h4, h5, h6.trans (hb.mono hG)⟩

set_option maxRecDepth 100000 in
set_option maxHeartbeats 8000000 in
theorem reach_any (w : World) (B g : Nat) (F : Fl) (h : FlowAt w B g F) (ok : FlOk F) (f : Nat) (r : List Int) (hr : bfsM F f (List.replicate F.adj.length (-1)) [F.src] = some r) :
    Calls Tryd.prog 151 #[.pointer (some ⟨g, 0, none⟩)] w (ReachPost w r) := by
  obtain ⟨va, ob, rows, h⟩ := h
  obtain ⟨Aa, ca, rfl⟩ := rowForm h.arcs
  have hBl : B ≤ w.heap.size := Nat.le_of_lt (Nat.lt_of_le_of_lt h.hB (lt_of_block h.head))
  have c1 := cell_of_row w g 1 _ _ _ h.head
  have c2 := cell_of_row w g 2 _ _ _ h.head
  simp at c1 c2
  have HH := Lib.hid h
  have OK := Lib.hid ok
  have HR := Lib.hid hr
  have hV1 : 1 ≤ F.adj.length := by have := ok.src; omega
  have hV2 : F.adj.length ≤ 1000 := ok.few
  clear h ok hr
  generalize hV : F.adj.length = V at *
  have HV := Lib.hid hV
  clear hV
  go_enter Tryd.func151, Tryd.ntmps151
  go_upto_region 1 with (fail)
  have R := Repeat_any (w.alloc (.cells #[.int .i64 (-1)] 3)) w.heap.size V (-1) hV1 (by omega) (by simp)
  have c1' := cell_alloc_old (.cells #[.int .i64 (-1)] 3) c1
  go_upto_region 2 with (go_at_call 182; refine R.mono ?_; rintro e w1 ⟨gb, rfl, hgb, hge, hb1⟩)
  have hsz1 : w.heap.size + 1 ≤ w1.heap.size := by have := hb1.size; simp at this; omega
  have c2' : w1.cell? ⟨g, 2, none⟩ = some (.int .i64 F.src) := kept hb1 (cell_alloc_old _ c2)
  have hbw : Below w.heap.size w w1 := ((Below.refl _ _).alloc (Nat.le_refl _) _).trans (hb1.mono (by simp))
  have hgl := lt_of_block hgb
  have hge' : w.heap.size ≤ gb := by simp at hge; omega
  have hat0 : ReachAt w w.heap.size gb V (.slice (some ⟨w1.heap.size, 0, none⟩) 1 1) (List.replicate V (-1)) [F.src] (w1.alloc (.cells #[.int .i64 (F.src : Int)] 3)) := by
    refine ⟨QAt.start w1 _ gb F.src (by omega) hgl, ?_, by simp, ?_, ?_, hbw.alloc (by omega) _⟩
    · rw [heapq_alloc, if_neg (by omega), hgb]
      simp [intCells]
    · intro n hn
      simp at hn
      subst hn
      have := OK.out.src
      rw [HV.out] at this
      exact this
    · simp [negs]
      omega
  have HB := Lib.hid hbw
  clear R c1' hgb hge hb1 hbw
  go_wp2
  have HAT := Lib.hid hat0
  clear hat0 c2'
  generalize w1.heap.size = h1 at *
  generalize w1.alloc (.cells #[.int .i64 (F.src : Int)] 3) = w2 at *
  go_loopw [4] (fun nodes wr => ∃ f, ReachRel w F w.heap.size gb V r f nodes wr) (fun nodes wr => least (fun f => ReachRel w F w.heap.size gb V r f nodes wr))
  case atStart => exact ⟨f, _, _, HAT.out, HR.out⟩
  case round =>
    obtain ⟨⟨y, q, hat, hbf⟩, hmin⟩ := least_spec hrel
    generalize hm : least (fun f => ReachRel w F w.heap.size gb V r f u4 wr) = m at *
    have HM := Lib.hid hm
    have HBF := Lib.hid hbf
    clear hm hbf hmin hrel HAT HB
    obtain ⟨b, off, cap, hv, hq1, hq2, hq3, hq4⟩ := hat.1.form
    subst hv
    have HA := Lib.hid hat
    clear hat
    cases q with
    | nil =>
      go_wp2
      go_ret
      have hy : y = r := by have := HBF.out; unfold bfsM at this; exact Option.some.inj this
      subst hy
      obtain ⟨_, h2, h3, _, _, h6⟩ := HA.out
      exact ⟨gb, by rw [h3]; rfl, h2, hge', h6⟩
    | cons n q =>
      have hnV : n < V := HA.out.2.2.2.1 n (by simp)
      have HF := HH.out.keep (fun k hk => HA.out.2.2.2.2.2.block k hk)
      obtain ⟨v1, hv1⟩ : ∃ v, rows[n]? = some v := ⟨rows[n]'(by rw [HF.rowsN, HV.out]; exact hnV), by simp⟩
      obtain ⟨l1, hl1⟩ : ∃ v, F.adj[n]? = some v := ⟨F.adj[n]'(by rw [HV.out]; exact hnV), by simp⟩
      obtain ⟨R1, L1⟩ := HF.row n v1 l1 hv1 hl1
      obtain ⟨A1, p1, rfl⟩ := rowForm R1
      have q0 := hq4 0 n rfl
      have q1 := cell_of_row wr g 1 _ _ _ HF.head
      have q2 := cell_of_row wr ob n _ _ _ HF.obH
      simp at q1
      rw [HV.out] at q1
      simp only [List.getElem?_toArray, hv1] at q2
      simp only [Nat.add_zero] at q0
      have i0 : (0 : Int) ≤ (n : Int) := by omega
      have i1 : (n : Int) < (V : Int) := by omega
      have few := OK.out.few'
      have HL1 := Lib.hid hl1
      have HV1 := Lib.hid hv1
      clear hq4 hv1 hl1
      simp only [List.length_cons] at hq1
      go_wp2
      have x1 := fun x : Xt wr => x.cell q1
      have x2 := fun x : Xt wr => x.cell q2
      have x3 := fun x : Xt wr => x.cell q0
      refine wp_region_xt (by kernel_rfl) (by kernel_rfl) ?_
      repeat (go_big_quiet_step (fail))
      refine wpQuiet_nil ?_
      intro w3 hx
      have hb3 := Xt.below hx
      clear hx x1 x2 x3
      have hGw : w.heap.size ≤ wr.heap.size := HA.out.2.2.2.2.2.size
      have hat3 := HA.out.on hb3 hGw
      have HA3 := Lib.hid hat3
      have R3 := Lib.hid (ownsRow_keep R1 fun k hk => hb3.block k (ownBlk R1 hk).2.1)
      clear hat3 q0 q1 q2 hb3 R1
      generalize hz : scanM F l1 y (n :: q) = z at *
      have HZ := Lib.hid hz
      clear hz
      go_wp2
      go_loopw [4, 35] (fun nodes idx w4 => ScanRel w F w.heap.size gb V l1 z nodes idx w4) (fun _ idx _ => l1.length - (intOf idx).toNat)
      case atStart => exact ⟨0, y, n :: q, Nat.zero_le _, rfl, HA3.out, HZ.out⟩
      case round =>
        obtain ⟨k, y', q', hk, rfl, hat, hs⟩ := hrel
        have HS := Lib.hid hs
        have HA' := Lib.hid hat
        clear hs hat HA HF R3 HA3
        by_cases hlt : k < l1.length
        · have HF := HH.out.keep (fun k hk => HA'.out.2.2.2.2.2.block k hk)
          obtain ⟨R1, _⟩ := HF.row n _ l1 HV1.out HL1.out
          obtain ⟨rb, cap', hve, _, _⟩ := R1.form (by omega)
          simp only [Value.slice.injEq, true_and] at hve
          obtain ⟨rfl, rfl⟩ := hve
          have hi : l1[k] < F.arcs.length := OK.out.adj n _ l1 HL1.out (by simp)
          have r0 := R1.cellAt k (by omega)
          have hkk : (natCells l1)[k]? = some (.int .i64 ((l1[k] : Nat) : Int)) := by simp [natCells, hlt]
          rw [hkk] at r0
          obtain ⟨ab, cab, hae, _, _⟩ := HF.arcs.form (by omega)
          simp only [Value.slice.injEq, true_and] at hae
          obtain ⟨rfl, rfl⟩ := hae
          obtain ⟨a, ha⟩ : ∃ a, F.arcs[l1[k]]? = some a := ⟨F.arcs[l1[k]], by simp [hi]⟩
          have a0 := (HF.arcs.cellAt (l1[k] * 4 + 0) (by omega)).trans (arcCells_at F.arcs _ a 0 ha (by omega))
          have a1 := (HF.arcs.cellAt (l1[k] * 4 + 1) (by omega)).trans (arcCells_at F.arcs _ a 1 ha (by omega))
          have a2 := (HF.arcs.cellAt (l1[k] * 4 + 2) (by omega)).trans (arcCells_at F.arcs _ a 2 ha (by omega))
          have a3 := (HF.arcs.cellAt (l1[k] * 4 + 3) (by omega)).trans (arcCells_at F.arcs _ a 3 ha (by omega))
          have g0 := cell_of_row wr g 0 _ _ _ HF.head
          have g2 := cell_of_row wr g 2 _ _ _ HF.head
          simp at g0 g2
          simp only [arcVals, List.getElem?_cons_zero, List.getElem?_cons_succ, Nat.add_zero] at a0 a1 a2 a3
          generalize hix : l1[k] = ix at *
          have HIX := Lib.hid hix
          have HARC := Lib.hid ha
          clear hix ha hkk
          go_upto_region 9 with (fail)
          have hto : a.to < V := by have := (OK.out.arc ix a HARC.out).2.1; rw [HV.out] at this; exact this
          have hyl : y'.length = V := HA'.out.2.2.1
          obtain ⟨yv, hyv⟩ : ∃ x, y'[a.to]? = some x := ⟨y'[a.to]'(by omega), by simp [hyl, hto]⟩
          have e0' := cell_of_row wr gb a.to _ _ _ HA'.out.2.1
          simp only [intCells, List.getElem?_toArray, List.getElem?_map, hyv, Option.map_some] at e0'
          have e0 := cell_alloc_old (.cells #[.int .i64 (a.fr : Int), .int .i64 (a.to : Int), .int .i64 a.lf, .int .i64 (a.bk : Int)] 215) e0'
          have g2' := cell_alloc_old (.cells #[.int .i64 (a.fr : Int), .int .i64 (a.to : Int), .int .i64 a.lf, .int .i64 (a.bk : Int)] 215) g2
          have e1 : (wr.alloc (.cells #[.int .i64 (a.fr : Int), .int .i64 (a.to : Int), .int .i64 a.lf, .int .i64 (a.bk : Int)] 215)).cell? ⟨wr.heap.size, 1, none⟩ = some (.int .i64 (a.to : Int)) := by simp
          have e2 : (wr.alloc (.cells #[.int .i64 (a.fr : Int), .int .i64 (a.to : Int), .int .i64 a.lf, .int .i64 (a.bk : Int)] 215)).cell? ⟨wr.heap.size, 2, none⟩ = some (.int .i64 a.lf) := by simp
          have hat4 := HA'.out.on ((Below.refl _ _).alloc (Nat.le_refl _) (.cells #[.int .i64 (a.fr : Int), .int .i64 (a.to : Int), .int .i64 a.lf, .int .i64 (a.bk : Int)] 215)) HA'.out.2.2.2.2.2.size
          have HA4 := Lib.hid hat4
          have hga : gb < wr.heap.size := lt_of_block HA'.out.2.1
          clear hat4 R1 r0 a0 a1 a2 a3 g0 g2 HF
          generalize wr.alloc (.cells #[.int .i64 (a.fr : Int), .int .i64 (a.to : Int), .int .i64 a.lf, .int .i64 (a.bk : Int)] 215) = w5 at *
          generalize wr.heap.size = ga at *
          have HYV := Lib.hid hyv
          clear hyv HA' e0'
          have j0 : (0 : Int) ≤ (a.to : Int) := by omega
          have j1 : (a.to : Int) < (V : Int) := by omega
          have x0 := fun x : Xt w5 => x.cell e0
          have x1 := fun x : Xt w5 => x.cell e1
          have x2 := fun x : Xt w5 => x.cell e2
          have x3 := fun x : Xt w5 => x.cell g2'
          rcases Int.lt_or_le 0 a.lf with h1 | h1
          · have d1 : decide (0 < a.lf) = true := by simp; omega
            rcases Int.lt_or_le yv 0 with h2 | h2
            · have d2 : decide (yv < 0) = true := by simp; omega
              by_cases h3 : a.to = F.src
              · have hsk : scanM F (l1.drop (k + 1)) y' q' = z := by
                  rw [← HS.out, List.drop_eq_getElem_cons hlt, HIX.out, scanM, HARC.out]
                  simp only
                  rw [if_neg (fun hh => hh.2.2 h3)]
                have HSK := Lib.hid hsk
                clear hsk HARC HYV
                generalize a.to = tt at *
                subst h3
                refine wp_region_xt (by kernel_rfl) (by kernel_rfl) ?_
                repeat (go_big_quiet_step (fail))
                refine wpQuiet_nil ?_
                intro w6 hx
                have hb6 := Xt.below hx
                clear hx x0 x1 x2 x3
                have hG5 : w.heap.size ≤ w5.heap.size := HA4.out.2.2.2.2.2.size
                have HREL := Lib.hid (show ScanRel w F w.heap.size gb V l1 z u4 (.int .i64 ((k : Int) + 1)) w6 from ⟨k + 1, y', q', by omega, by simp, HA4.out.on hb6 hG5, HSK.out⟩)
                clear hb6 e0 e1 e2 g2'
                go_wp2
                go_roundw
                case rel => exact HREL.out
                case measure => simp [intOf]; omega
              · have d3 : decide ((a.to : Int) = (F.src : Int)) = false := by simp; omega
                refine wp_region_xt (by kernel_rfl) (by kernel_rfl) ?_
                repeat (go_big_quiet_step (fail))
                refine wpQuiet_nil ?_
                intro w6 hx
                have hb6 := Xt.below hx
                clear hx x0 x1 x2 x3
                have hG5 : w.heap.size ≤ w5.heap.size := HA4.out.2.2.2.2.2.size
                have hat6 := HA4.out.on hb6 hG5
                have m0 := kept hb6 e0
                have m1 := kept hb6 e1
                have f0 := frozen_of_row w6 gb a.to _ _ hat6.2.1
                have hgb6 := lt_of_block hat6.2.1
                have hW : (w6.setCell ⟨gb, a.to, none⟩ (.int .i64 (ix : Int))).heap[gb]? = some (.cells (intCells (y'.set a.to (ix : Int))).toArray 3 (0, 0)) := by
                  rw [heapq_set, if_pos rfl, hat6.2.1]
                  simp [objSet_cells, intCells, List.map_set]
                have hB6 : Below w.heap.size w (w6.setCell ⟨gb, a.to, none⟩ (.int .i64 (ix : Int))) := hat6.2.2.2.2.2.setCell hge' _
                have hQ6 : QAt (w6.setCell ⟨gb, a.to, none⟩ (.int .i64 (ix : Int))) w.heap.size gb u4 q' := hat6.1.keep (fun k _ _ hne => by rw [heapq_set, if_neg hne])
                have hlen : q'.length ≤ 1000000 := by have := hat6.2.2.2.2.1; omega
                have hG6 : w.heap.size ≤ w6.heap.size := hat6.2.2.2.2.2.size
                have HA6 := Lib.hid hat6
                have HW := Lib.hid hW
                clear hat6 hW hb6 e0 e1 e2 g2'
                have m1' : (w6.setCell ⟨gb, a.to, none⟩ (.int .i64 (ix : Int))).cell? ⟨ga, 1, none⟩ = some (.int .i64 (a.to : Int)) := by
                  rw [World.cell?_setCell_far _ _ _ _ (by simp; omega)]
                  exact m1
                go_wp2_with (at_builtin; refine stp ?_)
                unfold Stp
                refine wpList_append_q _ rfl (.tmp 71) (.tmp 74) rfl w.heap.size gb u4 q' rfl ?qa ?hG ?hgb hlen _ a.to rfl ?hc ?_
                case qa => exact hQ6.keep (fun k hk _ _ => Below.heap_alloc _ _ k hk)
                case hG => first | omega | (simp; omega)
                case hgb => simp; omega
                case hc =>
                  refine (cell_of_row _ _ 0 #[.int .i64 (a.to : Int)] 3 (0, 0) ?_).trans rfl
                  rw [heapq_alloc, if_pos (by simp [World.setCell])]
                intro v' w7 hq7 hb7 hg7
                have hb8 : Below w.heap.size w w7 := (hB6.alloc (by simp; omega) _).trans hb7
                have hg8 : w7.heap[gb]? = some (.cells (intCells (y'.set a.to (ix : Int))).toArray 3 (0, 0)) := by
                  rw [hg7, Below.heap_alloc _ _ _ (by simp; omega)]
                  exact HW.out
                have hrel' : ScanRel w F w.heap.size gb V l1 z v' (.int .i64 ((k : Int) + 1)) w7 := by
                  obtain ⟨_, _, h33, h44, h55, _⟩ := HA6.out
                  have hng := negs_set (ix : Int) (by omega) y' a.to (by rw [HYV.out]; exact h2)
                  refine ⟨k + 1, y'.set a.to (ix : Int), q' ++ [a.to], by omega, by simp, ⟨hq7, hg8, by simp [h33], ?_, ?_, hb8⟩, ?_⟩
                  · intro n hn
                    rcases List.mem_append.1 hn with h | h
                    · exact h44 n h
                    · have : n = a.to := by simpa using h
                      omega
                  · simp
                    omega
                  · rw [← HS.out, List.drop_eq_getElem_cons hlt, HIX.out, scanM, HARC.out]
                    simp only
                    rw [if_pos ⟨h1, by rw [HYV.out]; exact h2, h3⟩]
                have HREL := Lib.hid hrel'
                clear hrel' hq7 hb7 hg7 hb8 hg8 hQ6 hB6 m0 m1 m1' f0
                go_wp2
                go_roundw
                case rel =>
                  repeat apply Exists.intro
                  exact ⟨HREL.out, rfl⟩
                case measure => simp [intOf]; omega
            · have d2 : decide (yv < 0) = false := by simp; omega
              refine wp_region_xt (by kernel_rfl) (by kernel_rfl) ?_
              repeat (go_big_quiet_step (fail))
              refine wpQuiet_nil ?_
              intro w6 hx
              have hb6 := Xt.below hx
              clear hx x0 x1 x2 x3
              have hG5 : w.heap.size ≤ w5.heap.size := HA4.out.2.2.2.2.2.size
              have hrel' : ScanRel w F w.heap.size gb V l1 z u4 (.int .i64 ((k : Int) + 1)) w6 := by
                refine ⟨k + 1, y', q', by omega, by simp, HA4.out.on hb6 hG5, ?_⟩
                rw [← HS.out, List.drop_eq_getElem_cons hlt, HIX.out, scanM, HARC.out]
                simp only
                rw [if_neg (fun hh => by have := hh.2.1; rw [HYV.out] at this; simp at this; omega)]
              have HREL := Lib.hid hrel'
              clear hrel' hb6 e0 e1 e2 g2'
              go_wp2
              go_roundw
              case rel => exact HREL.out
              case measure => simp [intOf]; omega
          · have d1 : decide (0 < a.lf) = false := by simp; omega
            refine wp_region_xt (by kernel_rfl) (by kernel_rfl) ?_
            repeat (go_big_quiet_step (fail))
            refine wpQuiet_nil ?_
            intro w6 hx
            have hb6 := Xt.below hx
            clear hx x0 x1 x2 x3
            have hG5 : w.heap.size ≤ w5.heap.size := HA4.out.2.2.2.2.2.size
            have hrel' : ScanRel w F w.heap.size gb V l1 z u4 (.int .i64 ((k : Int) + 1)) w6 := by
              refine ⟨k + 1, y', q', by omega, by simp, HA4.out.on hb6 hG5, ?_⟩
              rw [← HS.out, List.drop_eq_getElem_cons hlt, HIX.out, scanM, HARC.out]
              simp only
              rw [if_neg (fun hh => by have := hh.1; omega)]
            have HREL := Lib.hid hrel'
            clear hrel' hb6 e0 e1 e2 g2'
            go_wp2
            go_roundw
            case rel => exact HREL.out
            case measure => simp [intOf]; omega
        · have hd : l1.drop k = [] := by rw [List.drop_eq_nil_iff]; omega
          have hz2 := HS.out
          rw [hd] at hz2
          simp only [scanM] at hz2
          obtain ⟨t, ht⟩ := scanM_pre F l1 y (n :: q)
          rw [HZ.out, ← hz2] at ht
          simp only [List.cons_append] at ht
          subst ht
          obtain ⟨b', off', cap', hv', hc1, _, _, _⟩ := HA'.out.1.form
          subst hv'
          simp only [List.length_cons] at hc1
          have HZ2 := Lib.hid hz2
          clear hz2 hd
          have hG3 : ReachRel w F w.heap.size gb V r (m - 1) (Value.slice (if cap' = 1 then some { block := b', off := off' } else some { block := b', off := off' + 1 }) (q.length + t.length) (cap' - 1)) wr ∧ m ≠ 0 := by
            have hbf := HBF.out
            cases m with
            | zero => unfold bfsM at hbf; cases hbf
            | succ m =>
              unfold bfsM at hbf
              rw [HL1.out, Option.getD_some, HZ.out, ← HZ2.out] at hbf
              simp only [List.tail_cons] at hbf
              obtain ⟨h1, h2, h3, h4, h5, h6⟩ := HA'.out
              simp only [List.length_cons] at h1 h5
              refine ⟨⟨y', q ++ t, ⟨?_, h2, h3, fun x hx => h4 x (by simp [hx]), by simp at h5 ⊢; omega, h6⟩, hbf⟩, by omega⟩
              split
              · rename_i hc
                have := h1.tail0 hc
                simpa using this
              · have := h1.tail
                simpa using this
          have HG3 := Lib.hid hG3
          clear hG3
          go_wp2
          case roundEnd =>
            refine ⟨⟨_, HG3.out.1⟩, ?_⟩
            have h1 := (least_spec (p := fun f => ReachRel w F w.heap.size gb V r f (Value.slice (if cap' = 1 then some { block := b', off := off' } else some { block := b', off := off' + 1 }) (q.length + t.length) (cap' - 1)) wr) ⟨_, HG3.out.1⟩).2 _ HG3.out.1
            have h2 := HG3.out.2
            rw [HM.out]
            omega
end Go.Proofs.YtmcjnfghlpnghaaDoor

namespace Go.Proofs.YtmcjnfghlpnghaaDoor
open Go.RowKit

/-- the arc by which a node was reached -/
def byArc (arcs : List Arc) (y : List Int) (at_ : Nat) : Option Arc :=
  match y[at_]? with
  | none => none
  | some i => if i < 0 then none else arcs[i.toNat]?
/-- the least that the way back from a node takes -/
def minM (F : Fl) (y : List Int) : Nat → Nat → Int → Option Int
  | f, at_, acc => if at_ = F.src then some acc else
    match f with
    | 0 => none
    | f + 1 =>
      match byArc F.arcs y at_ with
      | none => none
      | some a => minM F y f a.fr (min acc a.lf)
def addLf (arcs : List Arc) (i : Nat) (d : Int) : List Arc := arcs.modify i fun a => { a with lf := a.lf + d }
def okI (x : Int) : Bool := decide (-1000000000 ≤ x) && decide (x ≤ 1000000000)
/-- some people sent along the way back from a node -/
def pushM (src : Nat) (y : List Int) (d : Int) : Nat → Nat → List Arc → Option (List Arc)
  | f, at_, arcs => if at_ = src then some arcs else
    match f with
    | 0 => none
    | f + 1 =>
      match y[at_]?, byArc arcs y at_ with
      | some i, some a =>
        match (addLf arcs i.toNat (-d))[a.bk]? with
        | none => none
        | some b => if okI (a.lf + -d) && okI (b.lf + d) then pushM src y d f a.fr (addLf (addLf arcs i.toNat (-d)) a.bk d) else none
      | _, _ => none
def moreM (F : Fl) (f : Nat) : Option (Option Fl) :=
  match bfsM F f (List.replicate F.adj.length (-1)) [F.src] with
  | none => none
  | some y =>
    if y[F.outn]?.getD 0 < 0 then some none else
    match minM F y f F.outn 60000 with
    | none => none
    | some d =>
      match pushM F.src y d f F.outn F.arcs with
      | none => none
      | some arcs => if okI (F.o + d) then some (some { F with arcs := arcs, o := F.o + d }) else none

theorem arcCells_set : ∀ (l : List Arc) (i : Nat) (v : Int), i < l.length → (arcCells l).set (i * 4 + 2) (.int .i64 v) = arcCells (l.modify i fun a => { a with lf := v })
  | [], i, v, h => by simp at h
  | b :: l, 0, v, _ => by
    have e1 : arcCells (b :: l) = arcVals b ++ arcCells l := by simp [arcCells]
    have e2 : (b :: l).modify 0 (fun a => { a with lf := v }) = { b with lf := v } :: l := by simp
    have e3 : arcCells ({ b with lf := v } :: l) = arcVals { b with lf := v } ++ arcCells l := by simp [arcCells]
    rw [e1, e2, e3]
    simp [arcVals]
  | b :: l, i + 1, v, h => by
    have e1 : arcCells (b :: l) = arcVals b ++ arcCells l := by simp [arcCells]
    have e2 : (b :: l).modify (i + 1) (fun a => { a with lf := v }) = b :: l.modify i (fun a => { a with lf := v }) := by simp
    have e3 : arcCells (b :: l.modify i (fun a => { a with lf := v })) = arcVals b ++ arcCells (l.modify i fun a => { a with lf := v }) := by simp [arcCells]
    rw [e1, e2, e3, ← arcCells_set l i v (by simpa using h)]
    rw [show (i + 1) * 4 + 2 = (arcVals b).length + (i * 4 + 2) by simp [arcVals]; omega, List.set_append_right _ _ (by omega)]
    simp

theorem FlowIn.setLf {w : World} {B g ab ob ca i : Nat} {rows : List Value} {F : Fl} (h : FlowIn w B g (.slice (some ⟨ab, 0, none⟩) F.arcs.length ca) ob rows F) (v : Int) (hi : i < F.arcs.length) :
    FlowIn (w.setCell ⟨ab, i * 4 + 2, none⟩ (.int .i64 v)) B g (.slice (some ⟨ab, 0, none⟩) F.arcs.length ca) ob rows { F with arcs := F.arcs.modify i fun a => { a with lf := v } } := by
  have nk : ∀ k, k ≠ ab → (w.setCell ⟨ab, i * 4 + 2, none⟩ (.int .i64 v)).heap[k]? = w.heap[k]? := fun k hk => by rw [heapq_set, if_neg hk]
  refine ⟨?_, ?_, ?_, h.rowsN, ?_, h.apart, h.hB, h.hB'⟩
  · rw [nk g (ownBlk_ne h.arcs rfl h.head (by decide))]
    exact h.head
  · have h1 := h.arcs.stored (i * 4 + 2) (.int .i64 v)
    rw [arcCells_set F.arcs i v hi] at h1
    show World.ownsRow _ B 215 4 _ (F.arcs.modify i _).length _
    rw [List.length_modify]
    exact h1.1
  · rw [nk ob (ownBlk_ne h.arcs rfl h.obH (by decide))]
    exact h.obH
  · intro j u l hu hl
    have h3 := h.row j u l hu hl
    refine ⟨ownsRow_keep h3.1 fun k hb => nk k ?_, by simpa using h3.2⟩
    intro he
    subst he
    exact ownBlk_ne' h3.1 h.arcs hb (by decide) rfl

theorem FlowIn.setO {w : World} {B g ob : Nat} {va : Value} {rows : List Value} {F : Fl} (h : FlowIn w B g va ob rows F) (v : Int) : FlowIn (w.setCell ⟨g, 6, none⟩ (.int .i64 v)) B g va ob rows { F with o := v } := by
  have nk : ∀ k, k ≠ g → (w.setCell ⟨g, 6, none⟩ (.int .i64 v)).heap[k]? = w.heap[k]? := fun k hk => by rw [heapq_set, if_neg hk]
  refine ⟨?_, ?_, ?_, h.rowsN, ?_, h.apart, h.hB, h.hB'⟩
  · rw [heapq_set, if_pos rfl, h.head]
    simp [objSet_cells]
  · exact ownsRow_keep h.arcs fun k hb => nk k (fun e => ownBlk_ne h.arcs hb h.head (by decide) e.symm)
  · rw [nk ob (Ne.symm h.ne)]
    exact h.obH
  · intro j u l hu hl
    have h3 := h.row j u l hu hl
    exact ⟨ownsRow_keep h3.1 fun k hb => nk k (fun e => ownBlk_ne h3.1 hb h.head (by decide) e.symm), h3.2⟩
end Go.Proofs.YtmcjnfghlpnghaaDoor

namespace Go.Proofs.YtmcjnfghlpnghaaDoor
open Go.RowKit

theorem scanM_len (F : Fl) : ∀ (l : List Nat) (y : List Int) (q : List Nat), (scanM F l y q).1.length = y.length
  | [], y, q => rfl
  | i :: l, y, q => by
    unfold scanM
    split
    · rfl
    · split
      · rw [scanM_len F l]; simp
      · exact scanM_len F l y q
theorem bfsM_len (F : Fl) : ∀ (f : Nat) (y : List Int) (q : List Nat) (r : List Int), bfsM F f y q = some r → r.length = y.length
  | f, y, [], r, h => by unfold bfsM at h; rw [Option.some.inj h]
  | 0, y, n :: q, r, h => by unfold bfsM at h; cases h
  | f + 1, y, n :: q, r, h => by
    unfold bfsM at h
    rw [bfsM_len F f _ _ r h, scanM_len]

def MorePost (w : World) (B g : Nat) (F : Fl) (x : Option Fl) (e : Ending) (w' : World) : Prop :=
  match x with
  | none => e = .returned (.bool false) ∧ FlowAt w' B g F ∧ Below B w w'
  | some F' => e = .returned (.bool true) ∧ FlowAt w' B g F' ∧ Below B w w'

set_option maxRecDepth 100000 in
set_option maxHeartbeats 8000000 in
theorem more_no (w : World) (B g : Nat) (F : Fl) (h : FlowAt w B g F) (ok : FlOk F) (f : Nat) (y : List Int) (hr : bfsM F f (List.replicate F.adj.length (-1)) [F.src] = some y) (hy : y[F.outn]?.getD 0 < 0) :
    Calls Tryd.prog 141 #[.pointer (some ⟨g, 0, none⟩)] w (MorePost w B g F none) := by
  have hlen := bfsM_len F f _ _ y hr
  rw [List.length_replicate] at hlen
  have R := reach_any w B g F h ok f y hr
  obtain ⟨va, ob, rows, h⟩ := h
  have ho := ok.outn
  obtain ⟨yo, hyo⟩ : ∃ x, y[F.outn]? = some x := ⟨y[F.outn]'(by omega), by simp [hlen, ho]⟩
  rw [hyo, Option.getD_some] at hy
  have d1 : decide (yo < 0) = true := by simp; omega
  have i0 : (0 : Int) ≤ (F.outn : Int) := by omega
  have i1 : (F.outn : Int) < (y.length : Int) := by omega
  have HH := Lib.hid h
  have HY := Lib.hid hyo
  clear h hyo hr ok
  go_enter Tryd.func141, Tryd.ntmps141
  go_upto_region 2 with (go_at_call 151; refine R.mono ?_; rintro e w1 ⟨gb, rfl, hgb, hge, hb1⟩)
  have HF := HH.out.keep (fun k hk => hb1.block k hk)
  have g3 := cell_of_row w1 g 3 _ _ _ HF.head
  have e0 := cell_of_row w1 gb F.outn _ _ _ hgb
  simp at g3
  simp only [intCells, List.getElem?_toArray, List.getElem?_map, HY.out, Option.map_some] at e0
  have hb2 : Below B w w1 := hb1.mono (Nat.le_of_lt (Nat.lt_of_le_of_lt HH.out.hB (lt_of_block HH.out.head)))
  have HF' := Lib.hid HF
  clear R HF hb1 hgb
  go_wp2
  go_ret
  exact ⟨rfl, ⟨va, ob, rows, HF'.out⟩, hb2⟩
end Go.Proofs.YtmcjnfghlpnghaaDoor

namespace Go.Proofs.YtmcjnfghlpnghaaDoor
open Go.RowKit

theorem byArc_spec {arcs : List Arc} {y : List Int} {at_ : Nat} {a : Arc} (h : byArc arcs y at_ = some a) : ∃ i : Nat, y[at_]? = some (i : Int) ∧ arcs[i]? = some a := by
  unfold byArc at h
  split at h
  · cases h
  · rename_i i hi
    split at h
    · cases h
    · refine ⟨i.toNat, by rw [hi]; congr 1; omega, h⟩

theorem addLf_len (arcs : List Arc) (i : Nat) (d : Int) : (addLf arcs i d).length = arcs.length := by simp [addLf]
theorem addLf_eq {arcs : List Arc} {i : Nat} {a : Arc} (h : arcs[i]? = some a) (d v : Int) (hv : a.lf + d = v) : (arcs.modify i fun a => { a with lf := v }) = addLf arcs i d := by
  subst hv
  apply List.ext_getElem?
  intro j
  simp only [addLf, List.getElem?_modify]
  by_cases hj : i = j
  · subst hj
    simp [h]
  · simp [hj]
theorem addLf_get {arcs : List Arc} {i : Nat} {a : Arc} (h : arcs[i]? = some a) (k : Nat) (d : Int) : ∃ b, (addLf arcs k d)[i]? = some b ∧ b.fr = a.fr ∧ b.to = a.to ∧ b.bk = a.bk := by
  simp only [addLf, List.getElem?_modify, h]
  by_cases hk : k = i
  · exact ⟨{ a with lf := a.lf + d }, by simp [hk], rfl, rfl, rfl⟩
  · exact ⟨a, by simp [hk], rfl, rfl, rfl⟩
theorem FlowIn.setLf' {w : World} {B g ab ob ca i n : Nat} {rows : List Value} {F : Fl} (h : FlowIn w B g (.slice (some ⟨ab, 0, none⟩) n ca) ob rows F) (hn : F.arcs.length = n) {b : Arc} (hb : F.arcs[i]? = some b) (d v : Int) (hv : b.lf + d = v) :
    FlowIn (w.setCell ⟨ab, i * 4 + 2, none⟩ (.int .i64 v)) B g (.slice (some ⟨ab, 0, none⟩) n ca) ob rows { F with arcs := addLf F.arcs i d } := by
  subst hn
  have h1 := h.setLf v (List.getElem?_eq_some_iff.1 hb).1
  rw [addLf_eq hb d v hv] at h1
  exact h1
theorem okI_spec {x : Int} (h : okI x = true) : -1000000000 ≤ x ∧ x ≤ 1000000000 := by simpa [okI] using h

theorem FlOk.addLf {F : Fl} {arcs : List Arc} (h : FlOk { F with arcs := arcs }) (k : Nat) (d : Int) : FlOk { F with arcs := addLf arcs k d } where
  arc := fun i a ha => by
    have hl : i < arcs.length := by
      have := (List.getElem?_eq_some_iff.1 ha).1
      simpa [YtmcjnfghlpnghaaDoor.addLf] using this
    obtain ⟨b, hb, h1, h2, h3⟩ := addLf_get (arcs := arcs) (i := i) (a := arcs[i]) (by simp [hl]) k d
    have e : b = a := Option.some.inj (hb.symm.trans ha)
    subst e
    have := h.arc i arcs[i] (by simp [hl])
    rw [h1, h2, h3]
    refine ⟨this.1, this.2.1, ?_⟩
    show _ < (YtmcjnfghlpnghaaDoor.addLf arcs k d).length
    rw [addLf_len]
    exact this.2.2
  adj := fun n i l hl hi => by
    show i < (YtmcjnfghlpnghaaDoor.addLf arcs k d).length
    rw [addLf_len]
    exact h.adj n i l hl hi
  src := h.src
  outn := h.outn
  few := h.few
  few' := by
    show (YtmcjnfghlpnghaaDoor.addLf arcs k d).length ≤ _
    rw [addLf_len]
    exact h.few'

def MinRel (F : Fl) (y : List Int) (d : Int) (w1 : World) (f : Nat) (t4 t5 : Value) (wr : World) : Prop :=
  ∃ (at_ : Nat) (acc : Int), t5 = .int .i64 at_ ∧ t4 = .int .i64 acc ∧ at_ < F.adj.length ∧ minM F y f at_ acc = some d ∧ Below w1.heap.size w1 wr

def PushRel (F : Fl) (y : List Int) (d : Int) (arcs' : List Arc) (w : World) (B g gb : Nat) (f : Nat) (t6 : Value) (wr : World) : Prop :=
  ∃ (at_ : Nat) (arcs : List Arc), t6 = .int .i64 at_ ∧ at_ < F.adj.length ∧ pushM F.src y d f at_ arcs = some arcs' ∧ FlowAt wr B g { F with arcs := arcs } ∧ FlOk { F with arcs := arcs } ∧
    wr.heap[gb]? = some (.cells (intCells y).toArray 3 (0, 0)) ∧ Below B w wr

set_option maxRecDepth 100000 in
set_option maxHeartbeats 8000000 in
theorem more_yes (w : World) (B g : Nat) (F : Fl) (h : FlowAt w B g F) (ok : FlOk F) (f : Nat) (y : List Int) (hr : bfsM F f (List.replicate F.adj.length (-1)) [F.src] = some y) (hy : ¬ y[F.outn]?.getD 0 < 0)
    (d : Int) (hd : minM F y f F.outn 60000 = some d) (arcs' : List Arc) (hp : pushM F.src y d f F.outn F.arcs = some arcs') (hoo : okI (F.o + d) = true) :
    Calls Tryd.prog 141 #[.pointer (some ⟨g, 0, none⟩)] w (MorePost w B g F (some { F with arcs := arcs', o := F.o + d })) := by
  have hlen := bfsM_len F f _ _ y hr
  rw [List.length_replicate] at hlen
  have R := reach_any w B g F h ok f y hr
  obtain ⟨va, ob, rows, h⟩ := h
  have ho := ok.outn
  obtain ⟨yo, hyo⟩ : ∃ x, y[F.outn]? = some x := ⟨y[F.outn]'(by omega), by simp [hlen, ho]⟩
  rw [hyo, Option.getD_some] at hy
  have d1 : decide (yo < 0) = false := by simp; omega
  have i0 : (0 : Int) ≤ (F.outn : Int) := by omega
  have i1 : (F.outn : Int) < (y.length : Int) := by omega
  have HH := Lib.hid h
  have OK := Lib.hid ok
  have HY := Lib.hid hyo
  have HD := Lib.hid hd
  have HP := Lib.hid hp
  clear h hyo hr ok hd hp
  go_enter Tryd.func141, Tryd.ntmps141
  go_upto_region 2 with (go_at_call 151; refine R.mono ?_; rintro e w1 ⟨gb, rfl, hgb, hge, hb1⟩)
  have HF := HH.out.keep (fun k hk => hb1.block k hk)
  have g2 := cell_of_row w1 g 2 _ _ _ HF.head
  have g3 := cell_of_row w1 g 3 _ _ _ HF.head
  have e0 := cell_of_row w1 gb F.outn _ _ _ hgb
  simp at g2 g3
  simp only [intCells, List.getElem?_toArray, List.getElem?_map, HY.out, Option.map_some] at e0
  have hb2 : Below B w w1 := hb1.mono (Nat.le_of_lt (Nat.lt_of_le_of_lt HH.out.hB (lt_of_block HH.out.head)))
  have HF' := Lib.hid HF
  clear R HF hb1
  go_wp2
  go_loopw [4, 5] (fun t4 t5 wr => ∃ f, MinRel F y d w1 f t4 t5 wr) (fun t4 t5 wr => least (fun f => MinRel F y d w1 f t4 t5 wr))
  case atStart => exact ⟨f, F.outn, 60000, rfl, rfl, ho, HD.out, Below.refl _ _⟩
  case round =>
    obtain ⟨⟨at_, acc, rfl, rfl, hat, hmm, hb⟩, hmin⟩ := least_spec hrel
    generalize hm : least (fun f => MinRel F y d w1 f (.int .i64 acc) (.int .i64 at_) wr) = m at *
    have HM := Lib.hid hm
    have HMM := Lib.hid hmm
    clear hm hmm hmin hrel
    have hgl := lt_of_block hgb
    have HFr := HF'.out.keep (fun k hk => hb.block k hk)
    have g2r := cell_of_row wr g 2 _ _ _ HFr.head
    simp at g2r
    by_cases hs : at_ = F.src
    · have hacc : acc = d := by have := HMM.out; unfold minM at this; rw [if_pos hs] at this; exact Option.some.inj this
      subst hacc
      have hs1 : decide ((at_ : Int) = (F.src : Int)) = true := by simp; omega
      have hbB : Below B w wr := hb2.trans (hb.mono (by have := hb2.size; have h1 := lt_of_block HH.out.head; have h2 := HH.out.hB; omega))
      have hgr := (hb.block gb hgl).trans hgb
      have HFr' := Lib.hid HFr
      have g3r := cell_of_row wr g 3 _ _ _ HFr.head
      simp at g3r
      subst hs
      clear HFr hb HMM hb2 g2 g3 e0 hgb hgl
      go_wp2
      go_loopw [6] (fun t6 wr => ∃ f, PushRel F y acc arcs' w B g gb f t6 wr) (fun t6 wr => least (fun f => PushRel F y acc arcs' w B g gb f t6 wr))
      case atStart => exact ⟨f, F.outn, F.arcs, rfl, ho, HP.out, ⟨_, ob, rows, HFr'.out⟩, OK.out, hgr, hbB⟩
      case round =>
        obtain ⟨⟨at_, arcs, rfl, hat2, hpp, ⟨va2, ob2, rows2, hfl⟩, ok2, hgr2, hbB2⟩, hmin2⟩ := least_spec hrel
        generalize hm2 : least (fun f => PushRel F y acc arcs' w B g gb f (.int .i64 at_) wr) = m2 at *
        have HM2 := Lib.hid hm2
        have HPP := Lib.hid hpp
        clear hm2 hpp hmin2 hrel HFr' hgr hbB g2r g3r HP HD
        have g2r := cell_of_row wr g 2 _ _ _ hfl.head
        simp at g2r
        by_cases hs : at_ = F.src
        · have harcs : arcs = arcs' := by have := HPP.out; unfold pushM at this; rw [if_pos hs] at this; exact Option.some.inj this
          subst harcs
          subst hs
          have g6r := cell_of_row wr g 6 _ _ _ hfl.head
          have f6r := frozen_of_row wr g 6 _ _ hfl.head
          simp at g6r
          obtain ⟨o1, o2⟩ := okI_spec hoo
          have hS := hfl.setO (F.o + acc)
          have HS := Lib.hid hS
          have HB3 := Lib.hid (hbB2.setCell (p := ⟨g, 6, none⟩) hfl.hB (.int .i64 (F.o + acc)))
          clear hS hfl hbB2 HPP
          go_wp2
          go_ret
          exact ⟨rfl, ⟨va2, ob2, rows2, HS.out⟩, HB3.out⟩
        · have hs1 : decide ((at_ : Int) = (F.src : Int)) = false := by simp; omega
          have hpp := HPP.out
          unfold pushM at hpp
          rw [if_neg hs] at hpp
          cases m2 with
          | zero => cases hpp
          | succ m2 =>
            simp only at hpp
            cases hby : byArc arcs y at_ with
            | none => rw [hby] at hpp; split at hpp <;> simp_all
            | some a =>
              obtain ⟨ix, hyx, hax⟩ := byArc_spec hby
              rw [hby, hyx] at hpp
              simp only [Int.toNat_natCast] at hpp
              cases hbk : (addLf arcs ix (-acc))[a.bk]? with
              | none => rw [hbk] at hpp; cases hpp
              | some bb =>
                rw [hbk] at hpp
                simp only at hpp
                split at hpp
                case isFalse => cases hpp
                case isTrue hok =>
                  simp only [Bool.and_eq_true] at hok
                  obtain ⟨⟨o1, o2⟩, o3, o4⟩ := And.intro (okI_spec hok.1) (okI_spec hok.2)
                  have hixl : ix < arcs.length := (List.getElem?_eq_some_iff.1 hax).1
                  have hbkl : a.bk < arcs.length := (ok2.arc ix a hax).2.2
                  have hafr : a.fr < F.adj.length := (ok2.arc ix a hax).1
                  have few := ok2.few'
                  simp only at few
                  obtain ⟨ab, cab, hae, _, _⟩ := hfl.arcs.form (by simp only; omega)
                  subst hae
                  have g0r := cell_of_row wr g 0 _ _ _ hfl.head
                  simp at g0r
                  have er := cell_of_row wr gb at_ _ _ _ hgr2
                  simp only [intCells, List.getElem?_toArray, List.getElem?_map, hyx, Option.map_some] at er
                  have a2 := (hfl.arcs.cellAt (ix * 4 + 2) (by simp only; omega)).trans (arcCells_at arcs _ a 2 hax (by omega))
                  simp only [arcVals, List.getElem?_cons_zero, List.getElem?_cons_succ] at a2
                  have j0 : (0 : Int) ≤ (at_ : Int) := by omega
                  have j1 : (at_ : Int) < (y.length : Int) := by omega
                  have j2 : (0 : Int) ≤ (ix : Int) := by omega
                  have j3 : (ix : Int) < (arcs.length : Int) := by omega
                  have HBK := Lib.hid hbk
                  have HAX := Lib.hid hax
                  have HPP2 := Lib.hid hpp
                  have HFL := Lib.hid hfl
                  have HYX := Lib.hid hyx
                  have OK2 := Lib.hid ok2
                  clear ok2 hbk hax hpp hfl hby hyx hok
                  go_wp2
                  have x0 := fun x : Xt wr => x.cell g0r
                  have x1 := fun x : Xt wr => x.cell er
                  refine wp_region_xt (by kernel_rfl) (by kernel_rfl) ?_
                  repeat (go_big_quiet_step (fail))
                  refine wpQuiet_nil ?_
                  intro w3 hx
                  have hb3 := Xt.below hx
                  clear hx x0 x1
                  have a2s := kept hb3 a2
                  have HF3 := HFL.out.keep (fun k hk => hb3.block k hk)
                  have hgr3 : w3.heap[gb]? = some (.cells (intCells y).toArray 3 (0, 0)) := (hb3.block gb (lt_of_block hgr2)).trans hgr2
                  have hbB3 : Below B w w3 := hbB2.trans (hb3.mono (by have h1 := lt_of_block HFL.out.head; have h2 := HFL.out.hB; omega))
                  have f2s := HF3.arcs.frozenAt (ix * 4 + 2)
                  have hF4 := FlowIn.setLf (F := { F with arcs := arcs }) (ab := ab) (i := ix) (ca := cab) HF3 (a.lf + -acc) hixl
                  simp only at hF4
                  rw [addLf_eq HAX.out (-acc) _ rfl] at hF4
                  have nab : gb ≠ ab := ownBlk_ne HF3.arcs rfl hgr3 (by decide)
                  have hgr4 : (w3.setCell ⟨ab, ix * 4 + 2, none⟩ (.int .i64 (a.lf + -acc))).heap[gb]? = some (.cells (intCells y).toArray 3 (0, 0)) := by
                    rw [heapq_set, if_neg nab]
                    exact hgr3
                  have hbB4 : Below B w (w3.setCell ⟨ab, ix * 4 + 2, none⟩ (.int .i64 (a.lf + -acc))) := hbB3.setCell (by exact (ownBlk HF3.arcs rfl).1) _
                  have HF4 := Lib.hid hF4
                  have HG4 := Lib.hid hgr4
                  have HB4 := Lib.hid hbB4
                  have esub : a.lf + -acc = a.lf - acc := by omega
                  clear hF4 hgr4 hbB4 hgr3 hbB3 HF3 a2 er g0r hb3
                  rw [esub] at HF4 HG4 HB4 o1 o2
                  go_upto_region 14 with (fail)
                  generalize w3.setCell ⟨ab, ix * 4 + 2, none⟩ (.int .i64 (a.lf - acc)) = w5 at *
                  have hF5 := HF4.out
                  have g0s := cell_of_row w5 g 0 _ _ _ hF5.head
                  simp at g0s
                  obtain ⟨a5, ha5, q1, q2, q3⟩ := addLf_get HAX.out ix (-acc)
                  have hA5 : w5.ownsRow B 215 4 (.slice (some ⟨ab, 0, none⟩) arcs.length cab) arcs.length (arcCells (addLf arcs ix (-acc))) := by
                    have h := hF5.arcs
                    simp only [addLf_len] at h
                    exact h
                  have a3s := (hA5.cellAt (ix * 4 + 3) (by omega)).trans (arcCells_at _ ix a5 3 ha5 (by omega))
                  have b2s := (hA5.cellAt (a.bk * 4 + 2) (by omega)).trans (arcCells_at _ a.bk bb 2 HBK.out (by omega))
                  simp only [arcVals, List.getElem?_cons_zero, List.getElem?_cons_succ, q3] at a3s b2s
                  have k0 : (0 : Int) ≤ (a.bk : Int) := by omega
                  have k1 : (a.bk : Int) < (arcs.length : Int) := by omega
                  have HQ1 := Lib.hid q1
                  have HA5 := Lib.hid ha5
                  have HF5 := Lib.hid hF5
                  clear q1 q2 q3 ha5 hF5
                  have x0 := fun x : Xt w5 => x.cell g0s
                  have x1 := fun x : Xt w5 => x.cell a3s
                  have x2 := fun x : Xt w5 => x.cell b2s
                  refine wp_region_cut [] [0, 1, 2, 3, 4, 5, 6, 7, 8, 9, 10, 11, 12, 13, 14] 15 [] (fun w' => ∃ x : Xt w5, w' = x.1) (by kernel_rfl) (by kernel_rfl) ⟨⟨w5.drew, (Below.refl _ _).drew⟩, rfl⟩ ?_
                  simp only [opsAt_nil, opsAt_cons, consOpt_some, List.getElem?_toArray, List.getElem?_cons_zero, List.getElem?_cons_succ]
                  refine wpQuiet_nil ?_
                  show wpQuiet _ _ _ _ _ _
                  repeat (go_big_quiet_step (fail))
                  refine wpQuiet_nil ?_
                  intro w6 hx
                  have hb6 := Xt.below hx
                  clear hx x0 x1 x2
                  have b2t := kept hb6 b2s
                  have HF6 := HF5.out.keep (fun k hk => hb6.block k hk)
                  have hA6 : w6.ownsRow B 215 4 (.slice (some ⟨ab, 0, none⟩) arcs.length cab) arcs.length (arcCells (addLf arcs ix (-acc))) := by
                    have h := HF6.arcs
                    simp only [addLf_len] at h
                    exact h
                  have f2t := hA6.frozenAt (a.bk * 4 + 2)
                  have hgr6 : w6.heap[gb]? = some (.cells (intCells y).toArray 3 (0, 0)) := (hb6.block gb (lt_of_block HG4.out)).trans HG4.out
                  have hbB6 : Below B w w6 := HB4.out.trans (hb6.mono (by have h1 := lt_of_block HF5.out.head; have h2 := HF5.out.hB; omega))
                  have nab6 : gb ≠ ab := ownBlk_ne hA6 rfl hgr6 (by decide)
                  have hgr7 : (w6.setCell ⟨ab, a.bk * 4 + 2, none⟩ (.int .i64 (bb.lf + acc))).heap[gb]? = some (.cells (intCells y).toArray 3 (0, 0)) := by
                    rw [heapq_set, if_neg nab6]
                    exact hgr6
                  have hbB7 : Below B w (w6.setCell ⟨ab, a.bk * 4 + 2, none⟩ (.int .i64 (bb.lf + acc))) := hbB6.setCell (by exact (ownBlk hA6 rfl).1) _
                  have hF7 := FlowIn.setLf' (F := { F with arcs := addLf arcs ix (-acc) }) (i := a.bk) HF6 (addLf_len _ _ _) HBK.out acc (bb.lf + acc) rfl
                  have HF7 := Lib.hid hF7
                  have HG7 := Lib.hid hgr7
                  have HB7 := Lib.hid hbB7
                  clear hF7 hgr7 hbB7 hgr6 hbB6 HF6 hA6 hA5 g0s a3s b2s hb6 HF4 HF5 HG4 HB4 nab6 nab
                  go_wp2
                  refine onlyNormal_mk ?_
                  go_upto_region 11 with (fail)
                  generalize w6.setCell ⟨ab, a.bk * 4 + 2, none⟩ (.int .i64 (bb.lf + acc)) = w7 at *
                  have hF7 := HF7.out
                  have g0u := cell_of_row w7 g 0 _ _ _ hF7.head
                  simp at g0u
                  have eru := cell_of_row w7 gb at_ _ _ _ HG7.out
                  simp only [intCells, List.getElem?_toArray, List.getElem?_map, HYX.out, Option.map_some] at eru
                  obtain ⟨a7, ha7, q1, q2, q3⟩ := addLf_get HA5.out a.bk acc
                  have hA7 : w7.ownsRow B 215 4 (.slice (some ⟨ab, 0, none⟩) arcs.length cab) arcs.length (arcCells (addLf (addLf arcs ix (-acc)) a.bk acc)) := by
                    have h := hF7.arcs
                    simp only [addLf_len] at h
                    exact h
                  have a0u := (hA7.cellAt (ix * 4 + 0) (by omega)).trans (arcCells_at _ ix a7 0 ha7 (by omega))
                  simp only [arcVals, List.getElem?_cons_zero, Nat.add_zero, q1, HQ1.out] at a0u
                  clear hF7 hA7 ha7 q1 q2 q3
                  have x0 := fun x : Xt w7 => x.cell g0u
                  have x1 := fun x : Xt w7 => x.cell eru
                  have x2 := fun x : Xt w7 => x.cell a0u
                  refine wp_region_xt (by kernel_rfl) (by kernel_rfl) ?_
                  repeat (go_big_quiet_step (fail))
                  refine wpQuiet_nil ?_
                  intro w8 hx
                  have hb8 := Xt.below hx
                  clear hx x0 x1 x2
                  have hR : PushRel F y acc arcs' w B g gb m2 (.int .i64 a.fr) w8 := by
                    refine ⟨a.fr, addLf (addLf arcs ix (-acc)) a.bk acc, rfl, hafr, HPP2.out, ⟨_, ob2, rows2, HF7.out.keep (fun k hk => hb8.block k hk)⟩, (OK2.out.addLf ix (-acc)).addLf a.bk acc, (hb8.block gb (lt_of_block HG7.out)).trans HG7.out, HB7.out.trans (hb8.mono ?_)⟩
                    have h1 := lt_of_block HF7.out.head
                    have h2 := HF7.out.hB
                    omega
                  have HR := Lib.hid hR
                  clear hR g0u eru a0u hb8
                  go_wp2
                  case roundEnd =>
                    refine ⟨⟨m2, HR.out⟩, ?_⟩
                    have h1 := (least_spec (p := fun f => PushRel F y acc arcs' w B g gb f (.int .i64 a.fr) w8) ⟨m2, HR.out⟩).2 m2 HR.out
                    rw [HM2.out]
                    omega
    · have hs1 : decide ((at_ : Int) = (F.src : Int)) = false := by simp; omega
      have hm2 := HMM.out
      unfold minM at hm2
      rw [if_neg hs] at hm2
      cases m with
      | zero => cases hm2
      | succ m =>
        simp only at hm2
        cases hby : byArc F.arcs y at_ with
        | none => rw [hby] at hm2; cases hm2
        | some a =>
          rw [hby] at hm2
          simp only at hm2
          obtain ⟨ix, hyx, hax⟩ := byArc_spec hby
          have hixl : ix < F.arcs.length := (List.getElem?_eq_some_iff.1 hax).1
          obtain ⟨ab, cab, hae, _, _⟩ := HFr.arcs.form (by omega)
          subst hae
          have g0r := cell_of_row wr g 0 _ _ _ HFr.head
          simp at g0r
          have er := cell_of_row wr gb at_ _ _ _ ((hb.block gb hgl).trans hgb)
          simp only [intCells, List.getElem?_toArray, List.getElem?_map, hyx, Option.map_some] at er
          have a0 := (HFr.arcs.cellAt (ix * 4 + 0) (by omega)).trans (arcCells_at F.arcs _ a 0 hax (by omega))
          have a2 := (HFr.arcs.cellAt (ix * 4 + 2) (by omega)).trans (arcCells_at F.arcs _ a 2 hax (by omega))
          simp only [arcVals, List.getElem?_cons_zero, List.getElem?_cons_succ, Nat.add_zero] at a0 a2
          have hafr : a.fr < F.adj.length := (OK.out.arc ix a hax).1
          have few := OK.out.few'
          have j0 : (0 : Int) ≤ (at_ : Int) := by omega
          have j1 : (at_ : Int) < (y.length : Int) := by omega
          have j2 : (0 : Int) ≤ (ix : Int) := by omega
          have j3 : (ix : Int) < (F.arcs.length : Int) := by omega
          have HM2 := Lib.hid hm2
          clear hm2 hby hyx hax HFr
          go_wp2
          have x0 := fun x : Xt wr => x.cell g0r
          have x1 := fun x : Xt wr => x.cell er
          have x2 := fun x : Xt wr => x.cell a0
          have x3 := fun x : Xt wr => x.cell a2
          refine wp_region_xt (by kernel_rfl) (by kernel_rfl) ?_
          repeat (go_big_quiet_step (fail))
          refine wpQuiet_nil ?_
          intro w3 hx
          have hb3 := Xt.below hx
          clear hx x0 x1 x2 x3
          have g0s := kept hb3 g0r
          have ers := kept hb3 er
          have a0s := kept hb3 a0
          have hbw : Below w1.heap.size w1 w3 := hb.trans (hb3.mono hb.size)
          clear g0r er a0 a2 g2r hb3
          go_wp2
          have x0 := fun x : Xt w3 => x.cell g0s
          have x1 := fun x : Xt w3 => x.cell ers
          have x2 := fun x : Xt w3 => x.cell a0s
          refine wp_region_xt (by kernel_rfl) (by kernel_rfl) ?_
          repeat (go_big_quiet_step (fail))
          refine wpQuiet_nil ?_
          intro w4 hx
          have hb4 := Xt.below hx
          clear hx x0 x1 x2
          have hbw4 : Below w1.heap.size w1 w4 := hbw.trans (hb4.mono hbw.size)
          clear g0s ers a0s hb4 hbw
          have hR : MinRel F y d w1 m (.int .i64 (min acc a.lf)) (.int .i64 a.fr) w4 := ⟨a.fr, _, rfl, rfl, hafr, HM2.out, hbw4⟩
          have HR := Lib.hid hR
          clear hR
          go_wp2
          case roundEnd =>
            refine ⟨⟨m, HR.out⟩, ?_⟩
            have h1 := (least_spec (p := fun f => MinRel F y d w1 f (.int .i64 (min acc a.lf)) (.int .i64 a.fr) w4) ⟨m, HR.out⟩).2 m HR.out
            rw [HM.out]
            omega
end Go.Proofs.YtmcjnfghlpnghaaDoor

namespace Go.Proofs.YtmcjnfghlpnghaaDoor
open Go.RowKit

def emptyFl (R T : Nat) : Fl := ⟨[], List.replicate (R * (T + 1) + 2) [], R * (T + 1), R * (T + 1) + 1, R, T, 0⟩
def joinPeople (F : Fl) : Nat → List Int → Fl
  | _, [] => F
  | r, n :: l => joinPeople (F.join F.src r n) (r + 1) l
def joinStay (here next : Nat) (all : Int) (F : Fl) : Nat → Nat → Fl
  | _, 0 => F
  | r, k + 1 => joinStay here next all (F.join (here + r) (next + r) all) (r + 1) k
def wayTo (outn next : Nat) (to : Int) : Nat := if to = -1 then outn else next + to.toNat
def joinWays (here next : Nat) (F : Fl) : List Ev → Fl
  | [] => F
  | x :: l => joinWays here next (F.join (here + x.1.toNat) (wayTo F.outn next x.2.1) x.2.2) l
def joinTicks (R : Nat) (all : Int) (ws : List Ev) (F : Fl) : Nat → Nat → Fl
  | _, 0 => F
  | t, k + 1 => joinTicks R all ws (joinWays (t * R) ((t + 1) * R) (joinStay (t * R) ((t + 1) * R) all F 0 R) ws) (t + 1) k
def sumL : List Int → Int
  | [] => 0
  | x :: l => x + sumL l
def builtM (pp : List Int) (ws : List Ev) (T : Nat) : Fl :=
  joinTicks pp.length (sumL pp) ws (joinPeople (emptyFl pp.length T) 0 pp) 0 T
/-- as long as more get out -/
def runM : Nat → Nat → Fl → Option Fl
  | 0, _, _ => none
  | k + 1, f, F =>
    match moreM F f with
    | none => none
    | some none => some F
    | some (some F') => runM k f F'

/-- a flow that is being built: n pairs of arcs -/
structure FlSh (V s o R T n : Nat) (F : Fl) : Prop where
  adjN : F.adj.length = V
  src : F.src = s
  outn : F.outn = o
  rooms : F.rooms = R
  ticks : F.ticks = T
  arcsN : F.arcs.length = 2 * n
  o0 : F.o = 0
  arc : ∀ (i : Nat) (a : Arc), F.arcs[i]? = some a → a.fr < V ∧ a.to < V ∧ a.bk < 2 * n
  adj : ∀ (k i : Nat) (l : List Nat), F.adj[k]? = some l → i ∈ l → i < 2 * n

theorem FlSh.empty (R T : Nat) : FlSh (R * (T + 1) + 2) (R * (T + 1)) (R * (T + 1) + 1) R T 0 (emptyFl R T) where
  adjN := by simp [emptyFl]
  src := rfl
  outn := rfl
  rooms := rfl
  ticks := rfl
  arcsN := rfl
  o0 := rfl
  arc := fun i a h => by simp [emptyFl] at h
  adj := fun k i l h hi => by
    simp only [emptyFl, List.getElem?_replicate] at h
    split at h
    · have := Option.some.inj h
      subst this
      simp at hi
    · cases h

theorem FlSh.join {V s o R T n : Nat} {F : Fl} (h : FlSh V s o R T n F) {fr to : Nat} {most : Int} (hf : fr < V) (ht : to < V) : FlSh V s o R T (n + 1) (F.join fr to most) where
  adjN := by simp [Fl.join, h.adjN]
  src := h.src
  outn := h.outn
  rooms := h.rooms
  ticks := h.ticks
  arcsN := by simp [Fl.join, h.arcsN]; omega
  o0 := h.o0
  arc := fun i a ha => by
    simp only [Fl.join] at ha
    have hl := h.arcsN
    rcases Nat.lt_or_ge i F.arcs.length with hi | hi
    · rw [List.getElem?_append_left hi] at ha
      have := h.arc i a ha
      omega
    · rw [List.getElem?_append_right hi] at ha
      rcases hj : i - F.arcs.length with _ | _ | j
      · rw [hj] at ha
        simp at ha
        subst ha
        simp only
        omega
      · rw [hj] at ha
        simp at ha
        subst ha
        simp only
        omega
      · rw [hj] at ha
        simp at ha
  adj := fun k i l hk hi => by
    simp only [Fl.join] at hk
    have hl := h.arcsN
    have one : ∀ j : Nat, i ∈ F.adj[j]?.getD [] → i < 2 * n := by
      intro j hj
      rcases hq : F.adj[j]? with _ | l'
      · rw [hq] at hj
        simp at hj
      · rw [hq] at hj
        exact h.adj j i l' hq hj
    rw [List.getElem?_set] at hk
    split at hk
    · split at hk
      · have := Option.some.inj hk
        subst this
        rcases List.mem_append.1 hi with h1 | h1
        · have := one to h1
          omega
        · simp at h1
          omega
      · cases hk
    · rw [List.getElem?_set] at hk
      split at hk
      · split at hk
        · have := Option.some.inj hk
          subst this
          rcases List.mem_append.1 hi with h1 | h1
          · have := one fr h1
            omega
          · simp at h1
            omega
        · cases hk
      · have := h.adj k i l hk hi
        omega

theorem FlSh.ok {V s o R T n : Nat} {F : Fl} (h : FlSh V s o R T n F) (hs : s < V) (ho : o < V) (hV : V ≤ 1000) (hn : n ≤ 5000) : FlOk F where
  arc := fun i a ha => by
    have := h.arc i a ha
    rw [h.adjN, h.arcsN]
    exact this
  adj := fun k i l hk hi => by
    rw [h.arcsN]
    exact h.adj k i l hk hi
  src := by rw [h.src, h.adjN]; exact hs
  outn := by rw [h.outn, h.adjN]; exact ho
  few := by rw [h.adjN]; exact hV
  few' := by rw [h.arcsN]; omega

/-- right rooms -/
structure RoomsOk (pp : List Int) (ws : List Ev) : Prop where
  some_ : 1 ≤ pp.length
  few : pp.length ≤ 6
  fewW : ws.length ≤ 16
  people : ∀ x ∈ pp, 0 ≤ x ∧ x ≤ 10000
  ways : ∀ x ∈ ws, 0 ≤ x.1 ∧ x.1 < pp.length ∧ (x.2.1 = -1 ∨ 0 ≤ x.2.1 ∧ x.2.1 < pp.length) ∧ x.1 ≠ x.2.1 ∧ 1 ≤ x.2.2 ∧ x.2.2 ≤ 10000

theorem unlessE_zero {b : Bool} {e : Int} (he : e ≠ 0) : unlessE b e = 0 ↔ b = true := by cases b <;> simp [unlessE, he]
theorem wayE_zero {np : Nat} {x : Ev} (h : wayE np x = 0) : 0 ≤ x.1 ∧ x.1 < np ∧ (x.2.1 = -1 ∨ 0 ≤ x.2.1 ∧ x.2.1 < np) ∧ x.1 ≠ x.2.1 ∧ 1 ≤ x.2.2 ∧ x.2.2 ≤ 10000 := by
  have h3 : ∀ a b c : Int, firstE [a, b, c] = 0 → a = 0 ∧ b = 0 ∧ c = 0 := by
    intro a b c h
    simp only [firstE] at h
    split at h
    · split at h
      · split at h <;> simp_all
      · contradiction
    · contradiction
  obtain ⟨h1, h2, h3⟩ := h3 _ _ _ h
  rw [unlessE_zero (by omega)] at h1 h2 h3
  simp only [isRoomB, isCrowdB, withinB, Bool.and_eq_true, Bool.or_eq_true, decide_eq_true_eq, beq_iff_eq, bne_iff_ne, ne_eq] at h1 h2 h3
  omega
theorem waysGo_zero {np : Nat} : ∀ (l : List Ev) (i : Nat), (waysGo np l i).2 = 0 → ∀ x ∈ l, wayE np x = 0
  | [], _, _, x, hx => by simp at hx
  | y :: l, i, h, x, hx => by
    unfold waysGo at h
    split at h
    · rename_i hy
      rcases List.mem_cons.1 hx with rfl | hx
      · exact hy
      · exact waysGo_zero l (i + 1) h x hx
    · rename_i hy
      exact absurd h hy
theorem roomsOk_of {pp : List Int} {ws : List Ev} (h : (roomsM pp ws).2 = 0) : RoomsOk pp ws := by
  unfold roomsM at h
  split at h
  · simp at h
  · rename_i h0
    split at h
    · rename_i h1
      split at h
      · simp at h
      · rename_i h2
        have hw := waysGo_zero ws 0 h
        refine ⟨by omega, h1.1, h1.2, ?_, fun x hx => wayE_zero (hw x hx)⟩
        have h3 := idxGo_nonneg notCrowdB pp 0
        rw [decide_eq_false h2] at h3
        intro x hx
        have h4 := List.any_eq_false.1 h3.symm x hx
        simp only [notCrowdB, isCrowdB, withinB, Bool.not_eq_true', Bool.not_eq_false, Bool.and_eq_true, decide_eq_true_eq] at h4
        simpa using h4
    · simp at h

theorem pushM_ok {F : Fl} {y : List Int} {d : Int} : ∀ (f at_ : Nat) (arcs arcs' : List Arc), FlOk { F with arcs := arcs } → pushM F.src y d f at_ arcs = some arcs' → FlOk { F with arcs := arcs' }
  | f, at_, arcs, arcs', ok, h => by
    unfold pushM at h
    split at h
    · rw [← Option.some.inj h]
      exact ok
    · cases f with
      | zero => cases h
      | succ f =>
        simp only at h
        split at h
        · split at h
          · cases h
          · split at h
            · exact pushM_ok f _ _ _ ((ok.addLf _ _).addLf _ _) h
            · cases h
        · cases h

theorem moreM_ok {F F' : Fl} {f : Nat} (ok : FlOk F) (h : moreM F f = some (some F')) : FlOk F' := by
  unfold moreM at h
  split at h
  · cases h
  · split at h
    · cases h
    · split at h
      · cases h
      · split at h
        · cases h
        · rename_i arcs hp
          split at h
          · have := Option.some.inj (Option.some.inj h)
            subst this
            have h1 := pushM_ok (F := F) f _ _ _ ok hp
            exact ⟨h1.arc, h1.adj, h1.src, h1.outn, h1.few, h1.few'⟩
          · cases h

theorem more_any (w : World) (B g : Nat) (F : Fl) (h : FlowAt w B g F) (ok : FlOk F) (f : Nat) (x : Option Fl) (hm : moreM F f = some x) :
    Calls Tryd.prog 141 #[.pointer (some ⟨g, 0, none⟩)] w (MorePost w B g F x) := by
  unfold moreM at hm
  split at hm
  · cases hm
  · rename_i y hy
    split at hm
    · rename_i hn
      rw [← Option.some.inj hm]
      exact more_no w B g F h ok f y hy hn
    · rename_i hn
      split at hm
      · cases hm
      · rename_i d hd
        split at hm
        · cases hm
        · rename_i arcs hp
          split at hm
          · rename_i ho
            rw [← Option.some.inj hm]
            exact more_yes w B g F h ok f y hy hn d hd arcs hp ho
          · cases hm
end Go.Proofs.YtmcjnfghlpnghaaDoor
