/- more: a way out. -/
import Derived.Test.YtlbgocgocanloaaGreatDoorf5C6
import Derived.IntWalk
namespace Go.Proofs.YtlbgocgocanloaaGreatDoor
open Go.RowKit
theorem byArc_spec {arcs : List Arc} {y : List Int} {at_ : Nat} {a : Arc} (h : byArc arcs y at_ = some a) : ∃ i : Nat, y[at_]? = some (i : Int) ∧ arcs[i]? = some a := by
  unfold byArc at h
  split at h
  · cases h
  · rename_i i hi
    split at h
    · cases h
    · refine ⟨i.toNat, by rw [hi]; congr 1; omega, h⟩
theorem addLf_len (arcs : List Arc) (i : Nat) (d : Int) : (addLf arcs i d).length = arcs.length := by simp [addLf]
theorem addLf_eq {arcs : List Arc} {i : Nat} {a : Arc} (h : arcs[i]? = some a) (d v : Int) (hv : a.lf + d = v) : (arcs.modify i fun a => { a with lf := v }) = addLf arcs i d := by
  subst hv
  apply List.ext_getElem?
  intro j
  simp only [addLf, List.getElem?_modify]
  by_cases hj : i = j
  · subst hj
    simp [h]
  · simp [hj]
theorem addLf_get {arcs : List Arc} {i : Nat} {a : Arc} (h : arcs[i]? = some a) (k : Nat) (d : Int) : ∃ b, (addLf arcs k d)[i]? = some b ∧ b.fr = a.fr ∧ b.to = a.to ∧ b.bk = a.bk := by
  simp only [addLf, List.getElem?_modify, h]
  by_cases hk : k = i
  · exact ⟨{ a with lf := a.lf + d }, by simp [hk], rfl, rfl, rfl⟩
  · exact ⟨a, by simp [hk], rfl, rfl, rfl⟩
theorem FlowIn.setLf' {w : World} {B g ab ob ca i n : Nat} {rows : List Value} {F : Fl} (h : FlowIn w B g (.slice (some ⟨ab, 0, none⟩) n ca) ob rows F) (hn : F.arcs.length = n) {b : Arc} (hb : F.arcs[i]? = some b) (d v : Int) (hv : b.lf + d = v) :
    FlowIn (w.setCell ⟨ab, i * 4 + 2, none⟩ (.int .i64 v)) B g (.slice (some ⟨ab, 0, none⟩) n ca) ob rows { F with arcs := addLf F.arcs i d } := by
  subst hn
  have h1 := h.setLf v (List.getElem?_eq_some_iff.1 hb).1
  rw [addLf_eq hb d v hv] at h1
  exact h1
theorem okI_spec {x : Int} (h : okI x = true) : -1000000000 ≤ x ∧ x ≤ 1000000000 := by simpa [okI] using h
theorem FlOk.addLf {F : Fl} {arcs : List Arc} (h : FlOk { F with arcs := arcs }) (k : Nat) (d : Int) : FlOk { F with arcs := addLf arcs k d } where
  arc := fun i a ha => by
    have hl : i < arcs.length := by
      have := (List.getElem?_eq_some_iff.1 ha).1
      simpa [YtlbgocgocanloaaGreatDoor.addLf] using this
    obtain ⟨b, hb, h1, h2, h3⟩ := addLf_get (arcs := arcs) (i := i) (a := arcs[i]) (by simp [hl]) k d
    have e : b = a := Option.some.inj (hb.symm.trans ha)
    subst e
    have := h.arc i arcs[i] (by simp [hl])
    rw [h1, h2, h3]
    refine ⟨this.1, this.2.1, ?_⟩
    show _ < (YtlbgocgocanloaaGreatDoor.addLf arcs k d).length
    rw [addLf_len]
    exact this.2.2
  adj := fun n i l hl hi => by
    show i < (YtlbgocgocanloaaGreatDoor.addLf arcs k d).length
    rw [addLf_len]
    exact h.adj n i l hl hi
  src := h.src
  outn := h.outn
  few := h.few
  few' := by
    show (YtlbgocgocanloaaGreatDoor.addLf arcs k d).length ≤ _
    rw [addLf_len]
    exact h.few'
def MinRel (F : Fl) (y : List Int) (d : Int) (w1 : World) (f : Nat) (t4 t5 : Value) (wr : World) : Prop :=
  ∃ (at_ : Nat) (acc : Int), t5 = .int .i64 at_ ∧ t4 = .int .i64 acc ∧ at_ < F.adj.length ∧ minM F y f at_ acc = some d ∧ Below w1.heap.size w1 wr
def PushRel (F : Fl) (y : List Int) (d : Int) (arcs' : List Arc) (w : World) (B g gb : Nat) (f : Nat) (t6 : Value) (wr : World) : Prop :=
  ∃ (at_ : Nat) (arcs : List Arc), t6 = .int .i64 at_ ∧ at_ < F.adj.length ∧ pushM F.src y d f at_ arcs = some arcs' ∧ FlowAt wr B g { F with arcs := arcs } ∧ FlOk { F with arcs := arcs } ∧
    wr.heap[gb]? = some (.cells (intCells y).toArray 3 (0, 0)) ∧ Below B w wr
set_option maxRecDepth 100000 in
set_option maxHeartbeats 8000000 in
theorem more_yes (w : World) (B g : Nat) (F : Fl) (h : FlowAt w B g F) (ok : FlOk F) (f : Nat) (y : List Int) (hr : bfsM F f (List.replicate F.adj.length (-1)) [F.src] = some y) (hy : ¬ y[F.outn]?.getD 0 < 0)
    (d : Int) (hd : minM F y f F.outn 60000 = some d) (arcs' : List Arc) (hp : pushM F.src y d f F.outn F.arcs = some arcs') (hoo : okI (F.o + d) = true) :
    Calls Tryz.prog 107 #[.pointer (some ⟨g, 0, none⟩)] w (MorePost w B g F (some { F with arcs := arcs', o := F.o + d })) := by
  have hlen := bfsM_len F f _ _ y hr
  rw [List.length_replicate] at hlen
  have R := reach_any w B g F h ok f y hr
  obtain ⟨va, ob, rows, h⟩ := h
  have ho := ok.outn
  obtain ⟨yo, hyo⟩ : ∃ x, y[F.outn]? = some x := ⟨y[F.outn]'(by omega), by simp [hlen, ho]⟩
  rw [hyo, Option.getD_some] at hy
  have d1 : decide (yo < 0) = false := by simp; omega
  have i0 : (0 : Int) ≤ (F.outn : Int) := by omega
  have i1 : (F.outn : Int) < (y.length : Int) := by omega
  have HH := Lib.hid h
  have OK := Lib.hid ok
  have HY := Lib.hid hyo
  have HD := Lib.hid hd
  have HP := Lib.hid hp
  clear h hyo hr ok hd hp
  go_enter Tryz.func107, Tryz.ntmps107
  go_upto_region 2 with (go_at_call 140; refine R.mono ?_; rintro e w1 ⟨gb, rfl, hgb, hge, hb1⟩)
  have HF := HH.out.keep (fun k hk => hb1.block k hk)
  have g2 := cell_of_row w1 g 2 _ _ _ HF.head
  have g3 := cell_of_row w1 g 3 _ _ _ HF.head
  have e0 := cell_of_row w1 gb F.outn _ _ _ hgb
  simp at g2 g3
  simp only [intCells, List.getElem?_toArray, List.getElem?_map, HY.out, Option.map_some] at e0
  have hb2 : Below B w w1 := hb1.mono (Nat.le_of_lt (Nat.lt_of_le_of_lt HH.out.hB (lt_of_block HH.out.head)))
  have HF' := Lib.hid HF
  clear R HF hb1
  go_wp2
  go_loopw [4, 5] (fun t4 t5 wr => ∃ f, MinRel F y d w1 f t4 t5 wr) (fun t4 t5 wr => least (fun f => MinRel F y d w1 f t4 t5 wr))
  case atStart => exact ⟨f, F.outn, 60000, rfl, rfl, ho, HD.out, Below.refl _ _⟩
  case round =>
    obtain ⟨⟨at_, acc, rfl, rfl, hat, hmm, hb⟩, hmin⟩ := least_spec hrel
    generalize hm : least (fun f => MinRel F y d w1 f (.int .i64 acc) (.int .i64 at_) wr) = m at *
    have HM := Lib.hid hm
    have HMM := Lib.hid hmm
    clear hm hmm hmin hrel
    have hgl := lt_of_block hgb
    have HFr := HF'.out.keep (fun k hk => hb.block k hk)
    have g2r := cell_of_row wr g 2 _ _ _ HFr.head
    simp at g2r
    by_cases hs : at_ = F.src
    · have hacc : acc = d := by have := HMM.out; unfold minM at this; rw [if_pos hs] at this; exact Option.some.inj this
      subst hacc
      have hs1 : decide ((at_ : Int) = (F.src : Int)) = true := by simp; omega
      have hbB : Below B w wr := hb2.trans (hb.mono (by have := hb2.size; have h1 := lt_of_block HH.out.head; have h2 := HH.out.hB; omega))
      have hgr := (hb.block gb hgl).trans hgb
      have HFr' := Lib.hid HFr
      have g3r := cell_of_row wr g 3 _ _ _ HFr.head
      simp at g3r
      subst hs
      clear HFr hb HMM hb2 g2 g3 e0 hgb hgl
      go_wp2
      go_loopw [6] (fun t6 wr => ∃ f, PushRel F y acc arcs' w B g gb f t6 wr) (fun t6 wr => least (fun f => PushRel F y acc arcs' w B g gb f t6 wr))
      case atStart => exact ⟨f, F.outn, F.arcs, rfl, ho, HP.out, ⟨_, ob, rows, HFr'.out⟩, OK.out, hgr, hbB⟩
      case round =>
        obtain ⟨⟨at_, arcs, rfl, hat2, hpp, ⟨va2, ob2, rows2, hfl⟩, ok2, hgr2, hbB2⟩, hmin2⟩ := least_spec hrel
        generalize hm2 : least (fun f => PushRel F y acc arcs' w B g gb f (.int .i64 at_) wr) = m2 at *
        have HM2 := Lib.hid hm2
        have HPP := Lib.hid hpp
        clear hm2 hpp hmin2 hrel HFr' hgr hbB g2r g3r HP HD
        have g2r := cell_of_row wr g 2 _ _ _ hfl.head
        simp at g2r
        by_cases hs : at_ = F.src
        · have harcs : arcs = arcs' := by have := HPP.out; unfold pushM at this; rw [if_pos hs] at this; exact Option.some.inj this
          subst harcs
          subst hs
          have g6r := cell_of_row wr g 6 _ _ _ hfl.head
          have f6r := frozen_of_row wr g 6 _ _ hfl.head
          simp at g6r
          obtain ⟨o1, o2⟩ := okI_spec hoo
          have hS := hfl.setO (F.o + acc)
          have HS := Lib.hid hS
          have HB3 := Lib.hid (hbB2.setCell (p := ⟨g, 6, none⟩) hfl.hB (.int .i64 (F.o + acc)))
          clear hS hfl hbB2 HPP
          go_wp2
          go_ret
          exact ⟨rfl, ⟨va2, ob2, rows2, HS.out⟩, HB3.out⟩
        · have hs1 : decide ((at_ : Int) = (F.src : Int)) = false := by simp; omega
          have hpp := HPP.out
          unfold pushM at hpp
          rw [if_neg hs] at hpp
          cases m2 with
          | zero => cases hpp
          | succ m2 =>
            simp only at hpp
            cases hby : byArc arcs y at_ with
            | none => rw [hby] at hpp; split at hpp <;> simp_all
            | some a =>
              obtain ⟨ix, hyx, hax⟩ := byArc_spec hby
              rw [hby, hyx] at hpp
              simp only [Int.toNat_natCast] at hpp
              cases hbk : (addLf arcs ix (-acc))[a.bk]? with
              | none => rw [hbk] at hpp; cases hpp
              | some bb =>
                rw [hbk] at hpp
                simp only at hpp
                split at hpp
                case isFalse => cases hpp
                case isTrue hok =>
                  simp only [Bool.and_eq_true] at hok
                  obtain ⟨⟨o1, o2⟩, o3, o4⟩ := And.intro (okI_spec hok.1) (okI_spec hok.2)
                  have hixl : ix < arcs.length := (List.getElem?_eq_some_iff.1 hax).1
                  have hbkl : a.bk < arcs.length := (ok2.arc ix a hax).2.2
                  have hafr : a.fr < F.adj.length := (ok2.arc ix a hax).1
                  have few := ok2.few'
                  simp only at few
                  obtain ⟨ab, cab, hae, _, _⟩ := hfl.arcs.form (by simp only; omega)
                  subst hae
                  have g0r := cell_of_row wr g 0 _ _ _ hfl.head
                  simp at g0r
                  have er := cell_of_row wr gb at_ _ _ _ hgr2
                  simp only [intCells, List.getElem?_toArray, List.getElem?_map, hyx, Option.map_some] at er
                  have a2 := (hfl.arcs.cellAt (ix * 4 + 2) (by simp only; omega)).trans (arcCells_at arcs _ a 2 hax (by omega))
                  simp only [arcVals, List.getElem?_cons_zero, List.getElem?_cons_succ] at a2
                  have j0 : (0 : Int) ≤ (at_ : Int) := by omega
                  have j1 : (at_ : Int) < (y.length : Int) := by omega
                  have j2 : (0 : Int) ≤ (ix : Int) := by omega
                  have j3 : (ix : Int) < (arcs.length : Int) := by omega
                  have HBK := Lib.hid hbk
                  have HAX := Lib.hid hax
                  have HPP2 := Lib.hid hpp
                  have HFL := Lib.hid hfl
                  have HYX := Lib.hid hyx
                  have OK2 := Lib.hid ok2
                  clear ok2 hbk hax hpp hfl hby hyx hok
                  go_wp2
                  have x0 := fun x : Xt wr => x.cell g0r
                  have x1 := fun x : Xt wr => x.cell er
                  refine wp_region_xt (by kernel_rfl) (by kernel_rfl) ?_
                  repeat (go_big_quiet_step (fail))
                  refine wpQuiet_nil ?_
                  intro w3 hx
                  have hb3 := Xt.below hx
                  clear hx x0 x1
                  have a2s := kept hb3 a2
                  have HF3 := HFL.out.keep (fun k hk => hb3.block k hk)
                  have hgr3 : w3.heap[gb]? = some (.cells (intCells y).toArray 3 (0, 0)) := (hb3.block gb (lt_of_block hgr2)).trans hgr2
                  have hbB3 : Below B w w3 := hbB2.trans (hb3.mono (by have h1 := lt_of_block HFL.out.head; have h2 := HFL.out.hB; omega))
                  have f2s := HF3.arcs.frozenAt (ix * 4 + 2)
                  have hF4 := FlowIn.setLf (F := { F with arcs := arcs }) (ab := ab) (i := ix) (ca := cab) HF3 (a.lf + -acc) hixl
                  simp only at hF4
                  rw [addLf_eq HAX.out (-acc) _ rfl] at hF4
                  have nab : gb ≠ ab := ownBlk_ne HF3.arcs rfl hgr3 (by decide)
                  have hgr4 : (w3.setCell ⟨ab, ix * 4 + 2, none⟩ (.int .i64 (a.lf + -acc))).heap[gb]? = some (.cells (intCells y).toArray 3 (0, 0)) := by
                    rw [heapq_set, if_neg nab]
                    exact hgr3
                  have hbB4 : Below B w (w3.setCell ⟨ab, ix * 4 + 2, none⟩ (.int .i64 (a.lf + -acc))) := hbB3.setCell (by exact (ownBlk HF3.arcs rfl).1) _
                  have HF4 := Lib.hid hF4
                  have HG4 := Lib.hid hgr4
                  have HB4 := Lib.hid hbB4
                  have esub : a.lf + -acc = a.lf - acc := by omega
                  clear hF4 hgr4 hbB4 hgr3 hbB3 HF3 a2 er g0r hb3
                  rw [esub] at HF4 HG4 HB4 o1 o2
                  go_upto_region 14 with (fail)
                  generalize w3.setCell ⟨ab, ix * 4 + 2, none⟩ (.int .i64 (a.lf - acc)) = w5 at *
                  have hF5 := HF4.out
                  have g0s := cell_of_row w5 g 0 _ _ _ hF5.head
                  simp at g0s
                  obtain ⟨a5, ha5, q1, q2, q3⟩ := addLf_get HAX.out ix (-acc)
                  have hA5 : w5.ownsRow B 200 4 (.slice (some ⟨ab, 0, none⟩) arcs.length cab) arcs.length (arcCells (addLf arcs ix (-acc))) := by
                    have h := hF5.arcs
                    simp only [addLf_len] at h
                    exact h
                  have a3s := (hA5.cellAt (ix * 4 + 3) (by omega)).trans (arcCells_at _ ix a5 3 ha5 (by omega))
                  have b2s := (hA5.cellAt (a.bk * 4 + 2) (by omega)).trans (arcCells_at _ a.bk bb 2 HBK.out (by omega))
                  simp only [arcVals, List.getElem?_cons_zero, List.getElem?_cons_succ, q3] at a3s b2s
                  have k0 : (0 : Int) ≤ (a.bk : Int) := by omega
                  have k1 : (a.bk : Int) < (arcs.length : Int) := by omega
                  have HQ1 := Lib.hid q1
                  have HA5 := Lib.hid ha5
                  have HF5 := Lib.hid hF5
                  clear q1 q2 q3 ha5 hF5
                  have x0 := fun x : Xt w5 => x.cell g0s
                  have x1 := fun x : Xt w5 => x.cell a3s
                  have x2 := fun x : Xt w5 => x.cell b2s
                  refine wp_region_cut [] [0, 1, 2, 3, 4, 5, 6, 7, 8, 9, 10, 11, 12, 13, 14] 15 [] (fun w' => ∃ x : Xt w5, w' = x.1) (by kernel_rfl) (by kernel_rfl) ⟨⟨w5.drew, (Below.refl _ _).drew⟩, rfl⟩ ?_
                  simp only [opsAt_nil, opsAt_cons, consOpt_some, List.getElem?_toArray, List.getElem?_cons_zero, List.getElem?_cons_succ]
                  refine wpQuiet_nil ?_
                  show wpQuiet _ _ _ _ _ _
                  repeat (go_big_quiet_step (fail))
                  refine wpQuiet_nil ?_
                  intro w6 hx
                  have hb6 := Xt.below hx
                  clear hx x0 x1 x2
                  have b2t := kept hb6 b2s
                  have HF6 := HF5.out.keep (fun k hk => hb6.block k hk)
                  have hA6 : w6.ownsRow B 200 4 (.slice (some ⟨ab, 0, none⟩) arcs.length cab) arcs.length (arcCells (addLf arcs ix (-acc))) := by
                    have h := HF6.arcs
                    simp only [addLf_len] at h
                    exact h
                  have f2t := hA6.frozenAt (a.bk * 4 + 2)
                  have hgr6 : w6.heap[gb]? = some (.cells (intCells y).toArray 3 (0, 0)) := (hb6.block gb (lt_of_block HG4.out)).trans HG4.out
                  have hbB6 : Below B w w6 := HB4.out.trans (hb6.mono (by have h1 := lt_of_block HF5.out.head; have h2 := HF5.out.hB; omega))
                  have nab6 : gb ≠ ab := ownBlk_ne hA6 rfl hgr6 (by decide)
                  have hgr7 : (w6.setCell ⟨ab, a.bk * 4 + 2, none⟩ (.int .i64 (bb.lf + acc))).heap[gb]? = some (.cells (intCells y).toArray 3 (0, 0)) := by
                    rw [heapq_set, if_neg nab6]
                    exact hgr6
                  have hbB7 : Below B w (w6.setCell ⟨ab, a.bk * 4 + 2, none⟩ (.int .i64 (bb.lf + acc))) := hbB6.setCell (by exact (ownBlk hA6 rfl).1) _
                  have hF7 := FlowIn.setLf' (F := { F with arcs := addLf arcs ix (-acc) }) (i := a.bk) HF6 (addLf_len _ _ _) HBK.out acc (bb.lf + acc) rfl
                  have HF7 := Lib.hid hF7
                  have HG7 := Lib.hid hgr7
                  have HB7 := Lib.hid hbB7
                  clear hF7 hgr7 hbB7 hgr6 hbB6 HF6 hA6 hA5 g0s a3s b2s hb6 HF4 HF5 HG4 HB4 nab6 nab
                  go_wp2
                  refine onlyNormal_mk ?_
                  go_upto_region 11 with (fail)
                  generalize w6.setCell ⟨ab, a.bk * 4 + 2, none⟩ (.int .i64 (bb.lf + acc)) = w7 at *
                  have hF7 := HF7.out
                  have g0u := cell_of_row w7 g 0 _ _ _ hF7.head
                  simp at g0u
                  have eru := cell_of_row w7 gb at_ _ _ _ HG7.out
                  simp only [intCells, List.getElem?_toArray, List.getElem?_map, HYX.out, Option.map_some] at eru
                  obtain ⟨a7, ha7, q1, q2, q3⟩ := addLf_get HA5.out a.bk acc
                  have hA7 : w7.ownsRow B 200 4 (.slice (some ⟨ab, 0, none⟩) arcs.length cab) arcs.length (arcCells (addLf (addLf arcs ix (-acc)) a.bk acc)) := by
                    have h := hF7.arcs
                    simp only [addLf_len] at h
                    exact h
                  have a0u := (hA7.cellAt (ix * 4 + 0) (by omega)).trans (arcCells_at _ ix a7 0 ha7 (by omega))
                  simp only [arcVals, List.getElem?_cons_zero, Nat.add_zero, q1, HQ1.out] at a0u
                  clear hF7 hA7 ha7 q1 q2 q3
                  have x0 := fun x : Xt w7 => x.cell g0u
                  have x1 := fun x : Xt w7 => x.cell eru
                  have x2 := fun x : Xt w7 => x.cell a0u
                  refine wp_region_xt (by kernel_rfl) (by kernel_rfl) ?_
                  repeat (go_big_quiet_step (fail))
                  refine wpQuiet_nil ?_
                  intro w8 hx
                  have hb8 := Xt.below hx
                  clear hx x0 x1 x2
                  have hR : PushRel F y acc arcs' w B g gb m2 (.int .i64 a.fr) w8 := by
                    refine ⟨a.fr, addLf (addLf arcs ix (-acc)) a.bk acc, rfl, hafr, HPP2.out, ⟨_, ob2, rows2, HF7.out.keep (fun k hk => hb8.block k hk)⟩, (OK2.out.addLf ix (-acc)).addLf a.bk acc, (hb8.block gb (lt_of_block HG7.out)).trans HG7.out, HB7.out.trans (hb8.mono ?_)⟩
                    have h1 := lt_of_block HF7.out.head
                    have h2 := HF7.out.hB
                    omega
                  have HR := Lib.hid hR
                  clear hR g0u eru a0u hb8
                  go_wp2
                  case roundEnd =>
                    refine ⟨⟨m2, HR.out⟩, ?_⟩
                    have h1 := (least_spec (p := fun f => PushRel F y acc arcs' w B g gb f (.int .i64 a.fr) w8) ⟨m2, HR.out⟩).2 m2 HR.out
                    rw [HM2.out]
                    omega
    · have hs1 : decide ((at_ : Int) = (F.src : Int)) = false := by simp; omega
      have hm2 := HMM.out
      unfold minM at hm2
      rw [if_neg hs] at hm2
      cases m with
      | zero => cases hm2
      | succ m =>
        simp only at hm2
        cases hby : byArc F.arcs y at_ with
        | none => rw [hby] at hm2; cases hm2
        | some a =>
          rw [hby] at hm2
          simp only at hm2
          obtain ⟨ix, hyx, hax⟩ := byArc_spec hby
          have hixl : ix < F.arcs.length := (List.getElem?_eq_some_iff.1 hax).1
          obtain ⟨ab, cab, hae, _, _⟩ := HFr.arcs.form (by omega)
          subst hae
          have g0r := cell_of_row wr g 0 _ _ _ HFr.head
          simp at g0r
          have er := cell_of_row wr gb at_ _ _ _ ((hb.block gb hgl).trans hgb)
          simp only [intCells, List.getElem?_toArray, List.getElem?_map, hyx, Option.map_some] at er
          have a0 := (HFr.arcs.cellAt (ix * 4 + 0) (by omega)).trans (arcCells_at F.arcs _ a 0 hax (by omega))
          have a2 := (HFr.arcs.cellAt (ix * 4 + 2) (by omega)).trans (arcCells_at F.arcs _ a 2 hax (by omega))
          simp only [arcVals, List.getElem?_cons_zero, List.getElem?_cons_succ, Nat.add_zero] at a0 a2
          have hafr : a.fr < F.adj.length := (OK.out.arc ix a hax).1
          have few := OK.out.few'
          have j0 : (0 : Int) ≤ (at_ : Int) := by omega
          have j1 : (at_ : Int) < (y.length : Int) := by omega
          have j2 : (0 : Int) ≤ (ix : Int) := by omega
          have j3 : (ix : Int) < (F.arcs.length : Int) := by omega
          have HM2 := Lib.hid hm2
          clear hm2 hby hyx hax HFr
          go_wp2
          have x0 := fun x : Xt wr => x.cell g0r
          have x1 := fun x : Xt wr => x.cell er
          have x2 := fun x : Xt wr => x.cell a0
          have x3 := fun x : Xt wr => x.cell a2
          refine wp_region_xt (by kernel_rfl) (by kernel_rfl) ?_
          repeat (go_big_quiet_step (fail))
          refine wpQuiet_nil ?_
          intro w3 hx
          have hb3 := Xt.below hx
          clear hx x0 x1 x2 x3
          have g0s := kept hb3 g0r
          have ers := kept hb3 er
          have a0s := kept hb3 a0
          have hbw : Below w1.heap.size w1 w3 := hb.trans (hb3.mono hb.size)
          clear g0r er a0 a2 g2r hb3
          go_wp2
          have x0 := fun x : Xt w3 => x.cell g0s
          have x1 := fun x : Xt w3 => x.cell ers
          have x2 := fun x : Xt w3 => x.cell a0s
          refine wp_region_xt (by kernel_rfl) (by kernel_rfl) ?_
          repeat (go_big_quiet_step (fail))
          refine wpQuiet_nil ?_
          intro w4 hx
          have hb4 := Xt.below hx
          clear hx x0 x1 x2
          have hbw4 : Below w1.heap.size w1 w4 := hbw.trans (hb4.mono hbw.size)
          clear g0s ers a0s hb4 hbw
          have hR : MinRel F y d w1 m (.int .i64 (min acc a.lf)) (.int .i64 a.fr) w4 := ⟨a.fr, _, rfl, rfl, hafr, HM2.out, hbw4⟩
          have HR := Lib.hid hR
          clear hR
          go_wp2
          case roundEnd =>
            refine ⟨⟨m, HR.out⟩, ?_⟩
            have h1 := (least_spec (p := fun f => MinRel F y d w1 f (.int .i64 (min acc a.lf)) (.int .i64 a.fr) w4) ⟨m, HR.out⟩).2 m HR.out
            rw [HM.out]
            omega
end Go.Proofs.YtlbgocgocanloaaGreatDoor
namespace Go.Proofs.YtlbgocgocanloaaGreatDoor
open Go.RowKit
def emptyFl (R T : Nat) : Fl := ⟨[], List.replicate (R * (T + 1) + 2) [], R * (T + 1), R * (T + 1) + 1, R, T, 0⟩
def joinPeople (F : Fl) : Nat → List Int → Fl
  | _, [] => F
  | r, n :: l => joinPeople (F.join F.src r n) (r + 1) l
def joinStay (here next : Nat) (all : Int) (F : Fl) : Nat → Nat → Fl
  | _, 0 => F
  | r, k + 1 => joinStay here next all (F.join (here + r) (next + r) all) (r + 1) k
def wayTo (outn next : Nat) (to : Int) : Nat := if to = -1 then outn else next + to.toNat
def joinWays (here next : Nat) (F : Fl) : List Ev → Fl
  | [] => F
  | x :: l => joinWays here next (F.join (here + x.1.toNat) (wayTo F.outn next x.2.1) x.2.2) l
def joinTicks (R : Nat) (all : Int) (ws : List Ev) (F : Fl) : Nat → Nat → Fl
  | _, 0 => F
  | t, k + 1 => joinTicks R all ws (joinWays (t * R) ((t + 1) * R) (joinStay (t * R) ((t + 1) * R) all F 0 R) ws) (t + 1) k
def sumL : List Int → Int
  | [] => 0
  | x :: l => x + sumL l
def builtM (pp : List Int) (ws : List Ev) (T : Nat) : Fl :=
  joinTicks pp.length (sumL pp) ws (joinPeople (emptyFl pp.length T) 0 pp) 0 T
/-- as long as more get out -/
def runM : Nat → Nat → Fl → Option Fl
  | 0, _, _ => none
  | k + 1, f, F =>
    match moreM F f with
    | none => none
    | some none => some F
    | some (some F') => runM k f F'
/-- a flow that is being built: n pairs of arcs -/
structure FlSh (V s o R T n : Nat) (F : Fl) : Prop where
  adjN : F.adj.length = V
  src : F.src = s
  outn : F.outn = o
  rooms : F.rooms = R
  ticks : F.ticks = T
  arcsN : F.arcs.length = 2 * n
  o0 : F.o = 0
  arc : ∀ (i : Nat) (a : Arc), F.arcs[i]? = some a → a.fr < V ∧ a.to < V ∧ a.bk < 2 * n
  adj : ∀ (k i : Nat) (l : List Nat), F.adj[k]? = some l → i ∈ l → i < 2 * n
theorem FlSh.empty (R T : Nat) : FlSh (R * (T + 1) + 2) (R * (T + 1)) (R * (T + 1) + 1) R T 0 (emptyFl R T) where
  adjN := by simp [emptyFl]
  src := rfl
  outn := rfl
  rooms := rfl
  ticks := rfl
  arcsN := rfl
  o0 := rfl
  arc := fun i a h => by simp [emptyFl] at h
  adj := fun k i l h hi => by
    simp only [emptyFl, List.getElem?_replicate] at h
    split at h
    · have := Option.some.inj h
      subst this
      simp at hi
    · cases h
theorem FlSh.join {V s o R T n : Nat} {F : Fl} (h : FlSh V s o R T n F) {fr to : Nat} {most : Int} (hf : fr < V) (ht : to < V) : FlSh V s o R T (n + 1) (F.join fr to most) where
  adjN := by simp [Fl.join, h.adjN]
  src := h.src
  outn := h.outn
  rooms := h.rooms
  ticks := h.ticks
  arcsN := by simp [Fl.join, h.arcsN]; omega
  o0 := h.o0
  arc := fun i a ha => by
    simp only [Fl.join] at ha
    have hl := h.arcsN
    rcases Nat.lt_or_ge i F.arcs.length with hi | hi
    · rw [List.getElem?_append_left hi] at ha
      have := h.arc i a ha
      omega
    · rw [List.getElem?_append_right hi] at ha
      rcases hj : i - F.arcs.length with _ | _ | j
      · rw [hj] at ha
        simp at ha
        subst ha
        simp only
        omega
      · rw [hj] at ha
        simp at ha
        subst ha
        simp only
        omega
      · rw [hj] at ha
        simp at ha
  adj := fun k i l hk hi => by
    simp only [Fl.join] at hk
    have hl := h.arcsN
    have one : ∀ j : Nat, i ∈ F.adj[j]?.getD [] → i < 2 * n := by
      intro j hj
      rcases hq : F.adj[j]? with _ | l'
      · rw [hq] at hj
        simp at hj
      · rw [hq] at hj
        exact h.adj j i l' hq hj
    rw [List.getElem?_set] at hk
    split at hk
    · split at hk
      · have := Option.some.inj hk
        subst this
        rcases List.mem_append.1 hi with h1 | h1
        · have := one to h1
          omega
        · simp at h1
          omega
      · cases hk
    · rw [List.getElem?_set] at hk
      split at hk
      · split at hk
        · have := Option.some.inj hk
          subst this
          rcases List.mem_append.1 hi with h1 | h1
          · have := one fr h1
            omega
          · simp at h1
            omega
        · cases hk
      · have := h.adj k i l hk hi
        omega
theorem FlSh.ok {V s o R T n : Nat} {F : Fl} (h : FlSh V s o R T n F) (hs : s < V) (ho : o < V) (hV : V ≤ 1000) (hn : n ≤ 5000) : FlOk F where
  arc := fun i a ha => by
    have := h.arc i a ha
    rw [h.adjN, h.arcsN]
    exact this
  adj := fun k i l hk hi => by
    rw [h.arcsN]
    exact h.adj k i l hk hi
  src := by rw [h.src, h.adjN]; exact hs
  outn := by rw [h.outn, h.adjN]; exact ho
  few := by rw [h.adjN]; exact hV
  few' := by rw [h.arcsN]; omega
/-- right rooms -/
structure RoomsOk (pp : List Int) (ws : List Ev) : Prop where
  some_ : 1 ≤ pp.length
  few : pp.length ≤ 6
  fewW : ws.length ≤ 16
  people : ∀ x ∈ pp, 0 ≤ x ∧ x ≤ 10000
  ways : ∀ x ∈ ws, 0 ≤ x.1 ∧ x.1 < pp.length ∧ (x.2.1 = -1 ∨ 0 ≤ x.2.1 ∧ x.2.1 < pp.length) ∧ x.1 ≠ x.2.1 ∧ 1 ≤ x.2.2 ∧ x.2.2 ≤ 10000
theorem unlessE_zero {b : Bool} {e : Int} (he : e ≠ 0) : unlessE b e = 0 ↔ b = true := by cases b <;> simp [unlessE, he]
theorem wayE_zero {np : Nat} {x : Ev} (h : wayE np x = 0) : 0 ≤ x.1 ∧ x.1 < np ∧ (x.2.1 = -1 ∨ 0 ≤ x.2.1 ∧ x.2.1 < np) ∧ x.1 ≠ x.2.1 ∧ 1 ≤ x.2.2 ∧ x.2.2 ≤ 10000 := by
  have h3 : ∀ a b c : Int, firstE [a, b, c] = 0 → a = 0 ∧ b = 0 ∧ c = 0 := by
    intro a b c h
    simp only [firstE] at h
    split at h
    · split at h
      · split at h <;> simp_all
      · contradiction
    · contradiction
  obtain ⟨h1, h2, h3⟩ := h3 _ _ _ h
  rw [unlessE_zero (by omega)] at h1 h2 h3
  simp only [isRoomB, isCrowdB, withinB, Bool.and_eq_true, Bool.or_eq_true, decide_eq_true_eq, beq_iff_eq, bne_iff_ne, ne_eq] at h1 h2 h3
  omega
theorem waysGo_zero {np : Nat} : ∀ (l : List Ev) (i : Nat), (waysGo np l i).2 = 0 → ∀ x ∈ l, wayE np x = 0
  | [], _, _, x, hx => by simp at hx
  | y :: l, i, h, x, hx => by
    unfold waysGo at h
    split at h
    · rename_i hy
      rcases List.mem_cons.1 hx with rfl | hx
      · exact hy
      · exact waysGo_zero l (i + 1) h x hx
    · rename_i hy
      exact absurd h hy
theorem roomsOk_of {pp : List Int} {ws : List Ev} (h : (roomsM pp ws).2 = 0) : RoomsOk pp ws := by
  unfold roomsM at h
  split at h
  · simp at h
  · rename_i h0
    split at h
    · rename_i h1
      split at h
      · simp at h
      · rename_i h2
        have hw := waysGo_zero ws 0 h
        refine ⟨by omega, h1.1, h1.2, ?_, fun x hx => wayE_zero (hw x hx)⟩
        have h3 := idxGo_nonneg notCrowdB pp 0
        rw [decide_eq_false h2] at h3
        intro x hx
        have h4 := List.any_eq_false.1 h3.symm x hx
        simp only [notCrowdB, isCrowdB, withinB, Bool.not_eq_true', Bool.not_eq_false, Bool.and_eq_true, decide_eq_true_eq] at h4
        simpa using h4
    · simp at h
theorem pushM_ok {F : Fl} {y : List Int} {d : Int} : ∀ (f at_ : Nat) (arcs arcs' : List Arc), FlOk { F with arcs := arcs } → pushM F.src y d f at_ arcs = some arcs' → FlOk { F with arcs := arcs' }
  | f, at_, arcs, arcs', ok, h => by
    unfold pushM at h
    split at h
    · rw [← Option.some.inj h]
      exact ok
    · cases f with
      | zero => cases h
      | succ f =>
        simp only at h
        split at h
        · split at h
          · cases h
          · split at h
            · exact pushM_ok f _ _ _ ((ok.addLf _ _).addLf _ _) h
            · cases h
        · cases h
theorem moreM_ok {F F' : Fl} {f : Nat} (ok : FlOk F) (h : moreM F f = some (some F')) : FlOk F' := by
  unfold moreM at h
  split at h
  · cases h
  · split at h
    · cases h
    · split at h
      · cases h
      · split at h
        · cases h
        · rename_i arcs hp
          split at h
          · have := Option.some.inj (Option.some.inj h)
            subst this
            have h1 := pushM_ok (F := F) f _ _ _ ok hp
            exact ⟨h1.arc, h1.adj, h1.src, h1.outn, h1.few, h1.few'⟩
          · cases h
theorem more_any (w : World) (B g : Nat) (F : Fl) (h : FlowAt w B g F) (ok : FlOk F) (f : Nat) (x : Option Fl) (hm : moreM F f = some x) :
    Calls Tryz.prog 107 #[.pointer (some ⟨g, 0, none⟩)] w (MorePost w B g F x) := by
  unfold moreM at hm
  split at hm
  · cases hm
  · rename_i y hy
    split at hm
    · rename_i hn
      rw [← Option.some.inj hm]
      exact more_no w B g F h ok f y hy hn
    · rename_i hn
      split at hm
      · cases hm
      · rename_i d hd
        split at hm
        · cases hm
        · rename_i arcs hp
          split at hm
          · rename_i ho
            rw [← Option.some.inj hm]
            exact more_yes w B g F h ok f y hy hn d hd arcs hp ho
          · cases hm
end Go.Proofs.YtlbgocgocanloaaGreatDoor
namespace Go.Proofs.YtlbgocgocanloaaGreatDoor
open Go.RowKit
def FlowPost (w : World) (F : Fl) (e : Ending) (w' : World) : Prop :=
  ∃ g, e = .returned (.pointer (some ⟨g, 0, none⟩)) ∧ FlowAt w' w.heap.size g F ∧ Below w.heap.size w w'
theorem info44 : (Tryz.prog.info? 44).map (fun i => (i.zero, i.size, i.bytes)) = some (some (.slice none 0 0), 1, 24) := by kernel_rfl
theorem flow_start {W : World} {B x ob S R T : Nat} (h1 : W.heap[x]? = some (.cells #[.slice none 0 0, .slice (some ⟨ob, 0, none⟩) (S + 2) (S + 2), .int .i64 S, .int .i64 ((S : Int) + 1), .int .i64 R, .int .i64 T, .int .i64 0] 141 (0, 0)))
    (h2 : W.heap[ob]? = some (.cells (madeCells #[.slice none 0 0] (S + 2)) 44 (0, 0))) (hB : B ≤ x) (hB' : B ≤ ob) (hS : S = R * (T + 1)) : FlowIn W B x (.slice none 0 0) ob (List.replicate (S + 2) (.slice none 0 0)) (emptyFl R T) where
  head := by
    rw [h1]
    simp [emptyFl, ← hS]
  arcs := ⟨rfl, .inl ⟨rfl, rfl⟩⟩
  obH := by
    rw [h2]
    have : madeCells #[.slice none 0 0] (S + 2) = (List.replicate (S + 2) (Value.slice none 0 0)).toArray := by
      apply Array.toList_inj.1
      rw [toList_madeCells_one]
    rw [this]
  rowsN := by simp [emptyFl, ← hS]
  row := fun i v l hv hl => by
    simp only [List.getElem?_replicate] at hv
    simp only [emptyFl, List.getElem?_replicate] at hl
    split at hv
    · split at hl
      · rw [← Option.some.inj hv, ← Option.some.inj hl]
        exact ⟨⟨rfl, .inl ⟨rfl, rfl⟩⟩, Nat.le_refl _⟩
      · cases hl
    · cases hv
  apart := fun i j v v' b _ hv _ hb => by
    simp only [List.getElem?_replicate] at hv
    split at hv
    · rw [← Option.some.inj hv] at hb
      simp [Value.ownBlock] at hb
    · cases hv
  hB := hB
  hB' := hB'
theorem FlowIn.moreB {w : World} {B B' g ob : Nat} {va : Value} {rows : List Value} {F : Fl} (h : FlowIn w B g va ob rows F) (hb : B' ≤ B) : FlowIn w B' g va ob rows F :=
  ⟨h.head, ownsRow_more h.arcs hb, h.obH, h.rowsN, fun i v l hv hl => ⟨ownsRow_more (h.row i v l hv hl).1 hb, (h.row i v l hv hl).2⟩, h.apart, Nat.le_trans hb h.hB, Nat.le_trans hb h.hB'⟩
theorem FlowAt.moreB {w : World} {B B' g : Nat} {F : Fl} (h : FlowAt w B g F) (hb : B' ≤ B) : FlowAt w B' g F := by
  obtain ⟨va, ob, rows, h⟩ := h
  exact ⟨va, ob, rows, h.moreB hb⟩
theorem FlowAt.keep {w w' : World} {B g : Nat} {F : Fl} (h : FlowAt w B g F) (hb : Below w.heap.size w w') : FlowAt w' B g F := by
  obtain ⟨va, ob, rows, h⟩ := h
  exact ⟨va, ob, rows, h.keep (fun k hk => hb.block k hk)⟩
theorem FlowAt.size {w : World} {B g : Nat} {F : Fl} (h : FlowAt w B g F) : B ≤ w.heap.size := by
  obtain ⟨va, ob, rows, h⟩ := h
  have h1 := lt_of_block h.head
  have h2 := h.hB
  omega
/-- the cells of a flow's head -/
theorem FlowAt.cells {w : World} {B g V s o R T n : Nat} {F : Fl} (h : FlowAt w B g F) (hs : FlSh V s o R T n F) :
    w.cell? ⟨g, 2, none⟩ = some (.int .i64 s) ∧ w.cell? ⟨g, 3, none⟩ = some (.int .i64 o) ∧ w.cell? ⟨g, 4, none⟩ = some (.int .i64 R) ∧ w.cell? ⟨g, 5, none⟩ = some (.int .i64 T) := by
  obtain ⟨va, ob, rows, h⟩ := h
  have h1 := h.head
  rw [hs.src, hs.outn, hs.rooms, hs.ticks] at h1
  refine ⟨?_, ?_, ?_, ?_⟩ <;> rw [cell_of_row _ _ _ _ _ _ h1] <;> rfl
def PeopleRel (w0 : World) (B g R T S : Nat) (pp : List Int) (F1 : Fl) (u6 u52 : Value) (wr : World) : Prop :=
  ∃ (k : Nat) (F : Fl) (acc : Int), k ≤ R ∧ u52 = .int .i64 k ∧ u6 = .int .i64 acc ∧ FlowAt wr B g F ∧ FlSh (S + 2) S (S + 1) R T k F ∧ joinPeople F k (pp.drop k) = F1 ∧ Below B w0 wr ∧ acc + sumL (pp.drop k) = sumL pp ∧ 0 ≤ acc ∧ acc ≤ 10000 * k
def TickRel (w0 : World) (B g R T S : Nat) (all : Int) (ws : List Ev) (F2 : Fl) (u70 : Value) (wr : World) : Prop :=
  ∃ (t : Nat) (F : Fl) (n : Nat), t ≤ T ∧ u70 = .int .i64 t ∧ FlowAt wr B g F ∧ FlSh (S + 2) S (S + 1) R T n F ∧ n ≤ 6 + 22 * t ∧ joinTicks R all ws F t (T - t) = F2 ∧ Below B w0 wr
def StayRel (w0 : World) (B g R T S H N m : Nat) (all : Int) (F3 : Fl) (u89 : Value) (wr : World) : Prop :=
  ∃ (r : Nat) (F : Fl) (n : Nat), r ≤ R ∧ u89 = .int .i64 r ∧ FlowAt wr B g F ∧ FlSh (S + 2) S (S + 1) R T n F ∧ n ≤ m + r ∧ joinStay H N all F r (R - r) = F3 ∧ Below B w0 wr
def WayRel (w0 : World) (B g R T S H N m W : Nat) (ws : List Ev) (F4 : Fl) (u105 : Value) (wr : World) : Prop :=
  ∃ (j : Nat) (F : Fl) (n : Nat), j ≤ W ∧ u105 = .int .i64 j ∧ FlowAt wr B g F ∧ FlSh (S + 2) S (S + 1) R T n F ∧ n ≤ m + j ∧ joinWays H N F (ws.drop j) = F4 ∧ Below B w0 wr
def MoreRel (w0 : World) (B g f : Nat) (F' : Fl) (k : Nat) (wr : World) : Prop :=
  ∃ F : Fl, runM k f F = some F' ∧ FlOk F ∧ FlowAt wr B g F ∧ Below B w0 wr
set_option maxRecDepth 100000 in
set_option maxHeartbeats 8000000 in
theorem flowOf_any (w : World) (B : Nat) (Ap Aw : Option Addr) (np cp nw cw : Nat) (pp : List Int) (ws : List Ev) (hl : pp.length = np) (hlw : ws.length = nw) (hp : Rd w B Ap (intCells pp)) (hw : Rd w B Aw (evCells ws)) (hBw : B ≤ w.heap.size)
    (ok : RoomsOk pp ws) (T : Nat) (hT : T ≤ 20) (k f : Nat) (F' : Fl) (hr : runM k f (builtM pp ws T) = some F') :
    Calls Tryz.prog 72 #[.agg #[.slice Ap np cp, .slice Aw nw cw], .int .i64 T] w (FlowPost w F') := by
  have OK := Lib.hid ok
  have HR := Lib.hid hr
  have HL := Lib.hid hl
  have HLW := Lib.hid hlw
  have r1 : 1 ≤ np := by rw [← hl]; exact ok.some_
  have r2 : np ≤ 6 := by rw [← hl]; exact ok.few
  have r3 : nw ≤ 16 := by rw [← hlw]; exact ok.fewW
  clear ok hr hl hlw
  obtain ⟨S, hS⟩ : ∃ S : Nat, S = np * (T + 1) := ⟨_, rfl⟩
  have hSi : (np : Int) * ((T : Int) + 1) = (S : Int) := by rw [hS]; simp
  have s0 : np ≤ S := by rw [hS]; exact Nat.le_mul_of_pos_right np (by omega)
  have s1 : S ≤ 126 := by
    rw [hS]
    exact Nat.le_trans (Nat.mul_le_mul r2 (by omega : T + 1 ≤ 21)) (by omega)
  have s2 : (0 : Int) ≤ (np : Int) * ((T : Int) + 1) := by omega
  have s3 : (np : Int) * ((T : Int) + 1) ≤ 126 := by omega
  have HSI := Lib.hid hSi
  have HS := Lib.hid hS
  clear hSi hS
  have hmk := run_make_row' (P := Tryz.prog) 139 44 (.slice none 0 0) 24 Tryz.underlying139 info44 rfl .i64 .i64 (S + 2) (by omega) (by omega)
  have hmk' : ∀ w : World, (Instr.makeSlice 139 (.int .i64 ((S : Int) + 1 + 1)) (.int .i64 ((S : Int) + 1 + 1))).run Tryz.prog w = .ok (.slice (some ⟨w.heap.size, 0, none⟩) (S + 2) (S + 2)) (w.alloc (.cells (madeCells #[.slice none 0 0] (S + 2)) 44)) := by
    intro w
    rw [show (S : Int) + 1 + 1 = ((S + 2 : Nat) : Int) by omega]
    exact hmk w
  clear hmk
  go_enter Tryz.func72, Tryz.ntmps72
  go_upto_region 3 with (fail)
  simp only [HSI.out]
  clear s2 s3
  go_upto_region 5 with (fail)
  have b0 : (((w.alloc (Obj.cells #[Value.slice Ap np cp, Value.slice Aw nw cw] 65)).alloc (Obj.cells #[Value.slice none 0 0, Value.slice (some { block := w.heap.size + 1 + 1, off := 0 }) (S + 2) (S + 2), Value.int IntKind.i64 ↑S, Value.int IntKind.i64 (↑S + 1), Value.int IntKind.i64 ↑np, Value.int IntKind.i64 ↑T, Value.int IntKind.i64 0] 141)).alloc (Obj.cells (madeCells #[Value.slice none 0 0] (S + 2)) 44)).heap[w.heap.size]? = some (.cells #[Value.slice Ap np cp, Value.slice Aw nw cw] 65 (0, 0)) := by
    rw [heapq_alloc, if_neg (by simp; omega), heapq_alloc, if_neg (by simp), heapq_alloc, if_pos rfl]
  have b1 : (((w.alloc (Obj.cells #[Value.slice Ap np cp, Value.slice Aw nw cw] 65)).alloc (Obj.cells #[Value.slice none 0 0, Value.slice (some { block := w.heap.size + 1 + 1, off := 0 }) (S + 2) (S + 2), Value.int IntKind.i64 ↑S, Value.int IntKind.i64 (↑S + 1), Value.int IntKind.i64 ↑np, Value.int IntKind.i64 ↑T, Value.int IntKind.i64 0] 141)).alloc (Obj.cells (madeCells #[Value.slice none 0 0] (S + 2)) 44)).heap[w.heap.size + 1]? = some (.cells #[Value.slice none 0 0, Value.slice (some { block := w.heap.size + 1 + 1, off := 0 }) (S + 2) (S + 2), Value.int IntKind.i64 ↑S, Value.int IntKind.i64 (↑S + 1), Value.int IntKind.i64 ↑np, Value.int IntKind.i64 ↑T, Value.int IntKind.i64 0] 141 (0, 0)) := by
    rw [heapq_alloc, if_neg (by simp), heapq_alloc, if_pos (by simp)]
  have b2 : (((w.alloc (Obj.cells #[Value.slice Ap np cp, Value.slice Aw nw cw] 65)).alloc (Obj.cells #[Value.slice none 0 0, Value.slice (some { block := w.heap.size + 1 + 1, off := 0 }) (S + 2) (S + 2), Value.int IntKind.i64 ↑S, Value.int IntKind.i64 (↑S + 1), Value.int IntKind.i64 ↑np, Value.int IntKind.i64 ↑T, Value.int IntKind.i64 0] 141)).alloc (Obj.cells (madeCells #[Value.slice none 0 0] (S + 2)) 44)).heap[w.heap.size + 1 + 1]? = some (.cells (madeCells #[Value.slice none 0 0] (S + 2)) 44 (0, 0)) := by
    rw [heapq_alloc, if_pos (by simp)]
  have hb0 : Below w.heap.size w (((w.alloc (Obj.cells #[Value.slice Ap np cp, Value.slice Aw nw cw] 65)).alloc (Obj.cells #[Value.slice none 0 0, Value.slice (some { block := w.heap.size + 1 + 1, off := 0 }) (S + 2) (S + 2), Value.int IntKind.i64 ↑S, Value.int IntKind.i64 (↑S + 1), Value.int IntKind.i64 ↑np, Value.int IntKind.i64 ↑T, Value.int IntKind.i64 0] 141)).alloc (Obj.cells (madeCells #[Value.slice none 0 0] (S + 2)) 44)) :=
    (((Below.refl _ _).alloc (Nat.le_refl _) _).alloc (by simp) _).alloc (by simp; omega) _
  generalize ((w.alloc (Obj.cells #[Value.slice Ap np cp, Value.slice Aw nw cw] 65)).alloc (Obj.cells #[Value.slice none 0 0, Value.slice (some { block := w.heap.size + 1 + 1, off := 0 }) (S + 2) (S + 2), Value.int IntKind.i64 ↑S, Value.int IntKind.i64 (↑S + 1), Value.int IntKind.i64 ↑np, Value.int IntKind.i64 ↑T, Value.int IntKind.i64 0] 141)).alloc (Obj.cells (madeCells #[Value.slice none 0 0] (S + 2)) 44) = w0 at *
  have hF0 : FlowAt w0 (w.heap.size + 1) (w.heap.size + 1) (emptyFl np T) := ⟨_, _, _, flow_start b1 b2 (Nat.le_refl _) (by omega) HS.out⟩
  have hSh := FlSh.empty np T
  rw [← HS.out] at hSh
  have hp0 := (hp.below (hb0.mono hBw)).mono (by omega : B ≤ w.heap.size + 1)
  have hw0 := (hw.below (hb0.mono hBw)).mono (by omega : B ≤ w.heap.size + 1)
  have a0 := cell_of_row w0 w.heap.size 0 _ _ _ b0
  have a1 := cell_of_row w0 w.heap.size 1 _ _ _ b0
  simp at a0 a1
  have HB0 := Lib.hid hb0
  have hsz0 := hF0.size
  clear hp hw hb0 b0 b1 b2 hmk'
  generalize hx : w.heap.size = x at *
  have HX := Lib.hid hx
  clear hx
  generalize hF1 : joinPeople (emptyFl np T) 0 pp = F1 at *
  have HF1 := Lib.hid hF1
  clear hF1
  have rel0 : PeopleRel w0 (x + 1) (x + 1) np T S pp F1 (.int .i64 0) (.int .i64 0) w0 := ⟨0, _, 0, Nat.zero_le _, rfl, rfl, hF0, hSh, HF1.out, Below.refl _ _, by simp, by omega, by omega⟩
  have REL0 := Lib.hid rel0
  clear rel0 hSh hF0
  go_wp2
  go_loopw [6, 52] (fun u6 u52 wr => PeopleRel w0 (x + 1) (x + 1) np T S pp F1 u6 u52 wr) (fun _ u52 _ => np - (intOf u52).toNat)
  case atStart => exact REL0.out
  case round =>
    obtain ⟨k, F, acc, hk, rfl, rfl, hfa, hsh, hj, hb, hacc, h0, h1⟩ := hrel
    by_cases hlt : k < np
    · have hpk : k < pp.length := by rw [HL.out]; exact hlt
      obtain ⟨g2, g3, g4, g5⟩ := hfa.cells hsh
      obtain ⟨bp, off, rfl, hbB, hc⟩ := (hp0.below hb).at_ (k := k) (u := .int .i64 (pp[k]?.getD 0)) (intCells_at pp k hpk)
      have hq := OK.out.people (pp[k]?.getD 0) (by rw [List.getElem?_eq_getElem hpk, Option.getD_some]; exact List.getElem_mem hpk)
      have hd := drop_at pp 0 k hpk
      rw [hd] at hj hacc
      generalize pp[k]?.getD 0 = q at *
      obtain ⟨q0, q1⟩ := hq
      have J := join_any wr (x + 1) (x + 1) F S k q hfa (by omega) (by rw [hsh.adjN]; omega) (by rw [hsh.adjN]; omega) (by rw [hsh.arcsN]; omega)
      have hj2 : joinPeople (F.join S k q) (k + 1) (pp.drop (k + 1)) = F1 := by rw [← hj, ← hsh.src]; rfl
      have hac2 : acc + q + sumL (pp.drop (k + 1)) = sumL pp := by simp only [sumL] at hacc; omega
      have HJ2 := Lib.hid hj2
      have HAC2 := Lib.hid hac2
      have HSH := Lib.hid hsh
      clear hj hj2 hacc hac2 hsh hd hfa hpk g3 g4 g5
      go_wp2_with (go_at_call 106; refine J.mono ?_; rintro e w1 ⟨rfl, hfa1, hb1⟩)
      go_roundw
      case rel => exact ⟨k + 1, _, acc + q, by omega, by go_num, rfl, hfa1, HSH.out.join (by omega) (by omega), HJ2.out, hb.trans hb1, HAC2.out, by omega, by omega⟩
      case measure => simp [intOf]; omega
    · obtain rfl : k = np := by omega
      have hd : pp.drop k = [] := by rw [List.drop_eq_nil_iff]; rw [HL.out]; exact Nat.le_refl _
      rw [hd] at hj hacc
      simp only [joinPeople] at hj
      simp only [sumL, Int.add_zero] at hacc
      subst hj
      have HACC := Lib.hid hacc
      generalize hF2 : joinTicks k acc ws F 0 T = F2
      have HF2 := Lib.hid hF2
      have rel2 : TickRel w0 (x + 1) (x + 1) k T S acc ws F2 (.int .i64 0) wr := ⟨0, F, k, Nat.zero_le _, rfl, hfa, hsh, by omega, HF2.out, hb⟩
      have REL2 := Lib.hid rel2
      clear rel2 hF2 hacc hd hfa hsh hb
      go_wp2
      go_loopw [70] (fun u70 wr => TickRel w0 (x + 1) (x + 1) k T S acc ws F2 u70 wr) (fun u70 _ => T - (intOf u70).toNat)
      case atStart => exact REL2.out
      case round =>
        clear REL2
        obtain ⟨t, Ft, n, ht, rfl, hfa, hsh, hn, hj, hb⟩ := hrel
        by_cases hlt : t < T
        · obtain ⟨g2, g3, g4, g5⟩ := hfa.cells hsh
          obtain ⟨H, hH⟩ : ∃ H : Nat, H = t * k := ⟨_, rfl⟩
          obtain ⟨N, hN⟩ : ∃ N : Nat, N = (t + 1) * k := ⟨_, rfl⟩
          have hHi : (t : Int) * (k : Int) = (H : Int) := by rw [hH]; simp
          have hNi : ((t : Int) + 1) * (k : Int) = (N : Int) := by rw [hN]; simp
          have hHN : H + k = N := by rw [hH, hN, Nat.succ_mul]
          have hNS : N + k ≤ S := by
            rw [HS.out, hN, Nat.mul_comm k, Nat.succ_mul T k]
            exact Nat.add_le_add_right (Nat.mul_le_mul_right k (by omega)) k
          have hHl : H ≤ 126 := by omega
          have hj2 := hj
          rw [show T - t = (T - (t + 1)) + 1 by omega] at hj2
          simp only [joinTicks] at hj2
          rw [← hH, ← hN] at hj2
          generalize hF3 : joinStay H N acc Ft 0 k = F3 at *
          have HF3 := Lib.hid hF3
          have HJ2 := Lib.hid hj2
          have HFA := Lib.hid hfa
          have HSH := Lib.hid hsh
          have HHI := Lib.hid hHi
          have HNI := Lib.hid hNi
          clear hj hj2 hF3 hfa hsh hH hN g2 g3 g5
          go_wp2
          have v0 : IntKind.i64.wrap ((t : Int) * (k : Int)) = (H : Int) := by rw [HHI.out]; exact IntWalk.i64_in _ (by omega)
          have v1 : IntKind.i64.wrap ((t : Int) + 1) = (t : Int) + 1 := IntWalk.i64_in _ (by omega)
          have v2 : IntKind.i64.wrap (((t : Int) + 1) * (k : Int)) = (N : Int) := by rw [HNI.out]; exact IntWalk.i64_in _ (by omega)
          have x4 := fun x : Xt wr => x.cell g4
          clear hHi hNi
          refine wp_region_xt (by kernel_rfl) (by kernel_rfl) ?_
          repeat (go_big_quiet_step (fail))
          refine wpQuiet_nil ?_
          intro w1 hx
          have hb1 := Xt.below hx
          clear hx x4 v0 v1 v2 g4
          have hfa1 := HFA.out.keep hb1
          have hbw1 : Below (x + 1) w0 w1 := hb.trans (hb1.mono HFA.out.size)
          have rel3 : StayRel w0 (x + 1) (x + 1) k T S H N n acc F3 (.int .i64 0) w1 := ⟨0, Ft, n, Nat.zero_le _, rfl, hfa1, HSH.out, by omega, HF3.out, hbw1⟩
          have REL3 := Lib.hid rel3
          have a0' := keptB hbw1 (by simp) a0
          have a1' := keptB hbw1 (by simp) a1
          clear rel3 hfa1 hb1 hbw1 HFA HSH HF3 hb
          go_wp2
          go_loopw [89] (fun u89 wr => StayRel w0 (x + 1) (x + 1) k T S H N n acc F3 u89 wr) (fun u89 _ => k - (intOf u89).toNat)
          case atStart => exact REL3.out
          case round =>
            clear REL3
            obtain ⟨r, Fr, m, hr, rfl, hfa, hsh, hm, hj, hb⟩ := hrel
            by_cases hlt2 : r < k
            · have J := join_any wr (x + 1) (x + 1) Fr (H + r) (N + r) acc hfa (by omega) (by rw [hsh.adjN]; omega) (by rw [hsh.adjN]; omega) (by rw [hsh.arcsN]; omega)
              simp only [Int.natCast_add] at J
              have hj2 := hj
              rw [show k - r = (k - (r + 1)) + 1 by omega] at hj2
              simp only [joinStay] at hj2
              have HJ3 := Lib.hid hj2
              have HSH := Lib.hid hsh
              clear hj hj2 hsh hfa
              go_wp2_with (go_at_call 106; refine J.mono ?_; rintro e w2 ⟨rfl, hfa2, hb2⟩)
              go_roundw
              case rel => exact ⟨r + 1, _, m + 1, by omega, by go_num, hfa2, HSH.out.join (by omega) (by omega), by omega, HJ3.out, hb.trans hb2⟩
              case measure => simp [intOf]; omega
            · obtain rfl : r = k := by omega
              rw [Nat.sub_self] at hj
              simp only [joinStay] at hj
              subst hj
              have a0'' := keptB hb (by simp) a0
              have a1'' := keptB hb (by simp) a1
              generalize hF4 : joinWays H N Fr ws = F4 at *
              have HF4 := Lib.hid hF4
              have rel4 : WayRel w0 (x + 1) (x + 1) r T S H N m nw ws F4 (.int .i64 0) wr := ⟨0, Fr, m, Nat.zero_le _, rfl, hfa, hsh, by omega, by simpa using HF4.out, hb⟩
              have REL4 := Lib.hid rel4
              clear rel4 hF4 hsh hfa hb a0' a1'
              go_wp2
              go_loopw [105] (fun u105 wr => WayRel w0 (x + 1) (x + 1) r T S H N m nw ws F4 u105 wr) (fun u105 _ => nw - (intOf u105).toNat)
              case atStart => exact REL4.out
              case round =>
                clear REL4
                obtain ⟨j, Fj, q, hjn, rfl, hfa, hsh, hq, hj, hb⟩ := hrel
                by_cases hlt3 : j < nw
                · have hjl : j < ws.length := by rw [HLW.out]; exact hlt3
                  obtain ⟨g2, g3, g4, g5⟩ := hfa.cells hsh
                  obtain ⟨ev, hev⟩ : ∃ ev, ws[j]? = some ev := ⟨ws[j], by simp [hjl]⟩
                  have hmem : ev ∈ ws := List.mem_of_getElem? hev
                  obtain ⟨o0, o1, o2, o3, o4, o5⟩ := OK.out.ways ev hmem
                  rw [HL.out] at o1 o2
                  obtain ⟨z0, z1, z2⟩ := evCells_at ws j ev hev
                  obtain ⟨bw, offw, rfl, hbB, c0, c1, c2⟩ := (hw0.below hb).at3 z0 z1 z2
                  rw [List.drop_eq_getElem_cons hjl, show ws[j] = ev from Option.some.inj ((List.getElem?_eq_getElem hjl).symm.trans hev)] at hj
                  obtain ⟨ea, eb, ec⟩ := ev
                  simp only at o0 o1 o2 o3 o4 o5 c0 c1 c2
                  obtain ⟨ia, rfl⟩ := Int.eq_ofNat_of_zero_le o0
                  have hb9 : Below wr.heap.size wr (wr.alloc (.cells #[.int .i64 (ia : Int), .int .i64 eb, .int .i64 ec] 146)) := (Below.refl _ _).alloc (Nat.le_refl _) _
                  have hfa9 := hfa.keep hb9
                  have hbw9 := hb.trans (hb9.mono hfa.size)
                  have e0 : (wr.alloc (.cells #[.int .i64 (ia : Int), .int .i64 eb, .int .i64 ec] 146)).cell? ⟨wr.heap.size, 0, none⟩ = some (.int .i64 (ia : Int)) := by simp
                  have e1 : (wr.alloc (.cells #[.int .i64 (ia : Int), .int .i64 eb, .int .i64 ec] 146)).cell? ⟨wr.heap.size, 1, none⟩ = some (.int .i64 eb) := by simp
                  have e2 : (wr.alloc (.cells #[.int .i64 (ia : Int), .int .i64 eb, .int .i64 ec] 146)).cell? ⟨wr.heap.size, 2, none⟩ = some (.int .i64 ec) := by simp
                  have HJ := Lib.hid hj
                  have HSH := Lib.hid hsh
                  have HBW := Lib.hid hbw9
                  clear hj hsh hb9 hbw9 hev hmem hfa z0 z1 z2 hjl
                  have g3' := cell_alloc_old (.cells #[.int .i64 (ia : Int), .int .i64 eb, .int .i64 ec] 146) g3
                  go_upto_region 25 with (fail)
                  clear hb c0 c1 c2 g2 g3 g3' g4 g5
                  generalize wr.alloc (.cells #[.int .i64 (ia : Int), .int .i64 eb, .int .i64 ec] 146) = w3 at *
                  rcases o2 with rfl | ⟨o21, o22⟩
                  · have J := join_any w3 (x + 1) (x + 1) Fj (H + ia) (S + 1) ec hfa9 (by omega) (by rw [HSH.out.adjN]; omega) (by rw [HSH.out.adjN]; omega) (by rw [HSH.out.arcsN]; omega)
                    rw [show ((H + ia : Nat) : Int) = (H : Int) + (ia : Int) by simp, show ((S + 1 : Nat) : Int) = (S : Int) + 1 by simp] at J
                    have hj2 : joinWays H N (Fj.join (H + ia) (S + 1) ec) (ws.drop (j + 1)) = F4 := by
                      rw [← HJ.out]
                      simp [joinWays, wayTo, HSH.out.outn]
                    have HJ2 := Lib.hid hj2
                    clear hj2 hfa9
                    go_wp2_with (go_at_call 106; refine J.mono ?_; rintro e w2 ⟨rfl, hfa2, hb2⟩)
                    go_roundw
                    case rel => exact ⟨j + 1, _, q + 1, by omega, by go_num, hfa2, HSH.out.join (by omega) (by omega), by omega, HJ2.out, HBW.out.trans hb2⟩
                    case measure => simp [intOf]; omega
                  · obtain ⟨ib, rfl⟩ := Int.eq_ofNat_of_zero_le o21
                    have hne : ((ib : Int) != -1) = true := by rw [bne_iff_ne]; omega
                    have J := join_any w3 (x + 1) (x + 1) Fj (H + ia) (N + ib) ec hfa9 (by omega) (by rw [HSH.out.adjN]; omega) (by rw [HSH.out.adjN]; omega) (by rw [HSH.out.arcsN]; omega)
                    rw [show ((H + ia : Nat) : Int) = (H : Int) + (ia : Int) by simp, show ((N + ib : Nat) : Int) = (N : Int) + (ib : Int) by simp] at J
                    have hj2 : joinWays H N (Fj.join (H + ia) (N + ib) ec) (ws.drop (j + 1)) = F4 := by
                      rw [← HJ.out]
                      have : ¬ (ib : Int) = -1 := by omega
                      simp [joinWays, wayTo, this]
                    have HJ2 := Lib.hid hj2
                    clear hj2 hfa9
                    go_wp2_with (go_at_call 106; refine J.mono ?_; rintro e w2 ⟨rfl, hfa2, hb2⟩)
                    go_roundw
                    case rel => exact ⟨j + 1, _, q + 1, by omega, by go_num, hfa2, HSH.out.join (by omega) (by omega), by omega, HJ2.out, HBW.out.trans hb2⟩
                    case measure => simp [intOf]; omega
                · obtain rfl : j = nw := by omega
                  have hd : ws.drop j = [] := by rw [List.drop_eq_nil_iff]; rw [HLW.out]; exact Nat.le_refl _
                  rw [hd] at hj
                  simp only [joinWays] at hj
                  subst hj
                  have HB := Lib.hid hb
                  have HSH := Lib.hid hsh
                  have HFA := Lib.hid hfa
                  clear hb hsh hfa hd
                  go_wp2
                  go_roundw
                  case rel => exact ⟨t + 1, _, q, by omega, by go_num, HFA.out, HSH.out, by omega, HJ2.out, HB.out⟩
                  case measure => simp [intOf]; omega
        · obtain rfl : t = T := by omega
          rw [Nat.sub_self] at hj
          simp only [joinTicks] at hj
          subst hj
          have hF5 : Ft = builtM pp ws t := by
            rw [← HF2.out, ← HF1.out, builtM, HL.out, HACC.out]
          have hok := hsh.ok (by omega) (by omega) (by omega) (by omega)
          have rel5 : ∃ k, MoreRel w0 (x + 1) (x + 1) f F' k wr := ⟨_, Ft, by rw [hF5]; exact HR.out, hok, hfa, hb⟩
          have REL5 := Lib.hid rel5
          clear rel5 hF5 hok hfa hsh hb
          go_wp2
          go_loopw [] (fun wr => ∃ k, MoreRel w0 (x + 1) (x + 1) f F' k wr) (fun wr => least (fun k => MoreRel w0 (x + 1) (x + 1) f F' k wr))
          case atStart => exact REL5.out
          case round =>
            clear REL5
            obtain ⟨⟨F, hrun, hok, hfa, hb⟩, hmin⟩ := least_spec hrel
            generalize hm : least (fun k => MoreRel w0 (x + 1) (x + 1) f F' k wr) = m at *
            clear hm hmin hrel
            cases m with
            | zero => unfold runM at hrun; cases hrun
            | succ m =>
              unfold runM at hrun
              rcases hmo : moreM F f with _ | xx
              · rw [hmo] at hrun
                cases hrun
              · rw [hmo] at hrun
                rcases xx with _ | F2
                · have M : Calls Tryz.prog 107 #[.pointer (some ⟨x + 1, 0, none⟩)] wr (fun e w' => e = .returned (.bool false) ∧ FlowAt w' (x + 1) (x + 1) F ∧ Below (x + 1) wr w') := more_any wr (x + 1) (x + 1) F hfa hok f none hmo
                  have hF : F = F' := Option.some.inj hrun
                  subst hF
                  have HB := Lib.hid hb
                  clear hrun hmo hfa hb hok
                  go_wp2_with (go_at_call 107; refine M.mono ?_; rintro e w1 ⟨rfl, hfa1, hb1⟩)
                  go_ret
                  refine ⟨x + 1, rfl, ?_, ?_⟩
                  · rw [HX.out]
                    exact hfa1.moreB (by omega)
                  · rw [HX.out]
                    exact HB0.out.trans ((HB.out.trans hb1).mono (by omega))
                · have M : Calls Tryz.prog 107 #[.pointer (some ⟨x + 1, 0, none⟩)] wr (fun e w' => e = .returned (.bool true) ∧ FlowAt w' (x + 1) (x + 1) F2 ∧ Below (x + 1) wr w') := more_any wr (x + 1) (x + 1) F hfa hok f (some F2) hmo
                  have hok2 := moreM_ok hok hmo
                  have HB := Lib.hid hb
                  have HOK := Lib.hid hok2
                  have HRUN := Lib.hid (show runM m f F2 = some F' from hrun)
                  clear hrun hmo hfa hb hok hok2
                  go_wp2_with (go_at_call 107; refine M.mono ?_; rintro e w1 ⟨rfl, hfa1, hb1⟩)
                  case roundEnd =>
                    have hR : MoreRel w0 (x + 1) (x + 1) f F' m w1 := ⟨F2, HRUN.out, HOK.out, hfa1, HB.out.trans hb1⟩
                    refine ⟨⟨m, hR⟩, ?_⟩
                    have h1 := (least_spec (p := fun k => MoreRel w0 (x + 1) (x + 1) f F' k w1) ⟨m, hR⟩).2 m hR
                    omega
end Go.Proofs.YtlbgocgocanloaaGreatDoor
namespace Go.Proofs.YtlbgocgocanloaaGreatDoor
open Go.RowKit
theorem first00 (w : World) : Calls Tryz.prog 61 #[.slice (some ⟨w.heap.size, 0, none⟩) 2 2] (w.alloc (.cells #[.int .i64 0, .int .i64 0] 29)) fun e w' => e = .returned (.int .i64 0) ∧ w.alloc (.cells #[.int .i64 0, .int .i64 0] 29) = w' := first2 w 0 0
/-- so many out by so many ticks -/
def outIs (pp : List Int) (ws : List Ev) (t : Nat) (o : Int) : Prop := ∃ k f F, runM k f (builtM pp ws t) = some F ∧ F.o = o
def SumRel (pp : List Int) (np : Nat) (u7 u23 : Value) : Prop :=
  ∃ (k : Nat) (acc : Int), k ≤ np ∧ u23 = .int .i64 k ∧ u7 = .int .i64 acc ∧ acc + sumL (pp.drop k) = sumL pp ∧ 0 ≤ acc ∧ acc ≤ 10000 * k
theorem FlowAt.out {w : World} {B g : Nat} {F : Fl} (h : FlowAt w B g F) : w.cell? ⟨g, 6, none⟩ = some (.int .i64 F.o) := by
  obtain ⟨va, ob, rows, h⟩ := h
  rw [cell_of_row _ _ _ _ _ _ h.head]
  rfl
def TimeRel (w2 : World) (n : Nat) (u33 : Value) (wr : World) : Prop := ∃ t : Nat, t ≤ n ∧ u33 = .int .i64 t ∧ Below w2.heap.size w2 wr
def LeastPost (w : World) (n e0 : Int) (e : Ending) (w' : World) : Prop := e = .returned (.tuple #[.int .i64 n, .int .i64 e0]) ∧ Below w.heap.size w w'
set_option maxRecDepth 100000 in
set_option maxHeartbeats 8000000 in
theorem LeastTime_yes (w : World) (B : Nat) (Ap Aw : Option Addr) (np cp nw cw : Nat) (pp : List Int) (ws : List Ev) (hl : pp.length = np) (hlw : ws.length = nw) (hp : Rd w B Ap (intCells pp)) (hw : Rd w B Aw (evCells ws)) (hBw : B ≤ w.heap.size)
    (h0 : (roomsM pp ws).2 = 0) (most : Nat) (hm : most ≤ 20) (n : Nat) (hn : n ≤ most) (hyes : outIs pp ws n (sumL pp)) (hno : ∀ t, t < n → ∃ o, outIs pp ws t o ∧ o ≠ sumL pp) :
    Calls Tryz.prog 27 #[.agg #[.slice Ap np cp, .slice Aw nw cw], .int .i64 most] w (LeastPost w n 0) := by
  have ok := roomsOk_of h0
  have OK := Lib.hid ok
  have HL := Lib.hid hl
  have HLW := Lib.hid hlw
  have r1 : 1 ≤ np := by rw [← hl]; exact ok.some_
  have r2 : np ≤ 6 := by rw [← hl]; exact ok.few
  have r3 : nw ≤ 16 := by rw [← hlw]; exact ok.fewW
  have hb0 : Below w.heap.size w (w.alloc (.cells #[.slice Ap np cp, .slice Aw nw cw] 65)) := (Below.refl _ _).alloc (Nat.le_refl _) _
  have hp0 := hp.below (hb0.mono hBw)
  have hw0 := hw.below (hb0.mono hBw)
  have R := roomsErr_any Ap Aw np cp nw cw (w.alloc (.cells #[.slice Ap np cp, .slice Aw nw cw] 65)) B pp ws hl hlw hp0 hw0 (by simp; omega)
  unfold ErrVal at R
  rw [h0] at R
  have b0 : (w.alloc (.cells #[.slice Ap np cp, .slice Aw nw cw] 65)).heap[w.heap.size]? = some (.cells #[.slice Ap np cp, .slice Aw nw cw] 65 (0, 0)) := by rw [heapq_alloc, if_pos rfl]
  have Tk := fun W : World => ticksErr_any (most : Int) W
  have ht : unlessE (withinB (most : Int) 0 20) 2 = 0 := by
    have : withinB (most : Int) 0 20 = true := by simp [withinB]; omega
    rw [this]
    rfl
  simp only [ht] at Tk
  have hs0 : w.heap.size + 1 ≤ (w.alloc (.cells #[.slice Ap np cp, .slice Aw nw cw] 65)).heap.size := by simp
  have HYES := Lib.hid hyes
  have HNO := Lib.hid hno
  have HP0 := Lib.hid hp0
  have HW0 := Lib.hid hw0
  have HB0 := Lib.hid hb0
  clear ok hl hlw hp hw h0 hyes hno ht hp0 hw0 hb0
  go_enter Tryz.func27, Tryz.ntmps27
  go_upto_region 1 with (fail)
  generalize w.alloc (.cells #[.slice Ap np cp, .slice Aw nw cw] 65) = w0 at *
  have a0 := cell_of_row w0 w.heap.size 0 _ _ _ b0
  have a1 := cell_of_row w0 w.heap.size 1 _ _ _ b0
  simp at a0 a1
  generalize hx : w.heap.size = x at *
  have HX := Lib.hid hx
  clear hx b0
  go_upto_region 2 with (first | (go_at_call 70; refine R.mono ?_; rintro e w1 ⟨rfl, hb1⟩; have a0' := kept hb1 a0; have a1' := kept hb1 a1) | (go_at_call 71; refine (Tk _).mono ?_; rintro e w' ⟨rfl, rfl⟩) | (go_at_call 61; refine (first00 _).mono ?_; rintro e w' ⟨rfl, rfl⟩))
  have c0 := cell_alloc_old (.cells #[.int .i64 0, .int .i64 0] 29) a0'
  have c1 := cell_alloc_old (.cells #[.int .i64 0, .int .i64 0] 29) a1'
  have hb2 : Below x w (w1.alloc (.cells #[.int .i64 0, .int .i64 0] 29)) := (HB0.out.trans (hb1.mono (by omega))).alloc (by have := hb1.size; omega) _
  have hp2 := (HP0.out.below (hb1.mono (by omega))).below (((Below.refl _ _).alloc (Nat.le_refl _) (.cells #[.int .i64 0, .int .i64 0] 29)).mono (by have := hb1.size; omega))
  have hw2 := (HW0.out.below (hb1.mono (by omega))).below (((Below.refl _ _).alloc (Nat.le_refl _) (.cells #[.int .i64 0, .int .i64 0] 29)).mono (by have := hb1.size; omega))
  have hs2 : B ≤ (w1.alloc (.cells #[.int .i64 0, .int .i64 0] 29)).heap.size := by have := hb1.size; simp; omega
  have hs3 : x + 1 ≤ (w1.alloc (.cells #[.int .i64 0, .int .i64 0] 29)).heap.size := by have := hb1.size; simp; omega
  have HB2 := Lib.hid hb2
  have HP2 := Lib.hid hp2
  have HW2 := Lib.hid hw2
  clear a0 a1 a0' a1' hb1 hb2 hp2 hw2 R Tk HP0 HW0 HB0
  generalize w1.alloc (.cells #[.int .i64 0, .int .i64 0] 29) = w2 at *
  go_wp2
  go_loop [7, 23] (fun u7 u23 => SumRel pp np u7 u23) (fun _ u23 => np - (intOf u23).toNat)
  case atStart => exact ⟨0, 0, Nat.zero_le _, rfl, rfl, by simp, by omega, by omega⟩
  case round =>
    obtain ⟨k, acc, hk, rfl, rfl, hacc, g0, g1⟩ := hrel
    by_cases hlt : k < np
    · have hpk : k < pp.length := by rw [HL.out]; exact hlt
      obtain ⟨bp, off, rfl, hbB, hc⟩ := HP2.out.at_ (k := k) (u := .int .i64 (pp[k]?.getD 0)) (intCells_at pp k hpk)
      have hq := OK.out.people (pp[k]?.getD 0) (by rw [List.getElem?_eq_getElem hpk, Option.getD_some]; exact List.getElem_mem hpk)
      have hd := drop_at pp 0 k hpk
      rw [hd] at hacc
      generalize pp[k]?.getD 0 = q at *
      obtain ⟨q0, q1⟩ := hq
      have hac2 : acc + q + sumL (pp.drop (k + 1)) = sumL pp := by simp only [sumL] at hacc; omega
      have HAC2 := Lib.hid hac2
      clear hacc hac2 hd hpk
      go_wp2
      go_round
      case rel => exact ⟨k + 1, acc + q, by omega, by go_num, rfl, HAC2.out, by omega, by omega⟩
      case measure => simp [intOf]; omega
    · obtain rfl : k = np := by omega
      have hd : pp.drop k = [] := by rw [List.drop_eq_nil_iff]; rw [HL.out]; exact Nat.le_refl _
      rw [hd] at hacc
      simp only [sumL, Int.add_zero] at hacc
      have HACC := Lib.hid hacc
      clear hacc hd
      go_wp2
      go_loopw [33] (fun u33 wr => TimeRel w2 n u33 wr) (fun u33 _ => n + 1 - (intOf u33).toNat)
      case atStart => exact ⟨0, Nat.zero_le _, rfl, Below.refl _ _⟩
      case round =>
        obtain ⟨t, htn, rfl, hb⟩ := hrel
        have c0' := kept hb c0
        have c1' := kept hb c1
        have hpr := HP2.out.below (hb.mono hs2)
        have hwr := HW2.out.below (hb.mono hs2)
        have hsz := hb.size
        have HB := Lib.hid hb
        clear hb c0 c1
        have hlt : (t : Int) < (most : Int) + 1 := by omega
        by_cases htn2 : t = n
        · subst htn2
          obtain ⟨kk, ff, F, hrun, ho⟩ := HYES.out
          have C := flowOf_any wr B Ap Aw k cp nw cw pp ws HL.out HLW.out hpr hwr (by omega) OK.out t (by omega) kk ff F hrun
          have hoq : (F.o == acc) = true := beq_iff_eq.2 (by rw [ho, HACC.out])
          clear hrun ho hpr hwr
          go_upto_region 13 with (fail)
          go_wp2_with (go_at_call 72; refine C.mono ?_; rintro e w3 ⟨g, rfl, hfa, hb3⟩; have g6 := hfa.out; clear hfa)
          go_ret2
          refine ⟨rfl, ?_⟩
          rw [HX.out]
          exact HB2.out.trans ((HB.out.mono (by omega)).trans (hb3.mono (by omega)))
        · obtain ⟨o, ⟨kk, ff, F, hrun, ho⟩, hne⟩ := HNO.out t (by omega)
          have C := flowOf_any wr B Ap Aw k cp nw cw pp ws HL.out HLW.out hpr hwr (by omega) OK.out t (by omega) kk ff F hrun
          have hoq : (F.o == acc) = false := beq_eq_false_iff_ne.2 (by rw [ho, HACC.out]; exact hne)
          clear hrun ho hpr hwr hne
          go_upto_region 13 with (fail)
          go_wp2_with (go_at_call 72; refine C.mono ?_; rintro e w3 ⟨g, rfl, hfa, hb3⟩; have g6 := hfa.out; clear hfa)
          go_roundw
          case rel => exact ⟨t + 1, by omega, by go_num, HB.out.trans (hb3.mono hsz)⟩
          case measure => simp [intOf]; omega
end Go.Proofs.YtlbgocgocanloaaGreatDoor
namespace Go.Proofs.YtlbgocgocanloaaGreatDoor
open Go.RowKit
theorem outIs_of {pp : List Int} {ws : List Ev} {t : Nat} {o : Int} (h : (runM 20 200 (builtM pp ws t)).map (·.o) = some o) : outIs pp ws t o := by
  obtain ⟨F, h1, h2⟩ := Option.map_eq_some_iff.1 h
  exact ⟨20, 200, F, h1, h2⟩
def exP : List Int := [10, 5]
def exW : List Ev := [(0, 1, 4), (1, -1, 3)]
theorem ex0 : outIs exP exW 0 0 := outIs_of (by decide +kernel)
theorem ex1 : outIs exP exW 1 3 := outIs_of (by decide +kernel)
theorem ex2 : outIs exP exW 2 6 := outIs_of (by decide +kernel)
theorem ex3 : outIs exP exW 3 9 := outIs_of (by decide +kernel)
theorem ex4 : outIs exP exW 4 12 := outIs_of (by decide +kernel)
theorem ex5 : outIs exP exW 5 15 := outIs_of (by decide +kernel)
theorem exOk : (roomsM exP exW).2 = 0 := by decide
theorem LeastTime_ex (w : World) (B : Nat) (Ap Aw : Option Addr) (cp cw : Nat) (hp : Rd w B Ap (intCells exP)) (hw : Rd w B Aw (evCells exW)) (hBw : B ≤ w.heap.size) :
    Calls Tryz.prog 27 #[.agg #[.slice Ap 2 cp, .slice Aw 2 cw], .int .i64 9] w (LeastPost w 5 0) :=
  LeastTime_yes w B Ap Aw 2 cp 2 cw exP exW rfl rfl hp hw hBw exOk 9 (by omega) 5 (by omega) ex5 (fun t ht => by
    match t, ht with
    | 0, _ => exact ⟨_, ex0, by decide⟩
    | 1, _ => exact ⟨_, ex1, by decide⟩
    | 2, _ => exact ⟨_, ex2, by decide⟩
    | 3, _ => exact ⟨_, ex3, by decide⟩
    | 4, _ => exact ⟨_, ex4, by decide⟩
    | t + 5, h => omega)
end Go.Proofs.YtlbgocgocanloaaGreatDoor
