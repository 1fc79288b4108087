/- more: a way out. -/
import Derived.Test.YtmcjnfghlpnghaaDoorC6
namespace Go.Proofs.YtmcjnfghlpnghaaDoor
open Go.RowKit

theorem byArc_spec {arcs : List Arc} {y : List Int} {at_ : Nat} {a : Arc} (h : byArc arcs y at_ = some a) : ∃ i : Nat, y[at_]? = some (i : Int) ∧ arcs[i]? = some a := by
  unfold byArc at h
  split at h
  · cases h
  · rename_i i hi
    split at h
    · cases h
    · refine ⟨i.toNat, by rw [hi]; congr 1; omega, h⟩

theorem addLf_len (arcs : List Arc) (i : Nat) (d : Int) : (addLf arcs i d).length = arcs.length := by simp [addLf]
theorem addLf_eq {arcs : List Arc} {i : Nat} {a : Arc} (h : arcs[i]? = some a) (d v : Int) (hv : a.lf + d = v) : (arcs.modify i fun a => { a with lf := v }) = addLf arcs i d := by
  subst hv
  apply List.ext_getElem?
  intro j
  simp only [addLf, List.getElem?_modify]
  by_cases hj : i = j
  · subst hj
    simp [h]
  · simp [hj]
theorem addLf_get {arcs : List Arc} {i : Nat} {a : Arc} (h : arcs[i]? = some a) (k : Nat) (d : Int) : ∃ b, (addLf arcs k d)[i]? = some b ∧ b.fr = a.fr ∧ b.to = a.to ∧ b.bk = a.bk := by
  simp only [addLf, List.getElem?_modify, h]
  by_cases hk : k = i
  · exact ⟨{ a with lf := a.lf + d }, by simp [hk], rfl, rfl, rfl⟩
  · exact ⟨a, by simp [hk], rfl, rfl, rfl⟩
theorem FlowIn.setLf' {w : World} {B g ab ob ca i n : Nat} {rows : List Value} {F : Fl} (h : FlowIn w B g (.slice (some ⟨ab, 0, none⟩) n ca) ob rows F) (hn : F.arcs.length = n) {b : Arc} (hb : F.arcs[i]? = some b) (d v : Int) (hv : b.lf + d = v) :
    FlowIn (w.setCell ⟨ab, i * 4 + 2, none⟩ (.int .i64 v)) B g (.slice (some ⟨ab, 0, none⟩) n ca) ob rows { F with arcs := addLf F.arcs i d } := by
  subst hn
  have h1 := h.setLf v (List.getElem?_eq_some_iff.1 hb).1
  rw [addLf_eq hb d v hv] at h1
  exact h1
theorem okI_spec {x : Int} (h : okI x = true) : -1000000000 ≤ x ∧ x ≤ 1000000000 := by simpa [okI] using h

theorem FlOk.addLf {F : Fl} {arcs : List Arc} (h : FlOk { F with arcs := arcs }) (k : Nat) (d : Int) : FlOk { F with arcs := addLf arcs k d } where
  arc := fun i a ha => by
    have hl : i < arcs.length := by
      have := (List.getElem?_eq_some_iff.1 ha).1
      simpa [YtmcjnfghlpnghaaDoor.addLf] using this
    obtain ⟨b, hb, h1, h2, h3⟩ := addLf_get (arcs := arcs) (i := i) (a := arcs[i]) (by simp [hl]) k d
    have e : b = a := Option.some.inj (hb.symm.trans ha)
    subst e
    have := h.arc i arcs[i] (by simp [hl])
    rw [h1, h2, h3]
    refine ⟨this.1, this.2.1, ?_⟩
    show _ < (YtmcjnfghlpnghaaDoor.addLf arcs k d).length
    rw [addLf_len]
    exact this.2.2
  adj := fun n i l hl hi => by
    show i < (YtmcjnfghlpnghaaDoor.addLf arcs k d).length
    rw [addLf_len]
    exact h.adj n i l hl hi
  src := h.src
  outn := h.outn
  few := h.few
  few' := by
    show (YtmcjnfghlpnghaaDoor.addLf arcs k d).length ≤ _
    rw [addLf_len]
    exact h.few'

def MinRel (F : Fl) (y : List Int) (d : Int) (w1 : World) (f : Nat) (t4 t5 : Value) (wr : World) : Prop :=
  ∃ (at_ : Nat) (acc : Int), t5 = .int .i64 at_ ∧ t4 = .int .i64 acc ∧ at_ < F.adj.length ∧ minM F y f at_ acc = some d ∧ Below w1.heap.size w1 wr

def PushRel (F : Fl) (y : List Int) (d : Int) (arcs' : List Arc) (w : World) (B g gb : Nat) (f : Nat) (t6 : Value) (wr : World) : Prop :=
  ∃ (at_ : Nat) (arcs : List Arc), t6 = .int .i64 at_ ∧ at_ < F.adj.length ∧ pushM F.src y d f at_ arcs = some arcs' ∧ FlowAt wr B g { F with arcs := arcs } ∧ FlOk { F with arcs := arcs } ∧
    wr.heap[gb]? = some (.cells (intCells y).toArray 3 (0, 0)) ∧ Below B w wr

set_option maxRecDepth 100000 in
set_option maxHeartbeats 8000000 in
theorem more_yes (w : World) (B g : Nat) (F : Fl) (h : FlowAt w B g F) (ok : FlOk F) (f : Nat) (y : List Int) (hr : bfsM F f (List.replicate F.adj.length (-1)) [F.src] = some y) (hy : ¬ y[F.outn]?.getD 0 < 0)
    (d : Int) (hd : minM F y f F.outn 60000 = some d) (arcs' : List Arc) (hp : pushM F.src y d f F.outn F.arcs = some arcs') (hoo : okI (F.o + d) = true) :
    Calls Tryd.prog 141 #[.pointer (some ⟨g, 0, none⟩)] w (MorePost w B g F (some { F with arcs := arcs', o := F.o + d })) := by
  have hlen := bfsM_len F f _ _ y hr
  rw [List.length_replicate] at hlen
  have R := reach_any w B g F h ok f y hr
  obtain ⟨va, ob, rows, h⟩ := h
  have ho := ok.outn
  obtain ⟨yo, hyo⟩ : ∃ x, y[F.outn]? = some x := ⟨y[F.outn]'(by omega), by simp [hlen, ho]⟩
  rw [hyo, Option.getD_some] at hy
  have d1 : decide (yo < 0) = false := by simp; omega
  have i0 : (0 : Int) ≤ (F.outn : Int) := by omega
  have i1 : (F.outn : Int) < (y.length : Int) := by omega
  have HH := Lib.hid h
  have OK := Lib.hid ok
  have HY := Lib.hid hyo
  have HD := Lib.hid hd
  have HP := Lib.hid hp
  clear h hyo hr ok hd hp
  go_enter Tryd.func141, Tryd.ntmps141
  go_upto_region 2 with (go_at_call 151; refine R.mono ?_; rintro e w1 ⟨gb, rfl, hgb, hge, hb1⟩)
  have HF := HH.out.keep (fun k hk => hb1.block k hk)
  have g2 := cell_of_row w1 g 2 _ _ _ HF.head
  have g3 := cell_of_row w1 g 3 _ _ _ HF.head
  have e0 := cell_of_row w1 gb F.outn _ _ _ hgb
  simp at g2 g3
  simp only [intCells, List.getElem?_toArray, List.getElem?_map, HY.out, Option.map_some] at e0
  have hb2 : Below B w w1 := hb1.mono (Nat.le_of_lt (Nat.lt_of_le_of_lt HH.out.hB (lt_of_block HH.out.head)))
  have HF' := Lib.hid HF
  clear R HF hb1
  go_wp2
  go_loopw [4, 5] (fun t4 t5 wr => ∃ f, MinRel F y d w1 f t4 t5 wr) (fun t4 t5 wr => least (fun f => MinRel F y d w1 f t4 t5 wr))
  case atStart => exact ⟨f, F.outn, 60000, rfl, rfl, ho, HD.out, Below.refl _ _⟩
  case round =>
    obtain ⟨⟨at_, acc, rfl, rfl, hat, hmm, hb⟩, hmin⟩ := least_spec hrel
    generalize hm : least (fun f => MinRel F y d w1 f (.int .i64 acc) (.int .i64 at_) wr) = m at *
    have HM := Lib.hid hm
    have HMM := Lib.hid hmm
    clear hm hmm hmin hrel
    have hgl := lt_of_block hgb
    have HFr := HF'.out.keep (fun k hk => hb.block k hk)
    have g2r := cell_of_row wr g 2 _ _ _ HFr.head
    simp at g2r
    by_cases hs : at_ = F.src
    · have hacc : acc = d := by have := HMM.out; unfold minM at this; rw [if_pos hs] at this; exact Option.some.inj this
      subst hacc
      have hs1 : decide ((at_ : Int) = (F.src : Int)) = true := by simp; omega
      have hbB : Below B w wr := hb2.trans (hb.mono (by have := hb2.size; have h1 := lt_of_block HH.out.head; have h2 := HH.out.hB; omega))
      have hgr := (hb.block gb hgl).trans hgb
      have HFr' := Lib.hid HFr
      have g3r := cell_of_row wr g 3 _ _ _ HFr.head
      simp at g3r
      subst hs
      clear HFr hb HMM hb2 g2 g3 e0 hgb hgl
      go_wp2
      go_loopw [6] (fun t6 wr => ∃ f, PushRel F y acc arcs' w B g gb f t6 wr) (fun t6 wr => least (fun f => PushRel F y acc arcs' w B g gb f t6 wr))
      case atStart => exact ⟨f, F.outn, F.arcs, rfl, ho, HP.out, ⟨_, ob, rows, HFr'.out⟩, OK.out, hgr, hbB⟩
      case round =>
        obtain ⟨⟨at_, arcs, rfl, hat2, hpp, ⟨va2, ob2, rows2, hfl⟩, ok2, hgr2, hbB2⟩, hmin2⟩ := least_spec hrel
        generalize hm2 : least (fun f => PushRel F y acc arcs' w B g gb f (.int .i64 at_) wr) = m2 at *
        have HM2 := Lib.hid hm2
        have HPP := Lib.hid hpp
        clear hm2 hpp hmin2 hrel HFr' hgr hbB g2r g3r HP HD
        have g2r := cell_of_row wr g 2 _ _ _ hfl.head
        simp at g2r
        by_cases hs : at_ = F.src
        · have harcs : arcs = arcs' := by have := HPP.out; unfold pushM at this; rw [if_pos hs] at this; exact Option.some.inj this
          subst harcs
          subst hs
          have g6r := cell_of_row wr g 6 _ _ _ hfl.head
          have f6r := frozen_of_row wr g 6 _ _ hfl.head
          simp at g6r
          obtain ⟨o1, o2⟩ := okI_spec hoo
          have hS := hfl.setO (F.o + acc)
          have HS := Lib.hid hS
          have HB3 := Lib.hid (hbB2.setCell (p := ⟨g, 6, none⟩) hfl.hB (.int .i64 (F.o + acc)))
          clear hS hfl hbB2 HPP
          go_wp2
          go_ret
          exact ⟨rfl, ⟨va2, ob2, rows2, HS.out⟩, HB3.out⟩
        · have hs1 : decide ((at_ : Int) = (F.src : Int)) = false := by simp; omega
          have hpp := HPP.out
          unfold pushM at hpp
          rw [if_neg hs] at hpp
          cases m2 with
          | zero => cases hpp
          | succ m2 =>
            simp only at hpp
            cases hby : byArc arcs y at_ with
            | none => rw [hby] at hpp; split at hpp <;> simp_all
            | some a =>
              obtain ⟨ix, hyx, hax⟩ := byArc_spec hby
              rw [hby, hyx] at hpp
              simp only [Int.toNat_natCast] at hpp
              cases hbk : (addLf arcs ix (-acc))[a.bk]? with
              | none => rw [hbk] at hpp; cases hpp
              | some bb =>
                rw [hbk] at hpp
                simp only at hpp
                split at hpp
                case isFalse => cases hpp
                case isTrue hok =>
                  simp only [Bool.and_eq_true] at hok
                  obtain ⟨⟨o1, o2⟩, o3, o4⟩ := And.intro (okI_spec hok.1) (okI_spec hok.2)
                  have hixl : ix < arcs.length := (List.getElem?_eq_some_iff.1 hax).1
                  have hbkl : a.bk < arcs.length := (ok2.arc ix a hax).2.2
                  have hafr : a.fr < F.adj.length := (ok2.arc ix a hax).1
                  have few := ok2.few'
                  simp only at few
                  obtain ⟨ab, cab, hae, _, _⟩ := hfl.arcs.form (by simp only; omega)
                  subst hae
                  have g0r := cell_of_row wr g 0 _ _ _ hfl.head
                  simp at g0r
                  have er := cell_of_row wr gb at_ _ _ _ hgr2
                  simp only [intCells, List.getElem?_toArray, List.getElem?_map, hyx, Option.map_some] at er
                  have a2 := (hfl.arcs.cellAt (ix * 4 + 2) (by simp only; omega)).trans (arcCells_at arcs _ a 2 hax (by omega))
                  simp only [arcVals, List.getElem?_cons_zero, List.getElem?_cons_succ] at a2
                  have j0 : (0 : Int) ≤ (at_ : Int) := by omega
                  have j1 : (at_ : Int) < (y.length : Int) := by omega
                  have j2 : (0 : Int) ≤ (ix : Int) := by omega
                  have j3 : (ix : Int) < (arcs.length : Int) := by omega
                  have HBK := Lib.hid hbk
                  have HAX := Lib.hid hax
                  have HPP2 := Lib.hid hpp
                  have HFL := Lib.hid hfl
                  have HYX := Lib.hid hyx
                  have OK2 := Lib.hid ok2
                  clear ok2 hbk hax hpp hfl hby hyx hok
                  go_wp2
                  have x0 := fun x : Xt wr => x.cell g0r
                  have x1 := fun x : Xt wr => x.cell er
                  refine wp_region_xt (by kernel_rfl) (by kernel_rfl) ?_
                  repeat (go_big_quiet_step (fail))
                  refine wpQuiet_nil ?_
                  intro w3 hx
                  have hb3 := Xt.below hx
                  clear hx x0 x1
                  have a2s := kept hb3 a2
                  have HF3 := HFL.out.keep (fun k hk => hb3.block k hk)
                  have hgr3 : w3.heap[gb]? = some (.cells (intCells y).toArray 3 (0, 0)) := (hb3.block gb (lt_of_block hgr2)).trans hgr2
                  have hbB3 : Below B w w3 := hbB2.trans (hb3.mono (by have h1 := lt_of_block HFL.out.head; have h2 := HFL.out.hB; omega))
                  have f2s := HF3.arcs.frozenAt (ix * 4 + 2)
                  have hF4 := FlowIn.setLf (F := { F with arcs := arcs }) (ab := ab) (i := ix) (ca := cab) HF3 (a.lf + -acc) hixl
                  simp only at hF4
                  rw [addLf_eq HAX.out (-acc) _ rfl] at hF4
                  have nab : gb ≠ ab := ownBlk_ne HF3.arcs rfl hgr3 (by decide)
                  have hgr4 : (w3.setCell ⟨ab, ix * 4 + 2, none⟩ (.int .i64 (a.lf + -acc))).heap[gb]? = some (.cells (intCells y).toArray 3 (0, 0)) := by
                    rw [heapq_set, if_neg nab]
                    exact hgr3
                  have hbB4 : Below B w (w3.setCell ⟨ab, ix * 4 + 2, none⟩ (.int .i64 (a.lf + -acc))) := hbB3.setCell (by exact (ownBlk HF3.arcs rfl).1) _
                  have HF4 := Lib.hid hF4
                  have HG4 := Lib.hid hgr4
                  have HB4 := Lib.hid hbB4
                  have esub : a.lf + -acc = a.lf - acc := by omega
                  clear hF4 hgr4 hbB4 hgr3 hbB3 HF3 a2 er g0r hb3
                  rw [esub] at HF4 HG4 HB4 o1 o2
                  go_upto_region 14 with (fail)
                  generalize w3.setCell ⟨ab, ix * 4 + 2, none⟩ (.int .i64 (a.lf - acc)) = w5 at *
                  have hF5 := HF4.out
                  have g0s := cell_of_row w5 g 0 _ _ _ hF5.head
                  simp at g0s
                  obtain ⟨a5, ha5, q1, q2, q3⟩ := addLf_get HAX.out ix (-acc)
                  have hA5 : w5.ownsRow B 215 4 (.slice (some ⟨ab, 0, none⟩) arcs.length cab) arcs.length (arcCells (addLf arcs ix (-acc))) := by
                    have h := hF5.arcs
                    simp only [addLf_len] at h
                    exact h
                  have a3s := (hA5.cellAt (ix * 4 + 3) (by omega)).trans (arcCells_at _ ix a5 3 ha5 (by omega))
                  have b2s := (hA5.cellAt (a.bk * 4 + 2) (by omega)).trans (arcCells_at _ a.bk bb 2 HBK.out (by omega))
                  simp only [arcVals, List.getElem?_cons_zero, List.getElem?_cons_succ, q3] at a3s b2s
                  have k0 : (0 : Int) ≤ (a.bk : Int) := by omega
                  have k1 : (a.bk : Int) < (arcs.length : Int) := by omega
                  have HQ1 := Lib.hid q1
                  have HA5 := Lib.hid ha5
                  have HF5 := Lib.hid hF5
                  clear q1 q2 q3 ha5 hF5
                  have x0 := fun x : Xt w5 => x.cell g0s
                  have x1 := fun x : Xt w5 => x.cell a3s
                  have x2 := fun x : Xt w5 => x.cell b2s
                  refine wp_region_cut [] [0, 1, 2, 3, 4, 5, 6, 7, 8, 9, 10, 11, 12, 13, 14] 15 [] (fun w' => ∃ x : Xt w5, w' = x.1) (by kernel_rfl) (by kernel_rfl) ⟨⟨w5.drew, (Below.refl _ _).drew⟩, rfl⟩ ?_
                  simp only [opsAt_nil, opsAt_cons, consOpt_some, List.getElem?_toArray, List.getElem?_cons_zero, List.getElem?_cons_succ]
                  refine wpQuiet_nil ?_
                  show wpQuiet _ _ _ _ _ _
                  repeat (go_big_quiet_step (fail))
                  refine wpQuiet_nil ?_
                  intro w6 hx
                  have hb6 := Xt.below hx
                  clear hx x0 x1 x2
                  have b2t := kept hb6 b2s
                  have HF6 := HF5.out.keep (fun k hk => hb6.block k hk)
                  have hA6 : w6.ownsRow B 215 4 (.slice (some ⟨ab, 0, none⟩) arcs.length cab) arcs.length (arcCells (addLf arcs ix (-acc))) := by
                    have h := HF6.arcs
                    simp only [addLf_len] at h
                    exact h
                  have f2t := hA6.frozenAt (a.bk * 4 + 2)
                  have hgr6 : w6.heap[gb]? = some (.cells (intCells y).toArray 3 (0, 0)) := (hb6.block gb (lt_of_block HG4.out)).trans HG4.out
                  have hbB6 : Below B w w6 := HB4.out.trans (hb6.mono (by have h1 := lt_of_block HF5.out.head; have h2 := HF5.out.hB; omega))
                  have nab6 : gb ≠ ab := ownBlk_ne hA6 rfl hgr6 (by decide)
                  have hgr7 : (w6.setCell ⟨ab, a.bk * 4 + 2, none⟩ (.int .i64 (bb.lf + acc))).heap[gb]? = some (.cells (intCells y).toArray 3 (0, 0)) := by
                    rw [heapq_set, if_neg nab6]
                    exact hgr6
                  have hbB7 : Below B w (w6.setCell ⟨ab, a.bk * 4 + 2, none⟩ (.int .i64 (bb.lf + acc))) := hbB6.setCell (by exact (ownBlk hA6 rfl).1) _
                  have hF7 := FlowIn.setLf' (F := { F with arcs := addLf arcs ix (-acc) }) (i := a.bk) HF6 (addLf_len _ _ _) HBK.out acc (bb.lf + acc) rfl
                  have HF7 := Lib.hid hF7
                  have HG7 := Lib.hid hgr7
                  have HB7 := Lib.hid hbB7
                  clear hF7 hgr7 hbB7 hgr6 hbB6 HF6 hA6 hA5 g0s a3s b2s hb6 HF4 HF5 HG4 HB4 nab6 nab
                  go_wp2
                  refine onlyNormal_mk ?_
                  go_upto_region 11 with (fail)
                  generalize w6.setCell ⟨ab, a.bk * 4 + 2, none⟩ (.int .i64 (bb.lf + acc)) = w7 at *
                  have hF7 := HF7.out
                  have g0u := cell_of_row w7 g 0 _ _ _ hF7.head
                  simp at g0u
                  have eru := cell_of_row w7 gb at_ _ _ _ HG7.out
                  simp only [intCells, List.getElem?_toArray, List.getElem?_map, HYX.out, Option.map_some] at eru
                  obtain ⟨a7, ha7, q1, q2, q3⟩ := addLf_get HA5.out a.bk acc
                  have hA7 : w7.ownsRow B 215 4 (.slice (some ⟨ab, 0, none⟩) arcs.length cab) arcs.length (arcCells (addLf (addLf arcs ix (-acc)) a.bk acc)) := by
                    have h := hF7.arcs
                    simp only [addLf_len] at h
                    exact h
                  have a0u := (hA7.cellAt (ix * 4 + 0) (by omega)).trans (arcCells_at _ ix a7 0 ha7 (by omega))
                  simp only [arcVals, List.getElem?_cons_zero, Nat.add_zero, q1, HQ1.out] at a0u
                  clear hF7 hA7 ha7 q1 q2 q3
                  have x0 := fun x : Xt w7 => x.cell g0u
                  have x1 := fun x : Xt w7 => x.cell eru
                  have x2 := fun x : Xt w7 => x.cell a0u
                  refine wp_region_xt (by kernel_rfl) (by kernel_rfl) ?_
                  repeat (go_big_quiet_step (fail))
                  refine wpQuiet_nil ?_
                  intro w8 hx
                  have hb8 := Xt.below hx
                  clear hx x0 x1 x2
                  have hR : PushRel F y acc arcs' w B g gb m2 (.int .i64 a.fr) w8 := by
                    refine ⟨a.fr, addLf (addLf arcs ix (-acc)) a.bk acc, rfl, hafr, HPP2.out, ⟨_, ob2, rows2, HF7.out.keep (fun k hk => hb8.block k hk)⟩, (OK2.out.addLf ix (-acc)).addLf a.bk acc, (hb8.block gb (lt_of_block HG7.out)).trans HG7.out, HB7.out.trans (hb8.mono ?_)⟩
                    have h1 := lt_of_block HF7.out.head
                    have h2 := HF7.out.hB
                    omega
                  have HR := Lib.hid hR
                  clear hR g0u eru a0u hb8
                  go_wp2
                  case roundEnd =>
                    refine ⟨⟨m2, HR.out⟩, ?_⟩
                    have h1 := (least_spec (p := fun f => PushRel F y acc arcs' w B g gb f (.int .i64 a.fr) w8) ⟨m2, HR.out⟩).2 m2 HR.out
                    rw [HM2.out]
                    omega
    · have hs1 : decide ((at_ : Int) = (F.src : Int)) = false := by simp; omega
      have hm2 := HMM.out
      unfold minM at hm2
      rw [if_neg hs] at hm2
      cases m with
      | zero => cases hm2
      | succ m =>
        simp only at hm2
        cases hby : byArc F.arcs y at_ with
        | none => rw [hby] at hm2; cases hm2
        | some a =>
          rw [hby] at hm2
          simp only at hm2
          obtain ⟨ix, hyx, hax⟩ := byArc_spec hby
          have hixl : ix < F.arcs.length := (List.getElem?_eq_some_iff.1 hax).1
          obtain ⟨ab, cab, hae, _, _⟩ := HFr.arcs.form (by omega)
          subst hae
          have g0r := cell_of_row wr g 0 _ _ _ HFr.head
          simp at g0r
          have er := cell_of_row wr gb at_ _ _ _ ((hb.block gb hgl).trans hgb)
          simp only [intCells, List.getElem?_toArray, List.getElem?_map, hyx, Option.map_some] at er
          have a0 := (HFr.arcs.cellAt (ix * 4 + 0) (by omega)).trans (arcCells_at F.arcs _ a 0 hax (by omega))
          have a2 := (HFr.arcs.cellAt (ix * 4 + 2) (by omega)).trans (arcCells_at F.arcs _ a 2 hax (by omega))
          simp only [arcVals, List.getElem?_cons_zero, List.getElem?_cons_succ, Nat.add_zero] at a0 a2
          have hafr : a.fr < F.adj.length := (OK.out.arc ix a hax).1
          have few := OK.out.few'
          have j0 : (0 : Int) ≤ (at_ : Int) := by omega
          have j1 : (at_ : Int) < (y.length : Int) := by omega
          have j2 : (0 : Int) ≤ (ix : Int) := by omega
          have j3 : (ix : Int) < (F.arcs.length : Int) := by omega
          have HM2 := Lib.hid hm2
          clear hm2 hby hyx hax HFr
          go_wp2
          have x0 := fun x : Xt wr => x.cell g0r
          have x1 := fun x : Xt wr => x.cell er
          have x2 := fun x : Xt wr => x.cell a0
          have x3 := fun x : Xt wr => x.cell a2
          refine wp_region_xt (by kernel_rfl) (by kernel_rfl) ?_
          repeat (go_big_quiet_step (fail))
          refine wpQuiet_nil ?_
          intro w3 hx
          have hb3 := Xt.below hx
          clear hx x0 x1 x2 x3
          have g0s := kept hb3 g0r
          have ers := kept hb3 er
          have a0s := kept hb3 a0
          have hbw : Below w1.heap.size w1 w3 := hb.trans (hb3.mono hb.size)
          clear g0r er a0 a2 g2r hb3
          go_wp2
          have x0 := fun x : Xt w3 => x.cell g0s
          have x1 := fun x : Xt w3 => x.cell ers
          have x2 := fun x : Xt w3 => x.cell a0s
          refine wp_region_xt (by kernel_rfl) (by kernel_rfl) ?_
          repeat (go_big_quiet_step (fail))
          refine wpQuiet_nil ?_
          intro w4 hx
          have hb4 := Xt.below hx
          clear hx x0 x1 x2
          have hbw4 : Below w1.heap.size w1 w4 := hbw.trans (hb4.mono hbw.size)
          clear g0s ers a0s hb4 hbw
          have hR : MinRel F y d w1 m (.int .i64 (min acc a.lf)) (.int .i64 a.fr) w4 := ⟨a.fr, _, rfl, rfl, hafr, HM2.out, hbw4⟩
          have HR := Lib.hid hR
          clear hR
          go_wp2
          case roundEnd =>
            refine ⟨⟨m, HR.out⟩, ?_⟩
            have h1 := (least_spec (p := fun f => MinRel F y d w1 f (.int .i64 (min acc a.lf)) (.int .i64 a.fr) w4) ⟨m, HR.out⟩).2 m HR.out
            rw [HM.out]
            omega
end Go.Proofs.YtmcjnfghlpnghaaDoor
