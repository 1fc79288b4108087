/- The eager walk of a drawing region: reads, picks, lengths too. The reference's RoomsErr, CutErr and Bound. CheckCut: the bound of a cut. The best cut of the flow's end; BestCut. CareCuts: the walk. Rooms copied in memory of their own; a way changed; right rooms have no error. CareNoMoreOut: the walk. -/
import Derived.Test.YtmcjnfghlpnghaaDoorR4
import Derived.Test.YtmcjnfghlpnghaaDoorM2
import Derived.Test.YtmcjnfghlpnghaaDoorM1
import Derived.Test.YtmcjnfghlpnghaaDoorC9
import Derived.Test.YtmcjnfghlpnghaaDoorM3
namespace Go.Proofs.YtmcjnfghlpnghaaDoor
open Go

section
variable {P : Program} {ops : Array Oper} {md : Region.Mode} {S : World → Prop} {ts : List Nat} {Q : Exit → Act → World → Prop}

def readKind3 (o : Oper) : Bool :=
  match o.op with
  | .call ⟨.builtin .len, _, _⟩ => true
  | _ => readKind2 o

theorem wpIf_of_quiet3 {K : Act → Prop} : ∀ (l : List Oper) (a : Act), l.all readKind3 = true → wpQuiet P ops S K l a → wpIf P ops S K l a
  | [], _, _, h => h
  | o :: rest, a, hk, h => by
    simp only [List.all_cons, Bool.and_eq_true] at hk
    by_cases hr : readKind2 o = true
    · have h1 : wpQuiet P ops S (fun a' => wpIf P ops S K rest a') [o] a := by
        unfold wpQuiet at h ⊢
        split
        · rename_i hw
          rw [if_pos hw] at h
          obtain ⟨v, h1, h2⟩ := h
          exact ⟨v, h1, by unfold wpQuiet; exact wpIf_of_quiet3 rest _ hk.2 h2⟩
        · rename_i hw
          rw [if_neg hw] at h
          unfold wpQuiet
          exact wpIf_of_quiet3 rest _ hk.2 h
      exact wpIf_of_quiet2 [o] a (by simp [hr]) h1
    · have hp : ∃ x y, o.op = .call ⟨.builtin .len, x, y⟩ := by
        have hk1 := hk.1
        unfold readKind3 at hk1
        split at hk1
        · rename_i x y hop
          exact ⟨x, y, hop⟩
        · exact absurd hk1 hr
      obtain ⟨x, y, hop⟩ := hp
      unfold wpQuiet at h
      by_cases hw : Region.wanted o (yielded ops a.tmps) = true
      · rw [if_pos hw] at h
        obtain ⟨v, h1, h2⟩ := h
        refine ⟨v, .inl ⟨hw, fun w hS => ?_⟩, wpIf_of_quiet3 rest _ hk.2 h2⟩
        have h3 := h1 w hS
        unfold Oper.quietAt at h3
        have hno : (∀ w', (execOp a.eval o).run P w ≠ .ok .skip w') ∧ ∀ f args w', (execOp a.eval o).run P w ≠ .ok (.enter f args) w' := by
          obtain ⟨dst, op, type, pos, after, guard⟩ := o
          obtain rfl : op = .call ⟨.builtin .len, x, y⟩ := hop
          have key : ∀ n w', (execOp a.eval ⟨dst, .call ⟨.builtin .len, x, y⟩, type, pos, after, guard⟩).run P w = .ok n w' → ∃ v, n = .value v := by
            intro n w' h
            simp only [execOp, resolve, invoke, builtin] at h
            simp only [Sem.run_bind, Sem.run_pure, Result.andThen] at h
            split at h
            · simp at h
              exact ⟨_, h.1.symm⟩
            · simp at h
          exact ⟨fun w' h => (by obtain ⟨v, hv⟩ := key _ _ h; cases hv), fun f args w' h => (by obtain ⟨v, hv⟩ := key _ _ h; cases hv)⟩
        generalize hr : (execOp a.eval o).run P w = r at h3 hno
        cases r with
        | ok n w' =>
          cases n <;> simp only [Oper.quietUpon] at h3
          case value u => obtain ⟨e1, e2⟩ := h3; rw [e1, e2]
          case skip => exact (hno.1 w' rfl).elim
          case enter f args => exact (hno.2 f args w' rfl).elim
        | halt x w' => simp only [Oper.quietUpon] at h3
      · rw [if_neg hw] at h
        exact ⟨undef, .inr ⟨by simpa using hw, rfl⟩, wpIf_of_quiet3 rest _ hk.2 h⟩

theorem wpE_reads3 {m : Nat} {listed : Array Bool} {a : Act} {w : World} (is : List Nat) (g : Nat) (hn : m = is.length + g)
    (hB : (Region.noSelect ops && hoistB md ops is listed && (ts.all fun t => waitsB md ops t is) && (opsAt ops is).all readKind3) = true)
    (h : wpQuiet P ops S (fun a' => wpE P md ops Q S ts g (listAll is listed) a' w) (opsAt ops is) a) : wpE P md ops Q S ts m listed a w := by
  intro inv hS
  simp only [Bool.and_eq_true] at hB
  obtain ⟨⟨⟨hsel, h1⟩, h2⟩, h4⟩ := hB
  rw [hn]
  refine wpAnyL_hoist hsel hS is _ a inv h1 (fun t ht i hi => ?_) (fun a' ha' => ha' (closed_listAll is _ inv h1) hS) (wpIf_of_quiet3 _ _ h4 h)
  have h6 := List.all_eq_true.1 h2 t (by simpa using ht)
  simp only [waitsB, List.all_eq_true] at h6 ⊢
  intro j hj
  have : j = i := by simpa using hj
  subst this
  exact h6 j hi
end
end Go.Proofs.YtmcjnfghlpnghaaDoor

namespace Go.Proofs.YtmcjnfghlpnghaaDoor
open Go.RowKit

theorem RoomsErr_any (w : World) (B : Nat) (Ap Aw : Option Addr) (np cp nw cw : Nat) (pp : List Int) (ws : List Ev) (hl : pp.length = np) (hlw : ws.length = nw) (hp : Rd w B Ap (intCells pp)) (hw : Rd w B Aw (evCells ws)) (hBw : B ≤ w.heap.size) :
    Calls Tryd.prog 56 #[.agg #[.slice Ap np cp, .slice Aw nw cw]] w (ErrVal w (roomsM pp ws).2) := by
  have hb0 : Below w.heap.size w (w.alloc (.cells #[.slice Ap np cp, .slice Aw nw cw] 42)) := (Below.refl _ _).alloc (Nat.le_refl _) _
  have k0 : (w.alloc (.cells #[.slice Ap np cp, .slice Aw nw cw] 42)).heap[w.heap.size]? = some (.cells #[.slice Ap np cp, .slice Aw nw cw] 42 (0, 0)) := by rw [heapq_alloc, if_pos rfl]
  have a0 : (w.alloc (.cells #[.slice Ap np cp, .slice Aw nw cw] 42)).cell? ⟨w.heap.size, 0, none⟩ = some (.slice Ap np cp) := (cell_of_row _ _ 0 _ _ _ k0).trans rfl
  have a1 : (w.alloc (.cells #[.slice Ap np cp, .slice Aw nw cw] 42)).cell? ⟨w.heap.size, 1, none⟩ = some (.slice Aw nw cw) := (cell_of_row _ _ 1 _ _ _ k0).trans rfl
  have hs1 : w.heap.size ≤ (w.alloc (.cells #[.slice Ap np cp, .slice Aw nw cw] 42)).heap.size := hb0.size
  have C := refRooms_any Ap Aw np cp nw cw (w.alloc (.cells #[.slice Ap np cp, .slice Aw nw cw] 42)) B pp ws hl hlw (hp.below (hb0.mono hBw)) (hw.below (hb0.mono hBw)) (Nat.le_trans hBw hs1)
  have HB := Lib.hid hb0
  clear hp hw hl hlw hb0 k0
  go_enter Tryd.func56, Tryd.ntmps56
  go_upto_region 1 with (fail)
  generalize (w.alloc (.cells #[.slice Ap np cp, .slice Aw nw cw] 42)) = w0 at *
  go_wp2_with (go_at_call 32; refine C.mono ?_; rintro e w' ⟨rfl, hb⟩)
  go_ret
  exact ⟨rfl, HB.out.trans (hb.mono hs1)⟩

/-- the error of a cut of right rooms -/
def cutE (np : Nat) (tm : List Int) (ticks : Int) : Int := if tm.length = np then (if tm.any (fun n => !withinB n 0 ticks) then 2 else 0) else 10

def CutRel (tm : List Int) (ticks : Int) (n : Nat) (b : Bool) (u7 : Value) : Prop := ∃ k : Nat, k ≤ n ∧ u7 = .int .i64 k ∧ (tm.drop k).any (fun n => !withinB n 0 ticks) = b

set_option maxHeartbeats 2000000 in
theorem CutErr_any (w : World) (B : Nat) (Ap Aw At : Option Addr) (np cp nw cw nt ct : Nat) (tm : List Int) (ticks : Int) (hl : tm.length = nt) (hn : nt ≤ 1000000000) (ht : Rd w B At (intCells tm)) (hBw : B ≤ w.heap.size) :
    Calls Tryd.prog 57 #[.agg #[.slice Ap np cp, .slice Aw nw cw], .slice At nt ct, .int .i64 ticks] w (ErrVal w (cutE np tm ticks)) := by
  have hb0 : Below w.heap.size w (w.alloc (.cells #[.slice Ap np cp, .slice Aw nw cw] 42)) := (Below.refl _ _).alloc (Nat.le_refl _) _
  have k0 : (w.alloc (.cells #[.slice Ap np cp, .slice Aw nw cw] 42)).heap[w.heap.size]? = some (.cells #[.slice Ap np cp, .slice Aw nw cw] 42 (0, 0)) := by rw [heapq_alloc, if_pos rfl]
  have a0 : (w.alloc (.cells #[.slice Ap np cp, .slice Aw nw cw] 42)).cell? ⟨w.heap.size, 0, none⟩ = some (.slice Ap np cp) := (cell_of_row _ _ 0 _ _ _ k0).trans rfl
  have ht0 := ht.below (hb0.mono hBw)
  have HB := Lib.hid hb0
  have HL := Lib.hid hl
  clear ht hb0 k0
  by_cases he : nt = np
  · have HV : Hid (cutE np tm ticks = if tm.any (fun n => !withinB n 0 ticks) then 2 else 0) := by
      rw [Hid, cutE, if_pos (hl.trans he)]
    subst he
    obtain ⟨b, hb⟩ : ∃ b, tm.any (fun n => !withinB n 0 ticks) = b := ⟨_, rfl⟩
    have HBB := Lib.hid hb
    clear hl hb
    go_enter Tryd.func57, Tryd.ntmps57
    go_upto_region 1 with (fail)
    generalize (w.alloc (.cells #[.slice Ap nt cp, .slice Aw nw cw] 42)) = w0 at *
    go_wp2
    go_loop [7] (fun u7 => CutRel tm ticks nt b u7) (fun u7 => nt - (intOf u7).toNat)
    case atStart => exact ⟨0, Nat.zero_le _, rfl, HBB.out⟩
    case round =>
      obtain ⟨k, hk, rfl, hany⟩ := hrel
      by_cases hlt : k < nt
      · have hkl : k < tm.length := by rw [HL.out]; exact hlt
        obtain ⟨bb, off, rfl, hbB, hc⟩ := ht0.at_ (k := k) (u := .int .i64 (tm[k]?.getD 0)) (intCells_at tm k hkl)
        rw [drop_at tm 0 k hkl, List.any_cons] at hany
        generalize tm[k]?.getD 0 = q at *
        cases hq : withinB q 0 ticks
        · rw [hq] at hany
          have HT : Hid (b = true) := by rw [Hid, ← hany]; rfl
          clear hany hkl
          go_wp2_with (go_at_call 49; refine (Within_val _ _ _ _ hq _).mono ?_; rintro e w' ⟨rfl, rfl⟩)
          go_ret
          exact ⟨by rw [HV.out, HBB.out, HT.out]; rfl, HB.out⟩
        · rw [hq] at hany
          have HT : Hid ((tm.drop (k + 1)).any (fun n => !withinB n 0 ticks) = b) := hany
          clear hany hkl
          go_wp2_with (go_at_call 49; refine (Within_val _ _ _ _ hq _).mono ?_; rintro e w' ⟨rfl, rfl⟩)
          go_round
          case rel => exact ⟨k + 1, by omega, by go_num, HT.out⟩
          case measure => simp [intOf]; omega
      · have hd : tm.drop k = [] := by rw [List.drop_eq_nil_iff]; rw [HL.out]; omega
        rw [hd] at hany
        have HT : Hid (b = false) := hany.symm
        clear hany hd
        go_wp2
        go_ret
        exact ⟨by rw [HV.out, HBB.out, HT.out]; rfl, HB.out⟩
  · have HV : Hid (cutE np tm ticks = 10) := by
      rw [Hid, cutE, if_neg (by rw [hl]; exact he)]
    have h1 : ((nt : Int) != (np : Int)) = true := bne_iff_ne.2 (by omega)
    clear hl
    go_enter Tryd.func57, Tryd.ntmps57
    go_upto_region 1 with (fail)
    generalize (w.alloc (.cells #[.slice Ap np cp, .slice Aw nw cw] 42)) = w0 at *
    go_wp2
    go_ret
    exact ⟨by rw [HV.out]; rfl, HB.out⟩

/-- a cut of right rooms -/
structure CutOk (np : Nat) (T : Nat) (tm : List Int) : Prop where
  len : tm.length = np
  all : ∀ x ∈ tm, 0 ≤ x ∧ x ≤ T

theorem cutE_zero {np T : Nat} {tm : List Int} (h : cutE np tm T = 0) : CutOk np T tm := by
  unfold cutE at h
  split at h
  · rename_i hl
    split at h
    · cases h
    · rename_i ha
      refine ⟨hl, fun x hx => ?_⟩
      have := List.any_eq_false.1 (Bool.eq_false_iff.2 ha) x hx
      simpa [withinB] using this
  · cases h

theorem tmAt_cell {w : World} {B : Nat} {A : Option Addr} {tm : List Int} (h : Rd w B A (intCells tm)) {k : Nat} (hk : k < tm.length) : ∃ b off, A = some ⟨b, off, none⟩ ∧ b < B ∧ w.cell? ⟨b, off + k, none⟩ = some (.int .i64 (tmAt tm k)) :=
  h.at_ (k := k) (u := .int .i64 (tm[k]?.getD 0)) (intCells_at tm k hk)

def BdPRel (pp tm : List Int) (n : Nat) (u7 u8 : Value) : Prop := ∃ (k : Nat) (acc : Int), k ≤ n ∧ u8 = .int .i64 k ∧ u7 = .int .i64 acc ∧ acc + bdPeople tm k (pp.drop k) = bdPeople tm 0 pp ∧ 0 ≤ acc ∧ acc ≤ 10000 * (k : Int)
def BdTRel (w0 : World) (tm : List Int) (ws : List Ev) (T : Nat) (tot : Int) (u7 u9 : Value) (wr : World) : Prop := ∃ (t : Nat) (acc : Int), t ≤ T ∧ u9 = .int .i64 t ∧ u7 = .int .i64 acc ∧ acc + bdTicks tm ws t (T - t) = tot ∧ 0 ≤ acc ∧ acc ≤ 60000 + 160000 * (t : Int) ∧ Below w0.heap.size w0 wr
def BdWRel (w0 : World) (tm : List Int) (ws : List Ev) (nw t : Nat) (tot : Int) (u7 u10 : Value) (wr : World) : Prop := ∃ (j : Nat) (acc : Int), j ≤ nw ∧ u10 = .int .i64 j ∧ u7 = .int .i64 acc ∧ acc + bdTick tm t (ws.drop j) = tot ∧ 0 ≤ acc ∧ acc ≤ 60000 + 160000 * (t : Int) + 10000 * (j : Int) ∧ Below w0.heap.size w0 wr

theorem drop_cons {α : Type} {l : List α} {k : Nat} {a : α} (h : l[k]? = some a) : l.drop k = a :: l.drop (k + 1) := by
  obtain ⟨hk, rfl⟩ := List.getElem?_eq_some_iff.1 h
  exact List.drop_eq_getElem_cons hk

set_option maxRecDepth 100000 in
set_option maxHeartbeats 8000000 in
theorem Bound_any (w : World) (B : Nat) (Ap Aw At : Option Addr) (np cp nw cw nt ct : Nat) (pp : List Int) (ws : List Ev) (tm : List Int) (T : Nat) (hl : pp.length = np) (hlw : ws.length = nw) (hlt_ : tm.length = nt) (hp : Rd w B Ap (intCells pp)) (hw : Rd w B Aw (evCells ws)) (ht : Rd w B At (intCells tm)) (hBw : B ≤ w.heap.size)
    (ok : RoomsOk pp ws) (hT : T ≤ 20) (cut : CutOk np T tm) :
    Calls Tryd.prog 58 #[.agg #[.slice Ap np cp, .slice Aw nw cw], .slice At nt ct, .int .i64 T] w (ErrVal w (boundM pp ws tm T)) := by
  have hb0 : Below w.heap.size w (w.alloc (.cells #[.slice Ap np cp, .slice Aw nw cw] 42)) := (Below.refl _ _).alloc (Nat.le_refl _) _
  have k0 : (w.alloc (.cells #[.slice Ap np cp, .slice Aw nw cw] 42)).heap[w.heap.size]? = some (.cells #[.slice Ap np cp, .slice Aw nw cw] 42 (0, 0)) := by rw [heapq_alloc, if_pos rfl]
  have a0 : (w.alloc (.cells #[.slice Ap np cp, .slice Aw nw cw] 42)).cell? ⟨w.heap.size, 0, none⟩ = some (.slice Ap np cp) := (cell_of_row _ _ 0 _ _ _ k0).trans rfl
  have a1 : (w.alloc (.cells #[.slice Ap np cp, .slice Aw nw cw] 42)).cell? ⟨w.heap.size, 1, none⟩ = some (.slice Aw nw cw) := (cell_of_row _ _ 1 _ _ _ k0).trans rfl
  have hs1 : w.heap.size ≤ (w.alloc (.cells #[.slice Ap np cp, .slice Aw nw cw] 42)).heap.size := hb0.size
  have hB0 := Nat.le_trans hBw hs1
  have hp0 := hp.below (hb0.mono hBw)
  have hw0 := hw.below (hb0.mono hBw)
  have ht0 := ht.below (hb0.mono hBw)
  obtain rfl : nt = np := hlt_.symm.trans cut.len
  have r2 : nt ≤ 6 := by rw [← hl]; exact ok.few
  have r3 : nw ≤ 16 := by rw [← hlw]; exact ok.fewW
  have HB := Lib.hid hb0
  have HL := Lib.hid hl
  have HLW := Lib.hid hlw
  have HLT := Lib.hid hlt_
  have OK := Lib.hid ok
  clear hl hlw hlt_ hp hw ht hb0 k0 ok cut
  go_enter Tryd.func58, Tryd.ntmps58
  go_upto_region 1 with (fail)
  generalize (w.alloc (.cells #[.slice Ap nt cp, .slice Aw nw cw] 42)) = w0 at *
  go_wp2
  go_loop [7, 8] (fun u7 u8 => BdPRel pp tm nt u7 u8) (fun _ u8 => nt - (intOf u8).toNat)
  case atStart => exact ⟨0, 0, Nat.zero_le _, rfl, rfl, by simp, by omega, by omega⟩
  case round =>
    obtain ⟨k, acc, hk, rfl, rfl, hacc, g0, g1⟩ := hrel
    by_cases hlt : k < nt
    · have hkp : k < pp.length := by rw [HL.out]; exact hlt
      obtain ⟨bt, offt, rfl, hbt, d0⟩ := tmAt_cell ht0 (k := k) (by rw [HLT.out]; exact hlt)
      obtain ⟨bp, offp, rfl, hbp, d1⟩ := hp0.at_ (k := k) (u := .int .i64 (pp[k]?.getD 0)) (intCells_at pp k hkp)
      have hq := OK.out.people (pp[k]?.getD 0) (by rw [List.getElem?_eq_getElem hkp, Option.getD_some]; exact List.getElem_mem hkp)
      rw [drop_at pp 0 k hkp, bdPeople] at hacc
      generalize pp[k]?.getD 0 = q at *
      generalize tmAt tm k = tk at *
      obtain ⟨q0, q1⟩ := hq
      by_cases h0 : 0 < tk
      · rw [if_pos h0] at hacc
        have HA : Hid (acc + q + bdPeople tm (k + 1) (pp.drop (k + 1)) = bdPeople tm 0 pp) := by rw [Hid]; omega
        clear hacc hkp
        go_wp2
        go_round
        case rel => exact ⟨k + 1, acc + q, by omega, by go_num, rfl, HA.out, by omega, by omega⟩
        case measure => simp [intOf]; omega
      · rw [if_neg h0] at hacc
        have HA : Hid (acc + bdPeople tm (k + 1) (pp.drop (k + 1)) = bdPeople tm 0 pp) := by rw [Hid]; omega
        clear hacc hkp
        go_wp2
        go_round
        case rel => exact ⟨k + 1, acc, by omega, by go_num, rfl, HA.out, by omega, by omega⟩
        case measure => simp [intOf]; omega
    · obtain rfl : k = nt := by omega
      have hd : pp.drop k = [] := by rw [List.drop_eq_nil_iff]; rw [HL.out]; exact Nat.le_refl _
      rw [hd] at hacc
      simp only [bdPeople, Int.add_zero] at hacc
      have HA : Hid (acc + bdTicks tm ws 0 (T - 0) = boundM pp ws tm T) := by rw [Hid, hacc]; rfl
      clear hacc hd hp0
      go_wp2
      go_loopw [7, 9] (fun u7 u9 wr => BdTRel w0 tm ws T (boundM pp ws tm T) u7 u9 wr) (fun _ u9 _ => T - (intOf u9).toNat)
      case atStart => exact ⟨0, acc, Nat.zero_le _, rfl, rfl, HA.out, by omega, by omega, Below.refl _ _⟩
      case round =>
        clear HA
        obtain ⟨t, acc, ht, rfl, rfl, hacc, g0, g1, hb⟩ := hrel
        have HBT := Lib.hid hb
        by_cases htT : t < T
        · obtain ⟨d, hd⟩ : ∃ d, T - t = d + 1 := ⟨T - t - 1, by omega⟩
          have hd2 : T - (t + 1) = d := by omega
          rw [hd, bdTicks] at hacc
          have HT : Hid (∀ a : Int, a = acc + bdTick tm t ws → a + bdTicks tm ws (t + 1) (T - (t + 1)) = boundM pp ws tm T) := fun a ha => by rw [hd2]; omega
          have a1' := kept hb a1
          have hsz := hb.size
          clear hacc hb hd hd2
          go_wp2
          go_loopw [7, 10] (fun u7 u10 wr => BdWRel w0 tm ws nw t (acc + bdTick tm t ws) u7 u10 wr) (fun _ u10 _ => nw - (intOf u10).toNat)
          case atStart => exact ⟨0, acc, Nat.zero_le _, rfl, rfl, by simp, by omega, by omega, HBT.out⟩
          case round =>
            clear a1' hsz HBT
            obtain ⟨j, ac, hj, rfl, rfl, hac, g2, g3, hb⟩ := hrel
            have a1' := kept hb a1
            have hsz := hb.size
            have HBW := Lib.hid hb
            have htr := ht0.below (hb.mono hB0)
            have hwr := hw0.below (hb.mono hB0)
            clear hb
            by_cases hjn : j < nw
            · have hjl : j < ws.length := by rw [HLW.out]; exact hjn
              obtain ⟨ev, hev⟩ : ∃ ev, ws[j]? = some ev := ⟨_, List.getElem?_eq_getElem hjl⟩
              obtain ⟨z0, z1, z2⟩ := evCells_at ws j ev hev
              obtain ⟨bb, off, rfl, hbB, e0, e1, e2⟩ := hwr.at3 z0 z1 z2
              have hwy := OK.out.ways ev (List.mem_of_getElem? hev)
              rw [drop_cons hev, bdTick] at hac
              obtain ⟨f, td, m⟩ := ev
              simp only at e0 e1 e2 hwy
              obtain ⟨w1, w2, w3, w4, w5, w6⟩ := hwy
              rw [HL.out] at w2 w3
              obtain ⟨fn, rfl⟩ := Int.eq_ofNat_of_zero_le w1
              have hfn : fn < k := by omega
              have hba : Below wr.heap.size wr (wr.alloc (.cells #[.int .i64 (fn : Int), .int .i64 td, .int .i64 m] 92)) := (Below.refl _ _).alloc (Nat.le_refl _) _
              have HBK := Lib.hid (HBW.out.trans (hba.mono hsz))
              have kb : (wr.alloc (.cells #[.int .i64 (fn : Int), .int .i64 td, .int .i64 m] 92)).heap[wr.heap.size]? = some (.cells #[.int .i64 (fn : Int), .int .i64 td, .int .i64 m] 92 (0, 0)) := by rw [heapq_alloc, if_pos rfl]
              obtain ⟨m0, m1, m2⟩ := cells3w kb
              obtain ⟨bt, offt, hAt, hbt, d0⟩ := tmAt_cell (htr.below (hba.mono (Nat.le_trans hB0 hsz))) (k := fn) (by rw [HLT.out]; exact hfn)
              subst hAt
              have dto : ∀ tn : Nat, td = (tn : Int) → tn < k → (wr.alloc (.cells #[.int .i64 (fn : Int), .int .i64 td, .int .i64 m] 92)).cell? ⟨bt, offt + tn, none⟩ = some (.int .i64 (tmAt tm tn)) := fun tn _ htn => by
                obtain ⟨b', o', hA', _, dd⟩ := tmAt_cell (htr.below (hba.mono (Nat.le_trans hB0 hsz))) (k := tn) (by rw [HLT.out]; exact htn)
                simp only [Option.some.injEq, Addr.mk.injEq, and_true] at hA'
                obtain ⟨rfl, rfl⟩ := hA'
                exact dd
              clear hba kb z0 z1 z2 hev hjl hwr htr HBW
              go_upto_region 14 with (fail)
              generalize wr.alloc (.cells #[.int .i64 (fn : Int), .int .i64 td, .int .i64 m] 92) = wa at *
              generalize wr.heap.size = zb at *
              have hcb : crossB tm ((fn : Int), td, m) t = (decide (tmAt tm fn ≤ (t : Int)) && (td == -1 || decide ((t : Int) + 1 < tmAt tm td.toNat))) := rfl
              have w7 : ac + m ≤ 60000 + 160000 * (t : Int) + 10000 * ((j : Int) + 1) := by omega
              have w8 : (fn : Int) + 1 ≤ 1000 := by omega
              by_cases c1 : tmAt tm fn ≤ (t : Int)
              · rcases w3 with rfl | ⟨w3a, w3b⟩
                · have hc : crossB tm ((fn : Int), -1, m) t = true := by rw [hcb]; simp [c1]
                  rw [if_pos hc] at hac
                  dsimp only at hac
                  have HA : Hid (ac + m + bdTick tm t (ws.drop (j + 1)) = acc + bdTick tm t ws) := by rw [Hid]; omega
                  clear hac hc hcb dto
                  generalize tmAt tm fn = tf at *
                  go_wp2
                  go_roundw
                  case rel => exact ⟨j + 1, ac + m, by omega, by go_num, rfl, HA.out, by omega, by omega, HBK.out⟩
                  case measure => simp [intOf]; omega
                · obtain ⟨tn, rfl⟩ := Int.eq_ofNat_of_zero_le w3a
                  have d1 := dto tn rfl (by omega)
                  have e3 : ((tn : Int) == -1) = false := beq_eq_false_iff_ne.2 (by omega)
                  rw [e3, Int.toNat_natCast, Bool.false_or] at hcb
                  clear dto
                  by_cases c2 : (t : Int) + 1 < tmAt tm tn
                  · have hc : crossB tm ((fn : Int), (tn : Int), m) t = true := by rw [hcb]; simp [c1, c2]
                    rw [if_pos hc] at hac
                    dsimp only at hac
                    have HA : Hid (ac + m + bdTick tm t (ws.drop (j + 1)) = acc + bdTick tm t ws) := by rw [Hid]; omega
                    clear hac hc hcb
                    generalize tmAt tm fn = tf at *
                    generalize tmAt tm tn = tt at *
                    go_wp2
                    go_roundw
                    case rel => exact ⟨j + 1, ac + m, by omega, by go_num, rfl, HA.out, by omega, by omega, HBK.out⟩
                    case measure => simp [intOf]; omega
                  · have hc : crossB tm ((fn : Int), (tn : Int), m) t = false := by rw [hcb]; simp [c2]
                    rw [if_neg (by rw [hc]; decide)] at hac
                    have HA : Hid (ac + bdTick tm t (ws.drop (j + 1)) = acc + bdTick tm t ws) := by rw [Hid]; omega
                    clear hac hc hcb
                    generalize tmAt tm fn = tf at *
                    generalize tmAt tm tn = tt at *
                    go_wp2
                    go_roundw
                    case rel => exact ⟨j + 1, ac, by omega, by go_num, rfl, HA.out, by omega, by omega, HBK.out⟩
                    case measure => simp [intOf]; omega
              · have hc : crossB tm ((fn : Int), td, m) t = false := by rw [hcb]; simp [c1]
                rw [if_neg (by rw [hc]; decide)] at hac
                have HA : Hid (ac + bdTick tm t (ws.drop (j + 1)) = acc + bdTick tm t ws) := by rw [Hid]; omega
                clear hac hc hcb dto
                generalize tmAt tm fn = tf at *
                go_wp2
                go_roundw
                case rel => exact ⟨j + 1, ac, by omega, by go_num, rfl, HA.out, by omega, by omega, HBK.out⟩
                case measure => simp [intOf]; omega
            · obtain rfl : j = nw := by omega
              have hd : ws.drop j = [] := by rw [List.drop_eq_nil_iff]; rw [HLW.out]; exact Nat.le_refl _
              rw [hd] at hac
              simp only [bdTick, Int.add_zero] at hac
              have HA := Lib.hid (HT.out ac hac)
              clear hac hd
              go_wp2
              go_roundw
              case rel => exact ⟨t + 1, ac, by omega, by go_num, rfl, HA.out, by omega, by omega, HBW.out⟩
              case measure => simp [intOf]; omega
        · obtain rfl : t = T := by omega
          rw [Nat.sub_self] at hacc
          simp only [bdTicks, Int.add_zero] at hacc
          have HA := Lib.hid hacc
          clear hacc hb
          go_wp2
          go_ret
          exact ⟨by rw [← HA.out]; rfl, HB.out.trans (HBT.out.mono hs1)⟩
end Go.Proofs.YtmcjnfghlpnghaaDoor

namespace Go.Proofs.YtmcjnfghlpnghaaDoor
open Go.RowKit

def notTimeB (ticks n : Int) : Bool := !withinB n 0 ticks

theorem isTime_val (n ticks : Int) (x : Nat) (b : Bool) (hb : withinB n 0 ticks = b) (w : World) (hc : w.cell? ⟨x, 0, none⟩ = some (.int .i64 ticks)) :
    Calls Tryd.prog 115 #[.int .i64 n, .pointer (some ⟨x, 0, none⟩)] w fun e w' => e = .returned (.bool b) ∧ w = w' := by
  go_enter Tryd.func115, Tryd.ntmps115
  go_wp2_with (go_at_call 99; refine (within_val _ _ _ _ hb _).mono ?_; rintro e w' ⟨rfl, rfl⟩)
  go_ret
  exact ⟨rfl, rfl⟩

theorem notTime_val (n ticks : Int) (x y : Nat) (b : Bool) (hb : notTimeB ticks n = b) (w : World) (hc : w.cell? ⟨x, 0, none⟩ = some (.int .i64 ticks)) (hd : w.cell? ⟨y, 0, none⟩ = some (.func (.func 115) #[] #[.pointer (some ⟨x, 0, none⟩)])) :
    Calls Tryd.prog 117 #[.int .i64 n, .pointer (some ⟨y, 0, none⟩)] w fun e w' => e = .returned (.bool b) ∧ w = w' := by
  obtain ⟨c, h1⟩ : ∃ c, withinB n 0 ticks = c := ⟨_, rfl⟩
  have HV : Hid (b = !c) := by rw [Hid, ← hb, ← h1]; rfl
  have C := isTime_val n ticks x c h1 w hc
  clear hb h1
  go_enter Tryd.func117, Tryd.ntmps117
  go_wp2_with (go_at_call 115; refine C.mono ?_; rintro e w' ⟨rfl, rfl⟩)
  go_ret
  exact ⟨by rw [HV.out]; rfl, rfl⟩

theorem IndexFunc_117 (A : Option Addr) (n c B : Nat) (l : List Int) (ticks : Int) (x y : Nat) (w : World) (hn : n ≤ 1000000000) (hl : l.length = n) (h : Rd w B A (intCells l)) (hc : w.cell? ⟨x, 0, none⟩ = some (.int .i64 ticks)) (hd : w.cell? ⟨y, 0, none⟩ = some (.func (.func 115) #[] #[.pointer (some ⟨x, 0, none⟩)])) :
    Calls Tryd.prog 95 #[.slice A n c, .func (.func 117) #[] #[.pointer (some ⟨y, 0, none⟩)]] w fun e w' => e = .returned (.int .i64 (idxGo (notTimeB ticks) l 0)) ∧ w = w' := by
  have HL := Lib.hid hl; clear hl
  have C := fun n b hb => notTime_val n ticks x y b hb w hc hd
  clear hc hd
  go_enter Tryd.func95, Tryd.ntmps95
  go_wp2
  go_loop [5, 8] (fun _ i => ∃ k : Nat, k ≤ n ∧ i = .int .i64 k ∧ idxGo (notTimeB ticks) (l.drop k) k = idxGo (notTimeB ticks) l 0) (fun _ i => n - (intOf i).toNat)
  case atStart => exact ⟨0, Nat.zero_le _, rfl, rfl⟩
  case round =>
    obtain ⟨k, hk, rfl, he⟩ := hrel
    have HE := Lib.hid he; clear he
    by_cases hlt : k < n
    · have hkl : k < l.length := by rw [HL.out]; exact hlt
      obtain ⟨b, off, rfl, _, hc⟩ := h.at_ (intCells_at l k hkl)
      have HS := Lib.hid (drop_at l 0 k hkl)
      clear hkl
      cases hz : notTimeB ticks (l[k]?.getD 0)
      · have C' := C _ _ hz
        have HZ := Lib.hid hz
        clear hz
        go_wp2_with (go_at_call 117; refine C'.mono ?_; rintro e w' ⟨rfl, rfl⟩)
        go_round
        case rel => exact ⟨k + 1, by omega, by go_num, by rw [← HE.out, HS.out, idxGo]; simp [HZ.out]⟩
        case measure => simp [intOf]; omega
      · have C' := C _ _ hz
        have HZ := Lib.hid hz
        clear hz
        go_wp2_with (go_at_call 117; refine C'.mono ?_; rintro e w' ⟨rfl, rfl⟩)
        go_ret
        exact ⟨by rw [← HE.out, HS.out, idxGo, HZ.out]; rfl, rfl⟩
    · go_wp2
      go_ret
      have : l.drop k = [] := by rw [List.drop_eq_nil_iff]; rw [HL.out]; omega
      exact ⟨by rw [← HE.out, this]; rfl, rfl⟩

theorem ContainsFunc_117 (A : Option Addr) (n c B : Nat) (l : List Int) (ticks : Int) (x y : Nat) (w : World) (hn : n ≤ 1000000000) (hl : l.length = n) (h : Rd w B A (intCells l)) (hc : w.cell? ⟨x, 0, none⟩ = some (.int .i64 ticks)) (hd : w.cell? ⟨y, 0, none⟩ = some (.func (.func 115) #[] #[.pointer (some ⟨x, 0, none⟩)])) :
    Calls Tryd.prog 116 #[.slice A n c, .func (.func 117) #[] #[.pointer (some ⟨y, 0, none⟩)]] w fun e w' => e = .returned (.bool (l.any (notTimeB ticks))) ∧ w = w' := by
  have C := IndexFunc_117 A n c B l ticks x y w hn hl h hc hd
  clear h hc hd
  go_enter Tryd.func116, Tryd.ntmps116
  go_wp2_with (go_at_call 95; refine C.mono ?_; rintro e w1 ⟨rfl, rfl⟩)
  go_ret
  exact ⟨by rw [← idxGo_nonneg _ l 0]; rfl, rfl⟩

/-- the error of rooms, ticks and a cut -/
def err4 (pp : List Int) (ws : List Ev) (np nt : Nat) (tm : List Int) (ticks : Int) : Int := firstE [(roomsM pp ws).2, ticksE ticks, unlessE ((nt : Int) == (np : Int)) 10, unlessE (!tm.any (notTimeB ticks)) 2]

set_option maxRecDepth 100000 in
set_option maxHeartbeats 8000000 in
theorem CheckCut_no (w : World) (B : Nat) (Ap Aw At : Option Addr) (np cp nw cw nt ct : Nat) (pp : List Int) (ws : List Ev) (tm : List Int) (ticks : Int) (hl : pp.length = np) (hlw : ws.length = nw) (hlt : tm.length = nt) (hn : nt ≤ 1000000000) (hp : Rd w B Ap (intCells pp)) (hw : Rd w B Aw (evCells ws)) (ht : Rd w B At (intCells tm)) (hBw : B ≤ w.heap.size)
    (h0 : err4 pp ws np nt tm ticks ≠ 0) :
    Calls Tryd.prog 53 #[.agg #[.slice Ap np cp, .slice Aw nw cw], .slice At nt ct, .int .i64 ticks] w (LeastPost w 0 (err4 pp ws np nt tm ticks)) := by
  have hb0 : Below w.heap.size w ((w.alloc (.cells #[.slice Ap np cp, .slice Aw nw cw] 42)).alloc (.cells #[.int .i64 ticks] 3)) := ((Below.refl _ _).alloc (Nat.le_refl _) _).alloc (by simp) _
  have k0 : ((w.alloc (.cells #[.slice Ap np cp, .slice Aw nw cw] 42)).alloc (.cells #[.int .i64 ticks] 3)).heap[w.heap.size]? = some (.cells #[.slice Ap np cp, .slice Aw nw cw] 42 (0, 0)) := by rw [heapq_alloc, if_neg (by simp), heapq_alloc, if_pos rfl]
  have k1 : ((w.alloc (.cells #[.slice Ap np cp, .slice Aw nw cw] 42)).alloc (.cells #[.int .i64 ticks] 3)).heap[w.heap.size + 1]? = some (.cells #[.int .i64 ticks] 3 (0, 0)) := by rw [heapq_alloc, if_pos (by simp)]
  have a0 : ((w.alloc (.cells #[.slice Ap np cp, .slice Aw nw cw] 42)).alloc (.cells #[.int .i64 ticks] 3)).cell? ⟨w.heap.size, 0, none⟩ = some (.slice Ap np cp) := (cell_of_row _ _ 0 _ _ _ k0).trans rfl
  have a1 : ((w.alloc (.cells #[.slice Ap np cp, .slice Aw nw cw] 42)).alloc (.cells #[.int .i64 ticks] 3)).cell? ⟨w.heap.size, 1, none⟩ = some (.slice Aw nw cw) := (cell_of_row _ _ 1 _ _ _ k0).trans rfl
  have a2 : ((w.alloc (.cells #[.slice Ap np cp, .slice Aw nw cw] 42)).alloc (.cells #[.int .i64 ticks] 3)).cell? ⟨w.heap.size + 1, 0, none⟩ = some (.int .i64 ticks) := (cell_of_row _ _ 0 _ _ _ k1).trans rfl
  have hs : w.heap.size ≤ ((w.alloc (.cells #[.slice Ap np cp, .slice Aw nw cw] 42)).alloc (.cells #[.int .i64 ticks] 3)).heap.size := hb0.size
  have hB0 := Nat.le_trans hBw hs
  have hp0 := hp.below (hb0.mono hBw)
  have hw0 := hw.below (hb0.mono hBw)
  have ht0 := ht.below (hb0.mono hBw)
  have HB := Lib.hid hb0
  have HL := Lib.hid hl
  have HLW := Lib.hid hlw
  have HLT := Lib.hid hlt
  obtain ⟨b, hb⟩ : ∃ b, tm.any (notTimeB ticks) = b := ⟨_, rfl⟩
  have HBB := Lib.hid hb
  have HV : Hid (err4 pp ws np nt tm ticks = firstE [(roomsM pp ws).2, unlessE (withinB ticks 0 20) 2, unlessE ((nt : Int) == (np : Int)) 10, unlessE (!b) 2]) := by
    rw [Hid, err4, hb]
    rfl
  have hne : (firstE [(roomsM pp ws).2, unlessE (withinB ticks 0 20) 2, unlessE ((nt : Int) == (np : Int)) 10, unlessE (!b) 2] != 0) = true := by
    rw [← HV.out]
    exact bne_iff_ne.2 h0
  clear hl hlw hlt hp hw ht hb0 k0 k1 h0 hb
  go_enter Tryd.func53, Tryd.ntmps53
  go_upto_region 1 with (fail)
  generalize ((w.alloc (.cells #[.slice Ap np cp, .slice Aw nw cw] 42)).alloc (.cells #[.int .i64 ticks] 3)) = w0 at *
  go_upto_region 2 with (fail)
  have hb1 : Below w0.heap.size w0 (w0.alloc (.cells #[.func (.func 115) #[] #[.pointer (some ⟨w.heap.size + 1, 0, none⟩)]] 44)) := (Below.refl _ _).alloc (Nat.le_refl _) _
  have k0 : (w0.alloc (.cells #[.func (.func 115) #[] #[.pointer (some ⟨w.heap.size + 1, 0, none⟩)]] 44)).heap[w0.heap.size]? = some (.cells #[.func (.func 115) #[] #[.pointer (some ⟨w.heap.size + 1, 0, none⟩)]] 44 (0, 0)) := by rw [heapq_alloc, if_pos rfl]
  have d0 : (w0.alloc (.cells #[.func (.func 115) #[] #[.pointer (some ⟨w.heap.size + 1, 0, none⟩)]] 44)).cell? ⟨w0.heap.size, 0, none⟩ = some (.func (.func 115) #[] #[.pointer (some ⟨w.heap.size + 1, 0, none⟩)]) := (cell_of_row _ _ 0 _ _ _ k0).trans rfl
  replace a0 := kept hb1 a0
  replace a1 := kept hb1 a1
  replace a2 := kept hb1 a2
  replace hp0 := hp0.below (hb1.mono hB0)
  replace hw0 := hw0.below (hb1.mono hB0)
  replace ht0 := ht0.below (hb1.mono hB0)
  replace HB := Lib.hid (HB.out.trans (hb1.mono hs))
  replace hs := Nat.le_trans hs hb1.size
  replace hB0 := Nat.le_trans hB0 hb1.size
  clear hb1 k0
  generalize w0.alloc (.cells #[.func (.func 115) #[] #[.pointer (some ⟨w.heap.size + 1, 0, none⟩)]] 44) = w1 at *
  generalize w0.heap.size = y at *
  have C := ContainsFunc_117 At nt ct B tm ticks (w.heap.size + 1) y w1 hn HLT.out ht0 a2 d0
  rw [HBB.out] at C
  go_upto_region 3 with (go_at_call 116; refine C.mono ?_; rintro e w' ⟨rfl, rfl⟩)
  clear C d0
  have x0 := fun x : Xt w1 => x.cell a0
  have x1 := fun x : Xt w1 => x.cell a1
  have x2 := fun x : Xt w1 => x.cell a2
  refine wp_region_eager [13, 14, 15, 16] (fun w' => ∃ x : Xt w1, w' = x.1) (by kernel_rfl) ⟨⟨w1.drew, (Below.refl _ _).drew⟩, rfl⟩ ?_
  refine wpE_reads3 [0, 2, 4, 5, 6, 7, 8, 9, 11, 12] 7 rfl (by kernel_rfl) ?_
  simp only [opsAt_nil, opsAt_cons, consOpt_some, List.getElem?_toArray, List.getElem?_cons_zero, List.getElem?_cons_succ]
  repeat (go_big_quiet_step (fail))
  refine wpQuiet_nil ?_
  have hbd : Below w1.heap.size w1 w1.drew := (Below.refl _ _).drew
  show wpE _ _ _ _ _ _ _ _ _ w1.drew
  generalize w1.drew = wd at *
  clear x0 x1 x2
  have R := roomsErr_any Ap Aw np cp nw cw wd B pp ws HL.out HLW.out (hp0.below (hbd.mono hB0)) (hw0.below (hbd.mono hB0)) (Nat.le_trans hB0 hbd.size)
  unfold ErrVal at R
  have Tk := fun W : World => ticksErr_any ticks W
  have U := fun (c : Bool) (k : Int) (W : World) => unless_any c k W
  refine wpE_one (i := 1) rfl (by kernel_rfl) rfl ?_
  unfold wpMid
  simp only [opsAt_nil, opsAt_cons, consOpt_some, List.getElem?_toArray, List.getElem?_cons_zero, List.getElem?_cons_succ]
  go_wp2_with (go_at_call 100; refine R.mono ?_; rintro e w2 ⟨rfl, hb2⟩)
  have hb02 := hbd.trans (hb2.mono hbd.size)
  refine onlyNormal_mk ⟨⟨⟨_, hb02⟩, rfl⟩, ?_⟩
  refine wpE_one (i := 3) rfl (by kernel_rfl) rfl ?_
  unfold wpMid
  simp only [opsAt_nil, opsAt_cons, consOpt_some, List.getElem?_toArray, List.getElem?_cons_zero, List.getElem?_cons_succ]
  go_wp2_with (go_at_call 101; refine (Tk _).mono ?_; rintro e w' ⟨rfl, rfl⟩)
  refine onlyNormal_mk ⟨⟨⟨_, hb02⟩, rfl⟩, ?_⟩
  refine wpE_one (i := 10) rfl (by kernel_rfl) rfl ?_
  unfold wpMid
  simp only [opsAt_nil, opsAt_cons, consOpt_some, List.getElem?_toArray, List.getElem?_cons_zero, List.getElem?_cons_succ]
  go_wp2_with (go_at_call 92; refine (U _ _ _).mono ?_; rintro e w' ⟨rfl, rfl⟩)
  refine onlyNormal_mk ⟨⟨⟨_, hb02⟩, rfl⟩, ?_⟩
  refine wpE_tail rfl (by kernel_rfl) ?_
  simp only [opsAt_nil, opsAt_cons, consOpt_some, List.getElem?_toArray, List.getElem?_cons_zero, List.getElem?_cons_succ]
  have F4 := first4 w2 (roomsM pp ws).2 (unlessE (withinB ticks 0 20) 2) (unlessE ((nt : Int) == (np : Int)) 10) (unlessE (!b) 2)
  go_wp2_with (first | (go_at_call 92; refine (U _ _ _).mono ?_; rintro e w' ⟨rfl, rfl⟩) | (go_at_call 91; refine F4.mono ?_; rintro e w' ⟨rfl, rfl⟩))
  refine onlyNormal_mk ?_
  have hbX := hb02.alloc hb02.size (.cells #[.int .i64 (roomsM pp ws).2, .int .i64 (unlessE (withinB ticks 0 20) 2), .int .i64 (unlessE ((nt : Int) == (np : Int)) 10), .int .i64 (unlessE (!b) 2)] 29)
  replace a0 := kept hbX a0
  replace a1 := kept hbX a1
  replace a2 := kept hbX a2
  replace hp0 := hp0.below (hbX.mono hB0)
  replace hw0 := hw0.below (hbX.mono hB0)
  replace ht0 := ht0.below (hbX.mono hB0)
  replace HB := Lib.hid (HB.out.trans (hbX.mono hs))
  replace hs := Nat.le_trans hs hbX.size
  replace hB0 := Nat.le_trans hB0 hbX.size
  clear hbX hb02 hb2 hbd R Tk U F4
  generalize w2.alloc (.cells #[.int .i64 (roomsM pp ws).2, .int .i64 (unlessE (withinB ticks 0 20) 2), .int .i64 (unlessE ((nt : Int) == (np : Int)) 10), .int .i64 (unlessE (!b) 2)] 29) = w3 at *
  go_wp2
  go_ret2
  exact ⟨by rw [HV.out]; rfl, HB.out⟩

theorem err4_zero {pp : List Int} {ws : List Ev} {np nt : Nat} {tm : List Int} {ticks : Int} (hlt : tm.length = nt) (h : err4 pp ws np nt tm ticks = 0) : RoomsOk pp ws ∧ ∃ T : Nat, ticks = T ∧ T ≤ 20 ∧ CutOk np T tm := by
  unfold err4 at h
  simp only [firstE_cons, firstE_nil, and_true] at h
  obtain ⟨h1, h2, h3, h4⟩ := h
  unfold ticksE at h2
  rw [unlessE_zero (by omega)] at h2 h3 h4
  simp only [withinB, Bool.and_eq_true, decide_eq_true_eq] at h2
  obtain ⟨T, rfl⟩ := Int.eq_ofNat_of_zero_le h2.1
  refine ⟨roomsOk_of h1, T, rfl, by omega, ?_, fun x hx => ?_⟩
  · have := beq_iff_eq.1 h3
    omega
  · have h5 : tm.any (notTimeB (T : Int)) = false := by simpa using h4
    have := List.any_eq_false.1 h5 x hx
    simpa [notTimeB, withinB] using this

def BdSRel (w0 : World) (tm : List Int) (ws : List Ev) (T nw : Nat) (tot : Int) (u11 u60 : Value) (wr : World) : Prop := ∃ (j : Nat) (acc : Int), j ≤ nw ∧ u60 = .int .i64 j ∧ u11 = .int .i64 acc ∧ acc + bdWays tm T (ws.drop j) = tot ∧ 0 ≤ acc ∧ acc ≤ 60000 + 200000 * (j : Int) ∧ Below w0.heap.size w0 wr
def BdVRel (tm : List Int) (x : Ev) (T j : Nat) (tot : Int) (u11 u65 : Value) : Prop := ∃ (t : Nat) (acc : Int), t ≤ T ∧ u65 = .int .i64 t ∧ u11 = .int .i64 acc ∧ acc + bdWay tm x t (T - t) = tot ∧ 0 ≤ acc ∧ acc ≤ 60000 + 200000 * (j : Int) + 10000 * (t : Int)

set_option maxRecDepth 100000 in
set_option maxHeartbeats 8000000 in
theorem CheckCut_yes (w : World) (B : Nat) (Ap Aw At : Option Addr) (np cp nw cw nt ct : Nat) (pp : List Int) (ws : List Ev) (tm : List Int) (ticks : Int) (hl : pp.length = np) (hlw : ws.length = nw) (hlt : tm.length = nt) (hn : nt ≤ 1000000000) (hp : Rd w B Ap (intCells pp)) (hw : Rd w B Aw (evCells ws)) (ht : Rd w B At (intCells tm)) (hBw : B ≤ w.heap.size)
    (h0 : err4 pp ws np nt tm ticks = 0) :
    Calls Tryd.prog 53 #[.agg #[.slice Ap np cp, .slice Aw nw cw], .slice At nt ct, .int .i64 ticks] w fun e w' => ∃ T : Nat, ticks = T ∧ LeastPost w (boundM pp ws tm T) 0 e w' := by
  obtain ⟨ok, T, rfl, hT, cut⟩ := err4_zero hlt h0
  suffices hsuf : Calls Tryd.prog 53 #[.agg #[.slice Ap np cp, .slice Aw nw cw], .slice At nt ct, .int .i64 T] w (LeastPost w (boundM pp ws tm T) 0) from hsuf.mono fun e w' h => ⟨T, rfl, h⟩
  obtain rfl : nt = np := hlt.symm.trans cut.len
  have r2 : nt ≤ 6 := by rw [← hl]; exact ok.few
  have r3 : nw ≤ 16 := by rw [← hlw]; exact ok.fewW
  have OK := Lib.hid ok
  clear ok cut
  have hb0 : Below w.heap.size w ((w.alloc (.cells #[.slice Ap nt cp, .slice Aw nw cw] 42)).alloc (.cells #[.int .i64 (T : Int)] 3)) := ((Below.refl _ _).alloc (Nat.le_refl _) _).alloc (by simp) _
  have k0 : ((w.alloc (.cells #[.slice Ap nt cp, .slice Aw nw cw] 42)).alloc (.cells #[.int .i64 (T : Int)] 3)).heap[w.heap.size]? = some (.cells #[.slice Ap nt cp, .slice Aw nw cw] 42 (0, 0)) := by rw [heapq_alloc, if_neg (by simp), heapq_alloc, if_pos rfl]
  have k1 : ((w.alloc (.cells #[.slice Ap nt cp, .slice Aw nw cw] 42)).alloc (.cells #[.int .i64 (T : Int)] 3)).heap[w.heap.size + 1]? = some (.cells #[.int .i64 (T : Int)] 3 (0, 0)) := by rw [heapq_alloc, if_pos (by simp)]
  have a0 : ((w.alloc (.cells #[.slice Ap nt cp, .slice Aw nw cw] 42)).alloc (.cells #[.int .i64 (T : Int)] 3)).cell? ⟨w.heap.size, 0, none⟩ = some (.slice Ap nt cp) := (cell_of_row _ _ 0 _ _ _ k0).trans rfl
  have a1 : ((w.alloc (.cells #[.slice Ap nt cp, .slice Aw nw cw] 42)).alloc (.cells #[.int .i64 (T : Int)] 3)).cell? ⟨w.heap.size, 1, none⟩ = some (.slice Aw nw cw) := (cell_of_row _ _ 1 _ _ _ k0).trans rfl
  have a2 : ((w.alloc (.cells #[.slice Ap nt cp, .slice Aw nw cw] 42)).alloc (.cells #[.int .i64 (T : Int)] 3)).cell? ⟨w.heap.size + 1, 0, none⟩ = some (.int .i64 (T : Int)) := (cell_of_row _ _ 0 _ _ _ k1).trans rfl
  have hs : w.heap.size ≤ ((w.alloc (.cells #[.slice Ap nt cp, .slice Aw nw cw] 42)).alloc (.cells #[.int .i64 (T : Int)] 3)).heap.size := hb0.size
  have hB0 := Nat.le_trans hBw hs
  have hp0 := hp.below (hb0.mono hBw)
  have hw0 := hw.below (hb0.mono hBw)
  have ht0 := ht.below (hb0.mono hBw)
  have HB := Lib.hid hb0
  have HL := Lib.hid hl
  have HLW := Lib.hid hlw
  have HLT := Lib.hid hlt
  obtain ⟨b, hb⟩ : ∃ b, tm.any (notTimeB (T : Int)) = b := ⟨_, rfl⟩
  have HBB := Lib.hid hb
  have HV : Hid (err4 pp ws nt nt tm (T : Int) = firstE [(roomsM pp ws).2, unlessE (withinB (T : Int) 0 20) 2, unlessE true 10, unlessE (!b) 2]) := by
    rw [Hid, err4, hb, beq_self_eq_true]
    rfl
  have hne : (firstE [(roomsM pp ws).2, unlessE (withinB (T : Int) 0 20) 2, unlessE true 10, unlessE (!b) 2] != 0) = false := by
    rw [← HV.out]
    exact by rw [h0]; rfl
  clear hl hlw hlt hp hw ht hb0 k0 k1 h0 hb
  go_enter Tryd.func53, Tryd.ntmps53
  go_upto_region 1 with (fail)
  generalize ((w.alloc (.cells #[.slice Ap nt cp, .slice Aw nw cw] 42)).alloc (.cells #[.int .i64 (T : Int)] 3)) = w0 at *
  go_upto_region 2 with (fail)
  have hb1 : Below w0.heap.size w0 (w0.alloc (.cells #[.func (.func 115) #[] #[.pointer (some ⟨w.heap.size + 1, 0, none⟩)]] 44)) := (Below.refl _ _).alloc (Nat.le_refl _) _
  have k0 : (w0.alloc (.cells #[.func (.func 115) #[] #[.pointer (some ⟨w.heap.size + 1, 0, none⟩)]] 44)).heap[w0.heap.size]? = some (.cells #[.func (.func 115) #[] #[.pointer (some ⟨w.heap.size + 1, 0, none⟩)]] 44 (0, 0)) := by rw [heapq_alloc, if_pos rfl]
  have d0 : (w0.alloc (.cells #[.func (.func 115) #[] #[.pointer (some ⟨w.heap.size + 1, 0, none⟩)]] 44)).cell? ⟨w0.heap.size, 0, none⟩ = some (.func (.func 115) #[] #[.pointer (some ⟨w.heap.size + 1, 0, none⟩)]) := (cell_of_row _ _ 0 _ _ _ k0).trans rfl
  replace a0 := kept hb1 a0
  replace a1 := kept hb1 a1
  replace a2 := kept hb1 a2
  replace hp0 := hp0.below (hb1.mono hB0)
  replace hw0 := hw0.below (hb1.mono hB0)
  replace ht0 := ht0.below (hb1.mono hB0)
  replace HB := Lib.hid (HB.out.trans (hb1.mono hs))
  replace hs := Nat.le_trans hs hb1.size
  replace hB0 := Nat.le_trans hB0 hb1.size
  clear hb1 k0
  generalize w0.alloc (.cells #[.func (.func 115) #[] #[.pointer (some ⟨w.heap.size + 1, 0, none⟩)]] 44) = w1 at *
  generalize w0.heap.size = y at *
  have C := ContainsFunc_117 At nt ct B tm (T : Int) (w.heap.size + 1) y w1 hn HLT.out ht0 a2 d0
  rw [HBB.out] at C
  go_upto_region 3 with (go_at_call 116; refine C.mono ?_; rintro e w' ⟨rfl, rfl⟩)
  clear C d0
  have x0 := fun x : Xt w1 => x.cell a0
  have x1 := fun x : Xt w1 => x.cell a1
  have x2 := fun x : Xt w1 => x.cell a2
  refine wp_region_eager [13, 14, 15, 16] (fun w' => ∃ x : Xt w1, w' = x.1) (by kernel_rfl) ⟨⟨w1.drew, (Below.refl _ _).drew⟩, rfl⟩ ?_
  refine wpE_reads3 [0, 2, 4, 5, 6, 7, 8, 9, 11, 12] 7 rfl (by kernel_rfl) ?_
  simp only [opsAt_nil, opsAt_cons, consOpt_some, List.getElem?_toArray, List.getElem?_cons_zero, List.getElem?_cons_succ]
  repeat (go_big_quiet_step (fail))
  refine wpQuiet_nil ?_
  have hbd : Below w1.heap.size w1 w1.drew := (Below.refl _ _).drew
  show wpE _ _ _ _ _ _ _ _ _ w1.drew
  generalize w1.drew = wd at *
  clear x0 x1 x2
  have R := roomsErr_any Ap Aw nt cp nw cw wd B pp ws HL.out HLW.out (hp0.below (hbd.mono hB0)) (hw0.below (hbd.mono hB0)) (Nat.le_trans hB0 hbd.size)
  unfold ErrVal at R
  have Tk := fun W : World => ticksErr_any (T : Int) W
  have U := fun (c : Bool) (k : Int) (W : World) => unless_any c k W
  refine wpE_one (i := 1) rfl (by kernel_rfl) rfl ?_
  unfold wpMid
  simp only [opsAt_nil, opsAt_cons, consOpt_some, List.getElem?_toArray, List.getElem?_cons_zero, List.getElem?_cons_succ]
  go_wp2_with (go_at_call 100; refine R.mono ?_; rintro e w2 ⟨rfl, hb2⟩)
  have hb02 := hbd.trans (hb2.mono hbd.size)
  refine onlyNormal_mk ⟨⟨⟨_, hb02⟩, rfl⟩, ?_⟩
  refine wpE_one (i := 3) rfl (by kernel_rfl) rfl ?_
  unfold wpMid
  simp only [opsAt_nil, opsAt_cons, consOpt_some, List.getElem?_toArray, List.getElem?_cons_zero, List.getElem?_cons_succ]
  go_wp2_with (go_at_call 101; refine (Tk _).mono ?_; rintro e w' ⟨rfl, rfl⟩)
  refine onlyNormal_mk ⟨⟨⟨_, hb02⟩, rfl⟩, ?_⟩
  refine wpE_one (i := 10) rfl (by kernel_rfl) rfl ?_
  unfold wpMid
  simp only [opsAt_nil, opsAt_cons, consOpt_some, List.getElem?_toArray, List.getElem?_cons_zero, List.getElem?_cons_succ]
  go_wp2_with (go_at_call 92; refine (U _ _ _).mono ?_; rintro e w' ⟨rfl, rfl⟩)
  refine onlyNormal_mk ⟨⟨⟨_, hb02⟩, rfl⟩, ?_⟩
  refine wpE_tail rfl (by kernel_rfl) ?_
  simp only [opsAt_nil, opsAt_cons, consOpt_some, List.getElem?_toArray, List.getElem?_cons_zero, List.getElem?_cons_succ]
  have F4 := first4 w2 (roomsM pp ws).2 (unlessE (withinB (T : Int) 0 20) 2) (unlessE true 10) (unlessE (!b) 2)
  go_wp2_with (first | (go_at_call 92; refine (U _ _ _).mono ?_; rintro e w' ⟨rfl, rfl⟩) | (go_at_call 91; refine F4.mono ?_; rintro e w' ⟨rfl, rfl⟩))
  refine onlyNormal_mk ?_
  have hbX := hb02.alloc hb02.size (.cells #[.int .i64 (roomsM pp ws).2, .int .i64 (unlessE (withinB (T : Int) 0 20) 2), .int .i64 (unlessE true 10), .int .i64 (unlessE (!b) 2)] 29)
  replace a0 := kept hbX a0
  replace a1 := kept hbX a1
  replace a2 := kept hbX a2
  replace hp0 := hp0.below (hbX.mono hB0)
  replace hw0 := hw0.below (hbX.mono hB0)
  replace ht0 := ht0.below (hbX.mono hB0)
  replace HB := Lib.hid (HB.out.trans (hbX.mono hs))
  replace hs := Nat.le_trans hs hbX.size
  replace hB0 := Nat.le_trans hB0 hbX.size
  clear hbX hb02 hb2 hbd R Tk U F4
  generalize w2.alloc (.cells #[.int .i64 (roomsM pp ws).2, .int .i64 (unlessE (withinB (T : Int) 0 20) 2), .int .i64 (unlessE true 10), .int .i64 (unlessE (!b) 2)] 29) = w3 at *
  go_wp2
  go_loop [11, 43] (fun u11 u43 => BdPRel pp tm nt u11 u43) (fun _ u43 => nt - (intOf u43).toNat)
  case atStart => exact ⟨0, 0, Nat.zero_le _, rfl, rfl, by simp, by omega, by omega⟩
  case round =>
    obtain ⟨k, acc, hk, rfl, rfl, hacc, g0, g1⟩ := hrel
    by_cases hlt : k < nt
    · have hkp : k < pp.length := by rw [HL.out]; exact hlt
      obtain ⟨bt, offt, rfl, hbt, d0⟩ := tmAt_cell ht0 (k := k) (by rw [HLT.out]; exact hlt)
      obtain ⟨bp, offp, rfl, hbp, d1⟩ := hp0.at_ (k := k) (u := .int .i64 (pp[k]?.getD 0)) (intCells_at pp k hkp)
      have hq := OK.out.people (pp[k]?.getD 0) (by rw [List.getElem?_eq_getElem hkp, Option.getD_some]; exact List.getElem_mem hkp)
      rw [drop_at pp 0 k hkp, bdPeople] at hacc
      generalize pp[k]?.getD 0 = q at *
      generalize tmAt tm k = tk at *
      obtain ⟨q0, q1⟩ := hq
      by_cases h0 : 0 < tk
      · rw [if_pos h0] at hacc
        have HA : Hid (acc + q + bdPeople tm (k + 1) (pp.drop (k + 1)) = bdPeople tm 0 pp) := by rw [Hid]; omega
        clear hacc hkp
        go_wp2
        go_round
        case rel => exact ⟨k + 1, acc + q, by omega, by go_num, rfl, HA.out, by omega, by omega⟩
        case measure => simp [intOf]; omega
      · rw [if_neg h0] at hacc
        have HA : Hid (acc + bdPeople tm (k + 1) (pp.drop (k + 1)) = bdPeople tm 0 pp) := by rw [Hid]; omega
        clear hacc hkp
        go_wp2
        go_round
        case rel => exact ⟨k + 1, acc, by omega, by go_num, rfl, HA.out, by omega, by omega⟩
        case measure => simp [intOf]; omega
    · obtain rfl : k = nt := by omega
      have hd : pp.drop k = [] := by rw [List.drop_eq_nil_iff]; rw [HL.out]; exact Nat.le_refl _
      rw [hd] at hacc
      simp only [bdPeople, Int.add_zero] at hacc
      have HA : Hid (acc + bdWays tm T (ws.drop 0) = boundM pp ws tm T) := by rw [Hid, hacc, List.drop_zero, bdWays_eq]; rfl
      clear hacc hd hp0
      go_wp2
      go_loopw [11, 60] (fun u11 u60 wr => BdSRel w3 tm ws T nw (boundM pp ws tm T) u11 u60 wr) (fun _ u60 _ => nw - (intOf u60).toNat)
      case atStart => exact ⟨0, acc, Nat.zero_le _, rfl, rfl, HA.out, by omega, by omega, Below.refl _ _⟩
      case round =>
        clear HA
        obtain ⟨j, acc, hj, rfl, rfl, hacc, g0, g1, hb⟩ := hrel
        have HBS := Lib.hid hb
        have a2' := kept hb a2
        have hsz := hb.size
        have htr := ht0.below (hb.mono hB0)
        have hwr := hw0.below (hb.mono hB0)
        clear hb
        by_cases hjn : j < nw
        · have hjl : j < ws.length := by rw [HLW.out]; exact hjn
          obtain ⟨ev, hev⟩ : ∃ ev, ws[j]? = some ev := ⟨_, List.getElem?_eq_getElem hjl⟩
          obtain ⟨z0, z1, z2⟩ := evCells_at ws j ev hev
          obtain ⟨bb, off, rfl, hbB, e0, e1, e2⟩ := hwr.at3 z0 z1 z2
          have hwy := OK.out.ways ev (List.mem_of_getElem? hev)
          rw [drop_cons hev, bdWays] at hacc
          obtain ⟨f, td, m⟩ := ev
          simp only at e0 e1 e2 hwy
          obtain ⟨w1, w2, w3, w4, w5, w6⟩ := hwy
          rw [HL.out] at w2 w3
          obtain ⟨fn, rfl⟩ := Int.eq_ofNat_of_zero_le w1
          have hfn : fn < k := by omega
          have hba : Below wr.heap.size wr (wr.alloc (.cells #[.int .i64 (fn : Int), .int .i64 td, .int .i64 m] 92)) := (Below.refl _ _).alloc (Nat.le_refl _) _
          have HBK := Lib.hid (HBS.out.trans (hba.mono hsz))
          have kb : (wr.alloc (.cells #[.int .i64 (fn : Int), .int .i64 td, .int .i64 m] 92)).heap[wr.heap.size]? = some (.cells #[.int .i64 (fn : Int), .int .i64 td, .int .i64 m] 92 (0, 0)) := by rw [heapq_alloc, if_pos rfl]
          obtain ⟨m0, m1, m2⟩ := cells3w kb
          obtain ⟨bt, offt, hAt, hbt, d0⟩ := tmAt_cell (htr.below (hba.mono (Nat.le_trans hB0 hsz))) (k := fn) (by rw [HLT.out]; exact hfn)
          subst hAt
          have dto : ∀ tn : Nat, td = (tn : Int) → tn < k → (wr.alloc (.cells #[.int .i64 (fn : Int), .int .i64 td, .int .i64 m] 92)).cell? ⟨bt, offt + tn, none⟩ = some (.int .i64 (tmAt tm tn)) := fun tn _ htn => by
            obtain ⟨b', o', hA', _, dd⟩ := tmAt_cell (htr.below (hba.mono (Nat.le_trans hB0 hsz))) (k := tn) (by rw [HLT.out]; exact htn)
            simp only [Option.some.injEq, Addr.mk.injEq, and_true] at hA'
            obtain ⟨rfl, rfl⟩ := hA'
            exact dd
          replace a2' := kept hba a2'
          have HX : Hid (∀ a : Int, a = acc + bdWay tm ((fn : Int), td, m) 0 T → a + bdWays tm T (ws.drop (j + 1)) = boundM pp ws tm T) := fun a ha => by omega
          clear hba kb z0 z1 z2 hev hjl hwr htr HBS hacc
          go_upto_region 16 with (fail)
          generalize wr.alloc (.cells #[.int .i64 (fn : Int), .int .i64 td, .int .i64 m] 92) = wa at *
          generalize wr.heap.size = zb at *
          go_wp2
          go_loop [11, 65] (fun u11 u65 => BdVRel tm ((fn : Int), td, m) T j (acc + bdWay tm ((fn : Int), td, m) 0 T) u11 u65) (fun _ u65 => T - (intOf u65).toNat)
          case atStart => exact ⟨0, acc, Nat.zero_le _, rfl, rfl, by simp, by omega, by omega⟩
          case round =>
            obtain ⟨t, ac, ht, rfl, rfl, hac, g2, g3⟩ := hrel
            by_cases htT : t < T
            · obtain ⟨d, hd⟩ : ∃ d, T - t = d + 1 := ⟨T - t - 1, by omega⟩
              have hd2 : T - (t + 1) = d := by omega
              rw [hd, bdWay, ← hd2] at hac
              clear hd hd2
              have hcb : crossB tm ((fn : Int), td, m) t = (decide (tmAt tm fn ≤ (t : Int)) && (td == -1 || decide ((t : Int) + 1 < tmAt tm td.toNat))) := rfl
              have w7 : ac + m ≤ 60000 + 200000 * (j : Int) + 10000 * ((t : Int) + 1) := by omega
              by_cases c1 : tmAt tm fn ≤ (t : Int)
              · rcases w3 with rfl | ⟨w3a, w3b⟩
                · have hc : crossB tm ((fn : Int), -1, m) t = true := by rw [hcb]; simp [c1]
                  rw [if_pos hc] at hac
                  dsimp only at hac
                  have HA : Hid (ac + m + bdWay tm ((fn : Int), -1, m) (t + 1) (T - (t + 1)) = acc + bdWay tm ((fn : Int), -1, m) 0 T) := by rw [Hid]; omega
                  clear hac hc hcb dto
                  generalize tmAt tm fn = tf at *
                  go_wp2
                  go_round
                  case rel => exact ⟨t + 1, ac + m, by omega, by go_num, rfl, HA.out, by omega, by omega⟩
                  case measure => simp [intOf]; omega
                · obtain ⟨tn, rfl⟩ := Int.eq_ofNat_of_zero_le w3a
                  have d1 := dto tn rfl (by omega)
                  have e3 : ((tn : Int) == -1) = false := beq_eq_false_iff_ne.2 (by omega)
                  rw [e3, Int.toNat_natCast, Bool.false_or] at hcb
                  clear dto
                  by_cases c2 : (t : Int) + 1 < tmAt tm tn
                  · have hc : crossB tm ((fn : Int), (tn : Int), m) t = true := by rw [hcb]; simp [c1, c2]
                    rw [if_pos hc] at hac
                    dsimp only at hac
                    have HA : Hid (ac + m + bdWay tm ((fn : Int), (tn : Int), m) (t + 1) (T - (t + 1)) = acc + bdWay tm ((fn : Int), (tn : Int), m) 0 T) := by rw [Hid]; omega
                    clear hac hc hcb
                    generalize tmAt tm fn = tf at *
                    generalize tmAt tm tn = tt at *
                    go_wp2
                    go_round
                    case rel => exact ⟨t + 1, ac + m, by omega, by go_num, rfl, HA.out, by omega, by omega⟩
                    case measure => simp [intOf]; omega
                  · have hc : crossB tm ((fn : Int), (tn : Int), m) t = false := by rw [hcb]; simp [c2]
                    rw [if_neg (by rw [hc]; decide)] at hac
                    have HA : Hid (ac + bdWay tm ((fn : Int), (tn : Int), m) (t + 1) (T - (t + 1)) = acc + bdWay tm ((fn : Int), (tn : Int), m) 0 T) := by rw [Hid]; omega
                    clear hac hc hcb
                    generalize tmAt tm fn = tf at *
                    generalize tmAt tm tn = tt at *
                    go_wp2
                    go_round
                    case rel => exact ⟨t + 1, ac, by omega, by go_num, rfl, HA.out, by omega, by omega⟩
                    case measure => simp [intOf]; omega
              · have hc : crossB tm ((fn : Int), td, m) t = false := by rw [hcb]; simp [c1]
                rw [if_neg (by rw [hc]; decide)] at hac
                have HA : Hid (ac + bdWay tm ((fn : Int), td, m) (t + 1) (T - (t + 1)) = acc + bdWay tm ((fn : Int), td, m) 0 T) := by rw [Hid]; omega
                clear hac hc hcb dto
                generalize tmAt tm fn = tf at *
                go_wp2
                go_round
                case rel => exact ⟨t + 1, ac, by omega, by go_num, rfl, HA.out, by omega, by omega⟩
                case measure => simp [intOf]; omega
            · obtain rfl : t = T := by omega
              rw [Nat.sub_self] at hac
              simp only [bdWay, Int.add_zero] at hac
              have HA := Lib.hid (HX.out ac hac)
              clear hac
              go_wp2
              go_roundw
              case rel => exact ⟨j + 1, ac, by omega, by go_num, rfl, HA.out, by omega, by omega, HBK.out⟩
              case measure => simp [intOf]; omega
        · obtain rfl : j = nw := by omega
          have hd : ws.drop j = [] := by rw [List.drop_eq_nil_iff]; rw [HLW.out]; exact Nat.le_refl _
          rw [hd] at hacc
          simp only [bdWays, Int.add_zero] at hacc
          have HA := Lib.hid hacc
          clear hacc hd
          go_wp2
          go_ret2
          exact ⟨by rw [← HA.out]; rfl, HB.out.trans (HBS.out.mono hs)⟩
end Go.Proofs.YtmcjnfghlpnghaaDoor

namespace Go.Proofs.YtmcjnfghlpnghaaDoor
open Go.RowKit

theorem FlowAt.cells2 {w : World} {B g : Nat} {F : Fl} (h : FlowAt w B g F) : w.cell? ⟨g, 4, none⟩ = some (.int .i64 F.rooms) ∧ w.cell? ⟨g, 5, none⟩ = some (.int .i64 F.ticks) := by
  obtain ⟨va, ob, rows, h⟩ := h
  refine ⟨?_, ?_⟩ <;> rw [cell_of_row _ _ _ _ _ _ h.head] <;> rfl

theorem Rd_of_own' {w : World} {B e size n c : Nat} {A : Option Addr} {xs : List Value} (h : w.ownsRow B e size (.slice A n c) n xs) : Rd w w.heap.size A xs := by
  rcases h.2 with ⟨h1, h2⟩ | ⟨g, cap, cur, h1, _⟩
  · intro k u hk
    have := h.1
    rw [h2, Nat.zero_mul] at this
    rw [List.eq_nil_of_length_eq_zero this] at hk
    simp at hk
  · simp only [Value.slice.injEq] at h1
    obtain ⟨rfl, _, rfl⟩ := h1
    exact Rd_of_own h

/-- the times of the first k rooms -/
def cutK (R T : Nat) (r : List Int) (k : Nat) : List Int := (List.range k).map fun i => ((cutAt r R i 0 T : Nat) : Int)
theorem cutK_len (R T : Nat) (r : List Int) (k : Nat) : (cutK R T r k).length = k := by simp [cutK]
theorem cutK_succ (R T : Nat) (r : List Int) (k : Nat) : cutK R T r (k + 1) = cutK R T r k ++ [((cutAt r R k 0 T : Nat) : Int)] := by
  simp [cutK, List.range_succ]

def CutKRel (w1 : World) (R T : Nat) (r : List Int) (u4 u13 : Value) (wr : World) : Prop :=
  ∃ k : Nat, k ≤ R ∧ u13 = .int .i64 k ∧ wr.ownsRow w1.heap.size 3 1 u4 k (intCells (cutK R T r k)) ∧ Below w1.heap.size w1 wr
def CutTRel (R T : Nat) (r : List Int) (k : Nat) (u6 : Value) : Prop := ∃ t : Nat, t ≤ T ∧ u6 = .int .i64 t ∧ cutAt r R k t (T - t) = cutAt r R k 0 T

set_option maxRecDepth 100000 in
set_option maxHeartbeats 8000000 in
theorem cut_any (w : World) (B g : Nat) (F : Fl) (h : FlowAt w B g F) (ok : FlOk F) (r : List Int) (hr : bfsM F 129 (List.replicate F.adj.length (-1)) [F.src] = some r) (R T : Nat) (hR : F.rooms = R) (hT : F.ticks = T) (hR6 : R ≤ 6) (hT20 : T ≤ 20) (hlen : r.length = R * (T + 1) + 2) :
    Calls Tryd.prog 118 #[.pointer (some ⟨g, 0, none⟩)] w (IntsPost w (cutM R T r) R) := by
  obtain ⟨i1, hi1, hy0, hy1, hy2⟩ := info_parts info3
  have C := reach_any w B g F h ok 129 r hr
  obtain ⟨a4, a5⟩ := h.cells2
  rw [hR] at a4
  rw [hT] at a5
  have hS : R * (T + 1) ≤ 126 := Nat.le_trans (Nat.mul_le_mul hR6 (by omega : T + 1 ≤ 21)) (by omega)
  have hST : Hid (R * (T + 1) = T * R + R) := by rw [Hid, Nat.mul_add, Nat.mul_comm]; omega
  have HLEN := Lib.hid hlen
  have hl128 : r.length ≤ 128 := by omega
  clear hr hR hT hlen h ok
  go_enter Tryd.func118, Tryd.ntmps118
  go_wp2_with fail
  refine C.mono ?_
  rintro e w1 ⟨gb, rfl, hgb, hgg, hb1⟩
  replace a4 := kept hb1 a4
  replace a5 := kept hb1 a5
  have HG := Lib.hid hgb
  have hgl := lt_of_block hgb
  have HB := Lib.hid hb1
  have hs1 := hb1.size
  clear C hb1 hgb
  go_wp2
  go_loopw [4, 13] (fun u4 u13 wr => CutKRel w1 R T r u4 u13 wr) (fun _ u13 _ => R - (intOf u13).toNat)
  case atStart => exact ⟨0, Nat.zero_le _, rfl, ⟨rfl, .inl ⟨rfl, rfl⟩⟩, Below.refl _ _⟩
  case round =>
    obtain ⟨k, hk, rfl, hown, hb⟩ := hrel
    have HOWN := Lib.hid hown
    obtain ⟨Au, cu, rfl⟩ := rowForm hown
    have HBW := Lib.hid hb
    have hsz := hb.size
    have hg2 : Hid (wr.heap[gb]? = some (.cells (intCells r).toArray 3 (0, 0))) := (hb.block gb hgl).trans HG.out
    replace a4 := kept hb a4
    replace a5 := kept hb a5
    clear hb hown
    by_cases hlt : k < R
    · go_wp2
      go_loop [6] (fun u6 => CutTRel R T r k u6) (fun u6 => T - (intOf u6).toNat)
      case atStart => exact ⟨0, Nat.zero_le _, rfl, rfl⟩
      case round =>
        obtain ⟨t, ht, rfl, hcut⟩ := hrel
        by_cases htT : t < T
        · obtain ⟨m, hm⟩ : ∃ m, m = t * R := ⟨_, rfl⟩
          have hmi : (t : Int) * (R : Int) = (m : Int) := by rw [hm]; simp
          have hmT : m + R ≤ T * R := by
            rw [hm, ← Nat.succ_mul]
            exact Nat.mul_le_mul_right R htT
          have hmk : m + k < r.length := by have := HLEN.out; have := hST.out; omega
          have hmi2 : (m : Int) + (k : Int) ≤ 1000 := by omega
          have d0 : wr.cell? ⟨gb, m + k, none⟩ = some (.int .i64 (r[m + k]?.getD 0)) := by
            rw [cell_of_row wr gb (m + k) _ _ _ hg2.out]
            simp only [List.getElem?_toArray]
            exact intCells_at r (m + k) hmk
          obtain ⟨d, hd⟩ : ∃ d, T - t = d + 1 := ⟨T - t - 1, by omega⟩
          have hd2 : T - (t + 1) = d := by omega
          rw [hd, cutAt, ← hm, ← hd2] at hcut
          generalize hq : r[m + k]?.getD 0 = q at *
          clear hd hd2 hq hm hmT
          by_cases hq0 : q < 0
          · rw [if_pos hq0] at hcut
            have HC := Lib.hid hcut
            clear hcut
            go_wp2
            go_round
            case rel => exact ⟨t + 1, by omega, by go_num, HC.out⟩
            case measure => simp [intOf]; omega
          · rw [if_neg hq0] at hcut
            have HC := Lib.hid hcut
            clear hcut
            go_wp2_with (at_builtin; refine stp ?_)
            unfold Stp
            refine wpList_append_lies _ rfl _ _ 39 rfl w1.heap.size 3 i1 _ 1 8 Tryd.underlying39 hi1 hy0 hy1 hy2 rfl (by omega) (.slice Au k cu) k (intCells (cutK R T r k)) rfl (HOWN.out.alloc _) ⟨wr.heap.size, 0, none⟩ 1 1 [.int .i64 (t : Int)] rfl rfl (news1 (by simp)) (by simp [Value.oneCell']) (by omega) (by simp only [maxLen]; omega) (by omega) (by simp; omega) _ rfl ?_
            intro gg cap w2 hown1 hgrow hat hlt9
            have hb9 : Below w1.heap.size w1 w2 := (HBW.out.alloc hsz _).grown hgrow (by simp; omega) (fun k hk => (ownBlk HOWN.out hk).1)
            have HOWN1 := Lib.hid hown1
            have HB9 := Lib.hid hb9
            clear hown1 hgrow hat hlt9 hb9 d0
            go_wp2
            go_roundw
            case rel => exact ⟨k + 1, by omega, by go_num, (by rw [cutK_succ, ← HC.out]; simpa [intCells] using HOWN1.out), HB9.out⟩
            case measure => simp [intOf]; omega
        · obtain rfl : t = T := by omega
          rw [Nat.sub_self, cutAt] at hcut
          have HC := Lib.hid hcut
          clear hcut
          go_wp2_with (at_builtin; refine stp ?_)
          unfold Stp
          refine wpList_append_lies _ rfl _ _ 39 rfl w1.heap.size 3 i1 _ 1 8 Tryd.underlying39 hi1 hy0 hy1 hy2 rfl (by omega) (.slice Au k cu) k (intCells (cutK R t r k)) rfl (HOWN.out.alloc _) ⟨wr.heap.size, 0, none⟩ 1 1 [.int .i64 (t : Int)] rfl rfl (news1 (by simp)) (by simp [Value.oneCell']) (by omega) (by simp only [maxLen]; omega) (by omega) (by simp; omega) _ rfl ?_
          intro gg cap w2 hown1 hgrow hat hlt9
          have hb9 : Below w1.heap.size w1 w2 := (HBW.out.alloc hsz _).grown hgrow (by simp; omega) (fun k hk => (ownBlk HOWN.out hk).1)
          have HOWN1 := Lib.hid hown1
          have HB9 := Lib.hid hb9
          clear hown1 hgrow hat hlt9 hb9
          go_wp2
          go_roundw
          case rel => exact ⟨k + 1, by omega, by go_num, (by rw [cutK_succ, ← HC.out]; simpa [intCells] using HOWN1.out), HB9.out⟩
          case measure => simp [intOf]; omega
    · obtain rfl : k = R := by omega
      go_wp2
      go_ret
      exact ⟨_, _, rfl, Rd_of_own' HOWN.out, HB.out.trans (HBW.out.mono hs1)⟩

set_option maxHeartbeats 2000000 in
theorem BestCut_no (w : World) (B : Nat) (Ap Aw : Option Addr) (np cp nw cw : Nat) (pp : List Int) (ws : List Ev) (hl : pp.length = np) (hlw : ws.length = nw) (hp : Rd w B Ap (intCells pp)) (hw : Rd w B Aw (evCells ws)) (hBw : B ≤ w.heap.size) (ticks : Int) (h0 : rtE pp ws ticks ≠ 0) :
    Calls Tryd.prog 55 #[.agg #[.slice Ap np cp, .slice Aw nw cw], .int .i64 ticks] w fun e w' => e = .returned (.tuple #[.slice none 0 0, .int .i64 (rtE pp ws ticks)]) ∧ Below w.heap.size w w' := by
  have hb0 : Below w.heap.size w (w.alloc (.cells #[.slice Ap np cp, .slice Aw nw cw] 42)) := (Below.refl _ _).alloc (Nat.le_refl _) _
  have hp0 := hp.below (hb0.mono hBw)
  have hw0 := hw.below (hb0.mono hBw)
  have hs1 : w.heap.size ≤ (w.alloc (.cells #[.slice Ap np cp, .slice Aw nw cw] 42)).heap.size := hb0.size
  have hB0 : B ≤ (w.alloc (.cells #[.slice Ap np cp, .slice Aw nw cw] 42)).heap.size := Nat.le_trans hBw hs1
  have R := roomsErr_any Ap Aw np cp nw cw (w.alloc (.cells #[.slice Ap np cp, .slice Aw nw cw] 42)) B pp ws hl hlw hp0 hw0 hB0
  unfold ErrVal at R
  have k0 : (w.alloc (.cells #[.slice Ap np cp, .slice Aw nw cw] 42)).heap[w.heap.size]? = some (.cells #[.slice Ap np cp, .slice Aw nw cw] 42 (0, 0)) := by rw [heapq_alloc, if_pos rfl]
  have a0 : (w.alloc (.cells #[.slice Ap np cp, .slice Aw nw cw] 42)).cell? ⟨w.heap.size, 0, none⟩ = some (.slice Ap np cp) := (cell_of_row _ _ 0 _ _ _ k0).trans rfl
  have a1 : (w.alloc (.cells #[.slice Ap np cp, .slice Aw nw cw] 42)).cell? ⟨w.heap.size, 1, none⟩ = some (.slice Aw nw cw) := (cell_of_row _ _ 1 _ _ _ k0).trans rfl
  have Tk := fun W : World => ticksErr_any ticks W
  have HB := Lib.hid hb0
  have hne : (firstE [(roomsM pp ws).2, unlessE (withinB ticks 0 20) 2] != 0) = true := bne_iff_ne.2 h0
  have HV : Hid (rtE pp ws ticks = firstE [(roomsM pp ws).2, unlessE (withinB ticks 0 20) 2]) := rfl
  clear hl hlw hp hw hp0 hw0 hb0 k0 h0
  go_enter Tryd.func55, Tryd.ntmps55
  go_upto_region 1 with (fail)
  generalize (w.alloc (.cells #[.slice Ap np cp, .slice Aw nw cw] 42)) = w0 at *
  go_wp2_with (first | (go_at_call 100; refine R.mono ?_; rintro e w1 ⟨rfl, hb1⟩) | (go_at_call 101; refine (Tk _).mono ?_; rintro e w' ⟨rfl, rfl⟩) | (go_at_call 91; refine (first2 _ _ _).mono ?_; rintro e w' ⟨rfl, rfl⟩))
  go_ret2
  exact ⟨by rw [HV.out]; rfl, (HB.out.trans (hb1.mono hs1)).alloc (Nat.le_trans hs1 hb1.size) _⟩

def CutPost (w : World) (l : List Int) (n : Nat) (e : Ending) (w' : World) : Prop :=
  ∃ A c, e = .returned (.tuple #[.slice A n c, .int .i64 0]) ∧ Rd w' w'.heap.size A (intCells l) ∧ Below w.heap.size w w'

set_option maxHeartbeats 2000000 in
theorem BestCut_yes (w : World) (B : Nat) (Ap Aw : Option Addr) (np cp nw cw : Nat) (pp : List Int) (ws : List Ev) (hl : pp.length = np) (hlw : ws.length = nw) (hp : Rd w B Ap (intCells pp)) (hw : Rd w B Aw (evCells ws)) (hBw : B ≤ w.heap.size) (T : Nat) (h0 : rtE pp ws T = 0) (F : Fl) (r : List Int) (hE : FlEnd pp ws T F r) :
    Calls Tryd.prog 55 #[.agg #[.slice Ap np cp, .slice Aw nw cw], .int .i64 T] w (CutPost w (cutM np T r) np) := by
  have HL := Lib.hid hl
  have HLW := Lib.hid hlw
  have hb0 : Below w.heap.size w (w.alloc (.cells #[.slice Ap np cp, .slice Aw nw cw] 42)) := (Below.refl _ _).alloc (Nat.le_refl _) _
  have hp0 := hp.below (hb0.mono hBw)
  have hw0 := hw.below (hb0.mono hBw)
  have hs1 : w.heap.size ≤ (w.alloc (.cells #[.slice Ap np cp, .slice Aw nw cw] 42)).heap.size := hb0.size
  have hB0 : B ≤ (w.alloc (.cells #[.slice Ap np cp, .slice Aw nw cw] 42)).heap.size := Nat.le_trans hBw hs1
  have R := roomsErr_any Ap Aw np cp nw cw (w.alloc (.cells #[.slice Ap np cp, .slice Aw nw cw] 42)) B pp ws hl hlw hp0 hw0 hB0
  unfold ErrVal at R
  have k0 : (w.alloc (.cells #[.slice Ap np cp, .slice Aw nw cw] 42)).heap[w.heap.size]? = some (.cells #[.slice Ap np cp, .slice Aw nw cw] 42 (0, 0)) := by rw [heapq_alloc, if_pos rfl]
  have a0 : (w.alloc (.cells #[.slice Ap np cp, .slice Aw nw cw] 42)).cell? ⟨w.heap.size, 0, none⟩ = some (.slice Ap np cp) := (cell_of_row _ _ 0 _ _ _ k0).trans rfl
  have a1 : (w.alloc (.cells #[.slice Ap np cp, .slice Aw nw cw] 42)).cell? ⟨w.heap.size, 1, none⟩ = some (.slice Aw nw cw) := (cell_of_row _ _ 1 _ _ _ k0).trans rfl
  have Tk := fun W : World => ticksErr_any (T : Int) W
  have HB := Lib.hid hb0
  obtain ⟨hz1, t, ht, ht20⟩ := rtE_zero h0
  have hT : T ≤ 20 := by omega
  have hne : (firstE [(roomsM pp ws).2, unlessE (withinB (T : Int) 0 20) 2] != 0) = false := by
    rw [show firstE [(roomsM pp ws).2, unlessE (withinB (T : Int) 0 20) 2] = 0 from h0]
    rfl
  have OK := Lib.hid (roomsOk_of hz1)
  have h6 : np ≤ 6 := by rw [← hl]; exact OK.out.few
  have HE := Lib.hid hE
  clear hl hlw hp hw hb0 k0 h0 hz1 ht hE
  go_enter Tryd.func55, Tryd.ntmps55
  go_upto_region 1 with (fail)
  generalize (w.alloc (.cells #[.slice Ap np cp, .slice Aw nw cw] 42)) = w0 at *
  go_upto_region 4 with (first | (go_at_call 100; refine R.mono ?_; rintro e w1 ⟨rfl, hb1⟩) | (go_at_call 101; refine (Tk _).mono ?_; rintro e w' ⟨rfl, rfl⟩) | (go_at_call 91; refine (first2 _ _ _).mono ?_; rintro e w' ⟨rfl, rfl⟩))
  have hbX := hb1.alloc hb1.size (.cells #[.int .i64 (roomsM pp ws).2, .int .i64 (unlessE (withinB (T : Int) 0 20) 2)] 29)
  replace a0 := kept hbX a0
  replace a1 := kept hbX a1
  replace hp0 := hp0.below (hbX.mono hB0)
  replace hw0 := hw0.below (hbX.mono hB0)
  have hs2 := Nat.le_trans hs1 hbX.size
  have hB2 := Nat.le_trans hB0 hbX.size
  replace HB := Lib.hid (HB.out.trans (hbX.mono hs1))
  clear hb1 hbX R Tk
  generalize w1.alloc (.cells #[.int .i64 (roomsM pp ws).2, .int .i64 (unlessE (withinB (T : Int) 0 20) 2)] 29) = w2 at *
  have C := flowOf_any w2 B Ap Aw np cp nw cw pp ws HL.out HLW.out hp0 hw0 hB2 OK.out T hT 60001 129 F HE.out.run
  clear hp0 hw0
  go_wp2_with fail
  refine C.mono ?_
  rintro e w3 ⟨g, rfl, hfa, hb3⟩
  have CC := cut_any w3 w2.heap.size g F hfa HE.out.good.ok r HE.out.bfs np T (by rw [HE.out.rooms]; exact HL.out) HE.out.ticks h6 hT (by rw [← HL.out]; exact HE.out.len)
  clear hfa C
  go_wp2_with fail
  refine CC.mono ?_
  rintro e w4 ⟨A, c, rfl, hR, hb4⟩
  have HRR := Lib.hid hR
  have HBE := Lib.hid (HB.out.trans ((hb3.trans (hb4.mono hb3.size)).mono hs2))
  clear hR hb3 hb4 CC
  go_wp2
  go_ret2
  exact ⟨A, c, rfl, HRR.out, HBE.out⟩
end Go.Proofs.YtmcjnfghlpnghaaDoor

namespace Go.Proofs.YtmcjnfghlpnghaaDoor
open Go.RowKit

theorem ends_all {pp : List Int} {ws : List Ev} (ok : RoomsOk pp ws) {T : Nat} (hT : T ≤ 20) : ∃ F r, FlEnd pp ws T F r ∧ runR (1 + pp.length * (T + 1)) 60001 200 (builtR pp ws T) 0 = some F.o := by
  obtain ⟨F, r, h⟩ := cut_best ok T hT
  obtain ⟨F', h1, h2⟩ := same_flow ok T hT
  obtain rfl : F' = F := Option.some.inj (h1.symm.trans h.run)
  exact ⟨F', r, h, h2⟩

theorem firstE_head {a : Int} {l : List Int} (h : a ≠ 0) : firstE (a :: l) = a := by
  unfold firstE
  simp [h]
theorem firstE_zero {l : List Int} : firstE (0 :: l) = firstE l := by
  conv => lhs; unfold firstE
  simp
theorem err4_rooms {pp : List Int} {ws : List Ev} {np nt : Nat} {tm : List Int} {ticks : Int} (h : (roomsM pp ws).2 ≠ 0) : err4 pp ws np nt tm ticks = (roomsM pp ws).2 := firstE_head h
theorem err4_ticks {pp : List Int} {ws : List Ev} {np nt : Nat} {tm : List Int} {ticks : Int} (h : (roomsM pp ws).2 = 0) (h1 : ticksE ticks ≠ 0) : err4 pp ws np nt tm ticks = ticksE ticks := by
  unfold err4
  rw [h, firstE_zero]
  exact firstE_head h1
theorem err4_cut {pp : List Int} {ws : List Ev} {np nt : Nat} {tm : List Int} {ticks : Int} (h : (roomsM pp ws).2 = 0) (h1 : ticksE ticks = 0) (hl : tm.length = nt) : err4 pp ws np nt tm ticks = cutE np tm ticks := by
  unfold err4 cutE
  rw [h, firstE_zero, h1, firstE_zero, hl]
  by_cases he : nt = np
  · have h2 : ((nt : Int) == (np : Int)) = true := by rw [he]; simp
    have h3 : tm.any (notTimeB ticks) = tm.any fun n => !withinB n 0 ticks := rfl
    rw [if_pos he, h2, h3]
    cases tm.any fun n => !withinB n 0 ticks <;> rfl
  · have h2 : ((nt : Int) == (np : Int)) = false := beq_eq_false_iff_ne.2 (by omega)
    rw [if_neg he, h2]
    rfl
theorem cutM_ok (np T : Nat) (r : List Int) : CutOk np T (cutM np T r) := ⟨cutM_len np T r, fun x hx => cutM_in x hx⟩
theorem cutE_ok {np T : Nat} {tm : List Int} (h : CutOk np T tm) : cutE np tm T = 0 := by
  unfold cutE
  rw [if_pos h.len, if_neg]
  rw [Bool.not_eq_true, List.any_eq_false]
  intro x hx
  have := h.all x hx
  simp [withinB]
  omega

set_option maxRecDepth 100000 in
set_option maxHeartbeats 8000000 in
theorem CareCuts_all (w : World) (Ap Aw At : Option Addr) (np cp nw cw nt ct : Nat) (pp : List Int) (ws : List Ev) (tm : List Int) (ticks : Int) (hk : KindsAt w) (hl : pp.length = np) (hlw : ws.length = nw) (hlt : tm.length = nt)
    (hp : Rd w w.heap.size Ap (intCells pp)) (hw : Rd w w.heap.size Aw (evCells ws)) (ht : Rd w w.heap.size At (intCells tm)) :
    Calls Tryd.prog 9 #[.agg #[.slice Ap np cp, .slice Aw nw cw], .slice At nt ct, .int .i64 ticks] w (AwakePost w) := by
  have hb0 : Below w.heap.size w (w.alloc (.cells #[.slice Ap np cp, .slice Aw nw cw] 42)) := (Below.refl _ _).alloc (Nat.le_refl _) _
  replace hp := hp.below hb0
  replace hw := hw.below hb0
  replace ht := ht.below hb0
  have hs : w.heap.size ≤ (w.alloc (.cells #[.slice Ap np cp, .slice Aw nw cw] 42)).heap.size := hb0.size
  have k0 : (w.alloc (.cells #[.slice Ap np cp, .slice Aw nw cw] 42)).heap[w.heap.size]? = some (.cells #[.slice Ap np cp, .slice Aw nw cw] 42 (0, 0)) := by rw [heapq_alloc, if_pos rfl]
  have a0 : (w.alloc (.cells #[.slice Ap np cp, .slice Aw nw cw] 42)).cell? ⟨w.heap.size, 0, none⟩ = some (.slice Ap np cp) := (cell_of_row _ _ 0 _ _ _ k0).trans rfl
  have a1 : (w.alloc (.cells #[.slice Ap np cp, .slice Aw nw cw] 42)).cell? ⟨w.heap.size, 1, none⟩ = some (.slice Aw nw cw) := (cell_of_row _ _ 1 _ _ _ k0).trans rfl
  have A0 := awake_any _ (hk.below hb0)
  have HB := Lib.hid hb0
  have HL := Lib.hid hl
  have HLW := Lib.hid hlw
  have HLT := Lib.hid hlt
  clear hl hlw hlt hb0 k0 hk
  go_enter Tryd.func9, Tryd.ntmps9
  go_upto_region 1 with (fail)
  generalize (w.alloc (.cells #[.slice Ap np cp, .slice Aw nw cw] 42)) = w0 at *
  go_wp2_with fail
  refine (A0).mono ?_
  rintro e w1 ⟨rfl, hb1⟩
  replace a0 := kept hb1 a0
  replace a1 := kept hb1 a1
  replace hp := hp.below (hb1.mono hs)
  replace hw := hw.below (hb1.mono hs)
  replace ht := ht.below (hb1.mono hs)
  replace HB := Lib.hid (HB.out.trans (hb1.mono hs))
  replace hs := Nat.le_trans hs hb1.size
  clear hb1
  clear A0
  cases hr : roomsB np nw with
  | false =>
    have RB := rooms_any w1 Ap Aw np cp nw cw false hr
    clear hr
    go_wp2_with fail
    refine RB.mono ?_
    rintro e w2 ⟨rfl, hb1⟩
    go_wp2
    go_ret
    exact ⟨rfl, HB.out.trans (hb1.mono hs)⟩
  | true =>
    have RB := rooms_any w1 Ap Aw np cp nw cw true hr
    have g1 : np ≤ 8 ∧ nw ≤ 18 := by
      simp only [roomsB, Bool.and_eq_true, Bool.or_eq_true, decide_eq_true_eq] at hr
      omega
    obtain ⟨g1, g2⟩ := g1
    clear hr
    go_wp2_with fail
    refine (RB).mono ?_
    rintro e w2 ⟨rfl, hb1⟩
    replace a0 := kept hb1 a0
    replace a1 := kept hb1 a1
    replace hp := hp.below (hb1.mono hs)
    replace hw := hw.below (hb1.mono hs)
    replace ht := ht.below (hb1.mono hs)
    replace HB := Lib.hid (HB.out.trans (hb1.mono hs))
    replace hs := Nat.le_trans hs hb1.size
    clear hb1
    clear RB
    cases hb : (decide (ticks ≤ 6) || decide (20 < ticks)) with
    | false =>
      have BR := fun W => brief_any ticks false hb W
      clear hb
      go_wp2_with fail
      refine (BR _).mono ?_
      rintro e w3 ⟨rfl, rfl⟩
      go_wp2
      go_ret
      exact ⟨rfl, HB.out⟩
    | true =>
      have BR := fun W => brief_any ticks true hb W
      clear hb
      go_wp2_with fail
      refine (BR _).mono ?_
      rintro e w3 ⟨rfl, rfl⟩
      clear BR
      by_cases h8 : nt ≤ 8
      · have h8i : ¬ (8 : Int) < (nt : Int) := by omega
        by_cases hd : (roomsM pp ws).2 = 0
        · by_cases htk : ticksE ticks = 0
          · have hrt : rtE pp ws ticks = 0 := by rw [rtE_ticks hd]; exact htk
            obtain ⟨_, T, rfl, hT⟩ := rtE_zero hrt
            have ok := roomsOk_of hd
            obtain ⟨F, r, hE, hR⟩ := ends_all ok hT
            have BC := fun W B A1 A2 c1 c2 (h1 : Rd W B A1 (intCells pp)) (h2 : Rd W B A2 (evCells ws)) (h3 : B ≤ W.heap.size) => BestCut_yes W B A1 A2 np c1 nw c2 pp ws HL.out HLW.out h1 h2 h3 T hrt F r hE
            have Tk := fun W => TicksErr_any (T : Int) W
            simp only [htk] at Tk
            have RE := fun W B A1 A2 c1 c2 (h1 : Rd W B A1 (intCells pp)) (h2 : Rd W B A2 (evCells ws)) (h3 : B ≤ W.heap.size) => RoomsErr_any W B A1 A2 np c1 nw c2 pp ws HL.out HLW.out h1 h2 h3
            unfold ErrVal at RE
            simp only [hd] at RE
            have HRUN : Hid (runR (1 + np * (T + 1)) 60001 200 (builtR pp ws T) 0 = some F.o) := by rw [Hid, ← HL.out]; exact hR
            have HBST : Hid (boundM pp ws (cutM np T r) T = F.o) := by rw [Hid, ← HL.out]; exact hE.best.symm
            have OK := Lib.hid ok
            clear ok hrt hE hR
            have hr4 : err4 pp ws np nt tm (T : Int) = cutE np tm T := err4_cut hd htk HLT.out
            by_cases hce : cutE np tm T = 0
            · have h40 : err4 pp ws np nt tm (T : Int) = 0 := by rw [hr4]; exact hce
              have cut : CutOk np T tm := cutE_zero hce
              have CK := fun W B A1 A2 A3 c1 c2 c3 (h1 : Rd W B A1 (intCells pp)) (h2 : Rd W B A2 (evCells ws)) (h4 : Rd W B A3 (intCells tm)) (h3 : B ≤ W.heap.size) => (CheckCut_yes W B A1 A2 A3 np c1 nw c2 nt c3 pp ws tm (T : Int) HL.out HLW.out HLT.out (by omega) h1 h2 h4 h3 h40).mono fun e w' ⟨T', hT', h⟩ => (show LeastPost W (boundM pp ws tm T) 0 e w' by rw [Int.ofNat_inj.1 hT']; exact h)
              have CUT := Lib.hid cut
              have HCE := Lib.hid hce
              unfold LeastPost at CK
              generalize hbo : boundM pp ws tm T = bo at *
              have HBO := Lib.hid hbo
              clear hd htk hr4 hce h40 cut hbo
              go_wp2_with fail
              refine (CopyRooms_any w2 w.heap.size Ap Aw np cp nw cw pp ws HL.out HLW.out (by omega) (by omega) hp hw hs).mono ?_
              rintro e w4 ⟨A1, c1, A2, c2, rfl, hp1, hw1, hb1⟩
              replace a0 := kept hb1 a0
              replace a1 := kept hb1 a1
              replace hp := hp.below (hb1.mono hs)
              replace hw := hw.below (hb1.mono hs)
              replace ht := ht.below (hb1.mono hs)
              replace HB := Lib.hid (HB.out.trans (hb1.mono hs))
              replace hs := Nat.le_trans hs hb1.size
              clear hb1
              go_wp2_with fail
              refine (CopyInts_any w4 w.heap.size At nt ct tm HLT.out (by omega) ht hs).mono ?_
              rintro e w5 ⟨A3, c3, rfl, ht1, hb1⟩
              replace a0 := kept hb1 a0
              replace a1 := kept hb1 a1
              replace hp := hp.below (hb1.mono hs)
              replace hw := hw.below (hb1.mono hs)
              replace ht := ht.below (hb1.mono hs)
              replace hp1 := (hp1.below hb1).mono hb1.size
              replace hw1 := (hw1.below hb1).mono hb1.size
              replace HB := Lib.hid (HB.out.trans (hb1.mono hs))
              replace hs := Nat.le_trans hs hb1.size
              clear hb1
              go_wp2_with fail
              refine (CK w5 w5.heap.size A1 A2 A3 c1 c2 c3 hp1 hw1 ht1 (Nat.le_refl _)).mono ?_
              rintro e w6 ⟨rfl, hb1⟩
              replace a0 := kept hb1 a0
              replace a1 := kept hb1 a1
              replace hp := hp.below (hb1.mono hs)
              replace hw := hw.below (hb1.mono hs)
              replace ht := ht.below (hb1.mono hs)
              replace hp1 := (hp1.below hb1).mono hb1.size
              replace hw1 := (hw1.below hb1).mono hb1.size
              replace ht1 := (ht1.below hb1).mono hb1.size
              replace HB := Lib.hid (HB.out.trans (hb1.mono hs))
              replace hs := Nat.le_trans hs hb1.size
              clear hb1
              clear hp1 hw1 ht1
              go_wp2_with fail
              refine (CopyRooms_any w6 w.heap.size Ap Aw np cp nw cw pp ws HL.out HLW.out (by omega) (by omega) hp hw hs).mono ?_
              rintro e w7 ⟨A1, c1, A2, c2, rfl, hp1, hw1, hb1⟩
              replace a0 := kept hb1 a0
              replace a1 := kept hb1 a1
              replace hp := hp.below (hb1.mono hs)
              replace hw := hw.below (hb1.mono hs)
              replace ht := ht.below (hb1.mono hs)
              replace HB := Lib.hid (HB.out.trans (hb1.mono hs))
              replace hs := Nat.le_trans hs hb1.size
              clear hb1
              go_wp2_with fail
              refine (BC w7 w7.heap.size A1 A2 c1 c2 hp1 hw1 (Nat.le_refl _)).mono ?_
              rintro e w8 ⟨A4, c4, rfl, hL, hb1⟩
              replace a0 := kept hb1 a0
              replace a1 := kept hb1 a1
              replace hp := hp.below (hb1.mono hs)
              replace hw := hw.below (hb1.mono hs)
              replace ht := ht.below (hb1.mono hs)
              replace hp1 := (hp1.below hb1).mono hb1.size
              replace hw1 := (hw1.below hb1).mono hb1.size
              replace HB := Lib.hid (HB.out.trans (hb1.mono hs))
              replace hs := Nat.le_trans hs hb1.size
              clear hb1
              clear hp1 hw1
              go_wp2_with fail
              refine (RE w8 w.heap.size Ap Aw cp cw hp hw hs).mono ?_
              rintro e w9 ⟨rfl, hb1⟩
              replace a0 := kept hb1 a0
              replace a1 := kept hb1 a1
              replace hp := hp.below (hb1.mono hs)
              replace hw := hw.below (hb1.mono hs)
              replace ht := ht.below (hb1.mono hs)
              replace hL := (hL.below hb1).mono hb1.size
              replace HB := Lib.hid (HB.out.trans (hb1.mono hs))
              replace hs := Nat.le_trans hs hb1.size
              clear hb1
              go_upto_region 12 with (go_at_call 33; refine (Tk _).mono ?_; rintro e w' ⟨rfl, rfl⟩)
              have x0 := fun x : Xt w9 => x.cell a0
              have x1 := fun x : Xt w9 => x.cell a1
              refine wp_region_eager [16, 17, 18] (fun w' => ∃ x : Xt w9, w' = x.1) (by kernel_rfl) ⟨⟨w9.drew, (Below.refl _ _).drew⟩, rfl⟩ ?_
              refine wpE_reads3 [0, 1, 2, 3, 4, 5] 13 rfl (by kernel_rfl) ?_
              simp only [opsAt_nil, opsAt_cons, consOpt_some, List.getElem?_toArray, List.getElem?_cons_zero, List.getElem?_cons_succ]
              repeat (go_big_quiet_step (fail))
              refine wpQuiet_nil ?_
              have hbd : Below w9.heap.size w9 w9.drew := (Below.refl _ _).drew
              show wpE _ _ _ _ _ _ _ _ _ w9.drew
              generalize w9.drew = wd at *
              refine wpE_one (i := 6) rfl (by kernel_rfl) rfl ?_
              unfold wpMid
              simp only [opsAt_nil, opsAt_cons, consOpt_some, List.getElem?_toArray, List.getElem?_cons_zero, List.getElem?_cons_succ]
              have CE := CutErr_any wd w9.heap.size Ap Aw A4 np cp nw cw np c4 (cutM np T r) (T : Int) (cutM_len np T r) (by omega) (hL.below hbd) hbd.size
              unfold ErrVal at CE
              rw [cutE_ok (cutM_ok np T r)] at CE
              go_wp2_with (go_at_call 57; refine CE.mono ?_; rintro e w10 ⟨rfl, hb2⟩)
              have hb02 := hbd.trans (hb2.mono hbd.size)
              refine onlyNormal_mk ⟨⟨⟨_, hb02⟩, rfl⟩, ?_⟩
              refine wpE_reads3 [7, 8, 9, 10, 11, 12, 14, 15] 4 rfl (by kernel_rfl) ?_
              simp only [opsAt_nil, opsAt_cons, consOpt_some, List.getElem?_toArray, List.getElem?_cons_zero, List.getElem?_cons_succ]
              repeat (go_big_quiet_step (fail))
              refine wpQuiet_nil ?_
              clear x0 x1 CE hb2 hbd
              refine wpE_one (i := 13) rfl (by kernel_rfl) rfl ?_
              unfold wpMid
              simp only [opsAt_nil, opsAt_cons, consOpt_some, List.getElem?_toArray, List.getElem?_cons_zero, List.getElem?_cons_succ]
              have BD := Bound_any w10 w10.heap.size Ap Aw A4 np cp nw cw np c4 pp ws (cutM np T r) T HL.out HLW.out (cutM_len np T r) ((hp.below (hb02.mono hs)).mono (Nat.le_trans hs hb02.size)) ((hw.below (hb02.mono hs)).mono (Nat.le_trans hs hb02.size)) ((hL.below hb02).mono hb02.size) (Nat.le_refl _) OK.out hT (cutM_ok np T r)
              unfold ErrVal at BD
              rw [HBST.out] at BD
              go_wp2_with (go_at_call 58; refine BD.mono ?_; rintro e w11 ⟨rfl, hb3⟩)
              have hb03 := hb02.trans (hb3.mono hb02.size)
              refine onlyNormal_mk ⟨⟨⟨_, hb03⟩, rfl⟩, ?_⟩
              clear BD hb02 hb3
              refine wpE_tail rfl (by kernel_rfl) ?_
              simp only [opsAt_nil, opsAt_cons, consOpt_some, List.getElem?_toArray, List.getElem?_cons_zero, List.getElem?_cons_succ]
              have RO := refOut_any w11 w.heap.size Ap Aw np cp nw cw pp ws HL.out HLW.out (hp.below (hb03.mono hs)) (hw.below (hb03.mono hs)) (Nat.le_trans hs hb03.size) OK.out T hT F.o HRUN.out
              unfold RefOut at RO
              generalize F.o = o at *
              go_wp2_with (go_at_call 34; refine RO.mono ?_; rintro e w12 ⟨rfl, hb4⟩)
              refine onlyNormal_mk ?_
              have hb1 := hb03.trans (hb4.mono hb03.size)
              clear hb03 hb4 RO
              replace a0 := kept hb1 a0
              replace a1 := kept hb1 a1
              replace hp := hp.below (hb1.mono hs)
              replace hw := hw.below (hb1.mono hs)
              replace ht := ht.below (hb1.mono hs)
              replace hL := (hL.below hb1).mono hb1.size
              replace HB := Lib.hid (HB.out.trans (hb1.mono hs))
              replace hs := Nat.le_trans hs hb1.size
              clear hb1
              have CE := CutErr_any w12 w.heap.size Ap Aw At np cp nw cw nt ct tm (T : Int) HLT.out (by omega) ht hs
              unfold ErrVal at CE
              rw [HCE.out] at CE
              go_wp2_with fail
              refine (CE).mono ?_
              rintro e w13 ⟨rfl, hb1⟩
              replace a0 := kept hb1 a0
              replace a1 := kept hb1 a1
              replace hp := hp.below (hb1.mono hs)
              replace hw := hw.below (hb1.mono hs)
              replace ht := ht.below (hb1.mono hs)
              replace hL := (hL.below hb1).mono hb1.size
              replace HB := Lib.hid (HB.out.trans (hb1.mono hs))
              replace hs := Nat.le_trans hs hb1.size
              clear hb1
              have BD := Bound_any w13 w13.heap.size Ap Aw At np cp nw cw nt ct pp ws tm T HL.out HLW.out HLT.out (hp.mono hs) (hw.mono hs) (ht.mono hs) (Nat.le_refl _) OK.out hT CUT.out
              unfold ErrVal at BD
              rw [HBO.out] at BD
              go_wp2_with fail
              refine (BD).mono ?_
              rintro e w14 ⟨rfl, hb1⟩
              replace a0 := kept hb1 a0
              replace a1 := kept hb1 a1
              replace hp := hp.below (hb1.mono hs)
              replace hw := hw.below (hb1.mono hs)
              replace ht := ht.below (hb1.mono hs)
              replace hL := (hL.below hb1).mono hb1.size
              replace HB := Lib.hid (HB.out.trans (hb1.mono hs))
              replace hs := Nat.le_trans hs hb1.size
              clear hb1
              go_wp2
              go_ret
              exact ⟨rfl, HB.out⟩
            · have h40 : err4 pp ws np nt tm (T : Int) ≠ 0 := by rw [hr4]; exact hce
              have CK := fun W B A1 A2 A3 c1 c2 c3 (h1 : Rd W B A1 (intCells pp)) (h2 : Rd W B A2 (evCells ws)) (h4 : Rd W B A3 (intCells tm)) (h3 : B ≤ W.heap.size) => CheckCut_no W B A1 A2 A3 np c1 nw c2 nt c3 pp ws tm (T : Int) HL.out HLW.out HLT.out (by omega) h1 h2 h4 h3 h40
              unfold LeastPost at CK
              simp only [hr4] at CK
              have e1 : (cutE np tm T != 0) = true := bne_iff_ne.2 hce
              clear hd htk hce h40 hr4
              go_wp2_with fail
              refine (CopyRooms_any w2 w.heap.size Ap Aw np cp nw cw pp ws HL.out HLW.out (by omega) (by omega) hp hw hs).mono ?_
              rintro e w4 ⟨A1, c1, A2, c2, rfl, hp1, hw1, hb1⟩
              replace a0 := kept hb1 a0
              replace a1 := kept hb1 a1
              replace hp := hp.below (hb1.mono hs)
              replace hw := hw.below (hb1.mono hs)
              replace ht := ht.below (hb1.mono hs)
              replace HB := Lib.hid (HB.out.trans (hb1.mono hs))
              replace hs := Nat.le_trans hs hb1.size
              clear hb1
              go_wp2_with fail
              refine (CopyInts_any w4 w.heap.size At nt ct tm HLT.out (by omega) ht hs).mono ?_
              rintro e w5 ⟨A3, c3, rfl, ht1, hb1⟩
              replace a0 := kept hb1 a0
              replace a1 := kept hb1 a1
              replace hp := hp.below (hb1.mono hs)
              replace hw := hw.below (hb1.mono hs)
              replace ht := ht.below (hb1.mono hs)
              replace hp1 := (hp1.below hb1).mono hb1.size
              replace hw1 := (hw1.below hb1).mono hb1.size
              replace HB := Lib.hid (HB.out.trans (hb1.mono hs))
              replace hs := Nat.le_trans hs hb1.size
              clear hb1
              go_wp2_with fail
              refine (CK w5 w5.heap.size A1 A2 A3 c1 c2 c3 hp1 hw1 ht1 (Nat.le_refl _)).mono ?_
              rintro e w6 ⟨rfl, hb1⟩
              replace a0 := kept hb1 a0
              replace a1 := kept hb1 a1
              replace hp := hp.below (hb1.mono hs)
              replace hw := hw.below (hb1.mono hs)
              replace ht := ht.below (hb1.mono hs)
              replace hp1 := (hp1.below hb1).mono hb1.size
              replace hw1 := (hw1.below hb1).mono hb1.size
              replace ht1 := (ht1.below hb1).mono hb1.size
              replace HB := Lib.hid (HB.out.trans (hb1.mono hs))
              replace hs := Nat.le_trans hs hb1.size
              clear hb1
              clear hp1 hw1 ht1
              go_wp2_with fail
              refine (CopyRooms_any w6 w.heap.size Ap Aw np cp nw cw pp ws HL.out HLW.out (by omega) (by omega) hp hw hs).mono ?_
              rintro e w7 ⟨A1, c1, A2, c2, rfl, hp1, hw1, hb1⟩
              replace a0 := kept hb1 a0
              replace a1 := kept hb1 a1
              replace hp := hp.below (hb1.mono hs)
              replace hw := hw.below (hb1.mono hs)
              replace ht := ht.below (hb1.mono hs)
              replace HB := Lib.hid (HB.out.trans (hb1.mono hs))
              replace hs := Nat.le_trans hs hb1.size
              clear hb1
              go_wp2_with fail
              refine (BC w7 w7.heap.size A1 A2 c1 c2 hp1 hw1 (Nat.le_refl _)).mono ?_
              rintro e w8 ⟨A4, c4, rfl, hL, hb1⟩
              replace a0 := kept hb1 a0
              replace a1 := kept hb1 a1
              replace hp := hp.below (hb1.mono hs)
              replace hw := hw.below (hb1.mono hs)
              replace ht := ht.below (hb1.mono hs)
              replace hp1 := (hp1.below hb1).mono hb1.size
              replace hw1 := (hw1.below hb1).mono hb1.size
              replace HB := Lib.hid (HB.out.trans (hb1.mono hs))
              replace hs := Nat.le_trans hs hb1.size
              clear hb1
              clear hp1 hw1
              go_wp2_with fail
              refine (RE w8 w.heap.size Ap Aw cp cw hp hw hs).mono ?_
              rintro e w9 ⟨rfl, hb1⟩
              replace a0 := kept hb1 a0
              replace a1 := kept hb1 a1
              replace hp := hp.below (hb1.mono hs)
              replace hw := hw.below (hb1.mono hs)
              replace ht := ht.below (hb1.mono hs)
              replace hL := (hL.below hb1).mono hb1.size
              replace HB := Lib.hid (HB.out.trans (hb1.mono hs))
              replace hs := Nat.le_trans hs hb1.size
              clear hb1
              go_upto_region 12 with (go_at_call 33; refine (Tk _).mono ?_; rintro e w' ⟨rfl, rfl⟩)
              have x0 := fun x : Xt w9 => x.cell a0
              have x1 := fun x : Xt w9 => x.cell a1
              refine wp_region_eager [16, 17, 18] (fun w' => ∃ x : Xt w9, w' = x.1) (by kernel_rfl) ⟨⟨w9.drew, (Below.refl _ _).drew⟩, rfl⟩ ?_
              refine wpE_reads3 [0, 1, 2, 3, 4, 5] 13 rfl (by kernel_rfl) ?_
              simp only [opsAt_nil, opsAt_cons, consOpt_some, List.getElem?_toArray, List.getElem?_cons_zero, List.getElem?_cons_succ]
              repeat (go_big_quiet_step (fail))
              refine wpQuiet_nil ?_
              have hbd : Below w9.heap.size w9 w9.drew := (Below.refl _ _).drew
              show wpE _ _ _ _ _ _ _ _ _ w9.drew
              generalize w9.drew = wd at *
              refine wpE_one (i := 6) rfl (by kernel_rfl) rfl ?_
              unfold wpMid
              simp only [opsAt_nil, opsAt_cons, consOpt_some, List.getElem?_toArray, List.getElem?_cons_zero, List.getElem?_cons_succ]
              have CE := CutErr_any wd w9.heap.size Ap Aw A4 np cp nw cw np c4 (cutM np T r) (T : Int) (cutM_len np T r) (by omega) (hL.below hbd) hbd.size
              unfold ErrVal at CE
              rw [cutE_ok (cutM_ok np T r)] at CE
              go_wp2_with (go_at_call 57; refine CE.mono ?_; rintro e w10 ⟨rfl, hb2⟩)
              have hb02 := hbd.trans (hb2.mono hbd.size)
              refine onlyNormal_mk ⟨⟨⟨_, hb02⟩, rfl⟩, ?_⟩
              refine wpE_reads3 [7, 8, 9, 10, 11, 12, 14, 15] 4 rfl (by kernel_rfl) ?_
              simp only [opsAt_nil, opsAt_cons, consOpt_some, List.getElem?_toArray, List.getElem?_cons_zero, List.getElem?_cons_succ]
              repeat (go_big_quiet_step (fail))
              refine wpQuiet_nil ?_
              clear x0 x1 CE hb2 hbd
              refine wpE_one (i := 13) rfl (by kernel_rfl) rfl ?_
              unfold wpMid
              simp only [opsAt_nil, opsAt_cons, consOpt_some, List.getElem?_toArray, List.getElem?_cons_zero, List.getElem?_cons_succ]
              have BD := Bound_any w10 w10.heap.size Ap Aw A4 np cp nw cw np c4 pp ws (cutM np T r) T HL.out HLW.out (cutM_len np T r) ((hp.below (hb02.mono hs)).mono (Nat.le_trans hs hb02.size)) ((hw.below (hb02.mono hs)).mono (Nat.le_trans hs hb02.size)) ((hL.below hb02).mono hb02.size) (Nat.le_refl _) OK.out hT (cutM_ok np T r)
              unfold ErrVal at BD
              rw [HBST.out] at BD
              go_wp2_with (go_at_call 58; refine BD.mono ?_; rintro e w11 ⟨rfl, hb3⟩)
              have hb03 := hb02.trans (hb3.mono hb02.size)
              refine onlyNormal_mk ⟨⟨⟨_, hb03⟩, rfl⟩, ?_⟩
              clear BD hb02 hb3
              refine wpE_tail rfl (by kernel_rfl) ?_
              simp only [opsAt_nil, opsAt_cons, consOpt_some, List.getElem?_toArray, List.getElem?_cons_zero, List.getElem?_cons_succ]
              have RO := refOut_any w11 w.heap.size Ap Aw np cp nw cw pp ws HL.out HLW.out (hp.below (hb03.mono hs)) (hw.below (hb03.mono hs)) (Nat.le_trans hs hb03.size) OK.out T hT F.o HRUN.out
              unfold RefOut at RO
              generalize F.o = o at *
              go_wp2_with (go_at_call 34; refine RO.mono ?_; rintro e w12 ⟨rfl, hb4⟩)
              refine onlyNormal_mk ?_
              have hb1 := hb03.trans (hb4.mono hb03.size)
              clear hb03 hb4 RO
              replace a0 := kept hb1 a0
              replace a1 := kept hb1 a1
              replace hp := hp.below (hb1.mono hs)
              replace hw := hw.below (hb1.mono hs)
              replace ht := ht.below (hb1.mono hs)
              replace hL := (hL.below hb1).mono hb1.size
              replace HB := Lib.hid (HB.out.trans (hb1.mono hs))
              replace hs := Nat.le_trans hs hb1.size
              clear hb1
              have CE := CutErr_any w12 w.heap.size Ap Aw At np cp nw cw nt ct tm (T : Int) HLT.out (by omega) ht hs
              unfold ErrVal at CE
              generalize cutE np tm T = d0 at *
              go_wp2_with fail
              refine (CE).mono ?_
              rintro e w13 ⟨rfl, hb1⟩
              replace a0 := kept hb1 a0
              replace a1 := kept hb1 a1
              replace hp := hp.below (hb1.mono hs)
              replace hw := hw.below (hb1.mono hs)
              replace ht := ht.below (hb1.mono hs)
              replace hL := (hL.below hb1).mono hb1.size
              replace HB := Lib.hid (HB.out.trans (hb1.mono hs))
              replace hs := Nat.le_trans hs hb1.size
              clear hb1
              go_wp2
              go_ret
              exact ⟨rfl, HB.out⟩
          · have hrt : rtE pp ws ticks = ticksE ticks := rtE_ticks hd
            have hne : rtE pp ws ticks ≠ 0 := by rw [hrt]; exact htk
            have hr4 : err4 pp ws np nt tm ticks = ticksE ticks := err4_ticks hd htk
            have hne4 : err4 pp ws np nt tm ticks ≠ 0 := by rw [hr4]; exact htk
            have CK := fun W B A1 A2 A3 c1 c2 c3 (h1 : Rd W B A1 (intCells pp)) (h2 : Rd W B A2 (evCells ws)) (h4 : Rd W B A3 (intCells tm)) (h3 : B ≤ W.heap.size) => CheckCut_no W B A1 A2 A3 np c1 nw c2 nt c3 pp ws tm ticks HL.out HLW.out HLT.out (by omega) h1 h2 h4 h3 hne4
            have BC := fun W B A1 A2 c1 c2 (h1 : Rd W B A1 (intCells pp)) (h2 : Rd W B A2 (evCells ws)) (h3 : B ≤ W.heap.size) => BestCut_no W B A1 A2 np c1 nw c2 pp ws HL.out HLW.out h1 h2 h3 ticks hne
            have RE := fun W B A1 A2 c1 c2 (h1 : Rd W B A1 (intCells pp)) (h2 : Rd W B A2 (evCells ws)) (h3 : B ≤ W.heap.size) => RoomsErr_any W B A1 A2 np c1 nw c2 pp ws HL.out HLW.out h1 h2 h3
            unfold ErrVal at RE
            have Tk := fun W => TicksErr_any ticks W
            unfold LeastPost at CK
            simp only [hr4] at CK
            simp only [hrt] at BC
            simp only [hd] at RE
            have e1 : (ticksE ticks != 0) = true := bne_iff_ne.2 htk
            generalize ticksE ticks = d0 at *
            clear hd htk hrt hne hr4 hne4
            go_wp2_with fail
            refine (CopyRooms_any w2 w.heap.size Ap Aw np cp nw cw pp ws HL.out HLW.out (by omega) (by omega) hp hw hs).mono ?_
            rintro e w4 ⟨A1, c1, A2, c2, rfl, hp1, hw1, hb1⟩
            replace a0 := kept hb1 a0
            replace a1 := kept hb1 a1
            replace hp := hp.below (hb1.mono hs)
            replace hw := hw.below (hb1.mono hs)
            replace ht := ht.below (hb1.mono hs)
            replace HB := Lib.hid (HB.out.trans (hb1.mono hs))
            replace hs := Nat.le_trans hs hb1.size
            clear hb1
            go_wp2_with fail
            refine (CopyInts_any w4 w.heap.size At nt ct tm HLT.out (by omega) ht hs).mono ?_
            rintro e w5 ⟨A3, c3, rfl, ht1, hb1⟩
            replace a0 := kept hb1 a0
            replace a1 := kept hb1 a1
            replace hp := hp.below (hb1.mono hs)
            replace hw := hw.below (hb1.mono hs)
            replace ht := ht.below (hb1.mono hs)
            replace hp1 := (hp1.below hb1).mono hb1.size
            replace hw1 := (hw1.below hb1).mono hb1.size
            replace HB := Lib.hid (HB.out.trans (hb1.mono hs))
            replace hs := Nat.le_trans hs hb1.size
            clear hb1
            go_wp2_with fail
            refine (CK w5 w5.heap.size A1 A2 A3 c1 c2 c3 hp1 hw1 ht1 (Nat.le_refl _)).mono ?_
            rintro e w6 ⟨rfl, hb1⟩
            replace a0 := kept hb1 a0
            replace a1 := kept hb1 a1
            replace hp := hp.below (hb1.mono hs)
            replace hw := hw.below (hb1.mono hs)
            replace ht := ht.below (hb1.mono hs)
            replace hp1 := (hp1.below hb1).mono hb1.size
            replace hw1 := (hw1.below hb1).mono hb1.size
            replace ht1 := (ht1.below hb1).mono hb1.size
            replace HB := Lib.hid (HB.out.trans (hb1.mono hs))
            replace hs := Nat.le_trans hs hb1.size
            clear hb1
            clear hp1 hw1 ht1
            go_wp2_with fail
            refine (CopyRooms_any w6 w.heap.size Ap Aw np cp nw cw pp ws HL.out HLW.out (by omega) (by omega) hp hw hs).mono ?_
            rintro e w7 ⟨A1, c1, A2, c2, rfl, hp1, hw1, hb1⟩
            replace a0 := kept hb1 a0
            replace a1 := kept hb1 a1
            replace hp := hp.below (hb1.mono hs)
            replace hw := hw.below (hb1.mono hs)
            replace ht := ht.below (hb1.mono hs)
            replace HB := Lib.hid (HB.out.trans (hb1.mono hs))
            replace hs := Nat.le_trans hs hb1.size
            clear hb1
            go_wp2_with fail
            refine (BC w7 w7.heap.size A1 A2 c1 c2 hp1 hw1 (Nat.le_refl _)).mono ?_
            rintro e w8 ⟨rfl, hb1⟩
            replace a0 := kept hb1 a0
            replace a1 := kept hb1 a1
            replace hp := hp.below (hb1.mono hs)
            replace hw := hw.below (hb1.mono hs)
            replace ht := ht.below (hb1.mono hs)
            replace hp1 := (hp1.below hb1).mono hb1.size
            replace hw1 := (hw1.below hb1).mono hb1.size
            replace HB := Lib.hid (HB.out.trans (hb1.mono hs))
            replace hs := Nat.le_trans hs hb1.size
            clear hb1
            clear hp1 hw1
            go_wp2_with fail
            refine (RE w8 w.heap.size Ap Aw cp cw hp hw hs).mono ?_
            rintro e w9 ⟨rfl, hb1⟩
            replace a0 := kept hb1 a0
            replace a1 := kept hb1 a1
            replace hp := hp.below (hb1.mono hs)
            replace hw := hw.below (hb1.mono hs)
            replace ht := ht.below (hb1.mono hs)
            replace HB := Lib.hid (HB.out.trans (hb1.mono hs))
            replace hs := Nat.le_trans hs hb1.size
            clear hb1
            go_wp2_with (go_at_call 33; refine (Tk _).mono ?_; rintro e w' ⟨rfl, rfl⟩)
            go_ret
            exact ⟨rfl, HB.out⟩
        · have hrt : rtE pp ws ticks = (roomsM pp ws).2 := rtE_rooms hd
          have hne : rtE pp ws ticks ≠ 0 := by rw [hrt]; exact hd
          have hr4 : err4 pp ws np nt tm ticks = (roomsM pp ws).2 := err4_rooms hd
          have hne4 : err4 pp ws np nt tm ticks ≠ 0 := by rw [hr4]; exact hd
          have CK := fun W B A1 A2 A3 c1 c2 c3 (h1 : Rd W B A1 (intCells pp)) (h2 : Rd W B A2 (evCells ws)) (h4 : Rd W B A3 (intCells tm)) (h3 : B ≤ W.heap.size) => CheckCut_no W B A1 A2 A3 np c1 nw c2 nt c3 pp ws tm ticks HL.out HLW.out HLT.out (by omega) h1 h2 h4 h3 hne4
          have BC := fun W B A1 A2 c1 c2 (h1 : Rd W B A1 (intCells pp)) (h2 : Rd W B A2 (evCells ws)) (h3 : B ≤ W.heap.size) => BestCut_no W B A1 A2 np c1 nw c2 pp ws HL.out HLW.out h1 h2 h3 ticks hne
          have RE := fun W B A1 A2 c1 c2 (h1 : Rd W B A1 (intCells pp)) (h2 : Rd W B A2 (evCells ws)) (h3 : B ≤ W.heap.size) => RoomsErr_any W B A1 A2 np c1 nw c2 pp ws HL.out HLW.out h1 h2 h3
          unfold ErrVal at RE
          unfold LeastPost at CK
          simp only [hr4] at CK
          simp only [hrt] at BC
          have e1 : ((roomsM pp ws).2 != 0) = true := bne_iff_ne.2 hd
          have e2 : ((roomsM pp ws).2 == 0) = false := beq_eq_false_iff_ne.2 hd
          generalize (roomsM pp ws).2 = d0 at *
          clear hd hrt hne hr4 hne4
          go_wp2_with fail
          refine (CopyRooms_any w2 w.heap.size Ap Aw np cp nw cw pp ws HL.out HLW.out (by omega) (by omega) hp hw hs).mono ?_
          rintro e w4 ⟨A1, c1, A2, c2, rfl, hp1, hw1, hb1⟩
          replace a0 := kept hb1 a0
          replace a1 := kept hb1 a1
          replace hp := hp.below (hb1.mono hs)
          replace hw := hw.below (hb1.mono hs)
          replace ht := ht.below (hb1.mono hs)
          replace HB := Lib.hid (HB.out.trans (hb1.mono hs))
          replace hs := Nat.le_trans hs hb1.size
          clear hb1
          go_wp2_with fail
          refine (CopyInts_any w4 w.heap.size At nt ct tm HLT.out (by omega) ht hs).mono ?_
          rintro e w5 ⟨A3, c3, rfl, ht1, hb1⟩
          replace a0 := kept hb1 a0
          replace a1 := kept hb1 a1
          replace hp := hp.below (hb1.mono hs)
          replace hw := hw.below (hb1.mono hs)
          replace ht := ht.below (hb1.mono hs)
          replace hp1 := (hp1.below hb1).mono hb1.size
          replace hw1 := (hw1.below hb1).mono hb1.size
          replace HB := Lib.hid (HB.out.trans (hb1.mono hs))
          replace hs := Nat.le_trans hs hb1.size
          clear hb1
          go_wp2_with fail
          refine (CK w5 w5.heap.size A1 A2 A3 c1 c2 c3 hp1 hw1 ht1 (Nat.le_refl _)).mono ?_
          rintro e w6 ⟨rfl, hb1⟩
          replace a0 := kept hb1 a0
          replace a1 := kept hb1 a1
          replace hp := hp.below (hb1.mono hs)
          replace hw := hw.below (hb1.mono hs)
          replace ht := ht.below (hb1.mono hs)
          replace hp1 := (hp1.below hb1).mono hb1.size
          replace hw1 := (hw1.below hb1).mono hb1.size
          replace ht1 := (ht1.below hb1).mono hb1.size
          replace HB := Lib.hid (HB.out.trans (hb1.mono hs))
          replace hs := Nat.le_trans hs hb1.size
          clear hb1
          clear hp1 hw1 ht1
          go_wp2_with fail
          refine (CopyRooms_any w6 w.heap.size Ap Aw np cp nw cw pp ws HL.out HLW.out (by omega) (by omega) hp hw hs).mono ?_
          rintro e w7 ⟨A1, c1, A2, c2, rfl, hp1, hw1, hb1⟩
          replace a0 := kept hb1 a0
          replace a1 := kept hb1 a1
          replace hp := hp.below (hb1.mono hs)
          replace hw := hw.below (hb1.mono hs)
          replace ht := ht.below (hb1.mono hs)
          replace HB := Lib.hid (HB.out.trans (hb1.mono hs))
          replace hs := Nat.le_trans hs hb1.size
          clear hb1
          go_wp2_with fail
          refine (BC w7 w7.heap.size A1 A2 c1 c2 hp1 hw1 (Nat.le_refl _)).mono ?_
          rintro e w8 ⟨rfl, hb1⟩
          replace a0 := kept hb1 a0
          replace a1 := kept hb1 a1
          replace hp := hp.below (hb1.mono hs)
          replace hw := hw.below (hb1.mono hs)
          replace ht := ht.below (hb1.mono hs)
          replace hp1 := (hp1.below hb1).mono hb1.size
          replace hw1 := (hw1.below hb1).mono hb1.size
          replace HB := Lib.hid (HB.out.trans (hb1.mono hs))
          replace hs := Nat.le_trans hs hb1.size
          clear hb1
          clear hp1 hw1
          go_wp2_with fail
          refine (RE w8 w.heap.size Ap Aw cp cw hp hw hs).mono ?_
          rintro e w9 ⟨rfl, hb1⟩
          replace a0 := kept hb1 a0
          replace a1 := kept hb1 a1
          replace hp := hp.below (hb1.mono hs)
          replace hw := hw.below (hb1.mono hs)
          replace ht := ht.below (hb1.mono hs)
          replace HB := Lib.hid (HB.out.trans (hb1.mono hs))
          replace hs := Nat.le_trans hs hb1.size
          clear hb1
          go_wp2
          go_ret
          exact ⟨rfl, HB.out⟩
      · have h8i : (8 : Int) < (nt : Int) := by omega
        go_wp2
        go_ret
        exact ⟨rfl, HB.out⟩
end Go.Proofs.YtmcjnfghlpnghaaDoor

namespace Go.Proofs.YtmcjnfghlpnghaaDoor
open Go.RowKit

def IntsOwn (w : World) (l : List Int) (n : Nat) (e : Ending) (w' : World) : Prop :=
  ∃ g c, e = .returned (.slice (some ⟨g, 0, none⟩) n c) ∧ w'.ownsRow w.heap.size 3 1 (.slice (some ⟨g, 0, none⟩) n c) n (intCells l) ∧ Below w.heap.size w w'

set_option maxHeartbeats 1000000 in
theorem CopyInts_own (w : World) (B : Nat) (A : Option Addr) (n c : Nat) (l : List Int) (hl : l.length = n) (hn : n ≤ 1000000) (h : Rd w B A (intCells l)) (hB : B ≤ w.heap.size) :
    Calls Tryd.prog 54 #[.slice A n c] w (IntsOwn w l n) := by
  obtain ⟨i1, hi1, hy0, hy1, hy2⟩ := info_parts info3
  have HL := Lib.hid hl
  have h' := h.below (((Below.refl _ _).alloc (Nat.le_refl _) (.cells #[] 3) : Below w.heap.size w (w.alloc (.cells #[] 3))).mono hB)
  have hb0 : Below w.heap.size w (w.alloc (.cells #[] 3)) := (Below.refl _ _).alloc (Nat.le_refl _) _
  clear hl
  go_enter Tryd.func54, Tryd.ntmps54
  go_wp2_with (at_builtin; refine stp ?_)
  unfold Stp
  refine wpList_append_copy _ rfl _ _ 39 rfl w.heap.size 3 i1 _ 1 8 Tryd.underlying39 hi1 hy0 hy1 hy2 rfl (by omega) w.heap.size rfl (by rw [heapq_alloc, if_pos rfl]) (Nat.le_refl _) B A n c (intCells l) rfl (by rw [intCells_len, HL.out, Nat.mul_one]) h' (intCells_one l) (by simp only [maxLen]; omega) (by omega) (by simp) ?_
  intro g cap w1 hown hgrow _
  have hb1 : Below w.heap.size w w1 := hb0.grown hgrow (by simp) (fun k hk => by rw [← Option.some.inj hk]; exact Nat.le_refl _)
  have HR := Lib.hid hown
  have HB := Lib.hid hb1
  clear hown hgrow hb0 hb1 h h'
  go_wp2
  go_ret
  exact ⟨_, _, rfl, HR.out, HB.out⟩

def RoomsOwn (w : World) (pp : List Int) (ws : List Ev) (np nw : Nat) (e : Ending) (w' : World) : Prop :=
  ∃ g1 c1 g2 c2, e = .returned (.agg #[.slice (some ⟨g1, 0, none⟩) np c1, .slice (some ⟨g2, 0, none⟩) nw c2]) ∧ w'.ownsRow w.heap.size 3 1 (.slice (some ⟨g1, 0, none⟩) np c1) np (intCells pp) ∧ w'.ownsRow w.heap.size 92 3 (.slice (some ⟨g2, 0, none⟩) nw c2) nw (evCells ws) ∧ Below w.heap.size w w'

set_option maxRecDepth 100000 in
set_option maxHeartbeats 4000000 in
theorem CopyRooms_own (w : World) (B : Nat) (Ap Aw : Option Addr) (np cp nw cw : Nat) (pp : List Int) (ws : List Ev) (hl : pp.length = np) (hlw : ws.length = nw) (hn : np ≤ 1000000) (hm : nw ≤ 1000000) (hp : Rd w B Ap (intCells pp)) (hw : Rd w B Aw (evCells ws)) (hB : B ≤ w.heap.size) :
    Calls Tryd.prog 29 #[.agg #[.slice Ap np cp, .slice Aw nw cw]] w (RoomsOwn w pp ws np nw) := by
  obtain ⟨i1, hi1, hy0, hy1, hy2⟩ := info_parts info92
  have hb0 : Below w.heap.size w ((w.alloc (.cells #[.slice Ap np cp, .slice Aw nw cw] 42)).alloc (.cells #[.slice none 0 0, .slice none 0 0] 42)) := ((Below.refl _ _).alloc (Nat.le_refl _) _).alloc (by simp) _
  have k0 : ((w.alloc (.cells #[.slice Ap np cp, .slice Aw nw cw] 42)).alloc (.cells #[.slice none 0 0, .slice none 0 0] 42)).heap[w.heap.size]? = some (.cells #[.slice Ap np cp, .slice Aw nw cw] 42 (0, 0)) := by
    rw [heapq_alloc, if_neg (by simp), heapq_alloc, if_pos rfl]
  have k1 : ((w.alloc (.cells #[.slice Ap np cp, .slice Aw nw cw] 42)).alloc (.cells #[.slice none 0 0, .slice none 0 0] 42)).heap[w.heap.size + 1]? = some (.cells #[.slice none 0 0, .slice none 0 0] 42 (0, 0)) := by
    rw [heapq_alloc, if_pos (by simp)]
  have hp0 := hp.below (hb0.mono hB)
  have hw0 := hw.below (hb0.mono hB)
  have hs1 : w.heap.size ≤ ((w.alloc (.cells #[.slice Ap np cp, .slice Aw nw cw] 42)).alloc (.cells #[.slice none 0 0, .slice none 0 0] 42)).heap.size := by simp; omega
  have hx1 : w.heap.size + 1 < ((w.alloc (.cells #[.slice Ap np cp, .slice Aw nw cw] 42)).alloc (.cells #[.slice none 0 0, .slice none 0 0] 42)).heap.size := by simp
  have HB := Lib.hid hb0
  have HL := Lib.hid hl
  have HLW := Lib.hid hlw
  have K1 := Lib.hid k1
  have a0 : ((w.alloc (.cells #[.slice Ap np cp, .slice Aw nw cw] 42)).alloc (.cells #[.slice none 0 0, .slice none 0 0] 42)).cell? ⟨w.heap.size, 0, none⟩ = some (.slice Ap np cp) := (cell_of_row ((w.alloc (.cells #[.slice Ap np cp, .slice Aw nw cw] 42)).alloc (.cells #[.slice none 0 0, .slice none 0 0] 42)) w.heap.size 0 _ _ _ k0).trans rfl
  have a1 : ((w.alloc (.cells #[.slice Ap np cp, .slice Aw nw cw] 42)).alloc (.cells #[.slice none 0 0, .slice none 0 0] 42)).cell? ⟨w.heap.size, 1, none⟩ = some (.slice Aw nw cw) := (cell_of_row ((w.alloc (.cells #[.slice Ap np cp, .slice Aw nw cw] 42)).alloc (.cells #[.slice none 0 0, .slice none 0 0] 42)) w.heap.size 1 _ _ _ k0).trans rfl
  have HX := Lib.hid hx1
  clear hl hlw hp hw hb0 k0 k1 hx1
  go_enter Tryd.func29, Tryd.ntmps29
  go_upto_region 1 with (fail)
  generalize ((w.alloc (.cells #[.slice Ap np cp, .slice Aw nw cw] 42)).alloc (.cells #[.slice none 0 0, .slice none 0 0] 42)) = W0 at *
  have hBW : B ≤ W0.heap.size := Nat.le_trans hB hs1
  generalize hx : w.heap.size = x at *
  have HXX := Lib.hid hx
  clear hx
  have x0 := fun y : Xt W0 => y.cell a0
  have x1 := fun y : Xt W0 => y.cell a1
  refine wp_region_eager [7, 8] (fun w' => ∃ y : Xt W0, w' = y.1) (by kernel_rfl) ⟨⟨W0.drew, (Below.refl _ _).drew⟩, rfl⟩ ?_
  refine wpE_reads [0, 1, 4, 5] 5 rfl (by kernel_rfl) ?_
  simp only [opsAt_nil, opsAt_cons, consOpt_some, List.getElem?_toArray, List.getElem?_cons_zero, List.getElem?_cons_succ]
  repeat (go_big_quiet_step (fail))
  refine wpQuiet_nil ?_
  have hbd : Below W0.heap.size W0 W0.drew := (Below.refl _ _).drew
  show wpE _ _ _ _ _ _ _ _ _ W0.drew
  generalize W0.drew = wd at *
  clear x0 x1 a0 a1
  refine wpE_two (i := 2) (k := 3) rfl (by kernel_rfl) rfl rfl ?_ ?_
  · unfold wpMid
    simp only [opsAt_nil, opsAt_cons, consOpt_some, List.getElem?_toArray, List.getElem?_cons_zero, List.getElem?_cons_succ]
    go_wp2_with (go_at_call 54; refine (CopyInts_own wd B Ap np cp pp HL.out hn (hp0.below (hbd.mono hBW)) (Nat.le_trans hBW hbd.size)).mono ?_; rintro e w2 ⟨g1, cR, rfl, hR, hb2⟩)
    have hb02 := hbd.trans (hb2.mono hbd.size)
    refine onlyNormal_mk ⟨⟨⟨_, hb02⟩, rfl⟩, ?_⟩
    refine wpE_one (i := 3) rfl (by kernel_rfl) rfl ?_
    unfold wpMid
    simp only [opsAt_nil, opsAt_cons, consOpt_some, List.getElem?_toArray, List.getElem?_cons_zero, List.getElem?_cons_succ]
    go_wp2
    have hb03 : Below W0.heap.size W0 (w2.alloc (.cells #[] 92)) := hb02.alloc hb02.size _
    have gq : (w2.alloc (.cells #[] 92)).heap[w2.heap.size]? = some (.cells #[] 92 (0, 0)) := by rw [heapq_alloc, if_pos rfl]
    have hR3 := ownsRow_below hR ((Below.refl _ _).alloc (Nat.le_refl _) (.cells #[] 92))
    have hg : W0.heap.size ≤ w2.heap.size := hb02.size
    clear hR
    generalize w2.alloc (.cells #[] 92) = w3 at *
    generalize w2.heap.size = g at *
    refine onlyNormal_mk ⟨⟨⟨_, hb03⟩, rfl⟩, ?_⟩
    refine wpE_one (i := 6) rfl (by kernel_rfl) rfl ?_
    unfold wpMid
    simp only [opsAt_nil, opsAt_cons, consOpt_some, List.getElem?_toArray, List.getElem?_cons_zero, List.getElem?_cons_succ]
    have hrd := hw0.below (hb03.mono hBW)
    have hgl := lt_of_block gq
    have n3 : g1 ≠ g := Ne.symm (ownBlk_ne hR3 rfl gq (by decide))
    refine wpList_append_copy w3 rfl _ _ 40 rfl g 92 i1 _ 3 24 Tryd.underlying40 hi1 hy0 hy1 hy2 rfl (by omega) g rfl gq (Nat.le_refl _) B Aw nw cw (evCells ws) rfl (by rw [evCells_len, HLW.out]) hrd (evCells_one ws) (by simp only [maxLen]; omega) (by omega) (Nat.le_of_lt hgl) ?_
    intro G cG w4 hown hgrow _
    have hb4 : Below W0.heap.size W0 w4 := hb03.grown hgrow hb03.size (fun k hk => by rw [← Option.some.inj hk]; exact hg)
    have hG := ownBlk hown rfl
    have hR4 := hR3.kept hgrow (.inr (by simp only [Value.ownBlock]; exact fun h => n3 (Option.some.inj h)))
    have hk4 := (hb4.block (x + 1) HX.out).trans K1.out
    have n4 : x + 1 ≠ g1 := ownBlk_ne hR4 rfl hk4 (by decide)
    have s4 := hgrow.size
    have m4 : x + 1 ≠ G := ownBlk_ne hown rfl hk4 (by decide)
    have hxW : x ≤ W0.heap.size := by have := HX.out; omega
    have RPP := ownsRow_more hR4 (base' := x) (Nat.le_trans hxW hbd.size)
    have RWW := ownsRow_more hown (base' := x) (Nat.le_trans hxW hg)
    clear hrd n3 hown hgrow hR4 hk4
    refine onlyNormal_mk ⟨⟨⟨_, hb4⟩, rfl⟩, ?_⟩
    refine wpE_tail rfl (by kernel_rfl) ?_
    simp only [opsAt_nil, opsAt_cons, consOpt_some, List.getElem?_toArray, List.getElem?_cons_zero, List.getElem?_cons_succ]
    have hk := (hb4.block (x + 1) HX.out).trans K1.out
    have t0 := cell_of_row w4 (x + 1) 0 _ _ _ hk
    have t1 := cell_of_row w4 (x + 1) 1 _ _ _ hk
    simp at t0 t1
    have q0 := frozen_of_row w4 (x + 1) 0 _ _ hk
    have q1 := frozen_of_row w4 (x + 1) 1 _ _ hk
    have RP := Lib.hid RPP
    clear RPP
    have RW := Lib.hid RWW
    clear RWW
    have HBE := Lib.hid (HB.out.trans (hb4.mono hs1))
    clear hk
    go_wp2
    refine onlyNormal_mk ?_
    go_wp2
    refine bodyPost_ret (v := .agg #[.slice (some ⟨g1, 0, none⟩) np cR, .slice (some ⟨G, 0, none⟩) nw cG]) (by simp [results, Tryd.results29, go_sem, t0, t1]) rfl ⟨g1, cR, _, cG, rfl, ?_, ?_, ?_⟩
    · rw [HXX.out]
      exact ownsRow_setCell_other (ownsRow_setCell_other RP.out (by simp [Value.ownBlock]; omega) _) (by simp [Value.ownBlock]; omega) _
    · rw [HXX.out]
      exact ownsRow_setCell_other (ownsRow_setCell_other RW.out (by simp [Value.ownBlock]; omega) _) (by simp [Value.ownBlock]; omega) _
    · rw [HXX.out]
      exact (HBE.out.setCell (p := ⟨x + 1, 0, none⟩) (Nat.le_add_right x 1) _).setCell (p := ⟨x + 1, 1, none⟩) (Nat.le_add_right x 1) _
  · unfold wpMid
    simp only [opsAt_nil, opsAt_cons, consOpt_some, List.getElem?_toArray, List.getElem?_cons_zero, List.getElem?_cons_succ]
    go_wp2
    have hb02 : Below W0.heap.size W0 (wd.alloc (.cells #[] 92)) := hbd.alloc hbd.size _
    have gq2 : (wd.alloc (.cells #[] 92)).heap[wd.heap.size]? = some (.cells #[] 92 (0, 0)) := by rw [heapq_alloc, if_pos rfl]
    have hg : W0.heap.size ≤ wd.heap.size := hbd.size
    generalize wd.alloc (.cells #[] 92) = w2 at *
    generalize wd.heap.size = g at *
    refine onlyNormal_mk ⟨⟨⟨_, hb02⟩, rfl⟩, ?_⟩
    refine wpE_one (i := 2) rfl (by kernel_rfl) rfl ?_
    unfold wpMid
    simp only [opsAt_nil, opsAt_cons, consOpt_some, List.getElem?_toArray, List.getElem?_cons_zero, List.getElem?_cons_succ]
    go_wp2_with (go_at_call 54; refine (CopyInts_own w2 B Ap np cp pp HL.out hn (hp0.below (hb02.mono hBW)) (Nat.le_trans hBW hb02.size)).mono ?_; rintro e w3 ⟨g1, cR, rfl, hR3, hb3⟩)
    have hb03 := hb02.trans (hb3.mono hb02.size)
    have gq := (hb3.block g (lt_of_block gq2)).trans gq2
    refine onlyNormal_mk ⟨⟨⟨_, hb03⟩, rfl⟩, ?_⟩
    refine wpE_one (i := 6) rfl (by kernel_rfl) rfl ?_
    unfold wpMid
    simp only [opsAt_nil, opsAt_cons, consOpt_some, List.getElem?_toArray, List.getElem?_cons_zero, List.getElem?_cons_succ]
    have hrd := hw0.below (hb03.mono hBW)
    have hgl := lt_of_block gq
    have n3 : g1 ≠ g := Ne.symm (ownBlk_ne hR3 rfl gq (by decide))
    refine wpList_append_copy w3 rfl _ _ 40 rfl g 92 i1 _ 3 24 Tryd.underlying40 hi1 hy0 hy1 hy2 rfl (by omega) g rfl gq (Nat.le_refl _) B Aw nw cw (evCells ws) rfl (by rw [evCells_len, HLW.out]) hrd (evCells_one ws) (by simp only [maxLen]; omega) (by omega) (Nat.le_of_lt hgl) ?_
    intro G cG w4 hown hgrow _
    have hb4 : Below W0.heap.size W0 w4 := hb03.grown hgrow hb03.size (fun k hk => by rw [← Option.some.inj hk]; exact hg)
    have hG := ownBlk hown rfl
    have hR4 := hR3.kept hgrow (.inr (by simp only [Value.ownBlock]; exact fun h => n3 (Option.some.inj h)))
    have hk4 := (hb4.block (x + 1) HX.out).trans K1.out
    have n4 : x + 1 ≠ g1 := ownBlk_ne hR4 rfl hk4 (by decide)
    have s4 := hgrow.size
    have m4 : x + 1 ≠ G := ownBlk_ne hown rfl hk4 (by decide)
    have hxW : x ≤ W0.heap.size := by have := HX.out; omega
    have RPP := ownsRow_more hR4 (base' := x) (Nat.le_trans hxW hb02.size)
    have RWW := ownsRow_more hown (base' := x) (Nat.le_trans hxW hg)
    clear hrd n3 hown hgrow hR4 hk4
    refine onlyNormal_mk ⟨⟨⟨_, hb4⟩, rfl⟩, ?_⟩
    refine wpE_tail rfl (by kernel_rfl) ?_
    simp only [opsAt_nil, opsAt_cons, consOpt_some, List.getElem?_toArray, List.getElem?_cons_zero, List.getElem?_cons_succ]
    have hk := (hb4.block (x + 1) HX.out).trans K1.out
    have t0 := cell_of_row w4 (x + 1) 0 _ _ _ hk
    have t1 := cell_of_row w4 (x + 1) 1 _ _ _ hk
    simp at t0 t1
    have q0 := frozen_of_row w4 (x + 1) 0 _ _ hk
    have q1 := frozen_of_row w4 (x + 1) 1 _ _ hk
    have RP := Lib.hid RPP
    clear RPP
    have RW := Lib.hid RWW
    clear RWW
    have HBE := Lib.hid (HB.out.trans (hb4.mono hs1))
    clear hk
    go_wp2
    refine onlyNormal_mk ?_
    go_wp2
    refine bodyPost_ret (v := .agg #[.slice (some ⟨g1, 0, none⟩) np cR, .slice (some ⟨G, 0, none⟩) nw cG]) (by simp [results, Tryd.results29, go_sem, t0, t1]) rfl ⟨g1, cR, _, cG, rfl, ?_, ?_, ?_⟩
    · rw [HXX.out]
      exact ownsRow_setCell_other (ownsRow_setCell_other RP.out (by simp [Value.ownBlock]; omega) _) (by simp [Value.ownBlock]; omega) _
    · rw [HXX.out]
      exact ownsRow_setCell_other (ownsRow_setCell_other RW.out (by simp [Value.ownBlock]; omega) _) (by simp [Value.ownBlock]; omega) _
    · rw [HXX.out]
      exact (HBE.out.setCell (p := ⟨x + 1, 0, none⟩) (Nat.le_add_right x 1) _).setCell (p := ⟨x + 1, 1, none⟩) (Nat.le_add_right x 1) _

theorem evCells_set : ∀ (l : List Ev) (j : Nat) (f t m m' : Int), l[j]? = some (f, t, m) → (evCells l).set (j * 3 + 2) (.int .i64 m') = evCells (l.set j (f, t, m'))
  | [], j, _, _, _, _, h => by simp at h
  | a :: l, 0, f, t, m, m', h => by
    obtain rfl : a = (f, t, m) := by simpa using h
    simp [evCells]
  | a :: l, j + 1, f, t, m, m', h => by
    have ih := evCells_set l j f t m m' (by simpa using h)
    have e : ∀ (b : Ev) (k : List Ev), evCells (b :: k) = [.int .i64 b.1, .int .i64 b.2.1, .int .i64 b.2.2] ++ evCells k := fun b k => by simp [evCells]
    rw [List.set_cons_succ, e, e, ← ih, show (j + 1) * 3 + 2 = j * 3 + 2 + 3 by omega, List.set_append_right _ _ (by simp)]
    simp

/-- an owned row after a store into it -/
theorem own_set {w : World} {B e size n g c i : Nat} {xs : List Value} (h : w.ownsRow B e size (.slice (some ⟨g, 0, none⟩) n c) n xs) (v : Value) :
    (w.setCell ⟨g, i, none⟩ v).ownsRow B e size (.slice (some ⟨g, 0, none⟩) n c) n (xs.set i v) := by
  obtain ⟨h1, h2⟩ := h
  refine ⟨by simpa using h1, ?_⟩
  rcases h2 with ⟨h2, _⟩ | ⟨g', cap, cur, h2, h3, h4, h5, h6, h7, h8⟩
  · simp at h2
  · simp only [Value.slice.injEq, Option.some.injEq, Addr.mk.injEq, and_true, true_and] at h2
    obtain ⟨rfl, rfl⟩ := h2
    refine .inr ⟨g, c, cur.setIfInBounds i v, rfl, h3, ?_, h5, h6, by simpa using h7, ?_⟩
    · rw [heapq_set, if_pos rfl, h4]
      simp [objSet_cells]
    · rw [Array.toList_setIfInBounds, ← h8, List.take_set]
theorem own_cell {w : World} {B e size n g c i : Nat} {xs : List Value} (h : w.ownsRow B e size (.slice (some ⟨g, 0, none⟩) n c) n xs) {v : Value} (hv : xs[i]? = some v) : w.cell? ⟨g, i, none⟩ = some v ∧ w.frozen? ⟨g, i, none⟩ = false ∧ B ≤ g ∧ g < w.heap.size := by
  obtain ⟨b, off, hA, hb, hc⟩ := Rd_of_own h i v hv
  simp only [Option.some.injEq, Addr.mk.injEq, and_true] at hA
  obtain ⟨rfl, rfl⟩ := hA
  rw [Nat.zero_add] at hc
  obtain ⟨g1, g2, cur, hcur⟩ := ownBlk h rfl
  exact ⟨hc, frozen_of_row w g i _ _ hcur, g1, g2⟩

theorem unlessE_true {b : Bool} {e : Int} (h : b = true) : unlessE b e = 0 := by rw [h]; rfl
theorem wayE_ok {np : Nat} {x : Ev} (h : 0 ≤ x.1 ∧ x.1 < np ∧ (x.2.1 = -1 ∨ 0 ≤ x.2.1 ∧ x.2.1 < np) ∧ x.1 ≠ x.2.1 ∧ 1 ≤ x.2.2 ∧ x.2.2 ≤ 10000) : wayE np x = 0 := by
  rw [wayE_eq]
  have h1 : (withinB x.1 0 ((np : Int) - 1) && withinB x.2.1 (-1) ((np : Int) - 1)) = true := by
    simp only [withinB, Bool.and_eq_true, decide_eq_true_eq]
    omega
  have h2 : (x.1 == x.2.1) = false := beq_eq_false_iff_ne.2 h.2.2.2.1
  have h3 : withinB x.2.2 1 10000 = true := by
    simp only [withinB, Bool.and_eq_true, decide_eq_true_eq]
    omega
  rw [h1, h2, h3]
  rfl
theorem waysGo_ok {np : Nat} : ∀ (l : List Ev) (i : Nat), (∀ x ∈ l, wayE np x = 0) → (waysGo np l i).2 = 0
  | [], i, _ => rfl
  | y :: l, i, h => by
    unfold waysGo
    rw [if_pos (h y (by simp))]
    exact waysGo_ok l (i + 1) fun x hx => h x (by simp [hx])
theorem roomsM_ok {pp : List Int} {ws : List Ev} (h : RoomsOk pp ws) : (roomsM pp ws).2 = 0 := by
  unfold roomsM
  rw [if_neg (by have := h.some_; omega), if_pos ⟨h.few, h.fewW⟩, if_neg]
  · exact waysGo_ok ws 0 fun x hx => wayE_ok (h.ways x hx)
  · have h3 := idxGo_nonneg notCrowdB pp 0
    have h4 : pp.any notCrowdB = false := by
      rw [List.any_eq_false]
      intro x hx
      have := h.people x hx
      simp [notCrowdB, isCrowdB, withinB]
      omega
    rw [h4] at h3
    intro h5
    rw [decide_eq_true h5] at h3
    cases h3
theorem RoomsOk.set {pp : List Int} {ws : List Ev} (h : RoomsOk pp ws) {j : Nat} {f t m m' : Int} (hj : ws[j]? = some (f, t, m)) (h1 : m ≤ m') (h2 : m' ≤ 10000) : RoomsOk pp (ws.set j (f, t, m')) where
  some_ := h.some_
  few := h.few
  fewW := by simpa using h.fewW
  people := h.people
  ways := fun x hx => by
    rcases List.mem_or_eq_of_mem_set hx with hx | rfl
    · exact h.ways x hx
    · have := h.ways _ (List.mem_of_getElem? hj)
      simp only at this ⊢
      omega
end Go.Proofs.YtmcjnfghlpnghaaDoor

namespace Go.Proofs.YtmcjnfghlpnghaaDoor
open Go.RowKit

theorem ends_v {pp : List Int} {ws : List Ev} (ok : RoomsOk pp ws) : ∃ v : Nat → Int, (∀ t, t ≤ 20 → ∃ F r, FlEnd pp ws t F r ∧ F.o = v t) ∧ ∀ d a : Nat, a + d ≤ 20 → v a ≤ v (a + d) := by
  have h : ∀ t : Nat, ∃ o : Int, t ≤ 20 → ∃ F r, FlEnd pp ws t F r ∧ F.o = o := fun t => by
    by_cases ht : t ≤ 20
    · obtain ⟨F, r, h⟩ := cut_best ok t ht
      exact ⟨F.o, fun _ => ⟨F, r, h, rfl⟩⟩
    · exact ⟨0, fun h => absurd h ht⟩
  obtain ⟨v, hv⟩ := Classical.axiomOfChoice h
  refine ⟨v, hv, fun d => ?_⟩
  induction d with
  | zero => intro a _; exact Int.le_refl _
  | succ d ih =>
    intro a ha
    obtain ⟨F, r, h1, h2⟩ := hv (a + d) (by omega)
    obtain ⟨F', r', h1', h2'⟩ := hv (a + d + 1) (by omega)
    have := out_mono ok h1 h1'
    rw [h2, h2'] at this
    exact Int.le_trans (ih a (by omega)) this
theorem rtE_ok {pp : List Int} {ws : List Ev} (ok : RoomsOk pp ws) {t : Nat} (ht : t ≤ 20) : rtE pp ws (t : Int) = 0 := by
  rw [rtE_ticks (roomsM_ok ok)]
  unfold ticksE
  refine unlessE_true ?_
  simp only [withinB, Bool.and_eq_true, decide_eq_true_eq]
  omega

set_option maxRecDepth 100000 in
set_option maxHeartbeats 16000000 in
theorem CareNoMoreOut_all (w : World) (Ap Aw At : Option Addr) (np cp nw cw nt ct : Nat) (pp : List Int) (ws : List Ev) (tm : List Int) (n0 n1 n2 : Int) (hk : KindsAt w) (hl : pp.length = np) (hlw : ws.length = nw) (hlt : tm.length = nt)
    (hp : Rd w w.heap.size Ap (intCells pp)) (hw : Rd w w.heap.size Aw (evCells ws)) (ht : Rd w w.heap.size At (intCells tm)) :
    Calls Tryd.prog 11 #[.agg #[.slice Ap np cp, .slice Aw nw cw], .slice At nt ct, .agg #[.int .i64 n0, .int .i64 n1, .int .i64 n2]] w (AwakePost w) := by
  have hb0 : Below w.heap.size w ((w.alloc (.cells #[.slice Ap np cp, .slice Aw nw cw] 42)).alloc (.cells #[.int .i64 n0, .int .i64 n1, .int .i64 n2] 90)) := ((Below.refl _ _).alloc (Nat.le_refl _) _).alloc (by simp) _
  replace hp := hp.below hb0
  replace hw := hw.below hb0
  replace ht := ht.below hb0
  have hs : w.heap.size ≤ ((w.alloc (.cells #[.slice Ap np cp, .slice Aw nw cw] 42)).alloc (.cells #[.int .i64 n0, .int .i64 n1, .int .i64 n2] 90)).heap.size := hb0.size
  have k0 : ((w.alloc (.cells #[.slice Ap np cp, .slice Aw nw cw] 42)).alloc (.cells #[.int .i64 n0, .int .i64 n1, .int .i64 n2] 90)).heap[w.heap.size]? = some (.cells #[.slice Ap np cp, .slice Aw nw cw] 42 (0, 0)) := by rw [heapq_alloc, if_neg (by simp), heapq_alloc, if_pos rfl]
  have k1 : ((w.alloc (.cells #[.slice Ap np cp, .slice Aw nw cw] 42)).alloc (.cells #[.int .i64 n0, .int .i64 n1, .int .i64 n2] 90)).heap[w.heap.size + 1]? = some (.cells #[.int .i64 n0, .int .i64 n1, .int .i64 n2] 90 (0, 0)) := by rw [heapq_alloc, if_pos (by simp)]
  have a0 : ((w.alloc (.cells #[.slice Ap np cp, .slice Aw nw cw] 42)).alloc (.cells #[.int .i64 n0, .int .i64 n1, .int .i64 n2] 90)).cell? ⟨w.heap.size, 0, none⟩ = some (.slice Ap np cp) := (cell_of_row _ _ 0 _ _ _ k0).trans rfl
  have a1 : ((w.alloc (.cells #[.slice Ap np cp, .slice Aw nw cw] 42)).alloc (.cells #[.int .i64 n0, .int .i64 n1, .int .i64 n2] 90)).cell? ⟨w.heap.size, 1, none⟩ = some (.slice Aw nw cw) := (cell_of_row _ _ 1 _ _ _ k0).trans rfl
  obtain ⟨m0, m1, m2⟩ := cells3w k1
  have A0 := awake_any _ (hk.below hb0)
  have HB := Lib.hid hb0
  have HL := Lib.hid hl
  have HLW := Lib.hid hlw
  have HLT := Lib.hid hlt
  clear hl hlw hlt hb0 k0 k1 hk
  go_enter Tryd.func11, Tryd.ntmps11
  go_upto_region 1 with (fail)
  generalize ((w.alloc (.cells #[.slice Ap np cp, .slice Aw nw cw] 42)).alloc (.cells #[.int .i64 n0, .int .i64 n1, .int .i64 n2] 90)) = w0 at *
  go_wp2_with fail
  refine (A0).mono ?_
  rintro e w1 ⟨rfl, hb1⟩
  replace a0 := kept hb1 a0
  replace a1 := kept hb1 a1
  replace m0 := kept hb1 m0
  replace m1 := kept hb1 m1
  replace m2 := kept hb1 m2
  replace hp := hp.below (hb1.mono hs)
  replace hw := hw.below (hb1.mono hs)
  replace ht := ht.below (hb1.mono hs)
  replace HB := Lib.hid (HB.out.trans (hb1.mono hs))
  replace hs := Nat.le_trans hs hb1.size
  clear hb1
  clear A0
  cases hr : roomsB np nw with
  | false =>
    have RB := rooms_any w1 Ap Aw np cp nw cw false hr
    clear hr
    go_wp2_with fail
    refine RB.mono ?_
    rintro e w2 ⟨rfl, hb1⟩
    go_wp2
    go_ret
    exact ⟨rfl, HB.out.trans (hb1.mono hs)⟩
  | true =>
    have RB := rooms_any w1 Ap Aw np cp nw cw true hr
    have g1 : np ≤ 8 ∧ nw ≤ 18 := by
      simp only [roomsB, Bool.and_eq_true, Bool.or_eq_true, decide_eq_true_eq] at hr
      omega
    obtain ⟨g1, g2⟩ := g1
    clear hr
    go_wp2_with fail
    refine (RB).mono ?_
    rintro e w2 ⟨rfl, hb1⟩
    replace a0 := kept hb1 a0
    replace a1 := kept hb1 a1
    replace m0 := kept hb1 m0
    replace m1 := kept hb1 m1
    replace m2 := kept hb1 m2
    replace hp := hp.below (hb1.mono hs)
    replace hw := hw.below (hb1.mono hs)
    replace ht := ht.below (hb1.mono hs)
    replace HB := Lib.hid (HB.out.trans (hb1.mono hs))
    replace hs := Nat.le_trans hs hb1.size
    clear hb1
    clear RB
    have RE := RoomsErr_any w2 w.heap.size Ap Aw np cp nw cw pp ws HL.out HLW.out hp hw hs
    unfold ErrVal at RE
    by_cases hd : (roomsM pp ws).2 = 0
    · rw [hd] at RE
      go_wp2_with fail
      refine (RE).mono ?_
      rintro e w3 ⟨rfl, hb1⟩
      replace a0 := kept hb1 a0
      replace a1 := kept hb1 a1
      replace m0 := kept hb1 m0
      replace m1 := kept hb1 m1
      replace m2 := kept hb1 m2
      replace hp := hp.below (hb1.mono hs)
      replace hw := hw.below (hb1.mono hs)
      replace ht := ht.below (hb1.mono hs)
      replace HB := Lib.hid (HB.out.trans (hb1.mono hs))
      replace hs := Nat.le_trans hs hb1.size
      clear hb1
      clear RE
      cases hq0 : withinB n0 0 6 with
      | false =>
        have WQ := fun W => Within_val n0 0 6 false hq0 W
        clear hq0
        go_wp2_with (go_at_call 49; refine (WQ _).mono ?_; rintro e w' ⟨rfl, rfl⟩)
        go_ret
        exact ⟨rfl, HB.out⟩
      | true =>
        have WQ := fun W => Within_val n0 0 6 true hq0 W
        have hT6 : 0 ≤ n0 ∧ n0 ≤ 6 := by simpa [withinB] using hq0
        clear hq0
        obtain ⟨hT0, hT6⟩ := hT6
        obtain ⟨T, rfl⟩ := Int.eq_ofNat_of_zero_le hT0
        have hT : T ≤ 6 := by omega
        by_cases h8 : nt ≤ 8
        · have h8i : ¬ (8 : Int) < (nt : Int) := by omega
          have ok := roomsOk_of hd
          have hn6 : np ≤ 6 := by rw [← HL.out]; exact ok.few
          obtain ⟨v, hv, hmono⟩ := ends_v ok
          obtain ⟨F, r, hE, hFo⟩ := hv T (by omega)
          have OB := fun (t : Nat) (ht : t ≤ 20) W B A1 A2 c1 c2 (h1 : Rd W B A1 (intCells pp)) (h2 : Rd W B A2 (evCells ws)) (h3 : B ≤ W.heap.size) => (show Calls Tryd.prog 30 #[.agg #[.slice A1 np c1, .slice A2 nw c2], .int .i64 t] W (LeastPost W (v t) 0) by
            obtain ⟨F', r', h5, h6⟩ := hv t ht
            rw [← h6]
            exact OutBy_yes W B A1 A2 np c1 nw c2 pp ws HL.out HLW.out h1 h2 h3 t (rtE_ok ok ht) 60001 129 F' h5.run)
          have OB0 := OB T (by omega)
          have OB1 := OB (T + 1) (by omega)
          simp only [Int.natCast_add, Int.natCast_one] at OB1
          have PE := fun W B A1 A2 c1 c2 (h1 : Rd W B A1 (intCells pp)) (h2 : Rd W B A2 (evCells ws)) (h3 : B ≤ W.heap.size) => People_any W B A1 A2 np c1 nw c2 pp HL.out h1 h3 hn6 ok.people
          have BC := fun W B A1 A2 c1 c2 (h1 : Rd W B A1 (intCells pp)) (h2 : Rd W B A2 (evCells ws)) (h3 : B ≤ W.heap.size) => BestCut_yes W B A1 A2 np c1 nw c2 pp ws HL.out HLW.out h1 h2 h3 T (rtE_ok ok (by omega)) F r hE
          have h4L : err4 pp ws np np (cutM np T r) (T : Int) = 0 := by
            rw [err4_cut hd (by have := rtE_ok ok (t := T) (by omega); rwa [rtE_ticks hd] at this) (cutM_len np T r)]
            exact cutE_ok (cutM_ok np T r)
          have CK1 := fun W B A1 A2 A3 c1 c2 c3 (h1 : Rd W B A1 (intCells pp)) (h2 : Rd W B A2 (evCells ws)) (h4 : Rd W B A3 (intCells (cutM np T r))) (h3 : B ≤ W.heap.size) => (CheckCut_yes W B A1 A2 A3 np c1 nw c2 np c3 pp ws (cutM np T r) (T : Int) HL.out HLW.out (cutM_len np T r) (by omega) h1 h2 h4 h3 h4L).mono fun e w' ⟨T', hT', h⟩ => (show LeastPost W (v T) 0 e w' by
            obtain rfl := Int.ofNat_inj.1 hT'
            rw [← hFo, hE.best, HL.out]
            exact h)
          have LT := fun (r : Option Nat) (hr : leastGo v (sumL pp) (T + 1) 0 = r) W B A1 A2 c1 c2 (h1 : Rd W B A1 (intCells pp)) (h2 : Rd W B A2 (evCells ws)) (h3 : B ≤ W.heap.size) => LeastTime_any W B A1 A2 np c1 nw c2 pp ws HL.out HLW.out h1 h2 h3 hd T (by omega) v (fun t ht => by
            obtain ⟨F', r', h5, h6⟩ := hv t (by omega)
            exact ⟨_, _, F', h5.run, h6⟩) r hr
          have ho0 : 0 ≤ v T := by rw [← hFo]; exact hE.nonneg
          have hos : v T ≤ sumL pp := by rw [← hFo]; exact hE.sum
          have ho1 : v T ≤ v (T + 1) := hmono 1 T (by omega)
          have HMO : Hid (∀ (j : Nat) (f t m m' : Int), ws[j]? = some (f, t, m) → m ≤ m' → m' ≤ 10000 → ∃ F' r', FlEnd pp (ws.set j (f, t, m')) T F' r' ∧ v T ≤ F'.o ∧ RoomsOk pp (ws.set j (f, t, m'))) := fun j f t m m' hj h1 h2 => by
            have ok' := ok.set hj h1 h2
            obtain ⟨F', r', h5⟩ := cut_best ok' T (by omega)
            exact ⟨F', r', h5, by rw [← hFo]; exact out_more hE hj h1 h5, ok'⟩
          unfold LeastPost at OB0 OB1 CK1
          by_cases hce : err4 pp ws np nt tm (T : Int) = 0
          · cases hrr : leastGo v (sumL pp) (T + 1) 0 with
            | none =>
              have CUT : CutOk np T tm := (err4_zero HLT.out hce).elim fun _ ⟨T', h1, _, h2⟩ => (by rw [Int.ofNat_inj.1 h1]; exact h2)
              have CK2 := fun W B A1 A2 A3 c1 c2 c3 (h1 : Rd W B A1 (intCells pp)) (h2 : Rd W B A2 (evCells ws)) (h4 : Rd W B A3 (intCells tm)) (h3 : B ≤ W.heap.size) => (CheckCut_yes W B A1 A2 A3 np c1 nw c2 nt c3 pp ws tm (T : Int) HL.out HLW.out HLT.out (by omega) h1 h2 h4 h3 hce).mono fun e w' ⟨T', hT', h⟩ => (show LeastPost W (boundM pp ws tm T) 0 e w' by
                rw [Int.ofNat_inj.1 hT']
                exact h)
              have hbd : v T ≤ boundM pp ws tm T := by rw [← hFo]; exact hE.all tm
              unfold LeastPost at CK2
              have LE := LT none hrr
              simp only [leastN, leastE] at LE
              unfold LeastPost at LE
              have hsl : v T < sumL pp := by
                have := (leastGo_spec (v := v) (s := sumL pp) (T + 1) 0).2 hrr T (Nat.zero_le _) (by omega)
                omega
              generalize boundM pp ws tm T = bd at *
              clear hd hv hmono hE hFo h4L ok OB LT hrr hce
              generalize v T = o at *
              generalize v (T + 1) = o1 at *
              generalize sumL pp = s at *
              generalize hLe : cutM np T r = L at *
              have HLL : Hid (L.length = np) := by rw [Hid, ← hLe]; exact cutM_len np T r
              clear hLe
              go_wp2_with (go_at_call 49; refine (WQ _).mono ?_; rintro e w' ⟨rfl, rfl⟩)
              refine (CopyRooms_any w3 w.heap.size Ap Aw np cp nw cw pp ws HL.out HLW.out (by omega) (by omega) hp hw hs).mono ?_
              rintro e w4 ⟨A1, c1, A2, c2, rfl, hp1, hw1, hb1⟩
              replace a0 := kept hb1 a0
              replace a1 := kept hb1 a1
              replace m0 := kept hb1 m0
              replace m1 := kept hb1 m1
              replace m2 := kept hb1 m2
              replace hp := hp.below (hb1.mono hs)
              replace hw := hw.below (hb1.mono hs)
              replace ht := ht.below (hb1.mono hs)
              replace HB := Lib.hid (HB.out.trans (hb1.mono hs))
              replace hs := Nat.le_trans hs hb1.size
              clear hb1
              go_wp2_with fail
              refine (OB0 w4 w4.heap.size A1 A2 c1 c2 hp1 hw1 (Nat.le_refl _)).mono ?_
              rintro e w5 ⟨rfl, hb1⟩
              replace a0 := kept hb1 a0
              replace a1 := kept hb1 a1
              replace m0 := kept hb1 m0
              replace m1 := kept hb1 m1
              replace m2 := kept hb1 m2
              replace hp := hp.below (hb1.mono hs)
              replace hw := hw.below (hb1.mono hs)
              replace ht := ht.below (hb1.mono hs)
              replace hp1 := (hp1.below hb1).mono hb1.size
              replace hw1 := (hw1.below hb1).mono hb1.size
              replace HB := Lib.hid (HB.out.trans (hb1.mono hs))
              replace hs := Nat.le_trans hs hb1.size
              clear hb1
              clear hp1 hw1
              go_wp2_with fail
              refine (CopyRooms_any w5 w.heap.size Ap Aw np cp nw cw pp ws HL.out HLW.out (by omega) (by omega) hp hw hs).mono ?_
              rintro e w6 ⟨A1, c1, A2, c2, rfl, hp1, hw1, hb1⟩
              replace a0 := kept hb1 a0
              replace a1 := kept hb1 a1
              replace m0 := kept hb1 m0
              replace m1 := kept hb1 m1
              replace m2 := kept hb1 m2
              replace hp := hp.below (hb1.mono hs)
              replace hw := hw.below (hb1.mono hs)
              replace ht := ht.below (hb1.mono hs)
              replace HB := Lib.hid (HB.out.trans (hb1.mono hs))
              replace hs := Nat.le_trans hs hb1.size
              clear hb1
              go_wp2_with fail
              refine (BC w6 w6.heap.size A1 A2 c1 c2 hp1 hw1 (Nat.le_refl _)).mono ?_
              rintro e w7 ⟨A4, c4, rfl, hL, hb1⟩
              replace a0 := kept hb1 a0
              replace a1 := kept hb1 a1
              replace m0 := kept hb1 m0
              replace m1 := kept hb1 m1
              replace m2 := kept hb1 m2
              replace hp := hp.below (hb1.mono hs)
              replace hw := hw.below (hb1.mono hs)
              replace ht := ht.below (hb1.mono hs)
              replace hp1 := (hp1.below hb1).mono hb1.size
              replace hw1 := (hw1.below hb1).mono hb1.size
              replace HB := Lib.hid (HB.out.trans (hb1.mono hs))
              replace hs := Nat.le_trans hs hb1.size
              clear hb1
              clear hp1 hw1
              go_wp2_with fail
              refine (CopyRooms_any w7 w.heap.size Ap Aw np cp nw cw pp ws HL.out HLW.out (by omega) (by omega) hp hw hs).mono ?_
              rintro e w8 ⟨A1, c1, A2, c2, rfl, hp1, hw1, hb1⟩
              replace a0 := kept hb1 a0
              replace a1 := kept hb1 a1
              replace m0 := kept hb1 m0
              replace m1 := kept hb1 m1
              replace m2 := kept hb1 m2
              replace hp := hp.below (hb1.mono hs)
              replace hw := hw.below (hb1.mono hs)
              replace ht := ht.below (hb1.mono hs)
              replace hL := (hL.below hb1).mono hb1.size
              replace HB := Lib.hid (HB.out.trans (hb1.mono hs))
              replace hs := Nat.le_trans hs hb1.size
              clear hb1
              go_wp2_with fail
              refine (CopyInts_any w8 w8.heap.size A4 np c4 L HLL.out (by omega) hL (Nat.le_refl _)).mono ?_
              rintro e w9 ⟨A3, c3, rfl, ht1, hb1⟩
              replace a0 := kept hb1 a0
              replace a1 := kept hb1 a1
              replace m0 := kept hb1 m0
              replace m1 := kept hb1 m1
              replace m2 := kept hb1 m2
              replace hp := hp.below (hb1.mono hs)
              replace hw := hw.below (hb1.mono hs)
              replace ht := ht.below (hb1.mono hs)
              replace hL := (hL.below hb1).mono hb1.size
              replace hp1 := (hp1.below hb1).mono hb1.size
              replace hw1 := (hw1.below hb1).mono hb1.size
              replace HB := Lib.hid (HB.out.trans (hb1.mono hs))
              replace hs := Nat.le_trans hs hb1.size
              clear hb1
              clear hL
              go_wp2_with fail
              refine (CK1 w9 w9.heap.size A1 A2 A3 c1 c2 c3 hp1 hw1 ht1 (Nat.le_refl _)).mono ?_
              rintro e w10 ⟨rfl, hb1⟩
              replace a0 := kept hb1 a0
              replace a1 := kept hb1 a1
              replace m0 := kept hb1 m0
              replace m1 := kept hb1 m1
              replace m2 := kept hb1 m2
              replace hp := hp.below (hb1.mono hs)
              replace hw := hw.below (hb1.mono hs)
              replace ht := ht.below (hb1.mono hs)
              replace hp1 := (hp1.below hb1).mono hb1.size
              replace hw1 := (hw1.below hb1).mono hb1.size
              replace ht1 := (ht1.below hb1).mono hb1.size
              replace HB := Lib.hid (HB.out.trans (hb1.mono hs))
              replace hs := Nat.le_trans hs hb1.size
              clear hb1
              clear hp1 hw1 ht1
              go_wp2_with fail
              refine (PE w10 w.heap.size Ap Aw cp cw hp hw hs).mono ?_
              rintro e w11 ⟨rfl, hb1⟩
              replace a0 := kept hb1 a0
              replace a1 := kept hb1 a1
              replace m0 := kept hb1 m0
              replace m1 := kept hb1 m1
              replace m2 := kept hb1 m2
              replace hp := hp.below (hb1.mono hs)
              replace hw := hw.below (hb1.mono hs)
              replace ht := ht.below (hb1.mono hs)
              replace HB := Lib.hid (HB.out.trans (hb1.mono hs))
              replace hs := Nat.le_trans hs hb1.size
              clear hb1
              go_wp2_with fail
              refine (CopyRooms_any w11 w.heap.size Ap Aw np cp nw cw pp ws HL.out HLW.out (by omega) (by omega) hp hw hs).mono ?_
              rintro e w12 ⟨A1, c1, A2, c2, rfl, hp1, hw1, hb1⟩
              replace a0 := kept hb1 a0
              replace a1 := kept hb1 a1
              replace m0 := kept hb1 m0
              replace m1 := kept hb1 m1
              replace m2 := kept hb1 m2
              replace hp := hp.below (hb1.mono hs)
              replace hw := hw.below (hb1.mono hs)
              replace ht := ht.below (hb1.mono hs)
              replace HB := Lib.hid (HB.out.trans (hb1.mono hs))
              replace hs := Nat.le_trans hs hb1.size
              clear hb1
              go_wp2_with fail
              refine (CopyInts_any w12 w.heap.size At nt ct tm HLT.out (by omega) ht hs).mono ?_
              rintro e w13 ⟨A3, c3, rfl, ht1, hb1⟩
              replace a0 := kept hb1 a0
              replace a1 := kept hb1 a1
              replace m0 := kept hb1 m0
              replace m1 := kept hb1 m1
              replace m2 := kept hb1 m2
              replace hp := hp.below (hb1.mono hs)
              replace hw := hw.below (hb1.mono hs)
              replace ht := ht.below (hb1.mono hs)
              replace hp1 := (hp1.below hb1).mono hb1.size
              replace hw1 := (hw1.below hb1).mono hb1.size
              replace HB := Lib.hid (HB.out.trans (hb1.mono hs))
              replace hs := Nat.le_trans hs hb1.size
              clear hb1
              go_wp2_with fail
              refine (CK2 w13 w13.heap.size A1 A2 A3 c1 c2 c3 hp1 hw1 ht1 (Nat.le_refl _)).mono ?_
              rintro e w14 ⟨rfl, hb1⟩
              replace a0 := kept hb1 a0
              replace a1 := kept hb1 a1
              replace m0 := kept hb1 m0
              replace m1 := kept hb1 m1
              replace m2 := kept hb1 m2
              replace hp := hp.below (hb1.mono hs)
              replace hw := hw.below (hb1.mono hs)
              replace ht := ht.below (hb1.mono hs)
              replace hp1 := (hp1.below hb1).mono hb1.size
              replace hw1 := (hw1.below hb1).mono hb1.size
              replace ht1 := (ht1.below hb1).mono hb1.size
              replace HB := Lib.hid (HB.out.trans (hb1.mono hs))
              replace hs := Nat.le_trans hs hb1.size
              clear hb1
              clear hp1 hw1 ht1
              go_wp2_with fail
              refine (CopyRooms_any w14 w.heap.size Ap Aw np cp nw cw pp ws HL.out HLW.out (by omega) (by omega) hp hw hs).mono ?_
              rintro e w15 ⟨A1, c1, A2, c2, rfl, hp1, hw1, hb1⟩
              replace a0 := kept hb1 a0
              replace a1 := kept hb1 a1
              replace m0 := kept hb1 m0
              replace m1 := kept hb1 m1
              replace m2 := kept hb1 m2
              replace hp := hp.below (hb1.mono hs)
              replace hw := hw.below (hb1.mono hs)
              replace ht := ht.below (hb1.mono hs)
              replace HB := Lib.hid (HB.out.trans (hb1.mono hs))
              replace hs := Nat.le_trans hs hb1.size
              clear hb1
              go_wp2_with fail
              refine (OB1 w15 w15.heap.size A1 A2 c1 c2 hp1 hw1 (Nat.le_refl _)).mono ?_
              rintro e w16 ⟨rfl, hb1⟩
              replace a0 := kept hb1 a0
              replace a1 := kept hb1 a1
              replace m0 := kept hb1 m0
              replace m1 := kept hb1 m1
              replace m2 := kept hb1 m2
              replace hp := hp.below (hb1.mono hs)
              replace hw := hw.below (hb1.mono hs)
              replace ht := ht.below (hb1.mono hs)
              replace hp1 := (hp1.below hb1).mono hb1.size
              replace hw1 := (hw1.below hb1).mono hb1.size
              replace HB := Lib.hid (HB.out.trans (hb1.mono hs))
              replace hs := Nat.le_trans hs hb1.size
              clear hb1
              clear hp1 hw1
              go_upto_region 17 with (fail)
              cases hq1 : withinB n1 0 ((nw : Int) - 1) with
              | false =>
                have x0 := fun x : Xt w16 => x.cell a0
                have x1 := fun x : Xt w16 => x.cell a1
                have x2 := fun x : Xt w16 => x.cell m1
                have x3 := fun x : Xt w16 => x.cell m2
                have v0 : IntKind.i64.wrap ((nw : Int) - 1) = (nw : Int) - 1 := IntWalk.i64_in _ (by omega)
                refine wp_region_xt (by kernel_rfl) (by kernel_rfl) ?_
                repeat (go_big_quiet_step (((go_at_call 49; exact Xt.calls_same (Within_val _ _ _ _ hq1 _)))))
                refine wpQuiet_nil ?_
                intro w17 hx
                have hb1 := Xt.below hx
                clear hx x0 x1 x2 x3 v0
                replace a0 := kept hb1 a0
                replace a1 := kept hb1 a1
                replace m0 := kept hb1 m0
                replace m1 := kept hb1 m1
                replace m2 := kept hb1 m2
                replace hp := hp.below (hb1.mono hs)
                replace hw := hw.below (hb1.mono hs)
                replace ht := ht.below (hb1.mono hs)
                replace HB := Lib.hid (HB.out.trans (hb1.mono hs))
                replace hs := Nat.le_trans hs hb1.size
                clear hb1
                clear hq1
                go_wp2_with fail
                refine (CopyRooms_any w17 w.heap.size Ap Aw np cp nw cw pp ws HL.out HLW.out (by omega) (by omega) hp hw hs).mono ?_
                rintro e y1 ⟨A1, c1, A2, c2, rfl, hp1, hw1, hb1⟩
                replace a0 := kept hb1 a0
                replace a1 := kept hb1 a1
                replace m0 := kept hb1 m0
                replace m1 := kept hb1 m1
                replace m2 := kept hb1 m2
                replace hp := hp.below (hb1.mono hs)
                replace hw := hw.below (hb1.mono hs)
                replace ht := ht.below (hb1.mono hs)
                replace HB := Lib.hid (HB.out.trans (hb1.mono hs))
                replace hs := Nat.le_trans hs hb1.size
                clear hb1
                go_wp2_with fail
                refine (LE y1 y1.heap.size A1 A2 c1 c2 hp1 hw1 (Nat.le_refl _)).mono ?_
                rintro e y2 ⟨rfl, hb1⟩
                replace a0 := kept hb1 a0
                replace a1 := kept hb1 a1
                replace m0 := kept hb1 m0
                replace m1 := kept hb1 m1
                replace m2 := kept hb1 m2
                replace hp := hp.below (hb1.mono hs)
                replace hw := hw.below (hb1.mono hs)
                replace ht := ht.below (hb1.mono hs)
                replace hp1 := (hp1.below hb1).mono hb1.size
                replace hw1 := (hw1.below hb1).mono hb1.size
                replace HB := Lib.hid (HB.out.trans (hb1.mono hs))
                replace hs := Nat.le_trans hs hb1.size
                clear hb1
                clear hp1 hw1
                go_wp2_with fail
                refine (PE y2 w.heap.size Ap Aw cp cw hp hw hs).mono ?_
                rintro e y3 ⟨rfl, hb1⟩
                replace a0 := kept hb1 a0
                replace a1 := kept hb1 a1
                replace m0 := kept hb1 m0
                replace m1 := kept hb1 m1
                replace m2 := kept hb1 m2
                replace hp := hp.below (hb1.mono hs)
                replace hw := hw.below (hb1.mono hs)
                replace ht := ht.below (hb1.mono hs)
                replace HB := Lib.hid (HB.out.trans (hb1.mono hs))
                replace hs := Nat.le_trans hs hb1.size
                clear hb1
                go_wp2
                go_ret
                exact ⟨rfl, HB.out⟩
              | true =>
                have hj : 0 ≤ n1 ∧ n1 ≤ (nw : Int) - 1 := by simpa [withinB] using hq1
                obtain ⟨hj0, hj1⟩ := hj
                obtain ⟨j, rfl⟩ := Int.eq_ofNat_of_zero_le hj0
                have hjn : j < nw := by omega
                have hjl : j < ws.length := by rw [HLW.out]; exact hjn
                obtain ⟨ev, hev⟩ : ∃ ev, ws[j]? = some ev := ⟨_, List.getElem?_eq_getElem hjl⟩
                obtain ⟨z0, z1, z2⟩ := evCells_at ws j ev hev
                obtain ⟨bb, off, hAw, hbB, e0, e1, e2⟩ := hw.at3 z0 z1 z2
                obtain ⟨f, td, mm⟩ := ev
                simp only at e0 e1 e2
                subst hAw
                have HEV := Lib.hid hev
                have x4 := fun x : Xt w16 => x.cell e2
                clear hev z0 z1 z2 hjl e0 e1
                cases hq2 : withinB n2 mm 10000 with
                | false =>
                  have x0 := fun x : Xt w16 => x.cell a0
                  have x1 := fun x : Xt w16 => x.cell a1
                  have x2 := fun x : Xt w16 => x.cell m1
                  have x3 := fun x : Xt w16 => x.cell m2
                  have v0 : IntKind.i64.wrap ((nw : Int) - 1) = (nw : Int) - 1 := IntWalk.i64_in _ (by omega)
                  refine wp_region_xt (by kernel_rfl) (by kernel_rfl) ?_
                  repeat (go_big_quiet_step ((first | (go_at_call_of 49 (Value.int .i64 (j : Int)); exact Xt.calls_same (Within_val _ _ _ _ hq1 _)) | (go_at_call_of 49 (Value.int .i64 n2); exact Xt.calls_same (Within_val _ _ _ _ hq2 _)))))
                  refine wpQuiet_nil ?_
                  intro w17 hx
                  have hb1 := Xt.below hx
                  clear hx x0 x1 x2 x3 v0
                  clear x4 e2
                  replace a0 := kept hb1 a0
                  replace a1 := kept hb1 a1
                  replace m0 := kept hb1 m0
                  replace m1 := kept hb1 m1
                  replace m2 := kept hb1 m2
                  replace hp := hp.below (hb1.mono hs)
                  replace hw := hw.below (hb1.mono hs)
                  replace ht := ht.below (hb1.mono hs)
                  replace HB := Lib.hid (HB.out.trans (hb1.mono hs))
                  replace hs := Nat.le_trans hs hb1.size
                  clear hb1
                  clear hq1 hq2
                  go_wp2_with fail
                  refine (CopyRooms_any w17 w.heap.size Ap _ np cp nw cw pp ws HL.out HLW.out (by omega) (by omega) hp hw hs).mono ?_
                  rintro e y1 ⟨A1, c1, A2, c2, rfl, hp1, hw1, hb1⟩
                  replace a0 := kept hb1 a0
                  replace a1 := kept hb1 a1
                  replace m0 := kept hb1 m0
                  replace m1 := kept hb1 m1
                  replace m2 := kept hb1 m2
                  replace hp := hp.below (hb1.mono hs)
                  replace hw := hw.below (hb1.mono hs)
                  replace ht := ht.below (hb1.mono hs)
                  replace HB := Lib.hid (HB.out.trans (hb1.mono hs))
                  replace hs := Nat.le_trans hs hb1.size
                  clear hb1
                  go_wp2_with fail
                  refine (LE y1 y1.heap.size A1 A2 c1 c2 hp1 hw1 (Nat.le_refl _)).mono ?_
                  rintro e y2 ⟨rfl, hb1⟩
                  replace a0 := kept hb1 a0
                  replace a1 := kept hb1 a1
                  replace m0 := kept hb1 m0
                  replace m1 := kept hb1 m1
                  replace m2 := kept hb1 m2
                  replace hp := hp.below (hb1.mono hs)
                  replace hw := hw.below (hb1.mono hs)
                  replace ht := ht.below (hb1.mono hs)
                  replace hp1 := (hp1.below hb1).mono hb1.size
                  replace hw1 := (hw1.below hb1).mono hb1.size
                  replace HB := Lib.hid (HB.out.trans (hb1.mono hs))
                  replace hs := Nat.le_trans hs hb1.size
                  clear hb1
                  clear hp1 hw1
                  go_wp2_with fail
                  refine (PE y2 w.heap.size Ap _ cp cw hp hw hs).mono ?_
                  rintro e y3 ⟨rfl, hb1⟩
                  replace a0 := kept hb1 a0
                  replace a1 := kept hb1 a1
                  replace m0 := kept hb1 m0
                  replace m1 := kept hb1 m1
                  replace m2 := kept hb1 m2
                  replace hp := hp.below (hb1.mono hs)
                  replace hw := hw.below (hb1.mono hs)
                  replace ht := ht.below (hb1.mono hs)
                  replace HB := Lib.hid (HB.out.trans (hb1.mono hs))
                  replace hs := Nat.le_trans hs hb1.size
                  clear hb1
                  go_wp2
                  go_ret
                  exact ⟨rfl, HB.out⟩
                | true =>
                  have x0 := fun x : Xt w16 => x.cell a0
                  have x1 := fun x : Xt w16 => x.cell a1
                  have x2 := fun x : Xt w16 => x.cell m1
                  have x3 := fun x : Xt w16 => x.cell m2
                  have v0 : IntKind.i64.wrap ((nw : Int) - 1) = (nw : Int) - 1 := IntWalk.i64_in _ (by omega)
                  refine wp_region_xt (by kernel_rfl) (by kernel_rfl) ?_
                  repeat (go_big_quiet_step ((first | (go_at_call_of 49 (Value.int .i64 (j : Int)); exact Xt.calls_same (Within_val _ _ _ _ hq1 _)) | (go_at_call_of 49 (Value.int .i64 n2); exact Xt.calls_same (Within_val _ _ _ _ hq2 _)))))
                  refine wpQuiet_nil ?_
                  intro w17 hx
                  have hb1 := Xt.below hx
                  clear hx x0 x1 x2 x3 v0
                  clear x4 e2
                  replace a0 := kept hb1 a0
                  replace a1 := kept hb1 a1
                  replace m0 := kept hb1 m0
                  replace m1 := kept hb1 m1
                  replace m2 := kept hb1 m2
                  replace hp := hp.below (hb1.mono hs)
                  replace hw := hw.below (hb1.mono hs)
                  replace ht := ht.below (hb1.mono hs)
                  replace HB := Lib.hid (HB.out.trans (hb1.mono hs))
                  replace hs := Nat.le_trans hs hb1.size
                  clear hb1
                  have hq : mm ≤ n2 ∧ n2 ≤ 10000 := by simpa [withinB] using hq2
                  obtain ⟨F2, r2, hE2, ho2, ok2⟩ := HMO.out j f td mm n2 HEV.out hq.1 hq.2
                  clear hq1 hq2
                  have CO := CopyRooms_own w17 w.heap.size Ap (some ⟨bb, off, none⟩) np cp nw cw pp ws HL.out HLW.out (by omega) (by omega) hp hw hs
                  go_wp2_with fail
                  refine CO.mono ?_
                  rintro e w18 ⟨g1_, c1, g2_, c2, rfl, o1, o2, hbc⟩
                  clear CO
                  go_upto_region 19 with (fail)
                  have hba : Below w18.heap.size w18 (w18.alloc (.cells #[.slice (some ⟨g1_, 0, none⟩) np c1, .slice (some ⟨g2_, 0, none⟩) nw c2] 42)) := (Below.refl _ _).alloc (Nat.le_refl _) _
                  have ky : (w18.alloc (.cells #[.slice (some ⟨g1_, 0, none⟩) np c1, .slice (some ⟨g2_, 0, none⟩) nw c2] 42)).heap[w18.heap.size]? = some (.cells #[.slice (some ⟨g1_, 0, none⟩) np c1, .slice (some ⟨g2_, 0, none⟩) nw c2] 42 (0, 0)) := by rw [heapq_alloc, if_pos rfl]
                  replace o1 := ownsRow_below o1 hba
                  replace o2 := ownsRow_below o2 hba
                  have hb1 := hbc.trans (hba.mono hbc.size)
                  clear hbc hba
                  generalize w18.alloc (.cells #[.slice (some ⟨g1_, 0, none⟩) np c1, .slice (some ⟨g2_, 0, none⟩) nw c2] 42) = w19 at *
                  generalize w18.heap.size = y at *
                  have y0 := (cell_of_row w19 y 0 _ _ _ ky).trans (by rfl : _ = some (.slice (some ⟨g1_, 0, none⟩) np c1))
                  have y1 := (cell_of_row w19 y 1 _ _ _ ky).trans (by rfl : _ = some (.slice (some ⟨g2_, 0, none⟩) nw c2))
                  obtain ⟨q0, q1, q2, q3⟩ := own_cell o2 (evCells_at ws j (f, td, mm) HEV.out).2.2
                  have hyg : y ≠ g2_ := ownBlk_ne o2 rfl ky (by decide)
                  have h12 : g2_ ≠ g1_ := by
                    obtain ⟨_, _, cur, hcur⟩ := ownBlk o1 rfl
                    exact Ne.symm (ownBlk_ne o2 rfl hcur (by decide))
                  have HB1 := Lib.hid hb1
                  clear hb1 ky
                  have m1' := kept HB1.out m1
                  have m2' := kept HB1.out m2
                  go_upto_region 20 with (fail)
                  have hb1 : Below w17.heap.size w17 (w19.setCell ⟨g2_, j * 3 + 2, none⟩ (.int .i64 n2)) := HB1.out.setCell q2 _
                  have p1 := ownsRow_setCell_other o1 (a := ⟨g2_, j * 3 + 2, none⟩) (by simp only [Value.ownBlock]; exact fun he => h12 (Option.some.inj he).symm) (.int .i64 n2)
                  have p2 := own_set (i := j * 3 + 2) o2 (.int .i64 n2)
                  rw [evCells_set ws j f td mm n2 HEV.out] at p2
                  have y0' : (w19.setCell ⟨g2_, j * 3 + 2, none⟩ (.int .i64 n2)).cell? ⟨y, 0, none⟩ = some (.slice (some ⟨g1_, 0, none⟩) np c1) := by
                    rw [World.cell?_setCell_other _ _ _ _ (fun he => hyg (by simpa using (congrArg Addr.block he).symm))]
                    exact y0
                  have y1' : (w19.setCell ⟨g2_, j * 3 + 2, none⟩ (.int .i64 n2)).cell? ⟨y, 1, none⟩ = some (.slice (some ⟨g2_, 0, none⟩) nw c2) := by
                    rw [World.cell?_setCell_other _ _ _ _ (fun he => hyg (by simpa using (congrArg Addr.block he).symm))]
                    exact y1
                  clear o1 o2 y0 y1 q0 q1 q2 q3 HB1 m1' m2'
                  generalize w19.setCell ⟨g2_, j * 3 + 2, none⟩ (.int .i64 n2) = w20 at *
                  replace a0 := kept hb1 a0
                  replace a1 := kept hb1 a1
                  replace m0 := kept hb1 m0
                  replace m1 := kept hb1 m1
                  replace m2 := kept hb1 m2
                  replace hp := hp.below (hb1.mono hs)
                  replace hw := hw.below (hb1.mono hs)
                  replace ht := ht.below (hb1.mono hs)
                  replace HB := Lib.hid (HB.out.trans (hb1.mono hs))
                  replace hs := Nat.le_trans hs hb1.size
                  clear hb1
                  have OB2 := OutBy_yes w20 w20.heap.size (some ⟨g1_, 0, none⟩) (some ⟨g2_, 0, none⟩) np c1 nw c2 pp (ws.set j (f, td, n2)) HL.out (by rw [List.length_set]; exact HLW.out) (Rd_of_own p1) (Rd_of_own p2) (Nat.le_refl _) T (rtE_ok ok2 (by omega)) 60001 129 F2 hE2.run
                  unfold LeastPost at OB2
                  generalize F2.o = f2 at *
                  clear p1 p2 hE2 ok2
                  go_wp2_with fail
                  refine (OB2).mono ?_
                  rintro e w21 ⟨rfl, hb1⟩
                  replace a0 := kept hb1 a0
                  replace a1 := kept hb1 a1
                  replace m0 := kept hb1 m0
                  replace m1 := kept hb1 m1
                  replace m2 := kept hb1 m2
                  replace hp := hp.below (hb1.mono hs)
                  replace hw := hw.below (hb1.mono hs)
                  replace ht := ht.below (hb1.mono hs)
                  replace HB := Lib.hid (HB.out.trans (hb1.mono hs))
                  replace hs := Nat.le_trans hs hb1.size
                  clear hb1
                  clear y0' y1' OB2
                  go_wp2_with fail
                  refine (CopyRooms_any w21 w.heap.size Ap _ np cp nw cw pp ws HL.out HLW.out (by omega) (by omega) hp hw hs).mono ?_
                  rintro e y1 ⟨A1, c1, A2, c2, rfl, hp1, hw1, hb1⟩
                  replace a0 := kept hb1 a0
                  replace a1 := kept hb1 a1
                  replace m0 := kept hb1 m0
                  replace m1 := kept hb1 m1
                  replace m2 := kept hb1 m2
                  replace hp := hp.below (hb1.mono hs)
                  replace hw := hw.below (hb1.mono hs)
                  replace ht := ht.below (hb1.mono hs)
                  replace HB := Lib.hid (HB.out.trans (hb1.mono hs))
                  replace hs := Nat.le_trans hs hb1.size
                  clear hb1
                  go_wp2_with fail
                  refine (LE y1 y1.heap.size A1 A2 c1 c2 hp1 hw1 (Nat.le_refl _)).mono ?_
                  rintro e y2 ⟨rfl, hb1⟩
                  replace a0 := kept hb1 a0
                  replace a1 := kept hb1 a1
                  replace m0 := kept hb1 m0
                  replace m1 := kept hb1 m1
                  replace m2 := kept hb1 m2
                  replace hp := hp.below (hb1.mono hs)
                  replace hw := hw.below (hb1.mono hs)
                  replace ht := ht.below (hb1.mono hs)
                  replace hp1 := (hp1.below hb1).mono hb1.size
                  replace hw1 := (hw1.below hb1).mono hb1.size
                  replace HB := Lib.hid (HB.out.trans (hb1.mono hs))
                  replace hs := Nat.le_trans hs hb1.size
                  clear hb1
                  clear hp1 hw1
                  go_wp2_with fail
                  refine (PE y2 w.heap.size Ap _ cp cw hp hw hs).mono ?_
                  rintro e y3 ⟨rfl, hb1⟩
                  replace a0 := kept hb1 a0
                  replace a1 := kept hb1 a1
                  replace m0 := kept hb1 m0
                  replace m1 := kept hb1 m1
                  replace m2 := kept hb1 m2
                  replace hp := hp.below (hb1.mono hs)
                  replace hw := hw.below (hb1.mono hs)
                  replace ht := ht.below (hb1.mono hs)
                  replace HB := Lib.hid (HB.out.trans (hb1.mono hs))
                  replace hs := Nat.le_trans hs hb1.size
                  clear hb1
                  go_wp2
                  go_ret
                  exact ⟨rfl, HB.out⟩
            | some n =>
              have CUT : CutOk np T tm := (err4_zero HLT.out hce).elim fun _ ⟨T', h1, _, h2⟩ => (by rw [Int.ofNat_inj.1 h1]; exact h2)
              have CK2 := fun W B A1 A2 A3 c1 c2 c3 (h1 : Rd W B A1 (intCells pp)) (h2 : Rd W B A2 (evCells ws)) (h4 : Rd W B A3 (intCells tm)) (h3 : B ≤ W.heap.size) => (CheckCut_yes W B A1 A2 A3 np c1 nw c2 nt c3 pp ws tm (T : Int) HL.out HLW.out HLT.out (by omega) h1 h2 h4 h3 hce).mono fun e w' ⟨T', hT', h⟩ => (show LeastPost W (boundM pp ws tm T) 0 e w' by
                rw [Int.ofNat_inj.1 hT']
                exact h)
              have hbd : v T ≤ boundM pp ws tm T := by rw [← hFo]; exact hE.all tm
              unfold LeastPost at CK2
              obtain ⟨_, hn1, hn2, _⟩ := (leastGo_spec (v := v) (s := sumL pp) (T + 1) 0).1 n hrr
              have LE := LT (some n) hrr
              simp only [leastN, leastE] at LE
              have OBN := OB n (by omega)
              rw [hn2] at OBN
              unfold LeastPost at LE OBN
              have hse : v T = sumL pp := by
                have := hmono (T - n) n (by omega)
                rw [show n + (T - n) = T by omega, hn2] at this
                omega
              generalize boundM pp ws tm T = bd at *
              clear hd hv hmono hE hFo h4L ok OB LT hrr hce
              generalize v T = o at *
              generalize v (T + 1) = o1 at *
              generalize sumL pp = s at *
              generalize hLe : cutM np T r = L at *
              have HLL : Hid (L.length = np) := by rw [Hid, ← hLe]; exact cutM_len np T r
              clear hLe
              go_wp2_with (go_at_call 49; refine (WQ _).mono ?_; rintro e w' ⟨rfl, rfl⟩)
              refine (CopyRooms_any w3 w.heap.size Ap Aw np cp nw cw pp ws HL.out HLW.out (by omega) (by omega) hp hw hs).mono ?_
              rintro e w4 ⟨A1, c1, A2, c2, rfl, hp1, hw1, hb1⟩
              replace a0 := kept hb1 a0
              replace a1 := kept hb1 a1
              replace m0 := kept hb1 m0
              replace m1 := kept hb1 m1
              replace m2 := kept hb1 m2
              replace hp := hp.below (hb1.mono hs)
              replace hw := hw.below (hb1.mono hs)
              replace ht := ht.below (hb1.mono hs)
              replace HB := Lib.hid (HB.out.trans (hb1.mono hs))
              replace hs := Nat.le_trans hs hb1.size
              clear hb1
              go_wp2_with fail
              refine (OB0 w4 w4.heap.size A1 A2 c1 c2 hp1 hw1 (Nat.le_refl _)).mono ?_
              rintro e w5 ⟨rfl, hb1⟩
              replace a0 := kept hb1 a0
              replace a1 := kept hb1 a1
              replace m0 := kept hb1 m0
              replace m1 := kept hb1 m1
              replace m2 := kept hb1 m2
              replace hp := hp.below (hb1.mono hs)
              replace hw := hw.below (hb1.mono hs)
              replace ht := ht.below (hb1.mono hs)
              replace hp1 := (hp1.below hb1).mono hb1.size
              replace hw1 := (hw1.below hb1).mono hb1.size
              replace HB := Lib.hid (HB.out.trans (hb1.mono hs))
              replace hs := Nat.le_trans hs hb1.size
              clear hb1
              clear hp1 hw1
              go_wp2_with fail
              refine (CopyRooms_any w5 w.heap.size Ap Aw np cp nw cw pp ws HL.out HLW.out (by omega) (by omega) hp hw hs).mono ?_
              rintro e w6 ⟨A1, c1, A2, c2, rfl, hp1, hw1, hb1⟩
              replace a0 := kept hb1 a0
              replace a1 := kept hb1 a1
              replace m0 := kept hb1 m0
              replace m1 := kept hb1 m1
              replace m2 := kept hb1 m2
              replace hp := hp.below (hb1.mono hs)
              replace hw := hw.below (hb1.mono hs)
              replace ht := ht.below (hb1.mono hs)
              replace HB := Lib.hid (HB.out.trans (hb1.mono hs))
              replace hs := Nat.le_trans hs hb1.size
              clear hb1
              go_wp2_with fail
              refine (BC w6 w6.heap.size A1 A2 c1 c2 hp1 hw1 (Nat.le_refl _)).mono ?_
              rintro e w7 ⟨A4, c4, rfl, hL, hb1⟩
              replace a0 := kept hb1 a0
              replace a1 := kept hb1 a1
              replace m0 := kept hb1 m0
              replace m1 := kept hb1 m1
              replace m2 := kept hb1 m2
              replace hp := hp.below (hb1.mono hs)
              replace hw := hw.below (hb1.mono hs)
              replace ht := ht.below (hb1.mono hs)
              replace hp1 := (hp1.below hb1).mono hb1.size
              replace hw1 := (hw1.below hb1).mono hb1.size
              replace HB := Lib.hid (HB.out.trans (hb1.mono hs))
              replace hs := Nat.le_trans hs hb1.size
              clear hb1
              clear hp1 hw1
              go_wp2_with fail
              refine (CopyRooms_any w7 w.heap.size Ap Aw np cp nw cw pp ws HL.out HLW.out (by omega) (by omega) hp hw hs).mono ?_
              rintro e w8 ⟨A1, c1, A2, c2, rfl, hp1, hw1, hb1⟩
              replace a0 := kept hb1 a0
              replace a1 := kept hb1 a1
              replace m0 := kept hb1 m0
              replace m1 := kept hb1 m1
              replace m2 := kept hb1 m2
              replace hp := hp.below (hb1.mono hs)
              replace hw := hw.below (hb1.mono hs)
              replace ht := ht.below (hb1.mono hs)
              replace hL := (hL.below hb1).mono hb1.size
              replace HB := Lib.hid (HB.out.trans (hb1.mono hs))
              replace hs := Nat.le_trans hs hb1.size
              clear hb1
              go_wp2_with fail
              refine (CopyInts_any w8 w8.heap.size A4 np c4 L HLL.out (by omega) hL (Nat.le_refl _)).mono ?_
              rintro e w9 ⟨A3, c3, rfl, ht1, hb1⟩
              replace a0 := kept hb1 a0
              replace a1 := kept hb1 a1
              replace m0 := kept hb1 m0
              replace m1 := kept hb1 m1
              replace m2 := kept hb1 m2
              replace hp := hp.below (hb1.mono hs)
              replace hw := hw.below (hb1.mono hs)
              replace ht := ht.below (hb1.mono hs)
              replace hL := (hL.below hb1).mono hb1.size
              replace hp1 := (hp1.below hb1).mono hb1.size
              replace hw1 := (hw1.below hb1).mono hb1.size
              replace HB := Lib.hid (HB.out.trans (hb1.mono hs))
              replace hs := Nat.le_trans hs hb1.size
              clear hb1
              clear hL
              go_wp2_with fail
              refine (CK1 w9 w9.heap.size A1 A2 A3 c1 c2 c3 hp1 hw1 ht1 (Nat.le_refl _)).mono ?_
              rintro e w10 ⟨rfl, hb1⟩
              replace a0 := kept hb1 a0
              replace a1 := kept hb1 a1
              replace m0 := kept hb1 m0
              replace m1 := kept hb1 m1
              replace m2 := kept hb1 m2
              replace hp := hp.below (hb1.mono hs)
              replace hw := hw.below (hb1.mono hs)
              replace ht := ht.below (hb1.mono hs)
              replace hp1 := (hp1.below hb1).mono hb1.size
              replace hw1 := (hw1.below hb1).mono hb1.size
              replace ht1 := (ht1.below hb1).mono hb1.size
              replace HB := Lib.hid (HB.out.trans (hb1.mono hs))
              replace hs := Nat.le_trans hs hb1.size
              clear hb1
              clear hp1 hw1 ht1
              go_wp2_with fail
              refine (PE w10 w.heap.size Ap Aw cp cw hp hw hs).mono ?_
              rintro e w11 ⟨rfl, hb1⟩
              replace a0 := kept hb1 a0
              replace a1 := kept hb1 a1
              replace m0 := kept hb1 m0
              replace m1 := kept hb1 m1
              replace m2 := kept hb1 m2
              replace hp := hp.below (hb1.mono hs)
              replace hw := hw.below (hb1.mono hs)
              replace ht := ht.below (hb1.mono hs)
              replace HB := Lib.hid (HB.out.trans (hb1.mono hs))
              replace hs := Nat.le_trans hs hb1.size
              clear hb1
              go_wp2_with fail
              refine (CopyRooms_any w11 w.heap.size Ap Aw np cp nw cw pp ws HL.out HLW.out (by omega) (by omega) hp hw hs).mono ?_
              rintro e w12 ⟨A1, c1, A2, c2, rfl, hp1, hw1, hb1⟩
              replace a0 := kept hb1 a0
              replace a1 := kept hb1 a1
              replace m0 := kept hb1 m0
              replace m1 := kept hb1 m1
              replace m2 := kept hb1 m2
              replace hp := hp.below (hb1.mono hs)
              replace hw := hw.below (hb1.mono hs)
              replace ht := ht.below (hb1.mono hs)
              replace HB := Lib.hid (HB.out.trans (hb1.mono hs))
              replace hs := Nat.le_trans hs hb1.size
              clear hb1
              go_wp2_with fail
              refine (CopyInts_any w12 w.heap.size At nt ct tm HLT.out (by omega) ht hs).mono ?_
              rintro e w13 ⟨A3, c3, rfl, ht1, hb1⟩
              replace a0 := kept hb1 a0
              replace a1 := kept hb1 a1
              replace m0 := kept hb1 m0
              replace m1 := kept hb1 m1
              replace m2 := kept hb1 m2
              replace hp := hp.below (hb1.mono hs)
              replace hw := hw.below (hb1.mono hs)
              replace ht := ht.below (hb1.mono hs)
              replace hp1 := (hp1.below hb1).mono hb1.size
              replace hw1 := (hw1.below hb1).mono hb1.size
              replace HB := Lib.hid (HB.out.trans (hb1.mono hs))
              replace hs := Nat.le_trans hs hb1.size
              clear hb1
              go_wp2_with fail
              refine (CK2 w13 w13.heap.size A1 A2 A3 c1 c2 c3 hp1 hw1 ht1 (Nat.le_refl _)).mono ?_
              rintro e w14 ⟨rfl, hb1⟩
              replace a0 := kept hb1 a0
              replace a1 := kept hb1 a1
              replace m0 := kept hb1 m0
              replace m1 := kept hb1 m1
              replace m2 := kept hb1 m2
              replace hp := hp.below (hb1.mono hs)
              replace hw := hw.below (hb1.mono hs)
              replace ht := ht.below (hb1.mono hs)
              replace hp1 := (hp1.below hb1).mono hb1.size
              replace hw1 := (hw1.below hb1).mono hb1.size
              replace ht1 := (ht1.below hb1).mono hb1.size
              replace HB := Lib.hid (HB.out.trans (hb1.mono hs))
              replace hs := Nat.le_trans hs hb1.size
              clear hb1
              clear hp1 hw1 ht1
              go_wp2_with fail
              refine (CopyRooms_any w14 w.heap.size Ap Aw np cp nw cw pp ws HL.out HLW.out (by omega) (by omega) hp hw hs).mono ?_
              rintro e w15 ⟨A1, c1, A2, c2, rfl, hp1, hw1, hb1⟩
              replace a0 := kept hb1 a0
              replace a1 := kept hb1 a1
              replace m0 := kept hb1 m0
              replace m1 := kept hb1 m1
              replace m2 := kept hb1 m2
              replace hp := hp.below (hb1.mono hs)
              replace hw := hw.below (hb1.mono hs)
              replace ht := ht.below (hb1.mono hs)
              replace HB := Lib.hid (HB.out.trans (hb1.mono hs))
              replace hs := Nat.le_trans hs hb1.size
              clear hb1
              go_wp2_with fail
              refine (OB1 w15 w15.heap.size A1 A2 c1 c2 hp1 hw1 (Nat.le_refl _)).mono ?_
              rintro e w16 ⟨rfl, hb1⟩
              replace a0 := kept hb1 a0
              replace a1 := kept hb1 a1
              replace m0 := kept hb1 m0
              replace m1 := kept hb1 m1
              replace m2 := kept hb1 m2
              replace hp := hp.below (hb1.mono hs)
              replace hw := hw.below (hb1.mono hs)
              replace ht := ht.below (hb1.mono hs)
              replace hp1 := (hp1.below hb1).mono hb1.size
              replace hw1 := (hw1.below hb1).mono hb1.size
              replace HB := Lib.hid (HB.out.trans (hb1.mono hs))
              replace hs := Nat.le_trans hs hb1.size
              clear hb1
              clear hp1 hw1
              go_upto_region 17 with (fail)
              cases hq1 : withinB n1 0 ((nw : Int) - 1) with
              | false =>
                have x0 := fun x : Xt w16 => x.cell a0
                have x1 := fun x : Xt w16 => x.cell a1
                have x2 := fun x : Xt w16 => x.cell m1
                have x3 := fun x : Xt w16 => x.cell m2
                have v0 : IntKind.i64.wrap ((nw : Int) - 1) = (nw : Int) - 1 := IntWalk.i64_in _ (by omega)
                refine wp_region_xt (by kernel_rfl) (by kernel_rfl) ?_
                repeat (go_big_quiet_step (((go_at_call 49; exact Xt.calls_same (Within_val _ _ _ _ hq1 _)))))
                refine wpQuiet_nil ?_
                intro w17 hx
                have hb1 := Xt.below hx
                clear hx x0 x1 x2 x3 v0
                replace a0 := kept hb1 a0
                replace a1 := kept hb1 a1
                replace m0 := kept hb1 m0
                replace m1 := kept hb1 m1
                replace m2 := kept hb1 m2
                replace hp := hp.below (hb1.mono hs)
                replace hw := hw.below (hb1.mono hs)
                replace ht := ht.below (hb1.mono hs)
                replace HB := Lib.hid (HB.out.trans (hb1.mono hs))
                replace hs := Nat.le_trans hs hb1.size
                clear hb1
                clear hq1
                go_wp2_with fail
                refine (CopyRooms_any w17 w.heap.size Ap Aw np cp nw cw pp ws HL.out HLW.out (by omega) (by omega) hp hw hs).mono ?_
                rintro e y1 ⟨A1, c1, A2, c2, rfl, hp1, hw1, hb1⟩
                replace a0 := kept hb1 a0
                replace a1 := kept hb1 a1
                replace m0 := kept hb1 m0
                replace m1 := kept hb1 m1
                replace m2 := kept hb1 m2
                replace hp := hp.below (hb1.mono hs)
                replace hw := hw.below (hb1.mono hs)
                replace ht := ht.below (hb1.mono hs)
                replace HB := Lib.hid (HB.out.trans (hb1.mono hs))
                replace hs := Nat.le_trans hs hb1.size
                clear hb1
                go_wp2_with fail
                refine (LE y1 y1.heap.size A1 A2 c1 c2 hp1 hw1 (Nat.le_refl _)).mono ?_
                rintro e y2 ⟨rfl, hb1⟩
                replace a0 := kept hb1 a0
                replace a1 := kept hb1 a1
                replace m0 := kept hb1 m0
                replace m1 := kept hb1 m1
                replace m2 := kept hb1 m2
                replace hp := hp.below (hb1.mono hs)
                replace hw := hw.below (hb1.mono hs)
                replace ht := ht.below (hb1.mono hs)
                replace hp1 := (hp1.below hb1).mono hb1.size
                replace hw1 := (hw1.below hb1).mono hb1.size
                replace HB := Lib.hid (HB.out.trans (hb1.mono hs))
                replace hs := Nat.le_trans hs hb1.size
                clear hb1
                clear hp1 hw1
                go_wp2_with fail
                refine (CopyRooms_any y2 w.heap.size Ap Aw np cp nw cw pp ws HL.out HLW.out (by omega) (by omega) hp hw hs).mono ?_
                rintro e y3 ⟨A1, c1, A2, c2, rfl, hp1, hw1, hb1⟩
                replace a0 := kept hb1 a0
                replace a1 := kept hb1 a1
                replace m0 := kept hb1 m0
                replace m1 := kept hb1 m1
                replace m2 := kept hb1 m2
                replace hp := hp.below (hb1.mono hs)
                replace hw := hw.below (hb1.mono hs)
                replace ht := ht.below (hb1.mono hs)
                replace HB := Lib.hid (HB.out.trans (hb1.mono hs))
                replace hs := Nat.le_trans hs hb1.size
                clear hb1
                go_wp2_with fail
                refine (OBN y3 y3.heap.size A1 A2 c1 c2 hp1 hw1 (Nat.le_refl _)).mono ?_
                rintro e y4 ⟨rfl, hb1⟩
                replace a0 := kept hb1 a0
                replace a1 := kept hb1 a1
                replace m0 := kept hb1 m0
                replace m1 := kept hb1 m1
                replace m2 := kept hb1 m2
                replace hp := hp.below (hb1.mono hs)
                replace hw := hw.below (hb1.mono hs)
                replace ht := ht.below (hb1.mono hs)
                replace hp1 := (hp1.below hb1).mono hb1.size
                replace hw1 := (hw1.below hb1).mono hb1.size
                replace HB := Lib.hid (HB.out.trans (hb1.mono hs))
                replace hs := Nat.le_trans hs hb1.size
                clear hb1
                clear hp1 hw1
                go_wp2_with fail
                refine (PE y4 w.heap.size Ap Aw cp cw hp hw hs).mono ?_
                rintro e y5 ⟨rfl, hb1⟩
                replace a0 := kept hb1 a0
                replace a1 := kept hb1 a1
                replace m0 := kept hb1 m0
                replace m1 := kept hb1 m1
                replace m2 := kept hb1 m2
                replace hp := hp.below (hb1.mono hs)
                replace hw := hw.below (hb1.mono hs)
                replace ht := ht.below (hb1.mono hs)
                replace HB := Lib.hid (HB.out.trans (hb1.mono hs))
                replace hs := Nat.le_trans hs hb1.size
                clear hb1
                go_wp2
                go_ret
                exact ⟨rfl, HB.out⟩
              | true =>
                have hj : 0 ≤ n1 ∧ n1 ≤ (nw : Int) - 1 := by simpa [withinB] using hq1
                obtain ⟨hj0, hj1⟩ := hj
                obtain ⟨j, rfl⟩ := Int.eq_ofNat_of_zero_le hj0
                have hjn : j < nw := by omega
                have hjl : j < ws.length := by rw [HLW.out]; exact hjn
                obtain ⟨ev, hev⟩ : ∃ ev, ws[j]? = some ev := ⟨_, List.getElem?_eq_getElem hjl⟩
                obtain ⟨z0, z1, z2⟩ := evCells_at ws j ev hev
                obtain ⟨bb, off, hAw, hbB, e0, e1, e2⟩ := hw.at3 z0 z1 z2
                obtain ⟨f, td, mm⟩ := ev
                simp only at e0 e1 e2
                subst hAw
                have HEV := Lib.hid hev
                have x4 := fun x : Xt w16 => x.cell e2
                clear hev z0 z1 z2 hjl e0 e1
                cases hq2 : withinB n2 mm 10000 with
                | false =>
                  have x0 := fun x : Xt w16 => x.cell a0
                  have x1 := fun x : Xt w16 => x.cell a1
                  have x2 := fun x : Xt w16 => x.cell m1
                  have x3 := fun x : Xt w16 => x.cell m2
                  have v0 : IntKind.i64.wrap ((nw : Int) - 1) = (nw : Int) - 1 := IntWalk.i64_in _ (by omega)
                  refine wp_region_xt (by kernel_rfl) (by kernel_rfl) ?_
                  repeat (go_big_quiet_step ((first | (go_at_call_of 49 (Value.int .i64 (j : Int)); exact Xt.calls_same (Within_val _ _ _ _ hq1 _)) | (go_at_call_of 49 (Value.int .i64 n2); exact Xt.calls_same (Within_val _ _ _ _ hq2 _)))))
                  refine wpQuiet_nil ?_
                  intro w17 hx
                  have hb1 := Xt.below hx
                  clear hx x0 x1 x2 x3 v0
                  clear x4 e2
                  replace a0 := kept hb1 a0
                  replace a1 := kept hb1 a1
                  replace m0 := kept hb1 m0
                  replace m1 := kept hb1 m1
                  replace m2 := kept hb1 m2
                  replace hp := hp.below (hb1.mono hs)
                  replace hw := hw.below (hb1.mono hs)
                  replace ht := ht.below (hb1.mono hs)
                  replace HB := Lib.hid (HB.out.trans (hb1.mono hs))
                  replace hs := Nat.le_trans hs hb1.size
                  clear hb1
                  clear hq1 hq2
                  go_wp2_with fail
                  refine (CopyRooms_any w17 w.heap.size Ap _ np cp nw cw pp ws HL.out HLW.out (by omega) (by omega) hp hw hs).mono ?_
                  rintro e y1 ⟨A1, c1, A2, c2, rfl, hp1, hw1, hb1⟩
                  replace a0 := kept hb1 a0
                  replace a1 := kept hb1 a1
                  replace m0 := kept hb1 m0
                  replace m1 := kept hb1 m1
                  replace m2 := kept hb1 m2
                  replace hp := hp.below (hb1.mono hs)
                  replace hw := hw.below (hb1.mono hs)
                  replace ht := ht.below (hb1.mono hs)
                  replace HB := Lib.hid (HB.out.trans (hb1.mono hs))
                  replace hs := Nat.le_trans hs hb1.size
                  clear hb1
                  go_wp2_with fail
                  refine (LE y1 y1.heap.size A1 A2 c1 c2 hp1 hw1 (Nat.le_refl _)).mono ?_
                  rintro e y2 ⟨rfl, hb1⟩
                  replace a0 := kept hb1 a0
                  replace a1 := kept hb1 a1
                  replace m0 := kept hb1 m0
                  replace m1 := kept hb1 m1
                  replace m2 := kept hb1 m2
                  replace hp := hp.below (hb1.mono hs)
                  replace hw := hw.below (hb1.mono hs)
                  replace ht := ht.below (hb1.mono hs)
                  replace hp1 := (hp1.below hb1).mono hb1.size
                  replace hw1 := (hw1.below hb1).mono hb1.size
                  replace HB := Lib.hid (HB.out.trans (hb1.mono hs))
                  replace hs := Nat.le_trans hs hb1.size
                  clear hb1
                  clear hp1 hw1
                  go_wp2_with fail
                  refine (CopyRooms_any y2 w.heap.size Ap _ np cp nw cw pp ws HL.out HLW.out (by omega) (by omega) hp hw hs).mono ?_
                  rintro e y3 ⟨A1, c1, A2, c2, rfl, hp1, hw1, hb1⟩
                  replace a0 := kept hb1 a0
                  replace a1 := kept hb1 a1
                  replace m0 := kept hb1 m0
                  replace m1 := kept hb1 m1
                  replace m2 := kept hb1 m2
                  replace hp := hp.below (hb1.mono hs)
                  replace hw := hw.below (hb1.mono hs)
                  replace ht := ht.below (hb1.mono hs)
                  replace HB := Lib.hid (HB.out.trans (hb1.mono hs))
                  replace hs := Nat.le_trans hs hb1.size
                  clear hb1
                  go_wp2_with fail
                  refine (OBN y3 y3.heap.size A1 A2 c1 c2 hp1 hw1 (Nat.le_refl _)).mono ?_
                  rintro e y4 ⟨rfl, hb1⟩
                  replace a0 := kept hb1 a0
                  replace a1 := kept hb1 a1
                  replace m0 := kept hb1 m0
                  replace m1 := kept hb1 m1
                  replace m2 := kept hb1 m2
                  replace hp := hp.below (hb1.mono hs)
                  replace hw := hw.below (hb1.mono hs)
                  replace ht := ht.below (hb1.mono hs)
                  replace hp1 := (hp1.below hb1).mono hb1.size
                  replace hw1 := (hw1.below hb1).mono hb1.size
                  replace HB := Lib.hid (HB.out.trans (hb1.mono hs))
                  replace hs := Nat.le_trans hs hb1.size
                  clear hb1
                  clear hp1 hw1
                  go_wp2_with fail
                  refine (PE y4 w.heap.size Ap _ cp cw hp hw hs).mono ?_
                  rintro e y5 ⟨rfl, hb1⟩
                  replace a0 := kept hb1 a0
                  replace a1 := kept hb1 a1
                  replace m0 := kept hb1 m0
                  replace m1 := kept hb1 m1
                  replace m2 := kept hb1 m2
                  replace hp := hp.below (hb1.mono hs)
                  replace hw := hw.below (hb1.mono hs)
                  replace ht := ht.below (hb1.mono hs)
                  replace HB := Lib.hid (HB.out.trans (hb1.mono hs))
                  replace hs := Nat.le_trans hs hb1.size
                  clear hb1
                  go_wp2
                  go_ret
                  exact ⟨rfl, HB.out⟩
                | true =>
                  have x0 := fun x : Xt w16 => x.cell a0
                  have x1 := fun x : Xt w16 => x.cell a1
                  have x2 := fun x : Xt w16 => x.cell m1
                  have x3 := fun x : Xt w16 => x.cell m2
                  have v0 : IntKind.i64.wrap ((nw : Int) - 1) = (nw : Int) - 1 := IntWalk.i64_in _ (by omega)
                  refine wp_region_xt (by kernel_rfl) (by kernel_rfl) ?_
                  repeat (go_big_quiet_step ((first | (go_at_call_of 49 (Value.int .i64 (j : Int)); exact Xt.calls_same (Within_val _ _ _ _ hq1 _)) | (go_at_call_of 49 (Value.int .i64 n2); exact Xt.calls_same (Within_val _ _ _ _ hq2 _)))))
                  refine wpQuiet_nil ?_
                  intro w17 hx
                  have hb1 := Xt.below hx
                  clear hx x0 x1 x2 x3 v0
                  clear x4 e2
                  replace a0 := kept hb1 a0
                  replace a1 := kept hb1 a1
                  replace m0 := kept hb1 m0
                  replace m1 := kept hb1 m1
                  replace m2 := kept hb1 m2
                  replace hp := hp.below (hb1.mono hs)
                  replace hw := hw.below (hb1.mono hs)
                  replace ht := ht.below (hb1.mono hs)
                  replace HB := Lib.hid (HB.out.trans (hb1.mono hs))
                  replace hs := Nat.le_trans hs hb1.size
                  clear hb1
                  have hq : mm ≤ n2 ∧ n2 ≤ 10000 := by simpa [withinB] using hq2
                  obtain ⟨F2, r2, hE2, ho2, ok2⟩ := HMO.out j f td mm n2 HEV.out hq.1 hq.2
                  clear hq1 hq2
                  have CO := CopyRooms_own w17 w.heap.size Ap (some ⟨bb, off, none⟩) np cp nw cw pp ws HL.out HLW.out (by omega) (by omega) hp hw hs
                  go_wp2_with fail
                  refine CO.mono ?_
                  rintro e w18 ⟨g1_, c1, g2_, c2, rfl, o1, o2, hbc⟩
                  clear CO
                  go_upto_region 19 with (fail)
                  have hba : Below w18.heap.size w18 (w18.alloc (.cells #[.slice (some ⟨g1_, 0, none⟩) np c1, .slice (some ⟨g2_, 0, none⟩) nw c2] 42)) := (Below.refl _ _).alloc (Nat.le_refl _) _
                  have ky : (w18.alloc (.cells #[.slice (some ⟨g1_, 0, none⟩) np c1, .slice (some ⟨g2_, 0, none⟩) nw c2] 42)).heap[w18.heap.size]? = some (.cells #[.slice (some ⟨g1_, 0, none⟩) np c1, .slice (some ⟨g2_, 0, none⟩) nw c2] 42 (0, 0)) := by rw [heapq_alloc, if_pos rfl]
                  replace o1 := ownsRow_below o1 hba
                  replace o2 := ownsRow_below o2 hba
                  have hb1 := hbc.trans (hba.mono hbc.size)
                  clear hbc hba
                  generalize w18.alloc (.cells #[.slice (some ⟨g1_, 0, none⟩) np c1, .slice (some ⟨g2_, 0, none⟩) nw c2] 42) = w19 at *
                  generalize w18.heap.size = y at *
                  have y0 := (cell_of_row w19 y 0 _ _ _ ky).trans (by rfl : _ = some (.slice (some ⟨g1_, 0, none⟩) np c1))
                  have y1 := (cell_of_row w19 y 1 _ _ _ ky).trans (by rfl : _ = some (.slice (some ⟨g2_, 0, none⟩) nw c2))
                  obtain ⟨q0, q1, q2, q3⟩ := own_cell o2 (evCells_at ws j (f, td, mm) HEV.out).2.2
                  have hyg : y ≠ g2_ := ownBlk_ne o2 rfl ky (by decide)
                  have h12 : g2_ ≠ g1_ := by
                    obtain ⟨_, _, cur, hcur⟩ := ownBlk o1 rfl
                    exact Ne.symm (ownBlk_ne o2 rfl hcur (by decide))
                  have HB1 := Lib.hid hb1
                  clear hb1 ky
                  have m1' := kept HB1.out m1
                  have m2' := kept HB1.out m2
                  go_upto_region 20 with (fail)
                  have hb1 : Below w17.heap.size w17 (w19.setCell ⟨g2_, j * 3 + 2, none⟩ (.int .i64 n2)) := HB1.out.setCell q2 _
                  have p1 := ownsRow_setCell_other o1 (a := ⟨g2_, j * 3 + 2, none⟩) (by simp only [Value.ownBlock]; exact fun he => h12 (Option.some.inj he).symm) (.int .i64 n2)
                  have p2 := own_set (i := j * 3 + 2) o2 (.int .i64 n2)
                  rw [evCells_set ws j f td mm n2 HEV.out] at p2
                  have y0' : (w19.setCell ⟨g2_, j * 3 + 2, none⟩ (.int .i64 n2)).cell? ⟨y, 0, none⟩ = some (.slice (some ⟨g1_, 0, none⟩) np c1) := by
                    rw [World.cell?_setCell_other _ _ _ _ (fun he => hyg (by simpa using (congrArg Addr.block he).symm))]
                    exact y0
                  have y1' : (w19.setCell ⟨g2_, j * 3 + 2, none⟩ (.int .i64 n2)).cell? ⟨y, 1, none⟩ = some (.slice (some ⟨g2_, 0, none⟩) nw c2) := by
                    rw [World.cell?_setCell_other _ _ _ _ (fun he => hyg (by simpa using (congrArg Addr.block he).symm))]
                    exact y1
                  clear o1 o2 y0 y1 q0 q1 q2 q3 HB1 m1' m2'
                  generalize w19.setCell ⟨g2_, j * 3 + 2, none⟩ (.int .i64 n2) = w20 at *
                  replace a0 := kept hb1 a0
                  replace a1 := kept hb1 a1
                  replace m0 := kept hb1 m0
                  replace m1 := kept hb1 m1
                  replace m2 := kept hb1 m2
                  replace hp := hp.below (hb1.mono hs)
                  replace hw := hw.below (hb1.mono hs)
                  replace ht := ht.below (hb1.mono hs)
                  replace HB := Lib.hid (HB.out.trans (hb1.mono hs))
                  replace hs := Nat.le_trans hs hb1.size
                  clear hb1
                  have OB2 := OutBy_yes w20 w20.heap.size (some ⟨g1_, 0, none⟩) (some ⟨g2_, 0, none⟩) np c1 nw c2 pp (ws.set j (f, td, n2)) HL.out (by rw [List.length_set]; exact HLW.out) (Rd_of_own p1) (Rd_of_own p2) (Nat.le_refl _) T (rtE_ok ok2 (by omega)) 60001 129 F2 hE2.run
                  unfold LeastPost at OB2
                  generalize F2.o = f2 at *
                  clear p1 p2 hE2 ok2
                  go_wp2_with fail
                  refine (OB2).mono ?_
                  rintro e w21 ⟨rfl, hb1⟩
                  replace a0 := kept hb1 a0
                  replace a1 := kept hb1 a1
                  replace m0 := kept hb1 m0
                  replace m1 := kept hb1 m1
                  replace m2 := kept hb1 m2
                  replace hp := hp.below (hb1.mono hs)
                  replace hw := hw.below (hb1.mono hs)
                  replace ht := ht.below (hb1.mono hs)
                  replace HB := Lib.hid (HB.out.trans (hb1.mono hs))
                  replace hs := Nat.le_trans hs hb1.size
                  clear hb1
                  clear y0' y1' OB2
                  go_wp2_with fail
                  refine (CopyRooms_any w21 w.heap.size Ap _ np cp nw cw pp ws HL.out HLW.out (by omega) (by omega) hp hw hs).mono ?_
                  rintro e y1 ⟨A1, c1, A2, c2, rfl, hp1, hw1, hb1⟩
                  replace a0 := kept hb1 a0
                  replace a1 := kept hb1 a1
                  replace m0 := kept hb1 m0
                  replace m1 := kept hb1 m1
                  replace m2 := kept hb1 m2
                  replace hp := hp.below (hb1.mono hs)
                  replace hw := hw.below (hb1.mono hs)
                  replace ht := ht.below (hb1.mono hs)
                  replace HB := Lib.hid (HB.out.trans (hb1.mono hs))
                  replace hs := Nat.le_trans hs hb1.size
                  clear hb1
                  go_wp2_with fail
                  refine (LE y1 y1.heap.size A1 A2 c1 c2 hp1 hw1 (Nat.le_refl _)).mono ?_
                  rintro e y2 ⟨rfl, hb1⟩
                  replace a0 := kept hb1 a0
                  replace a1 := kept hb1 a1
                  replace m0 := kept hb1 m0
                  replace m1 := kept hb1 m1
                  replace m2 := kept hb1 m2
                  replace hp := hp.below (hb1.mono hs)
                  replace hw := hw.below (hb1.mono hs)
                  replace ht := ht.below (hb1.mono hs)
                  replace hp1 := (hp1.below hb1).mono hb1.size
                  replace hw1 := (hw1.below hb1).mono hb1.size
                  replace HB := Lib.hid (HB.out.trans (hb1.mono hs))
                  replace hs := Nat.le_trans hs hb1.size
                  clear hb1
                  clear hp1 hw1
                  go_wp2_with fail
                  refine (CopyRooms_any y2 w.heap.size Ap _ np cp nw cw pp ws HL.out HLW.out (by omega) (by omega) hp hw hs).mono ?_
                  rintro e y3 ⟨A1, c1, A2, c2, rfl, hp1, hw1, hb1⟩
                  replace a0 := kept hb1 a0
                  replace a1 := kept hb1 a1
                  replace m0 := kept hb1 m0
                  replace m1 := kept hb1 m1
                  replace m2 := kept hb1 m2
                  replace hp := hp.below (hb1.mono hs)
                  replace hw := hw.below (hb1.mono hs)
                  replace ht := ht.below (hb1.mono hs)
                  replace HB := Lib.hid (HB.out.trans (hb1.mono hs))
                  replace hs := Nat.le_trans hs hb1.size
                  clear hb1
                  go_wp2_with fail
                  refine (OBN y3 y3.heap.size A1 A2 c1 c2 hp1 hw1 (Nat.le_refl _)).mono ?_
                  rintro e y4 ⟨rfl, hb1⟩
                  replace a0 := kept hb1 a0
                  replace a1 := kept hb1 a1
                  replace m0 := kept hb1 m0
                  replace m1 := kept hb1 m1
                  replace m2 := kept hb1 m2
                  replace hp := hp.below (hb1.mono hs)
                  replace hw := hw.below (hb1.mono hs)
                  replace ht := ht.below (hb1.mono hs)
                  replace hp1 := (hp1.below hb1).mono hb1.size
                  replace hw1 := (hw1.below hb1).mono hb1.size
                  replace HB := Lib.hid (HB.out.trans (hb1.mono hs))
                  replace hs := Nat.le_trans hs hb1.size
                  clear hb1
                  clear hp1 hw1
                  go_wp2_with fail
                  refine (PE y4 w.heap.size Ap _ cp cw hp hw hs).mono ?_
                  rintro e y5 ⟨rfl, hb1⟩
                  replace a0 := kept hb1 a0
                  replace a1 := kept hb1 a1
                  replace m0 := kept hb1 m0
                  replace m1 := kept hb1 m1
                  replace m2 := kept hb1 m2
                  replace hp := hp.below (hb1.mono hs)
                  replace hw := hw.below (hb1.mono hs)
                  replace ht := ht.below (hb1.mono hs)
                  replace HB := Lib.hid (HB.out.trans (hb1.mono hs))
                  replace hs := Nat.le_trans hs hb1.size
                  clear hb1
                  go_wp2
                  go_ret
                  exact ⟨rfl, HB.out⟩
          · cases hrr : leastGo v (sumL pp) (T + 1) 0 with
            | none =>
              have CK2 := fun W B A1 A2 A3 c1 c2 c3 (h1 : Rd W B A1 (intCells pp)) (h2 : Rd W B A2 (evCells ws)) (h4 : Rd W B A3 (intCells tm)) (h3 : B ≤ W.heap.size) => CheckCut_no W B A1 A2 A3 np c1 nw c2 nt c3 pp ws tm (T : Int) HL.out HLW.out HLT.out (by omega) h1 h2 h4 h3 hce
              have e4 : (err4 pp ws np nt tm (T : Int) == 0) = false := beq_eq_false_iff_ne.2 hce
              unfold LeastPost at CK2
              have LE := LT none hrr
              simp only [leastN, leastE] at LE
              unfold LeastPost at LE
              have hsl : v T < sumL pp := by
                have := (leastGo_spec (v := v) (s := sumL pp) (T + 1) 0).2 hrr T (Nat.zero_le _) (by omega)
                omega
              generalize err4 pp ws np nt tm (T : Int) = d4 at *
              clear hd hv hmono hE hFo h4L ok OB LT hrr hce
              generalize v T = o at *
              generalize v (T + 1) = o1 at *
              generalize sumL pp = s at *
              generalize hLe : cutM np T r = L at *
              have HLL : Hid (L.length = np) := by rw [Hid, ← hLe]; exact cutM_len np T r
              clear hLe
              go_wp2_with (go_at_call 49; refine (WQ _).mono ?_; rintro e w' ⟨rfl, rfl⟩)
              refine (CopyRooms_any w3 w.heap.size Ap Aw np cp nw cw pp ws HL.out HLW.out (by omega) (by omega) hp hw hs).mono ?_
              rintro e w4 ⟨A1, c1, A2, c2, rfl, hp1, hw1, hb1⟩
              replace a0 := kept hb1 a0
              replace a1 := kept hb1 a1
              replace m0 := kept hb1 m0
              replace m1 := kept hb1 m1
              replace m2 := kept hb1 m2
              replace hp := hp.below (hb1.mono hs)
              replace hw := hw.below (hb1.mono hs)
              replace ht := ht.below (hb1.mono hs)
              replace HB := Lib.hid (HB.out.trans (hb1.mono hs))
              replace hs := Nat.le_trans hs hb1.size
              clear hb1
              go_wp2_with fail
              refine (OB0 w4 w4.heap.size A1 A2 c1 c2 hp1 hw1 (Nat.le_refl _)).mono ?_
              rintro e w5 ⟨rfl, hb1⟩
              replace a0 := kept hb1 a0
              replace a1 := kept hb1 a1
              replace m0 := kept hb1 m0
              replace m1 := kept hb1 m1
              replace m2 := kept hb1 m2
              replace hp := hp.below (hb1.mono hs)
              replace hw := hw.below (hb1.mono hs)
              replace ht := ht.below (hb1.mono hs)
              replace hp1 := (hp1.below hb1).mono hb1.size
              replace hw1 := (hw1.below hb1).mono hb1.size
              replace HB := Lib.hid (HB.out.trans (hb1.mono hs))
              replace hs := Nat.le_trans hs hb1.size
              clear hb1
              clear hp1 hw1
              go_wp2_with fail
              refine (CopyRooms_any w5 w.heap.size Ap Aw np cp nw cw pp ws HL.out HLW.out (by omega) (by omega) hp hw hs).mono ?_
              rintro e w6 ⟨A1, c1, A2, c2, rfl, hp1, hw1, hb1⟩
              replace a0 := kept hb1 a0
              replace a1 := kept hb1 a1
              replace m0 := kept hb1 m0
              replace m1 := kept hb1 m1
              replace m2 := kept hb1 m2
              replace hp := hp.below (hb1.mono hs)
              replace hw := hw.below (hb1.mono hs)
              replace ht := ht.below (hb1.mono hs)
              replace HB := Lib.hid (HB.out.trans (hb1.mono hs))
              replace hs := Nat.le_trans hs hb1.size
              clear hb1
              go_wp2_with fail
              refine (BC w6 w6.heap.size A1 A2 c1 c2 hp1 hw1 (Nat.le_refl _)).mono ?_
              rintro e w7 ⟨A4, c4, rfl, hL, hb1⟩
              replace a0 := kept hb1 a0
              replace a1 := kept hb1 a1
              replace m0 := kept hb1 m0
              replace m1 := kept hb1 m1
              replace m2 := kept hb1 m2
              replace hp := hp.below (hb1.mono hs)
              replace hw := hw.below (hb1.mono hs)
              replace ht := ht.below (hb1.mono hs)
              replace hp1 := (hp1.below hb1).mono hb1.size
              replace hw1 := (hw1.below hb1).mono hb1.size
              replace HB := Lib.hid (HB.out.trans (hb1.mono hs))
              replace hs := Nat.le_trans hs hb1.size
              clear hb1
              clear hp1 hw1
              go_wp2_with fail
              refine (CopyRooms_any w7 w.heap.size Ap Aw np cp nw cw pp ws HL.out HLW.out (by omega) (by omega) hp hw hs).mono ?_
              rintro e w8 ⟨A1, c1, A2, c2, rfl, hp1, hw1, hb1⟩
              replace a0 := kept hb1 a0
              replace a1 := kept hb1 a1
              replace m0 := kept hb1 m0
              replace m1 := kept hb1 m1
              replace m2 := kept hb1 m2
              replace hp := hp.below (hb1.mono hs)
              replace hw := hw.below (hb1.mono hs)
              replace ht := ht.below (hb1.mono hs)
              replace hL := (hL.below hb1).mono hb1.size
              replace HB := Lib.hid (HB.out.trans (hb1.mono hs))
              replace hs := Nat.le_trans hs hb1.size
              clear hb1
              go_wp2_with fail
              refine (CopyInts_any w8 w8.heap.size A4 np c4 L HLL.out (by omega) hL (Nat.le_refl _)).mono ?_
              rintro e w9 ⟨A3, c3, rfl, ht1, hb1⟩
              replace a0 := kept hb1 a0
              replace a1 := kept hb1 a1
              replace m0 := kept hb1 m0
              replace m1 := kept hb1 m1
              replace m2 := kept hb1 m2
              replace hp := hp.below (hb1.mono hs)
              replace hw := hw.below (hb1.mono hs)
              replace ht := ht.below (hb1.mono hs)
              replace hL := (hL.below hb1).mono hb1.size
              replace hp1 := (hp1.below hb1).mono hb1.size
              replace hw1 := (hw1.below hb1).mono hb1.size
              replace HB := Lib.hid (HB.out.trans (hb1.mono hs))
              replace hs := Nat.le_trans hs hb1.size
              clear hb1
              clear hL
              go_wp2_with fail
              refine (CK1 w9 w9.heap.size A1 A2 A3 c1 c2 c3 hp1 hw1 ht1 (Nat.le_refl _)).mono ?_
              rintro e w10 ⟨rfl, hb1⟩
              replace a0 := kept hb1 a0
              replace a1 := kept hb1 a1
              replace m0 := kept hb1 m0
              replace m1 := kept hb1 m1
              replace m2 := kept hb1 m2
              replace hp := hp.below (hb1.mono hs)
              replace hw := hw.below (hb1.mono hs)
              replace ht := ht.below (hb1.mono hs)
              replace hp1 := (hp1.below hb1).mono hb1.size
              replace hw1 := (hw1.below hb1).mono hb1.size
              replace ht1 := (ht1.below hb1).mono hb1.size
              replace HB := Lib.hid (HB.out.trans (hb1.mono hs))
              replace hs := Nat.le_trans hs hb1.size
              clear hb1
              clear hp1 hw1 ht1
              go_wp2_with fail
              refine (PE w10 w.heap.size Ap Aw cp cw hp hw hs).mono ?_
              rintro e w11 ⟨rfl, hb1⟩
              replace a0 := kept hb1 a0
              replace a1 := kept hb1 a1
              replace m0 := kept hb1 m0
              replace m1 := kept hb1 m1
              replace m2 := kept hb1 m2
              replace hp := hp.below (hb1.mono hs)
              replace hw := hw.below (hb1.mono hs)
              replace ht := ht.below (hb1.mono hs)
              replace HB := Lib.hid (HB.out.trans (hb1.mono hs))
              replace hs := Nat.le_trans hs hb1.size
              clear hb1
              go_wp2_with fail
              refine (CopyRooms_any w11 w.heap.size Ap Aw np cp nw cw pp ws HL.out HLW.out (by omega) (by omega) hp hw hs).mono ?_
              rintro e w12 ⟨A1, c1, A2, c2, rfl, hp1, hw1, hb1⟩
              replace a0 := kept hb1 a0
              replace a1 := kept hb1 a1
              replace m0 := kept hb1 m0
              replace m1 := kept hb1 m1
              replace m2 := kept hb1 m2
              replace hp := hp.below (hb1.mono hs)
              replace hw := hw.below (hb1.mono hs)
              replace ht := ht.below (hb1.mono hs)
              replace HB := Lib.hid (HB.out.trans (hb1.mono hs))
              replace hs := Nat.le_trans hs hb1.size
              clear hb1
              go_wp2_with fail
              refine (CopyInts_any w12 w.heap.size At nt ct tm HLT.out (by omega) ht hs).mono ?_
              rintro e w13 ⟨A3, c3, rfl, ht1, hb1⟩
              replace a0 := kept hb1 a0
              replace a1 := kept hb1 a1
              replace m0 := kept hb1 m0
              replace m1 := kept hb1 m1
              replace m2 := kept hb1 m2
              replace hp := hp.below (hb1.mono hs)
              replace hw := hw.below (hb1.mono hs)
              replace ht := ht.below (hb1.mono hs)
              replace hp1 := (hp1.below hb1).mono hb1.size
              replace hw1 := (hw1.below hb1).mono hb1.size
              replace HB := Lib.hid (HB.out.trans (hb1.mono hs))
              replace hs := Nat.le_trans hs hb1.size
              clear hb1
              go_wp2_with fail
              refine (CK2 w13 w13.heap.size A1 A2 A3 c1 c2 c3 hp1 hw1 ht1 (Nat.le_refl _)).mono ?_
              rintro e w14 ⟨rfl, hb1⟩
              replace a0 := kept hb1 a0
              replace a1 := kept hb1 a1
              replace m0 := kept hb1 m0
              replace m1 := kept hb1 m1
              replace m2 := kept hb1 m2
              replace hp := hp.below (hb1.mono hs)
              replace hw := hw.below (hb1.mono hs)
              replace ht := ht.below (hb1.mono hs)
              replace hp1 := (hp1.below hb1).mono hb1.size
              replace hw1 := (hw1.below hb1).mono hb1.size
              replace ht1 := (ht1.below hb1).mono hb1.size
              replace HB := Lib.hid (HB.out.trans (hb1.mono hs))
              replace hs := Nat.le_trans hs hb1.size
              clear hb1
              clear hp1 hw1 ht1
              go_wp2_with fail
              refine (CopyRooms_any w14 w.heap.size Ap Aw np cp nw cw pp ws HL.out HLW.out (by omega) (by omega) hp hw hs).mono ?_
              rintro e w15 ⟨A1, c1, A2, c2, rfl, hp1, hw1, hb1⟩
              replace a0 := kept hb1 a0
              replace a1 := kept hb1 a1
              replace m0 := kept hb1 m0
              replace m1 := kept hb1 m1
              replace m2 := kept hb1 m2
              replace hp := hp.below (hb1.mono hs)
              replace hw := hw.below (hb1.mono hs)
              replace ht := ht.below (hb1.mono hs)
              replace HB := Lib.hid (HB.out.trans (hb1.mono hs))
              replace hs := Nat.le_trans hs hb1.size
              clear hb1
              go_wp2_with fail
              refine (OB1 w15 w15.heap.size A1 A2 c1 c2 hp1 hw1 (Nat.le_refl _)).mono ?_
              rintro e w16 ⟨rfl, hb1⟩
              replace a0 := kept hb1 a0
              replace a1 := kept hb1 a1
              replace m0 := kept hb1 m0
              replace m1 := kept hb1 m1
              replace m2 := kept hb1 m2
              replace hp := hp.below (hb1.mono hs)
              replace hw := hw.below (hb1.mono hs)
              replace ht := ht.below (hb1.mono hs)
              replace hp1 := (hp1.below hb1).mono hb1.size
              replace hw1 := (hw1.below hb1).mono hb1.size
              replace HB := Lib.hid (HB.out.trans (hb1.mono hs))
              replace hs := Nat.le_trans hs hb1.size
              clear hb1
              clear hp1 hw1
              go_upto_region 17 with (fail)
              cases hq1 : withinB n1 0 ((nw : Int) - 1) with
              | false =>
                have x0 := fun x : Xt w16 => x.cell a0
                have x1 := fun x : Xt w16 => x.cell a1
                have x2 := fun x : Xt w16 => x.cell m1
                have x3 := fun x : Xt w16 => x.cell m2
                have v0 : IntKind.i64.wrap ((nw : Int) - 1) = (nw : Int) - 1 := IntWalk.i64_in _ (by omega)
                refine wp_region_xt (by kernel_rfl) (by kernel_rfl) ?_
                repeat (go_big_quiet_step (((go_at_call 49; exact Xt.calls_same (Within_val _ _ _ _ hq1 _)))))
                refine wpQuiet_nil ?_
                intro w17 hx
                have hb1 := Xt.below hx
                clear hx x0 x1 x2 x3 v0
                replace a0 := kept hb1 a0
                replace a1 := kept hb1 a1
                replace m0 := kept hb1 m0
                replace m1 := kept hb1 m1
                replace m2 := kept hb1 m2
                replace hp := hp.below (hb1.mono hs)
                replace hw := hw.below (hb1.mono hs)
                replace ht := ht.below (hb1.mono hs)
                replace HB := Lib.hid (HB.out.trans (hb1.mono hs))
                replace hs := Nat.le_trans hs hb1.size
                clear hb1
                clear hq1
                go_wp2_with fail
                refine (CopyRooms_any w17 w.heap.size Ap Aw np cp nw cw pp ws HL.out HLW.out (by omega) (by omega) hp hw hs).mono ?_
                rintro e y1 ⟨A1, c1, A2, c2, rfl, hp1, hw1, hb1⟩
                replace a0 := kept hb1 a0
                replace a1 := kept hb1 a1
                replace m0 := kept hb1 m0
                replace m1 := kept hb1 m1
                replace m2 := kept hb1 m2
                replace hp := hp.below (hb1.mono hs)
                replace hw := hw.below (hb1.mono hs)
                replace ht := ht.below (hb1.mono hs)
                replace HB := Lib.hid (HB.out.trans (hb1.mono hs))
                replace hs := Nat.le_trans hs hb1.size
                clear hb1
                go_wp2_with fail
                refine (LE y1 y1.heap.size A1 A2 c1 c2 hp1 hw1 (Nat.le_refl _)).mono ?_
                rintro e y2 ⟨rfl, hb1⟩
                replace a0 := kept hb1 a0
                replace a1 := kept hb1 a1
                replace m0 := kept hb1 m0
                replace m1 := kept hb1 m1
                replace m2 := kept hb1 m2
                replace hp := hp.below (hb1.mono hs)
                replace hw := hw.below (hb1.mono hs)
                replace ht := ht.below (hb1.mono hs)
                replace hp1 := (hp1.below hb1).mono hb1.size
                replace hw1 := (hw1.below hb1).mono hb1.size
                replace HB := Lib.hid (HB.out.trans (hb1.mono hs))
                replace hs := Nat.le_trans hs hb1.size
                clear hb1
                clear hp1 hw1
                go_wp2_with fail
                refine (PE y2 w.heap.size Ap Aw cp cw hp hw hs).mono ?_
                rintro e y3 ⟨rfl, hb1⟩
                replace a0 := kept hb1 a0
                replace a1 := kept hb1 a1
                replace m0 := kept hb1 m0
                replace m1 := kept hb1 m1
                replace m2 := kept hb1 m2
                replace hp := hp.below (hb1.mono hs)
                replace hw := hw.below (hb1.mono hs)
                replace ht := ht.below (hb1.mono hs)
                replace HB := Lib.hid (HB.out.trans (hb1.mono hs))
                replace hs := Nat.le_trans hs hb1.size
                clear hb1
                go_wp2
                go_ret
                exact ⟨rfl, HB.out⟩
              | true =>
                have hj : 0 ≤ n1 ∧ n1 ≤ (nw : Int) - 1 := by simpa [withinB] using hq1
                obtain ⟨hj0, hj1⟩ := hj
                obtain ⟨j, rfl⟩ := Int.eq_ofNat_of_zero_le hj0
                have hjn : j < nw := by omega
                have hjl : j < ws.length := by rw [HLW.out]; exact hjn
                obtain ⟨ev, hev⟩ : ∃ ev, ws[j]? = some ev := ⟨_, List.getElem?_eq_getElem hjl⟩
                obtain ⟨z0, z1, z2⟩ := evCells_at ws j ev hev
                obtain ⟨bb, off, hAw, hbB, e0, e1, e2⟩ := hw.at3 z0 z1 z2
                obtain ⟨f, td, mm⟩ := ev
                simp only at e0 e1 e2
                subst hAw
                have HEV := Lib.hid hev
                have x4 := fun x : Xt w16 => x.cell e2
                clear hev z0 z1 z2 hjl e0 e1
                cases hq2 : withinB n2 mm 10000 with
                | false =>
                  have x0 := fun x : Xt w16 => x.cell a0
                  have x1 := fun x : Xt w16 => x.cell a1
                  have x2 := fun x : Xt w16 => x.cell m1
                  have x3 := fun x : Xt w16 => x.cell m2
                  have v0 : IntKind.i64.wrap ((nw : Int) - 1) = (nw : Int) - 1 := IntWalk.i64_in _ (by omega)
                  refine wp_region_xt (by kernel_rfl) (by kernel_rfl) ?_
                  repeat (go_big_quiet_step ((first | (go_at_call_of 49 (Value.int .i64 (j : Int)); exact Xt.calls_same (Within_val _ _ _ _ hq1 _)) | (go_at_call_of 49 (Value.int .i64 n2); exact Xt.calls_same (Within_val _ _ _ _ hq2 _)))))
                  refine wpQuiet_nil ?_
                  intro w17 hx
                  have hb1 := Xt.below hx
                  clear hx x0 x1 x2 x3 v0
                  clear x4 e2
                  replace a0 := kept hb1 a0
                  replace a1 := kept hb1 a1
                  replace m0 := kept hb1 m0
                  replace m1 := kept hb1 m1
                  replace m2 := kept hb1 m2
                  replace hp := hp.below (hb1.mono hs)
                  replace hw := hw.below (hb1.mono hs)
                  replace ht := ht.below (hb1.mono hs)
                  replace HB := Lib.hid (HB.out.trans (hb1.mono hs))
                  replace hs := Nat.le_trans hs hb1.size
                  clear hb1
                  clear hq1 hq2
                  go_wp2_with fail
                  refine (CopyRooms_any w17 w.heap.size Ap _ np cp nw cw pp ws HL.out HLW.out (by omega) (by omega) hp hw hs).mono ?_
                  rintro e y1 ⟨A1, c1, A2, c2, rfl, hp1, hw1, hb1⟩
                  replace a0 := kept hb1 a0
                  replace a1 := kept hb1 a1
                  replace m0 := kept hb1 m0
                  replace m1 := kept hb1 m1
                  replace m2 := kept hb1 m2
                  replace hp := hp.below (hb1.mono hs)
                  replace hw := hw.below (hb1.mono hs)
                  replace ht := ht.below (hb1.mono hs)
                  replace HB := Lib.hid (HB.out.trans (hb1.mono hs))
                  replace hs := Nat.le_trans hs hb1.size
                  clear hb1
                  go_wp2_with fail
                  refine (LE y1 y1.heap.size A1 A2 c1 c2 hp1 hw1 (Nat.le_refl _)).mono ?_
                  rintro e y2 ⟨rfl, hb1⟩
                  replace a0 := kept hb1 a0
                  replace a1 := kept hb1 a1
                  replace m0 := kept hb1 m0
                  replace m1 := kept hb1 m1
                  replace m2 := kept hb1 m2
                  replace hp := hp.below (hb1.mono hs)
                  replace hw := hw.below (hb1.mono hs)
                  replace ht := ht.below (hb1.mono hs)
                  replace hp1 := (hp1.below hb1).mono hb1.size
                  replace hw1 := (hw1.below hb1).mono hb1.size
                  replace HB := Lib.hid (HB.out.trans (hb1.mono hs))
                  replace hs := Nat.le_trans hs hb1.size
                  clear hb1
                  clear hp1 hw1
                  go_wp2_with fail
                  refine (PE y2 w.heap.size Ap _ cp cw hp hw hs).mono ?_
                  rintro e y3 ⟨rfl, hb1⟩
                  replace a0 := kept hb1 a0
                  replace a1 := kept hb1 a1
                  replace m0 := kept hb1 m0
                  replace m1 := kept hb1 m1
                  replace m2 := kept hb1 m2
                  replace hp := hp.below (hb1.mono hs)
                  replace hw := hw.below (hb1.mono hs)
                  replace ht := ht.below (hb1.mono hs)
                  replace HB := Lib.hid (HB.out.trans (hb1.mono hs))
                  replace hs := Nat.le_trans hs hb1.size
                  clear hb1
                  go_wp2
                  go_ret
                  exact ⟨rfl, HB.out⟩
                | true =>
                  have x0 := fun x : Xt w16 => x.cell a0
                  have x1 := fun x : Xt w16 => x.cell a1
                  have x2 := fun x : Xt w16 => x.cell m1
                  have x3 := fun x : Xt w16 => x.cell m2
                  have v0 : IntKind.i64.wrap ((nw : Int) - 1) = (nw : Int) - 1 := IntWalk.i64_in _ (by omega)
                  refine wp_region_xt (by kernel_rfl) (by kernel_rfl) ?_
                  repeat (go_big_quiet_step ((first | (go_at_call_of 49 (Value.int .i64 (j : Int)); exact Xt.calls_same (Within_val _ _ _ _ hq1 _)) | (go_at_call_of 49 (Value.int .i64 n2); exact Xt.calls_same (Within_val _ _ _ _ hq2 _)))))
                  refine wpQuiet_nil ?_
                  intro w17 hx
                  have hb1 := Xt.below hx
                  clear hx x0 x1 x2 x3 v0
                  clear x4 e2
                  replace a0 := kept hb1 a0
                  replace a1 := kept hb1 a1
                  replace m0 := kept hb1 m0
                  replace m1 := kept hb1 m1
                  replace m2 := kept hb1 m2
                  replace hp := hp.below (hb1.mono hs)
                  replace hw := hw.below (hb1.mono hs)
                  replace ht := ht.below (hb1.mono hs)
                  replace HB := Lib.hid (HB.out.trans (hb1.mono hs))
                  replace hs := Nat.le_trans hs hb1.size
                  clear hb1
                  have hq : mm ≤ n2 ∧ n2 ≤ 10000 := by simpa [withinB] using hq2
                  obtain ⟨F2, r2, hE2, ho2, ok2⟩ := HMO.out j f td mm n2 HEV.out hq.1 hq.2
                  clear hq1 hq2
                  have CO := CopyRooms_own w17 w.heap.size Ap (some ⟨bb, off, none⟩) np cp nw cw pp ws HL.out HLW.out (by omega) (by omega) hp hw hs
                  go_wp2_with fail
                  refine CO.mono ?_
                  rintro e w18 ⟨g1_, c1, g2_, c2, rfl, o1, o2, hbc⟩
                  clear CO
                  go_upto_region 19 with (fail)
                  have hba : Below w18.heap.size w18 (w18.alloc (.cells #[.slice (some ⟨g1_, 0, none⟩) np c1, .slice (some ⟨g2_, 0, none⟩) nw c2] 42)) := (Below.refl _ _).alloc (Nat.le_refl _) _
                  have ky : (w18.alloc (.cells #[.slice (some ⟨g1_, 0, none⟩) np c1, .slice (some ⟨g2_, 0, none⟩) nw c2] 42)).heap[w18.heap.size]? = some (.cells #[.slice (some ⟨g1_, 0, none⟩) np c1, .slice (some ⟨g2_, 0, none⟩) nw c2] 42 (0, 0)) := by rw [heapq_alloc, if_pos rfl]
                  replace o1 := ownsRow_below o1 hba
                  replace o2 := ownsRow_below o2 hba
                  have hb1 := hbc.trans (hba.mono hbc.size)
                  clear hbc hba
                  generalize w18.alloc (.cells #[.slice (some ⟨g1_, 0, none⟩) np c1, .slice (some ⟨g2_, 0, none⟩) nw c2] 42) = w19 at *
                  generalize w18.heap.size = y at *
                  have y0 := (cell_of_row w19 y 0 _ _ _ ky).trans (by rfl : _ = some (.slice (some ⟨g1_, 0, none⟩) np c1))
                  have y1 := (cell_of_row w19 y 1 _ _ _ ky).trans (by rfl : _ = some (.slice (some ⟨g2_, 0, none⟩) nw c2))
                  obtain ⟨q0, q1, q2, q3⟩ := own_cell o2 (evCells_at ws j (f, td, mm) HEV.out).2.2
                  have hyg : y ≠ g2_ := ownBlk_ne o2 rfl ky (by decide)
                  have h12 : g2_ ≠ g1_ := by
                    obtain ⟨_, _, cur, hcur⟩ := ownBlk o1 rfl
                    exact Ne.symm (ownBlk_ne o2 rfl hcur (by decide))
                  have HB1 := Lib.hid hb1
                  clear hb1 ky
                  have m1' := kept HB1.out m1
                  have m2' := kept HB1.out m2
                  go_upto_region 20 with (fail)
                  have hb1 : Below w17.heap.size w17 (w19.setCell ⟨g2_, j * 3 + 2, none⟩ (.int .i64 n2)) := HB1.out.setCell q2 _
                  have p1 := ownsRow_setCell_other o1 (a := ⟨g2_, j * 3 + 2, none⟩) (by simp only [Value.ownBlock]; exact fun he => h12 (Option.some.inj he).symm) (.int .i64 n2)
                  have p2 := own_set (i := j * 3 + 2) o2 (.int .i64 n2)
                  rw [evCells_set ws j f td mm n2 HEV.out] at p2
                  have y0' : (w19.setCell ⟨g2_, j * 3 + 2, none⟩ (.int .i64 n2)).cell? ⟨y, 0, none⟩ = some (.slice (some ⟨g1_, 0, none⟩) np c1) := by
                    rw [World.cell?_setCell_other _ _ _ _ (fun he => hyg (by simpa using (congrArg Addr.block he).symm))]
                    exact y0
                  have y1' : (w19.setCell ⟨g2_, j * 3 + 2, none⟩ (.int .i64 n2)).cell? ⟨y, 1, none⟩ = some (.slice (some ⟨g2_, 0, none⟩) nw c2) := by
                    rw [World.cell?_setCell_other _ _ _ _ (fun he => hyg (by simpa using (congrArg Addr.block he).symm))]
                    exact y1
                  clear o1 o2 y0 y1 q0 q1 q2 q3 HB1 m1' m2'
                  generalize w19.setCell ⟨g2_, j * 3 + 2, none⟩ (.int .i64 n2) = w20 at *
                  replace a0 := kept hb1 a0
                  replace a1 := kept hb1 a1
                  replace m0 := kept hb1 m0
                  replace m1 := kept hb1 m1
                  replace m2 := kept hb1 m2
                  replace hp := hp.below (hb1.mono hs)
                  replace hw := hw.below (hb1.mono hs)
                  replace ht := ht.below (hb1.mono hs)
                  replace HB := Lib.hid (HB.out.trans (hb1.mono hs))
                  replace hs := Nat.le_trans hs hb1.size
                  clear hb1
                  have OB2 := OutBy_yes w20 w20.heap.size (some ⟨g1_, 0, none⟩) (some ⟨g2_, 0, none⟩) np c1 nw c2 pp (ws.set j (f, td, n2)) HL.out (by rw [List.length_set]; exact HLW.out) (Rd_of_own p1) (Rd_of_own p2) (Nat.le_refl _) T (rtE_ok ok2 (by omega)) 60001 129 F2 hE2.run
                  unfold LeastPost at OB2
                  generalize F2.o = f2 at *
                  clear p1 p2 hE2 ok2
                  go_wp2_with fail
                  refine (OB2).mono ?_
                  rintro e w21 ⟨rfl, hb1⟩
                  replace a0 := kept hb1 a0
                  replace a1 := kept hb1 a1
                  replace m0 := kept hb1 m0
                  replace m1 := kept hb1 m1
                  replace m2 := kept hb1 m2
                  replace hp := hp.below (hb1.mono hs)
                  replace hw := hw.below (hb1.mono hs)
                  replace ht := ht.below (hb1.mono hs)
                  replace HB := Lib.hid (HB.out.trans (hb1.mono hs))
                  replace hs := Nat.le_trans hs hb1.size
                  clear hb1
                  clear y0' y1' OB2
                  go_wp2_with fail
                  refine (CopyRooms_any w21 w.heap.size Ap _ np cp nw cw pp ws HL.out HLW.out (by omega) (by omega) hp hw hs).mono ?_
                  rintro e y1 ⟨A1, c1, A2, c2, rfl, hp1, hw1, hb1⟩
                  replace a0 := kept hb1 a0
                  replace a1 := kept hb1 a1
                  replace m0 := kept hb1 m0
                  replace m1 := kept hb1 m1
                  replace m2 := kept hb1 m2
                  replace hp := hp.below (hb1.mono hs)
                  replace hw := hw.below (hb1.mono hs)
                  replace ht := ht.below (hb1.mono hs)
                  replace HB := Lib.hid (HB.out.trans (hb1.mono hs))
                  replace hs := Nat.le_trans hs hb1.size
                  clear hb1
                  go_wp2_with fail
                  refine (LE y1 y1.heap.size A1 A2 c1 c2 hp1 hw1 (Nat.le_refl _)).mono ?_
                  rintro e y2 ⟨rfl, hb1⟩
                  replace a0 := kept hb1 a0
                  replace a1 := kept hb1 a1
                  replace m0 := kept hb1 m0
                  replace m1 := kept hb1 m1
                  replace m2 := kept hb1 m2
                  replace hp := hp.below (hb1.mono hs)
                  replace hw := hw.below (hb1.mono hs)
                  replace ht := ht.below (hb1.mono hs)
                  replace hp1 := (hp1.below hb1).mono hb1.size
                  replace hw1 := (hw1.below hb1).mono hb1.size
                  replace HB := Lib.hid (HB.out.trans (hb1.mono hs))
                  replace hs := Nat.le_trans hs hb1.size
                  clear hb1
                  clear hp1 hw1
                  go_wp2_with fail
                  refine (PE y2 w.heap.size Ap _ cp cw hp hw hs).mono ?_
                  rintro e y3 ⟨rfl, hb1⟩
                  replace a0 := kept hb1 a0
                  replace a1 := kept hb1 a1
                  replace m0 := kept hb1 m0
                  replace m1 := kept hb1 m1
                  replace m2 := kept hb1 m2
                  replace hp := hp.below (hb1.mono hs)
                  replace hw := hw.below (hb1.mono hs)
                  replace ht := ht.below (hb1.mono hs)
                  replace HB := Lib.hid (HB.out.trans (hb1.mono hs))
                  replace hs := Nat.le_trans hs hb1.size
                  clear hb1
                  go_wp2
                  go_ret
                  exact ⟨rfl, HB.out⟩
            | some n =>
              have CK2 := fun W B A1 A2 A3 c1 c2 c3 (h1 : Rd W B A1 (intCells pp)) (h2 : Rd W B A2 (evCells ws)) (h4 : Rd W B A3 (intCells tm)) (h3 : B ≤ W.heap.size) => CheckCut_no W B A1 A2 A3 np c1 nw c2 nt c3 pp ws tm (T : Int) HL.out HLW.out HLT.out (by omega) h1 h2 h4 h3 hce
              have e4 : (err4 pp ws np nt tm (T : Int) == 0) = false := beq_eq_false_iff_ne.2 hce
              unfold LeastPost at CK2
              obtain ⟨_, hn1, hn2, _⟩ := (leastGo_spec (v := v) (s := sumL pp) (T + 1) 0).1 n hrr
              have LE := LT (some n) hrr
              simp only [leastN, leastE] at LE
              have OBN := OB n (by omega)
              rw [hn2] at OBN
              unfold LeastPost at LE OBN
              have hse : v T = sumL pp := by
                have := hmono (T - n) n (by omega)
                rw [show n + (T - n) = T by omega, hn2] at this
                omega
              generalize err4 pp ws np nt tm (T : Int) = d4 at *
              clear hd hv hmono hE hFo h4L ok OB LT hrr hce
              generalize v T = o at *
              generalize v (T + 1) = o1 at *
              generalize sumL pp = s at *
              generalize hLe : cutM np T r = L at *
              have HLL : Hid (L.length = np) := by rw [Hid, ← hLe]; exact cutM_len np T r
              clear hLe
              go_wp2_with (go_at_call 49; refine (WQ _).mono ?_; rintro e w' ⟨rfl, rfl⟩)
              refine (CopyRooms_any w3 w.heap.size Ap Aw np cp nw cw pp ws HL.out HLW.out (by omega) (by omega) hp hw hs).mono ?_
              rintro e w4 ⟨A1, c1, A2, c2, rfl, hp1, hw1, hb1⟩
              replace a0 := kept hb1 a0
              replace a1 := kept hb1 a1
              replace m0 := kept hb1 m0
              replace m1 := kept hb1 m1
              replace m2 := kept hb1 m2
              replace hp := hp.below (hb1.mono hs)
              replace hw := hw.below (hb1.mono hs)
              replace ht := ht.below (hb1.mono hs)
              replace HB := Lib.hid (HB.out.trans (hb1.mono hs))
              replace hs := Nat.le_trans hs hb1.size
              clear hb1
              go_wp2_with fail
              refine (OB0 w4 w4.heap.size A1 A2 c1 c2 hp1 hw1 (Nat.le_refl _)).mono ?_
              rintro e w5 ⟨rfl, hb1⟩
              replace a0 := kept hb1 a0
              replace a1 := kept hb1 a1
              replace m0 := kept hb1 m0
              replace m1 := kept hb1 m1
              replace m2 := kept hb1 m2
              replace hp := hp.below (hb1.mono hs)
              replace hw := hw.below (hb1.mono hs)
              replace ht := ht.below (hb1.mono hs)
              replace hp1 := (hp1.below hb1).mono hb1.size
              replace hw1 := (hw1.below hb1).mono hb1.size
              replace HB := Lib.hid (HB.out.trans (hb1.mono hs))
              replace hs := Nat.le_trans hs hb1.size
              clear hb1
              clear hp1 hw1
              go_wp2_with fail
              refine (CopyRooms_any w5 w.heap.size Ap Aw np cp nw cw pp ws HL.out HLW.out (by omega) (by omega) hp hw hs).mono ?_
              rintro e w6 ⟨A1, c1, A2, c2, rfl, hp1, hw1, hb1⟩
              replace a0 := kept hb1 a0
              replace a1 := kept hb1 a1
              replace m0 := kept hb1 m0
              replace m1 := kept hb1 m1
              replace m2 := kept hb1 m2
              replace hp := hp.below (hb1.mono hs)
              replace hw := hw.below (hb1.mono hs)
              replace ht := ht.below (hb1.mono hs)
              replace HB := Lib.hid (HB.out.trans (hb1.mono hs))
              replace hs := Nat.le_trans hs hb1.size
              clear hb1
              go_wp2_with fail
              refine (BC w6 w6.heap.size A1 A2 c1 c2 hp1 hw1 (Nat.le_refl _)).mono ?_
              rintro e w7 ⟨A4, c4, rfl, hL, hb1⟩
              replace a0 := kept hb1 a0
              replace a1 := kept hb1 a1
              replace m0 := kept hb1 m0
              replace m1 := kept hb1 m1
              replace m2 := kept hb1 m2
              replace hp := hp.below (hb1.mono hs)
              replace hw := hw.below (hb1.mono hs)
              replace ht := ht.below (hb1.mono hs)
              replace hp1 := (hp1.below hb1).mono hb1.size
              replace hw1 := (hw1.below hb1).mono hb1.size
              replace HB := Lib.hid (HB.out.trans (hb1.mono hs))
              replace hs := Nat.le_trans hs hb1.size
              clear hb1
              clear hp1 hw1
              go_wp2_with fail
              refine (CopyRooms_any w7 w.heap.size Ap Aw np cp nw cw pp ws HL.out HLW.out (by omega) (by omega) hp hw hs).mono ?_
              rintro e w8 ⟨A1, c1, A2, c2, rfl, hp1, hw1, hb1⟩
              replace a0 := kept hb1 a0
              replace a1 := kept hb1 a1
              replace m0 := kept hb1 m0
              replace m1 := kept hb1 m1
              replace m2 := kept hb1 m2
              replace hp := hp.below (hb1.mono hs)
              replace hw := hw.below (hb1.mono hs)
              replace ht := ht.below (hb1.mono hs)
              replace hL := (hL.below hb1).mono hb1.size
              replace HB := Lib.hid (HB.out.trans (hb1.mono hs))
              replace hs := Nat.le_trans hs hb1.size
              clear hb1
              go_wp2_with fail
              refine (CopyInts_any w8 w8.heap.size A4 np c4 L HLL.out (by omega) hL (Nat.le_refl _)).mono ?_
              rintro e w9 ⟨A3, c3, rfl, ht1, hb1⟩
              replace a0 := kept hb1 a0
              replace a1 := kept hb1 a1
              replace m0 := kept hb1 m0
              replace m1 := kept hb1 m1
              replace m2 := kept hb1 m2
              replace hp := hp.below (hb1.mono hs)
              replace hw := hw.below (hb1.mono hs)
              replace ht := ht.below (hb1.mono hs)
              replace hL := (hL.below hb1).mono hb1.size
              replace hp1 := (hp1.below hb1).mono hb1.size
              replace hw1 := (hw1.below hb1).mono hb1.size
              replace HB := Lib.hid (HB.out.trans (hb1.mono hs))
              replace hs := Nat.le_trans hs hb1.size
              clear hb1
              clear hL
              go_wp2_with fail
              refine (CK1 w9 w9.heap.size A1 A2 A3 c1 c2 c3 hp1 hw1 ht1 (Nat.le_refl _)).mono ?_
              rintro e w10 ⟨rfl, hb1⟩
              replace a0 := kept hb1 a0
              replace a1 := kept hb1 a1
              replace m0 := kept hb1 m0
              replace m1 := kept hb1 m1
              replace m2 := kept hb1 m2
              replace hp := hp.below (hb1.mono hs)
              replace hw := hw.below (hb1.mono hs)
              replace ht := ht.below (hb1.mono hs)
              replace hp1 := (hp1.below hb1).mono hb1.size
              replace hw1 := (hw1.below hb1).mono hb1.size
              replace ht1 := (ht1.below hb1).mono hb1.size
              replace HB := Lib.hid (HB.out.trans (hb1.mono hs))
              replace hs := Nat.le_trans hs hb1.size
              clear hb1
              clear hp1 hw1 ht1
              go_wp2_with fail
              refine (PE w10 w.heap.size Ap Aw cp cw hp hw hs).mono ?_
              rintro e w11 ⟨rfl, hb1⟩
              replace a0 := kept hb1 a0
              replace a1 := kept hb1 a1
              replace m0 := kept hb1 m0
              replace m1 := kept hb1 m1
              replace m2 := kept hb1 m2
              replace hp := hp.below (hb1.mono hs)
              replace hw := hw.below (hb1.mono hs)
              replace ht := ht.below (hb1.mono hs)
              replace HB := Lib.hid (HB.out.trans (hb1.mono hs))
              replace hs := Nat.le_trans hs hb1.size
              clear hb1
              go_wp2_with fail
              refine (CopyRooms_any w11 w.heap.size Ap Aw np cp nw cw pp ws HL.out HLW.out (by omega) (by omega) hp hw hs).mono ?_
              rintro e w12 ⟨A1, c1, A2, c2, rfl, hp1, hw1, hb1⟩
              replace a0 := kept hb1 a0
              replace a1 := kept hb1 a1
              replace m0 := kept hb1 m0
              replace m1 := kept hb1 m1
              replace m2 := kept hb1 m2
              replace hp := hp.below (hb1.mono hs)
              replace hw := hw.below (hb1.mono hs)
              replace ht := ht.below (hb1.mono hs)
              replace HB := Lib.hid (HB.out.trans (hb1.mono hs))
              replace hs := Nat.le_trans hs hb1.size
              clear hb1
              go_wp2_with fail
              refine (CopyInts_any w12 w.heap.size At nt ct tm HLT.out (by omega) ht hs).mono ?_
              rintro e w13 ⟨A3, c3, rfl, ht1, hb1⟩
              replace a0 := kept hb1 a0
              replace a1 := kept hb1 a1
              replace m0 := kept hb1 m0
              replace m1 := kept hb1 m1
              replace m2 := kept hb1 m2
              replace hp := hp.below (hb1.mono hs)
              replace hw := hw.below (hb1.mono hs)
              replace ht := ht.below (hb1.mono hs)
              replace hp1 := (hp1.below hb1).mono hb1.size
              replace hw1 := (hw1.below hb1).mono hb1.size
              replace HB := Lib.hid (HB.out.trans (hb1.mono hs))
              replace hs := Nat.le_trans hs hb1.size
              clear hb1
              go_wp2_with fail
              refine (CK2 w13 w13.heap.size A1 A2 A3 c1 c2 c3 hp1 hw1 ht1 (Nat.le_refl _)).mono ?_
              rintro e w14 ⟨rfl, hb1⟩
              replace a0 := kept hb1 a0
              replace a1 := kept hb1 a1
              replace m0 := kept hb1 m0
              replace m1 := kept hb1 m1
              replace m2 := kept hb1 m2
              replace hp := hp.below (hb1.mono hs)
              replace hw := hw.below (hb1.mono hs)
              replace ht := ht.below (hb1.mono hs)
              replace hp1 := (hp1.below hb1).mono hb1.size
              replace hw1 := (hw1.below hb1).mono hb1.size
              replace ht1 := (ht1.below hb1).mono hb1.size
              replace HB := Lib.hid (HB.out.trans (hb1.mono hs))
              replace hs := Nat.le_trans hs hb1.size
              clear hb1
              clear hp1 hw1 ht1
              go_wp2_with fail
              refine (CopyRooms_any w14 w.heap.size Ap Aw np cp nw cw pp ws HL.out HLW.out (by omega) (by omega) hp hw hs).mono ?_
              rintro e w15 ⟨A1, c1, A2, c2, rfl, hp1, hw1, hb1⟩
              replace a0 := kept hb1 a0
              replace a1 := kept hb1 a1
              replace m0 := kept hb1 m0
              replace m1 := kept hb1 m1
              replace m2 := kept hb1 m2
              replace hp := hp.below (hb1.mono hs)
              replace hw := hw.below (hb1.mono hs)
              replace ht := ht.below (hb1.mono hs)
              replace HB := Lib.hid (HB.out.trans (hb1.mono hs))
              replace hs := Nat.le_trans hs hb1.size
              clear hb1
              go_wp2_with fail
              refine (OB1 w15 w15.heap.size A1 A2 c1 c2 hp1 hw1 (Nat.le_refl _)).mono ?_
              rintro e w16 ⟨rfl, hb1⟩
              replace a0 := kept hb1 a0
              replace a1 := kept hb1 a1
              replace m0 := kept hb1 m0
              replace m1 := kept hb1 m1
              replace m2 := kept hb1 m2
              replace hp := hp.below (hb1.mono hs)
              replace hw := hw.below (hb1.mono hs)
              replace ht := ht.below (hb1.mono hs)
              replace hp1 := (hp1.below hb1).mono hb1.size
              replace hw1 := (hw1.below hb1).mono hb1.size
              replace HB := Lib.hid (HB.out.trans (hb1.mono hs))
              replace hs := Nat.le_trans hs hb1.size
              clear hb1
              clear hp1 hw1
              go_upto_region 17 with (fail)
              cases hq1 : withinB n1 0 ((nw : Int) - 1) with
              | false =>
                have x0 := fun x : Xt w16 => x.cell a0
                have x1 := fun x : Xt w16 => x.cell a1
                have x2 := fun x : Xt w16 => x.cell m1
                have x3 := fun x : Xt w16 => x.cell m2
                have v0 : IntKind.i64.wrap ((nw : Int) - 1) = (nw : Int) - 1 := IntWalk.i64_in _ (by omega)
                refine wp_region_xt (by kernel_rfl) (by kernel_rfl) ?_
                repeat (go_big_quiet_step (((go_at_call 49; exact Xt.calls_same (Within_val _ _ _ _ hq1 _)))))
                refine wpQuiet_nil ?_
                intro w17 hx
                have hb1 := Xt.below hx
                clear hx x0 x1 x2 x3 v0
                replace a0 := kept hb1 a0
                replace a1 := kept hb1 a1
                replace m0 := kept hb1 m0
                replace m1 := kept hb1 m1
                replace m2 := kept hb1 m2
                replace hp := hp.below (hb1.mono hs)
                replace hw := hw.below (hb1.mono hs)
                replace ht := ht.below (hb1.mono hs)
                replace HB := Lib.hid (HB.out.trans (hb1.mono hs))
                replace hs := Nat.le_trans hs hb1.size
                clear hb1
                clear hq1
                go_wp2_with fail
                refine (CopyRooms_any w17 w.heap.size Ap Aw np cp nw cw pp ws HL.out HLW.out (by omega) (by omega) hp hw hs).mono ?_
                rintro e y1 ⟨A1, c1, A2, c2, rfl, hp1, hw1, hb1⟩
                replace a0 := kept hb1 a0
                replace a1 := kept hb1 a1
                replace m0 := kept hb1 m0
                replace m1 := kept hb1 m1
                replace m2 := kept hb1 m2
                replace hp := hp.below (hb1.mono hs)
                replace hw := hw.below (hb1.mono hs)
                replace ht := ht.below (hb1.mono hs)
                replace HB := Lib.hid (HB.out.trans (hb1.mono hs))
                replace hs := Nat.le_trans hs hb1.size
                clear hb1
                go_wp2_with fail
                refine (LE y1 y1.heap.size A1 A2 c1 c2 hp1 hw1 (Nat.le_refl _)).mono ?_
                rintro e y2 ⟨rfl, hb1⟩
                replace a0 := kept hb1 a0
                replace a1 := kept hb1 a1
                replace m0 := kept hb1 m0
                replace m1 := kept hb1 m1
                replace m2 := kept hb1 m2
                replace hp := hp.below (hb1.mono hs)
                replace hw := hw.below (hb1.mono hs)
                replace ht := ht.below (hb1.mono hs)
                replace hp1 := (hp1.below hb1).mono hb1.size
                replace hw1 := (hw1.below hb1).mono hb1.size
                replace HB := Lib.hid (HB.out.trans (hb1.mono hs))
                replace hs := Nat.le_trans hs hb1.size
                clear hb1
                clear hp1 hw1
                go_wp2_with fail
                refine (CopyRooms_any y2 w.heap.size Ap Aw np cp nw cw pp ws HL.out HLW.out (by omega) (by omega) hp hw hs).mono ?_
                rintro e y3 ⟨A1, c1, A2, c2, rfl, hp1, hw1, hb1⟩
                replace a0 := kept hb1 a0
                replace a1 := kept hb1 a1
                replace m0 := kept hb1 m0
                replace m1 := kept hb1 m1
                replace m2 := kept hb1 m2
                replace hp := hp.below (hb1.mono hs)
                replace hw := hw.below (hb1.mono hs)
                replace ht := ht.below (hb1.mono hs)
                replace HB := Lib.hid (HB.out.trans (hb1.mono hs))
                replace hs := Nat.le_trans hs hb1.size
                clear hb1
                go_wp2_with fail
                refine (OBN y3 y3.heap.size A1 A2 c1 c2 hp1 hw1 (Nat.le_refl _)).mono ?_
                rintro e y4 ⟨rfl, hb1⟩
                replace a0 := kept hb1 a0
                replace a1 := kept hb1 a1
                replace m0 := kept hb1 m0
                replace m1 := kept hb1 m1
                replace m2 := kept hb1 m2
                replace hp := hp.below (hb1.mono hs)
                replace hw := hw.below (hb1.mono hs)
                replace ht := ht.below (hb1.mono hs)
                replace hp1 := (hp1.below hb1).mono hb1.size
                replace hw1 := (hw1.below hb1).mono hb1.size
                replace HB := Lib.hid (HB.out.trans (hb1.mono hs))
                replace hs := Nat.le_trans hs hb1.size
                clear hb1
                clear hp1 hw1
                go_wp2_with fail
                refine (PE y4 w.heap.size Ap Aw cp cw hp hw hs).mono ?_
                rintro e y5 ⟨rfl, hb1⟩
                replace a0 := kept hb1 a0
                replace a1 := kept hb1 a1
                replace m0 := kept hb1 m0
                replace m1 := kept hb1 m1
                replace m2 := kept hb1 m2
                replace hp := hp.below (hb1.mono hs)
                replace hw := hw.below (hb1.mono hs)
                replace ht := ht.below (hb1.mono hs)
                replace HB := Lib.hid (HB.out.trans (hb1.mono hs))
                replace hs := Nat.le_trans hs hb1.size
                clear hb1
                go_wp2
                go_ret
                exact ⟨rfl, HB.out⟩
              | true =>
                have hj : 0 ≤ n1 ∧ n1 ≤ (nw : Int) - 1 := by simpa [withinB] using hq1
                obtain ⟨hj0, hj1⟩ := hj
                obtain ⟨j, rfl⟩ := Int.eq_ofNat_of_zero_le hj0
                have hjn : j < nw := by omega
                have hjl : j < ws.length := by rw [HLW.out]; exact hjn
                obtain ⟨ev, hev⟩ : ∃ ev, ws[j]? = some ev := ⟨_, List.getElem?_eq_getElem hjl⟩
                obtain ⟨z0, z1, z2⟩ := evCells_at ws j ev hev
                obtain ⟨bb, off, hAw, hbB, e0, e1, e2⟩ := hw.at3 z0 z1 z2
                obtain ⟨f, td, mm⟩ := ev
                simp only at e0 e1 e2
                subst hAw
                have HEV := Lib.hid hev
                have x4 := fun x : Xt w16 => x.cell e2
                clear hev z0 z1 z2 hjl e0 e1
                cases hq2 : withinB n2 mm 10000 with
                | false =>
                  have x0 := fun x : Xt w16 => x.cell a0
                  have x1 := fun x : Xt w16 => x.cell a1
                  have x2 := fun x : Xt w16 => x.cell m1
                  have x3 := fun x : Xt w16 => x.cell m2
                  have v0 : IntKind.i64.wrap ((nw : Int) - 1) = (nw : Int) - 1 := IntWalk.i64_in _ (by omega)
                  refine wp_region_xt (by kernel_rfl) (by kernel_rfl) ?_
                  repeat (go_big_quiet_step ((first | (go_at_call_of 49 (Value.int .i64 (j : Int)); exact Xt.calls_same (Within_val _ _ _ _ hq1 _)) | (go_at_call_of 49 (Value.int .i64 n2); exact Xt.calls_same (Within_val _ _ _ _ hq2 _)))))
                  refine wpQuiet_nil ?_
                  intro w17 hx
                  have hb1 := Xt.below hx
                  clear hx x0 x1 x2 x3 v0
                  clear x4 e2
                  replace a0 := kept hb1 a0
                  replace a1 := kept hb1 a1
                  replace m0 := kept hb1 m0
                  replace m1 := kept hb1 m1
                  replace m2 := kept hb1 m2
                  replace hp := hp.below (hb1.mono hs)
                  replace hw := hw.below (hb1.mono hs)
                  replace ht := ht.below (hb1.mono hs)
                  replace HB := Lib.hid (HB.out.trans (hb1.mono hs))
                  replace hs := Nat.le_trans hs hb1.size
                  clear hb1
                  clear hq1 hq2
                  go_wp2_with fail
                  refine (CopyRooms_any w17 w.heap.size Ap _ np cp nw cw pp ws HL.out HLW.out (by omega) (by omega) hp hw hs).mono ?_
                  rintro e y1 ⟨A1, c1, A2, c2, rfl, hp1, hw1, hb1⟩
                  replace a0 := kept hb1 a0
                  replace a1 := kept hb1 a1
                  replace m0 := kept hb1 m0
                  replace m1 := kept hb1 m1
                  replace m2 := kept hb1 m2
                  replace hp := hp.below (hb1.mono hs)
                  replace hw := hw.below (hb1.mono hs)
                  replace ht := ht.below (hb1.mono hs)
                  replace HB := Lib.hid (HB.out.trans (hb1.mono hs))
                  replace hs := Nat.le_trans hs hb1.size
                  clear hb1
                  go_wp2_with fail
                  refine (LE y1 y1.heap.size A1 A2 c1 c2 hp1 hw1 (Nat.le_refl _)).mono ?_
                  rintro e y2 ⟨rfl, hb1⟩
                  replace a0 := kept hb1 a0
                  replace a1 := kept hb1 a1
                  replace m0 := kept hb1 m0
                  replace m1 := kept hb1 m1
                  replace m2 := kept hb1 m2
                  replace hp := hp.below (hb1.mono hs)
                  replace hw := hw.below (hb1.mono hs)
                  replace ht := ht.below (hb1.mono hs)
                  replace hp1 := (hp1.below hb1).mono hb1.size
                  replace hw1 := (hw1.below hb1).mono hb1.size
                  replace HB := Lib.hid (HB.out.trans (hb1.mono hs))
                  replace hs := Nat.le_trans hs hb1.size
                  clear hb1
                  clear hp1 hw1
                  go_wp2_with fail
                  refine (CopyRooms_any y2 w.heap.size Ap _ np cp nw cw pp ws HL.out HLW.out (by omega) (by omega) hp hw hs).mono ?_
                  rintro e y3 ⟨A1, c1, A2, c2, rfl, hp1, hw1, hb1⟩
                  replace a0 := kept hb1 a0
                  replace a1 := kept hb1 a1
                  replace m0 := kept hb1 m0
                  replace m1 := kept hb1 m1
                  replace m2 := kept hb1 m2
                  replace hp := hp.below (hb1.mono hs)
                  replace hw := hw.below (hb1.mono hs)
                  replace ht := ht.below (hb1.mono hs)
                  replace HB := Lib.hid (HB.out.trans (hb1.mono hs))
                  replace hs := Nat.le_trans hs hb1.size
                  clear hb1
                  go_wp2_with fail
                  refine (OBN y3 y3.heap.size A1 A2 c1 c2 hp1 hw1 (Nat.le_refl _)).mono ?_
                  rintro e y4 ⟨rfl, hb1⟩
                  replace a0 := kept hb1 a0
                  replace a1 := kept hb1 a1
                  replace m0 := kept hb1 m0
                  replace m1 := kept hb1 m1
                  replace m2 := kept hb1 m2
                  replace hp := hp.below (hb1.mono hs)
                  replace hw := hw.below (hb1.mono hs)
                  replace ht := ht.below (hb1.mono hs)
                  replace hp1 := (hp1.below hb1).mono hb1.size
                  replace hw1 := (hw1.below hb1).mono hb1.size
                  replace HB := Lib.hid (HB.out.trans (hb1.mono hs))
                  replace hs := Nat.le_trans hs hb1.size
                  clear hb1
                  clear hp1 hw1
                  go_wp2_with fail
                  refine (PE y4 w.heap.size Ap _ cp cw hp hw hs).mono ?_
                  rintro e y5 ⟨rfl, hb1⟩
                  replace a0 := kept hb1 a0
                  replace a1 := kept hb1 a1
                  replace m0 := kept hb1 m0
                  replace m1 := kept hb1 m1
                  replace m2 := kept hb1 m2
                  replace hp := hp.below (hb1.mono hs)
                  replace hw := hw.below (hb1.mono hs)
                  replace ht := ht.below (hb1.mono hs)
                  replace HB := Lib.hid (HB.out.trans (hb1.mono hs))
                  replace hs := Nat.le_trans hs hb1.size
                  clear hb1
                  go_wp2
                  go_ret
                  exact ⟨rfl, HB.out⟩
                | true =>
                  have x0 := fun x : Xt w16 => x.cell a0
                  have x1 := fun x : Xt w16 => x.cell a1
                  have x2 := fun x : Xt w16 => x.cell m1
                  have x3 := fun x : Xt w16 => x.cell m2
                  have v0 : IntKind.i64.wrap ((nw : Int) - 1) = (nw : Int) - 1 := IntWalk.i64_in _ (by omega)
                  refine wp_region_xt (by kernel_rfl) (by kernel_rfl) ?_
                  repeat (go_big_quiet_step ((first | (go_at_call_of 49 (Value.int .i64 (j : Int)); exact Xt.calls_same (Within_val _ _ _ _ hq1 _)) | (go_at_call_of 49 (Value.int .i64 n2); exact Xt.calls_same (Within_val _ _ _ _ hq2 _)))))
                  refine wpQuiet_nil ?_
                  intro w17 hx
                  have hb1 := Xt.below hx
                  clear hx x0 x1 x2 x3 v0
                  clear x4 e2
                  replace a0 := kept hb1 a0
                  replace a1 := kept hb1 a1
                  replace m0 := kept hb1 m0
                  replace m1 := kept hb1 m1
                  replace m2 := kept hb1 m2
                  replace hp := hp.below (hb1.mono hs)
                  replace hw := hw.below (hb1.mono hs)
                  replace ht := ht.below (hb1.mono hs)
                  replace HB := Lib.hid (HB.out.trans (hb1.mono hs))
                  replace hs := Nat.le_trans hs hb1.size
                  clear hb1
                  have hq : mm ≤ n2 ∧ n2 ≤ 10000 := by simpa [withinB] using hq2
                  obtain ⟨F2, r2, hE2, ho2, ok2⟩ := HMO.out j f td mm n2 HEV.out hq.1 hq.2
                  clear hq1 hq2
                  have CO := CopyRooms_own w17 w.heap.size Ap (some ⟨bb, off, none⟩) np cp nw cw pp ws HL.out HLW.out (by omega) (by omega) hp hw hs
                  go_wp2_with fail
                  refine CO.mono ?_
                  rintro e w18 ⟨g1_, c1, g2_, c2, rfl, o1, o2, hbc⟩
                  clear CO
                  go_upto_region 19 with (fail)
                  have hba : Below w18.heap.size w18 (w18.alloc (.cells #[.slice (some ⟨g1_, 0, none⟩) np c1, .slice (some ⟨g2_, 0, none⟩) nw c2] 42)) := (Below.refl _ _).alloc (Nat.le_refl _) _
                  have ky : (w18.alloc (.cells #[.slice (some ⟨g1_, 0, none⟩) np c1, .slice (some ⟨g2_, 0, none⟩) nw c2] 42)).heap[w18.heap.size]? = some (.cells #[.slice (some ⟨g1_, 0, none⟩) np c1, .slice (some ⟨g2_, 0, none⟩) nw c2] 42 (0, 0)) := by rw [heapq_alloc, if_pos rfl]
                  replace o1 := ownsRow_below o1 hba
                  replace o2 := ownsRow_below o2 hba
                  have hb1 := hbc.trans (hba.mono hbc.size)
                  clear hbc hba
                  generalize w18.alloc (.cells #[.slice (some ⟨g1_, 0, none⟩) np c1, .slice (some ⟨g2_, 0, none⟩) nw c2] 42) = w19 at *
                  generalize w18.heap.size = y at *
                  have y0 := (cell_of_row w19 y 0 _ _ _ ky).trans (by rfl : _ = some (.slice (some ⟨g1_, 0, none⟩) np c1))
                  have y1 := (cell_of_row w19 y 1 _ _ _ ky).trans (by rfl : _ = some (.slice (some ⟨g2_, 0, none⟩) nw c2))
                  obtain ⟨q0, q1, q2, q3⟩ := own_cell o2 (evCells_at ws j (f, td, mm) HEV.out).2.2
                  have hyg : y ≠ g2_ := ownBlk_ne o2 rfl ky (by decide)
                  have h12 : g2_ ≠ g1_ := by
                    obtain ⟨_, _, cur, hcur⟩ := ownBlk o1 rfl
                    exact Ne.symm (ownBlk_ne o2 rfl hcur (by decide))
                  have HB1 := Lib.hid hb1
                  clear hb1 ky
                  have m1' := kept HB1.out m1
                  have m2' := kept HB1.out m2
                  go_upto_region 20 with (fail)
                  have hb1 : Below w17.heap.size w17 (w19.setCell ⟨g2_, j * 3 + 2, none⟩ (.int .i64 n2)) := HB1.out.setCell q2 _
                  have p1 := ownsRow_setCell_other o1 (a := ⟨g2_, j * 3 + 2, none⟩) (by simp only [Value.ownBlock]; exact fun he => h12 (Option.some.inj he).symm) (.int .i64 n2)
                  have p2 := own_set (i := j * 3 + 2) o2 (.int .i64 n2)
                  rw [evCells_set ws j f td mm n2 HEV.out] at p2
                  have y0' : (w19.setCell ⟨g2_, j * 3 + 2, none⟩ (.int .i64 n2)).cell? ⟨y, 0, none⟩ = some (.slice (some ⟨g1_, 0, none⟩) np c1) := by
                    rw [World.cell?_setCell_other _ _ _ _ (fun he => hyg (by simpa using (congrArg Addr.block he).symm))]
                    exact y0
                  have y1' : (w19.setCell ⟨g2_, j * 3 + 2, none⟩ (.int .i64 n2)).cell? ⟨y, 1, none⟩ = some (.slice (some ⟨g2_, 0, none⟩) nw c2) := by
                    rw [World.cell?_setCell_other _ _ _ _ (fun he => hyg (by simpa using (congrArg Addr.block he).symm))]
                    exact y1
                  clear o1 o2 y0 y1 q0 q1 q2 q3 HB1 m1' m2'
                  generalize w19.setCell ⟨g2_, j * 3 + 2, none⟩ (.int .i64 n2) = w20 at *
                  replace a0 := kept hb1 a0
                  replace a1 := kept hb1 a1
                  replace m0 := kept hb1 m0
                  replace m1 := kept hb1 m1
                  replace m2 := kept hb1 m2
                  replace hp := hp.below (hb1.mono hs)
                  replace hw := hw.below (hb1.mono hs)
                  replace ht := ht.below (hb1.mono hs)
                  replace HB := Lib.hid (HB.out.trans (hb1.mono hs))
                  replace hs := Nat.le_trans hs hb1.size
                  clear hb1
                  have OB2 := OutBy_yes w20 w20.heap.size (some ⟨g1_, 0, none⟩) (some ⟨g2_, 0, none⟩) np c1 nw c2 pp (ws.set j (f, td, n2)) HL.out (by rw [List.length_set]; exact HLW.out) (Rd_of_own p1) (Rd_of_own p2) (Nat.le_refl _) T (rtE_ok ok2 (by omega)) 60001 129 F2 hE2.run
                  unfold LeastPost at OB2
                  generalize F2.o = f2 at *
                  clear p1 p2 hE2 ok2
                  go_wp2_with fail
                  refine (OB2).mono ?_
                  rintro e w21 ⟨rfl, hb1⟩
                  replace a0 := kept hb1 a0
                  replace a1 := kept hb1 a1
                  replace m0 := kept hb1 m0
                  replace m1 := kept hb1 m1
                  replace m2 := kept hb1 m2
                  replace hp := hp.below (hb1.mono hs)
                  replace hw := hw.below (hb1.mono hs)
                  replace ht := ht.below (hb1.mono hs)
                  replace HB := Lib.hid (HB.out.trans (hb1.mono hs))
                  replace hs := Nat.le_trans hs hb1.size
                  clear hb1
                  clear y0' y1' OB2
                  go_wp2_with fail
                  refine (CopyRooms_any w21 w.heap.size Ap _ np cp nw cw pp ws HL.out HLW.out (by omega) (by omega) hp hw hs).mono ?_
                  rintro e y1 ⟨A1, c1, A2, c2, rfl, hp1, hw1, hb1⟩
                  replace a0 := kept hb1 a0
                  replace a1 := kept hb1 a1
                  replace m0 := kept hb1 m0
                  replace m1 := kept hb1 m1
                  replace m2 := kept hb1 m2
                  replace hp := hp.below (hb1.mono hs)
                  replace hw := hw.below (hb1.mono hs)
                  replace ht := ht.below (hb1.mono hs)
                  replace HB := Lib.hid (HB.out.trans (hb1.mono hs))
                  replace hs := Nat.le_trans hs hb1.size
                  clear hb1
                  go_wp2_with fail
                  refine (LE y1 y1.heap.size A1 A2 c1 c2 hp1 hw1 (Nat.le_refl _)).mono ?_
                  rintro e y2 ⟨rfl, hb1⟩
                  replace a0 := kept hb1 a0
                  replace a1 := kept hb1 a1
                  replace m0 := kept hb1 m0
                  replace m1 := kept hb1 m1
                  replace m2 := kept hb1 m2
                  replace hp := hp.below (hb1.mono hs)
                  replace hw := hw.below (hb1.mono hs)
                  replace ht := ht.below (hb1.mono hs)
                  replace hp1 := (hp1.below hb1).mono hb1.size
                  replace hw1 := (hw1.below hb1).mono hb1.size
                  replace HB := Lib.hid (HB.out.trans (hb1.mono hs))
                  replace hs := Nat.le_trans hs hb1.size
                  clear hb1
                  clear hp1 hw1
                  go_wp2_with fail
                  refine (CopyRooms_any y2 w.heap.size Ap _ np cp nw cw pp ws HL.out HLW.out (by omega) (by omega) hp hw hs).mono ?_
                  rintro e y3 ⟨A1, c1, A2, c2, rfl, hp1, hw1, hb1⟩
                  replace a0 := kept hb1 a0
                  replace a1 := kept hb1 a1
                  replace m0 := kept hb1 m0
                  replace m1 := kept hb1 m1
                  replace m2 := kept hb1 m2
                  replace hp := hp.below (hb1.mono hs)
                  replace hw := hw.below (hb1.mono hs)
                  replace ht := ht.below (hb1.mono hs)
                  replace HB := Lib.hid (HB.out.trans (hb1.mono hs))
                  replace hs := Nat.le_trans hs hb1.size
                  clear hb1
                  go_wp2_with fail
                  refine (OBN y3 y3.heap.size A1 A2 c1 c2 hp1 hw1 (Nat.le_refl _)).mono ?_
                  rintro e y4 ⟨rfl, hb1⟩
                  replace a0 := kept hb1 a0
                  replace a1 := kept hb1 a1
                  replace m0 := kept hb1 m0
                  replace m1 := kept hb1 m1
                  replace m2 := kept hb1 m2
                  replace hp := hp.below (hb1.mono hs)
                  replace hw := hw.below (hb1.mono hs)
                  replace ht := ht.below (hb1.mono hs)
                  replace hp1 := (hp1.below hb1).mono hb1.size
                  replace hw1 := (hw1.below hb1).mono hb1.size
                  replace HB := Lib.hid (HB.out.trans (hb1.mono hs))
                  replace hs := Nat.le_trans hs hb1.size
                  clear hb1
                  clear hp1 hw1
                  go_wp2_with fail
                  refine (PE y4 w.heap.size Ap _ cp cw hp hw hs).mono ?_
                  rintro e y5 ⟨rfl, hb1⟩
                  replace a0 := kept hb1 a0
                  replace a1 := kept hb1 a1
                  replace m0 := kept hb1 m0
                  replace m1 := kept hb1 m1
                  replace m2 := kept hb1 m2
                  replace hp := hp.below (hb1.mono hs)
                  replace hw := hw.below (hb1.mono hs)
                  replace ht := ht.below (hb1.mono hs)
                  replace HB := Lib.hid (HB.out.trans (hb1.mono hs))
                  replace hs := Nat.le_trans hs hb1.size
                  clear hb1
                  go_wp2
                  go_ret
                  exact ⟨rfl, HB.out⟩
        · have h8i : (8 : Int) < (nt : Int) := by omega
          go_wp2_with (go_at_call 49; refine (WQ _).mono ?_; rintro e w' ⟨rfl, rfl⟩)
          go_ret
          exact ⟨rfl, HB.out⟩
    · have e1 : ((roomsM pp ws).2 != 0) = true := bne_iff_ne.2 hd
      clear hd
      generalize (roomsM pp ws).2 = d0 at *
      go_wp2_with (go_at_call 56; refine RE.mono ?_; rintro e w3 ⟨rfl, hb1⟩)
      go_ret
      exact ⟨rfl, HB.out.trans (hb1.mono hs)⟩
end Go.Proofs.YtmcjnfghlpnghaaDoor
