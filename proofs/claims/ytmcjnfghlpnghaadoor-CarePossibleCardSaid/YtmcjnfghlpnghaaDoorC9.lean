/- flowOf: the flow of right rooms, as great as possible. -/
import Derived.Test.YtmcjnfghlpnghaaDoorC8
import Derived.IntWalk
namespace Go.Proofs.YtmcjnfghlpnghaaDoor
open Go.RowKit

def FlowPost (w : World) (F : Fl) (e : Ending) (w' : World) : Prop :=
  ∃ g, e = .returned (.pointer (some ⟨g, 0, none⟩)) ∧ FlowAt w' w.heap.size g F ∧ Below w.heap.size w w'

theorem info39 : (Tryd.prog.info? 39).map (fun i => (i.zero, i.size, i.bytes)) = some (some (.slice none 0 0), 1, 24) := by kernel_rfl

theorem flow_start {W : World} {B x ob S R T : Nat} (h1 : W.heap[x]? = some (.cells #[.slice none 0 0, .slice (some ⟨ob, 0, none⟩) (S + 2) (S + 2), .int .i64 S, .int .i64 ((S : Int) + 1), .int .i64 R, .int .i64 T, .int .i64 0] 159 (0, 0)))
    (h2 : W.heap[ob]? = some (.cells (madeCells #[.slice none 0 0] (S + 2)) 39 (0, 0))) (hB : B ≤ x) (hB' : B ≤ ob) (hS : S = R * (T + 1)) : FlowIn W B x (.slice none 0 0) ob (List.replicate (S + 2) (.slice none 0 0)) (emptyFl R T) where
  head := by
    rw [h1]
    simp [emptyFl, ← hS]
  arcs := ⟨rfl, .inl ⟨rfl, rfl⟩⟩
  obH := by
    rw [h2]
    have : madeCells #[.slice none 0 0] (S + 2) = (List.replicate (S + 2) (Value.slice none 0 0)).toArray := by
      apply Array.toList_inj.1
      rw [toList_madeCells_one]
    rw [this]
  rowsN := by simp [emptyFl, ← hS]
  row := fun i v l hv hl => by
    simp only [List.getElem?_replicate] at hv
    simp only [emptyFl, List.getElem?_replicate] at hl
    split at hv
    · split at hl
      · rw [← Option.some.inj hv, ← Option.some.inj hl]
        exact ⟨⟨rfl, .inl ⟨rfl, rfl⟩⟩, Nat.le_refl _⟩
      · cases hl
    · cases hv
  apart := fun i j v v' b _ hv _ hb => by
    simp only [List.getElem?_replicate] at hv
    split at hv
    · rw [← Option.some.inj hv] at hb
      simp [Value.ownBlock] at hb
    · cases hv
  hB := hB
  hB' := hB'

theorem FlowIn.moreB {w : World} {B B' g ob : Nat} {va : Value} {rows : List Value} {F : Fl} (h : FlowIn w B g va ob rows F) (hb : B' ≤ B) : FlowIn w B' g va ob rows F :=
  ⟨h.head, ownsRow_more h.arcs hb, h.obH, h.rowsN, fun i v l hv hl => ⟨ownsRow_more (h.row i v l hv hl).1 hb, (h.row i v l hv hl).2⟩, h.apart, Nat.le_trans hb h.hB, Nat.le_trans hb h.hB'⟩
theorem FlowAt.moreB {w : World} {B B' g : Nat} {F : Fl} (h : FlowAt w B g F) (hb : B' ≤ B) : FlowAt w B' g F := by
  obtain ⟨va, ob, rows, h⟩ := h
  exact ⟨va, ob, rows, h.moreB hb⟩
theorem FlowAt.keep {w w' : World} {B g : Nat} {F : Fl} (h : FlowAt w B g F) (hb : Below w.heap.size w w') : FlowAt w' B g F := by
  obtain ⟨va, ob, rows, h⟩ := h
  exact ⟨va, ob, rows, h.keep (fun k hk => hb.block k hk)⟩
theorem FlowAt.size {w : World} {B g : Nat} {F : Fl} (h : FlowAt w B g F) : B ≤ w.heap.size := by
  obtain ⟨va, ob, rows, h⟩ := h
  have h1 := lt_of_block h.head
  have h2 := h.hB
  omega
/-- the cells of a flow's head -/
theorem FlowAt.cells {w : World} {B g V s o R T n : Nat} {F : Fl} (h : FlowAt w B g F) (hs : FlSh V s o R T n F) :
    w.cell? ⟨g, 2, none⟩ = some (.int .i64 s) ∧ w.cell? ⟨g, 3, none⟩ = some (.int .i64 o) ∧ w.cell? ⟨g, 4, none⟩ = some (.int .i64 R) ∧ w.cell? ⟨g, 5, none⟩ = some (.int .i64 T) := by
  obtain ⟨va, ob, rows, h⟩ := h
  have h1 := h.head
  rw [hs.src, hs.outn, hs.rooms, hs.ticks] at h1
  refine ⟨?_, ?_, ?_, ?_⟩ <;> rw [cell_of_row _ _ _ _ _ _ h1] <;> rfl

def PeopleRel (w0 : World) (B g R T S : Nat) (pp : List Int) (F1 : Fl) (u6 u52 : Value) (wr : World) : Prop :=
  ∃ (k : Nat) (F : Fl) (acc : Int), k ≤ R ∧ u52 = .int .i64 k ∧ u6 = .int .i64 acc ∧ FlowAt wr B g F ∧ FlSh (S + 2) S (S + 1) R T k F ∧ joinPeople F k (pp.drop k) = F1 ∧ Below B w0 wr ∧ acc + sumL (pp.drop k) = sumL pp ∧ 0 ≤ acc ∧ acc ≤ 10000 * k

def TickRel (w0 : World) (B g R T S : Nat) (all : Int) (ws : List Ev) (F2 : Fl) (u70 : Value) (wr : World) : Prop :=
  ∃ (t : Nat) (F : Fl) (n : Nat), t ≤ T ∧ u70 = .int .i64 t ∧ FlowAt wr B g F ∧ FlSh (S + 2) S (S + 1) R T n F ∧ n ≤ 6 + 22 * t ∧ joinTicks R all ws F t (T - t) = F2 ∧ Below B w0 wr
def StayRel (w0 : World) (B g R T S H N m : Nat) (all : Int) (F3 : Fl) (u89 : Value) (wr : World) : Prop :=
  ∃ (r : Nat) (F : Fl) (n : Nat), r ≤ R ∧ u89 = .int .i64 r ∧ FlowAt wr B g F ∧ FlSh (S + 2) S (S + 1) R T n F ∧ n ≤ m + r ∧ joinStay H N all F r (R - r) = F3 ∧ Below B w0 wr
def WayRel (w0 : World) (B g R T S H N m W : Nat) (ws : List Ev) (F4 : Fl) (u105 : Value) (wr : World) : Prop :=
  ∃ (j : Nat) (F : Fl) (n : Nat), j ≤ W ∧ u105 = .int .i64 j ∧ FlowAt wr B g F ∧ FlSh (S + 2) S (S + 1) R T n F ∧ n ≤ m + j ∧ joinWays H N F (ws.drop j) = F4 ∧ Below B w0 wr
def MoreRel (w0 : World) (B g f : Nat) (F' : Fl) (k : Nat) (wr : World) : Prop :=
  ∃ F : Fl, runM k f F = some F' ∧ FlOk F ∧ FlowAt wr B g F ∧ Below B w0 wr

set_option maxRecDepth 100000 in
set_option maxHeartbeats 8000000 in
theorem flowOf_any (w : World) (B : Nat) (Ap Aw : Option Addr) (np cp nw cw : Nat) (pp : List Int) (ws : List Ev) (hl : pp.length = np) (hlw : ws.length = nw) (hp : Rd w B Ap (intCells pp)) (hw : Rd w B Aw (evCells ws)) (hBw : B ≤ w.heap.size)
    (ok : RoomsOk pp ws) (T : Nat) (hT : T ≤ 20) (k f : Nat) (F' : Fl) (hr : runM k f (builtM pp ws T) = some F') :
    Calls Tryd.prog 102 #[.agg #[.slice Ap np cp, .slice Aw nw cw], .int .i64 T] w (FlowPost w F') := by
  have OK := Lib.hid ok
  have HR := Lib.hid hr
  have HL := Lib.hid hl
  have HLW := Lib.hid hlw
  have r1 : 1 ≤ np := by rw [← hl]; exact ok.some_
  have r2 : np ≤ 6 := by rw [← hl]; exact ok.few
  have r3 : nw ≤ 16 := by rw [← hlw]; exact ok.fewW
  clear ok hr hl hlw
  obtain ⟨S, hS⟩ : ∃ S : Nat, S = np * (T + 1) := ⟨_, rfl⟩
  have hSi : (np : Int) * ((T : Int) + 1) = (S : Int) := by rw [hS]; simp
  have s0 : np ≤ S := by rw [hS]; exact Nat.le_mul_of_pos_right np (by omega)
  have s1 : S ≤ 126 := by
    rw [hS]
    exact Nat.le_trans (Nat.mul_le_mul r2 (by omega : T + 1 ≤ 21)) (by omega)
  have s2 : (0 : Int) ≤ (np : Int) * ((T : Int) + 1) := by omega
  have s3 : (np : Int) * ((T : Int) + 1) ≤ 126 := by omega
  have HSI := Lib.hid hSi
  have HS := Lib.hid hS
  clear hSi hS
  have hmk := run_make_row' (P := Tryd.prog) 157 39 (.slice none 0 0) 24 Tryd.underlying157 info39 rfl .i64 .i64 (S + 2) (by omega) (by omega)
  have hmk' : ∀ w : World, (Instr.makeSlice 157 (.int .i64 ((S : Int) + 1 + 1)) (.int .i64 ((S : Int) + 1 + 1))).run Tryd.prog w = .ok (.slice (some ⟨w.heap.size, 0, none⟩) (S + 2) (S + 2)) (w.alloc (.cells (madeCells #[.slice none 0 0] (S + 2)) 39)) := by
    intro w
    rw [show (S : Int) + 1 + 1 = ((S + 2 : Nat) : Int) by omega]
    exact hmk w
  clear hmk
  go_enter Tryd.func102, Tryd.ntmps102
  go_upto_region 3 with (fail)
  simp only [HSI.out]
  clear s2 s3
  go_upto_region 5 with (fail)
  have b0 : (((w.alloc (Obj.cells #[Value.slice Ap np cp, Value.slice Aw nw cw] 42)).alloc (Obj.cells #[Value.slice none 0 0, Value.slice (some { block := w.heap.size + 1 + 1, off := 0 }) (S + 2) (S + 2), Value.int IntKind.i64 ↑S, Value.int IntKind.i64 (↑S + 1), Value.int IntKind.i64 ↑np, Value.int IntKind.i64 ↑T, Value.int IntKind.i64 0] 159)).alloc (Obj.cells (madeCells #[Value.slice none 0 0] (S + 2)) 39)).heap[w.heap.size]? = some (.cells #[Value.slice Ap np cp, Value.slice Aw nw cw] 42 (0, 0)) := by
    rw [heapq_alloc, if_neg (by simp; omega), heapq_alloc, if_neg (by simp), heapq_alloc, if_pos rfl]
  have b1 : (((w.alloc (Obj.cells #[Value.slice Ap np cp, Value.slice Aw nw cw] 42)).alloc (Obj.cells #[Value.slice none 0 0, Value.slice (some { block := w.heap.size + 1 + 1, off := 0 }) (S + 2) (S + 2), Value.int IntKind.i64 ↑S, Value.int IntKind.i64 (↑S + 1), Value.int IntKind.i64 ↑np, Value.int IntKind.i64 ↑T, Value.int IntKind.i64 0] 159)).alloc (Obj.cells (madeCells #[Value.slice none 0 0] (S + 2)) 39)).heap[w.heap.size + 1]? = some (.cells #[Value.slice none 0 0, Value.slice (some { block := w.heap.size + 1 + 1, off := 0 }) (S + 2) (S + 2), Value.int IntKind.i64 ↑S, Value.int IntKind.i64 (↑S + 1), Value.int IntKind.i64 ↑np, Value.int IntKind.i64 ↑T, Value.int IntKind.i64 0] 159 (0, 0)) := by
    rw [heapq_alloc, if_neg (by simp), heapq_alloc, if_pos (by simp)]
  have b2 : (((w.alloc (Obj.cells #[Value.slice Ap np cp, Value.slice Aw nw cw] 42)).alloc (Obj.cells #[Value.slice none 0 0, Value.slice (some { block := w.heap.size + 1 + 1, off := 0 }) (S + 2) (S + 2), Value.int IntKind.i64 ↑S, Value.int IntKind.i64 (↑S + 1), Value.int IntKind.i64 ↑np, Value.int IntKind.i64 ↑T, Value.int IntKind.i64 0] 159)).alloc (Obj.cells (madeCells #[Value.slice none 0 0] (S + 2)) 39)).heap[w.heap.size + 1 + 1]? = some (.cells (madeCells #[Value.slice none 0 0] (S + 2)) 39 (0, 0)) := by
    rw [heapq_alloc, if_pos (by simp)]
  have hb0 : Below w.heap.size w (((w.alloc (Obj.cells #[Value.slice Ap np cp, Value.slice Aw nw cw] 42)).alloc (Obj.cells #[Value.slice none 0 0, Value.slice (some { block := w.heap.size + 1 + 1, off := 0 }) (S + 2) (S + 2), Value.int IntKind.i64 ↑S, Value.int IntKind.i64 (↑S + 1), Value.int IntKind.i64 ↑np, Value.int IntKind.i64 ↑T, Value.int IntKind.i64 0] 159)).alloc (Obj.cells (madeCells #[Value.slice none 0 0] (S + 2)) 39)) :=
    (((Below.refl _ _).alloc (Nat.le_refl _) _).alloc (by simp) _).alloc (by simp; omega) _
  generalize ((w.alloc (Obj.cells #[Value.slice Ap np cp, Value.slice Aw nw cw] 42)).alloc (Obj.cells #[Value.slice none 0 0, Value.slice (some { block := w.heap.size + 1 + 1, off := 0 }) (S + 2) (S + 2), Value.int IntKind.i64 ↑S, Value.int IntKind.i64 (↑S + 1), Value.int IntKind.i64 ↑np, Value.int IntKind.i64 ↑T, Value.int IntKind.i64 0] 159)).alloc (Obj.cells (madeCells #[Value.slice none 0 0] (S + 2)) 39) = w0 at *
  have hF0 : FlowAt w0 (w.heap.size + 1) (w.heap.size + 1) (emptyFl np T) := ⟨_, _, _, flow_start b1 b2 (Nat.le_refl _) (by omega) HS.out⟩
  have hSh := FlSh.empty np T
  rw [← HS.out] at hSh
  have hp0 := (hp.below (hb0.mono hBw)).mono (by omega : B ≤ w.heap.size + 1)
  have hw0 := (hw.below (hb0.mono hBw)).mono (by omega : B ≤ w.heap.size + 1)
  have a0 := cell_of_row w0 w.heap.size 0 _ _ _ b0
  have a1 := cell_of_row w0 w.heap.size 1 _ _ _ b0
  simp at a0 a1
  have HB0 := Lib.hid hb0
  have hsz0 := hF0.size
  clear hp hw hb0 b0 b1 b2 hmk'
  generalize hx : w.heap.size = x at *
  have HX := Lib.hid hx
  clear hx
  generalize hF1 : joinPeople (emptyFl np T) 0 pp = F1 at *
  have HF1 := Lib.hid hF1
  clear hF1
  have rel0 : PeopleRel w0 (x + 1) (x + 1) np T S pp F1 (.int .i64 0) (.int .i64 0) w0 := ⟨0, _, 0, Nat.zero_le _, rfl, rfl, hF0, hSh, HF1.out, Below.refl _ _, by simp, by omega, by omega⟩
  have REL0 := Lib.hid rel0
  clear rel0 hSh hF0
  go_wp2
  go_loopw [6, 52] (fun u6 u52 wr => PeopleRel w0 (x + 1) (x + 1) np T S pp F1 u6 u52 wr) (fun _ u52 _ => np - (intOf u52).toNat)
  case atStart => exact REL0.out
  case round =>
    obtain ⟨k, F, acc, hk, rfl, rfl, hfa, hsh, hj, hb, hacc, h0, h1⟩ := hrel
    by_cases hlt : k < np
    · have hpk : k < pp.length := by rw [HL.out]; exact hlt
      obtain ⟨g2, g3, g4, g5⟩ := hfa.cells hsh
      obtain ⟨bp, off, rfl, hbB, hc⟩ := (hp0.below hb).at_ (k := k) (u := .int .i64 (pp[k]?.getD 0)) (intCells_at pp k hpk)
      have hq := OK.out.people (pp[k]?.getD 0) (by rw [List.getElem?_eq_getElem hpk, Option.getD_some]; exact List.getElem_mem hpk)
      have hd := drop_at pp 0 k hpk
      rw [hd] at hj hacc
      generalize pp[k]?.getD 0 = q at *
      obtain ⟨q0, q1⟩ := hq
      have J := join_any wr (x + 1) (x + 1) F S k q hfa (by omega) (by rw [hsh.adjN]; omega) (by rw [hsh.adjN]; omega) (by rw [hsh.arcsN]; omega)
      have hj2 : joinPeople (F.join S k q) (k + 1) (pp.drop (k + 1)) = F1 := by rw [← hj, ← hsh.src]; rfl
      have hac2 : acc + q + sumL (pp.drop (k + 1)) = sumL pp := by simp only [sumL] at hacc; omega
      have HJ2 := Lib.hid hj2
      have HAC2 := Lib.hid hac2
      have HSH := Lib.hid hsh
      clear hj hj2 hacc hac2 hsh hd hfa hpk g3 g4 g5
      go_wp2_with (go_at_call 140; refine J.mono ?_; rintro e w1 ⟨rfl, hfa1, hb1⟩)
      go_roundw
      case rel => exact ⟨k + 1, _, acc + q, by omega, by go_num, rfl, hfa1, HSH.out.join (by omega) (by omega), HJ2.out, hb.trans hb1, HAC2.out, by omega, by omega⟩
      case measure => simp [intOf]; omega
    · obtain rfl : k = np := by omega
      have hd : pp.drop k = [] := by rw [List.drop_eq_nil_iff]; rw [HL.out]; exact Nat.le_refl _
      rw [hd] at hj hacc
      simp only [joinPeople] at hj
      simp only [sumL, Int.add_zero] at hacc
      subst hj
      have HACC := Lib.hid hacc
      generalize hF2 : joinTicks k acc ws F 0 T = F2
      have HF2 := Lib.hid hF2
      have rel2 : TickRel w0 (x + 1) (x + 1) k T S acc ws F2 (.int .i64 0) wr := ⟨0, F, k, Nat.zero_le _, rfl, hfa, hsh, by omega, HF2.out, hb⟩
      have REL2 := Lib.hid rel2
      clear rel2 hF2 hacc hd hfa hsh hb
      go_wp2
      go_loopw [70] (fun u70 wr => TickRel w0 (x + 1) (x + 1) k T S acc ws F2 u70 wr) (fun u70 _ => T - (intOf u70).toNat)
      case atStart => exact REL2.out
      case round =>
        clear REL2
        obtain ⟨t, Ft, n, ht, rfl, hfa, hsh, hn, hj, hb⟩ := hrel
        by_cases hlt : t < T
        · obtain ⟨g2, g3, g4, g5⟩ := hfa.cells hsh
          obtain ⟨H, hH⟩ : ∃ H : Nat, H = t * k := ⟨_, rfl⟩
          obtain ⟨N, hN⟩ : ∃ N : Nat, N = (t + 1) * k := ⟨_, rfl⟩
          have hHi : (t : Int) * (k : Int) = (H : Int) := by rw [hH]; simp
          have hNi : ((t : Int) + 1) * (k : Int) = (N : Int) := by rw [hN]; simp
          have hHN : H + k = N := by rw [hH, hN, Nat.succ_mul]
          have hNS : N + k ≤ S := by
            rw [HS.out, hN, Nat.mul_comm k, Nat.succ_mul T k]
            exact Nat.add_le_add_right (Nat.mul_le_mul_right k (by omega)) k
          have hHl : H ≤ 126 := by omega
          have hj2 := hj
          rw [show T - t = (T - (t + 1)) + 1 by omega] at hj2
          simp only [joinTicks] at hj2
          rw [← hH, ← hN] at hj2
          generalize hF3 : joinStay H N acc Ft 0 k = F3 at *
          have HF3 := Lib.hid hF3
          have HJ2 := Lib.hid hj2
          have HFA := Lib.hid hfa
          have HSH := Lib.hid hsh
          have HHI := Lib.hid hHi
          have HNI := Lib.hid hNi
          clear hj hj2 hF3 hfa hsh hH hN g2 g3 g5
          go_wp2
          have v0 : IntKind.i64.wrap ((t : Int) * (k : Int)) = (H : Int) := by rw [HHI.out]; exact IntWalk.i64_in _ (by omega)
          have v1 : IntKind.i64.wrap ((t : Int) + 1) = (t : Int) + 1 := IntWalk.i64_in _ (by omega)
          have v2 : IntKind.i64.wrap (((t : Int) + 1) * (k : Int)) = (N : Int) := by rw [HNI.out]; exact IntWalk.i64_in _ (by omega)
          have x4 := fun x : Xt wr => x.cell g4
          clear hHi hNi
          refine wp_region_xt (by kernel_rfl) (by kernel_rfl) ?_
          repeat (go_big_quiet_step (fail))
          refine wpQuiet_nil ?_
          intro w1 hx
          have hb1 := Xt.below hx
          clear hx x4 v0 v1 v2 g4
          have hfa1 := HFA.out.keep hb1
          have hbw1 : Below (x + 1) w0 w1 := hb.trans (hb1.mono HFA.out.size)
          have rel3 : StayRel w0 (x + 1) (x + 1) k T S H N n acc F3 (.int .i64 0) w1 := ⟨0, Ft, n, Nat.zero_le _, rfl, hfa1, HSH.out, by omega, HF3.out, hbw1⟩
          have REL3 := Lib.hid rel3
          have a0' := keptB hbw1 (by simp) a0
          have a1' := keptB hbw1 (by simp) a1
          clear rel3 hfa1 hb1 hbw1 HFA HSH HF3 hb
          go_wp2
          go_loopw [89] (fun u89 wr => StayRel w0 (x + 1) (x + 1) k T S H N n acc F3 u89 wr) (fun u89 _ => k - (intOf u89).toNat)
          case atStart => exact REL3.out
          case round =>
            clear REL3
            obtain ⟨r, Fr, m, hr, rfl, hfa, hsh, hm, hj, hb⟩ := hrel
            by_cases hlt2 : r < k
            · have J := join_any wr (x + 1) (x + 1) Fr (H + r) (N + r) acc hfa (by omega) (by rw [hsh.adjN]; omega) (by rw [hsh.adjN]; omega) (by rw [hsh.arcsN]; omega)
              simp only [Int.natCast_add] at J
              have hj2 := hj
              rw [show k - r = (k - (r + 1)) + 1 by omega] at hj2
              simp only [joinStay] at hj2
              have HJ3 := Lib.hid hj2
              have HSH := Lib.hid hsh
              clear hj hj2 hsh hfa
              go_wp2_with (go_at_call 140; refine J.mono ?_; rintro e w2 ⟨rfl, hfa2, hb2⟩)
              go_roundw
              case rel => exact ⟨r + 1, _, m + 1, by omega, by go_num, hfa2, HSH.out.join (by omega) (by omega), by omega, HJ3.out, hb.trans hb2⟩
              case measure => simp [intOf]; omega
            · obtain rfl : r = k := by omega
              rw [Nat.sub_self] at hj
              simp only [joinStay] at hj
              subst hj
              have a0'' := keptB hb (by simp) a0
              have a1'' := keptB hb (by simp) a1
              generalize hF4 : joinWays H N Fr ws = F4 at *
              have HF4 := Lib.hid hF4
              have rel4 : WayRel w0 (x + 1) (x + 1) r T S H N m nw ws F4 (.int .i64 0) wr := ⟨0, Fr, m, Nat.zero_le _, rfl, hfa, hsh, by omega, by simpa using HF4.out, hb⟩
              have REL4 := Lib.hid rel4
              clear rel4 hF4 hsh hfa hb a0' a1'
              go_wp2
              go_loopw [105] (fun u105 wr => WayRel w0 (x + 1) (x + 1) r T S H N m nw ws F4 u105 wr) (fun u105 _ => nw - (intOf u105).toNat)
              case atStart => exact REL4.out
              case round =>
                clear REL4
                obtain ⟨j, Fj, q, hjn, rfl, hfa, hsh, hq, hj, hb⟩ := hrel
                by_cases hlt3 : j < nw
                · have hjl : j < ws.length := by rw [HLW.out]; exact hlt3
                  obtain ⟨g2, g3, g4, g5⟩ := hfa.cells hsh
                  obtain ⟨ev, hev⟩ : ∃ ev, ws[j]? = some ev := ⟨ws[j], by simp [hjl]⟩
                  have hmem : ev ∈ ws := List.mem_of_getElem? hev
                  obtain ⟨o0, o1, o2, o3, o4, o5⟩ := OK.out.ways ev hmem
                  rw [HL.out] at o1 o2
                  obtain ⟨z0, z1, z2⟩ := evCells_at ws j ev hev
                  obtain ⟨bw, offw, rfl, hbB, c0, c1, c2⟩ := (hw0.below hb).at3 z0 z1 z2
                  rw [List.drop_eq_getElem_cons hjl, show ws[j] = ev from Option.some.inj ((List.getElem?_eq_getElem hjl).symm.trans hev)] at hj
                  obtain ⟨ea, eb, ec⟩ := ev
                  simp only at o0 o1 o2 o3 o4 o5 c0 c1 c2
                  obtain ⟨ia, rfl⟩ := Int.eq_ofNat_of_zero_le o0
                  have hb9 : Below wr.heap.size wr (wr.alloc (.cells #[.int .i64 (ia : Int), .int .i64 eb, .int .i64 ec] 92)) := (Below.refl _ _).alloc (Nat.le_refl _) _
                  have hfa9 := hfa.keep hb9
                  have hbw9 := hb.trans (hb9.mono hfa.size)
                  have e0 : (wr.alloc (.cells #[.int .i64 (ia : Int), .int .i64 eb, .int .i64 ec] 92)).cell? ⟨wr.heap.size, 0, none⟩ = some (.int .i64 (ia : Int)) := by simp
                  have e1 : (wr.alloc (.cells #[.int .i64 (ia : Int), .int .i64 eb, .int .i64 ec] 92)).cell? ⟨wr.heap.size, 1, none⟩ = some (.int .i64 eb) := by simp
                  have e2 : (wr.alloc (.cells #[.int .i64 (ia : Int), .int .i64 eb, .int .i64 ec] 92)).cell? ⟨wr.heap.size, 2, none⟩ = some (.int .i64 ec) := by simp
                  have HJ := Lib.hid hj
                  have HSH := Lib.hid hsh
                  have HBW := Lib.hid hbw9
                  clear hj hsh hb9 hbw9 hev hmem hfa z0 z1 z2 hjl
                  have g3' := cell_alloc_old (.cells #[.int .i64 (ia : Int), .int .i64 eb, .int .i64 ec] 92) g3
                  go_upto_region 25 with (fail)
                  clear hb c0 c1 c2 g2 g3 g3' g4 g5
                  generalize wr.alloc (.cells #[.int .i64 (ia : Int), .int .i64 eb, .int .i64 ec] 92) = w3 at *
                  rcases o2 with rfl | ⟨o21, o22⟩
                  · have J := join_any w3 (x + 1) (x + 1) Fj (H + ia) (S + 1) ec hfa9 (by omega) (by rw [HSH.out.adjN]; omega) (by rw [HSH.out.adjN]; omega) (by rw [HSH.out.arcsN]; omega)
                    rw [show ((H + ia : Nat) : Int) = (H : Int) + (ia : Int) by simp, show ((S + 1 : Nat) : Int) = (S : Int) + 1 by simp] at J
                    have hj2 : joinWays H N (Fj.join (H + ia) (S + 1) ec) (ws.drop (j + 1)) = F4 := by
                      rw [← HJ.out]
                      simp [joinWays, wayTo, HSH.out.outn]
                    have HJ2 := Lib.hid hj2
                    clear hj2 hfa9
                    go_wp2_with (go_at_call 140; refine J.mono ?_; rintro e w2 ⟨rfl, hfa2, hb2⟩)
                    go_roundw
                    case rel => exact ⟨j + 1, _, q + 1, by omega, by go_num, hfa2, HSH.out.join (by omega) (by omega), by omega, HJ2.out, HBW.out.trans hb2⟩
                    case measure => simp [intOf]; omega
                  · obtain ⟨ib, rfl⟩ := Int.eq_ofNat_of_zero_le o21
                    have hne : ((ib : Int) != -1) = true := by rw [bne_iff_ne]; omega
                    have J := join_any w3 (x + 1) (x + 1) Fj (H + ia) (N + ib) ec hfa9 (by omega) (by rw [HSH.out.adjN]; omega) (by rw [HSH.out.adjN]; omega) (by rw [HSH.out.arcsN]; omega)
                    rw [show ((H + ia : Nat) : Int) = (H : Int) + (ia : Int) by simp, show ((N + ib : Nat) : Int) = (N : Int) + (ib : Int) by simp] at J
                    have hj2 : joinWays H N (Fj.join (H + ia) (N + ib) ec) (ws.drop (j + 1)) = F4 := by
                      rw [← HJ.out]
                      have : ¬ (ib : Int) = -1 := by omega
                      simp [joinWays, wayTo, this]
                    have HJ2 := Lib.hid hj2
                    clear hj2 hfa9
                    go_wp2_with (go_at_call 140; refine J.mono ?_; rintro e w2 ⟨rfl, hfa2, hb2⟩)
                    go_roundw
                    case rel => exact ⟨j + 1, _, q + 1, by omega, by go_num, hfa2, HSH.out.join (by omega) (by omega), by omega, HJ2.out, HBW.out.trans hb2⟩
                    case measure => simp [intOf]; omega
                · obtain rfl : j = nw := by omega
                  have hd : ws.drop j = [] := by rw [List.drop_eq_nil_iff]; rw [HLW.out]; exact Nat.le_refl _
                  rw [hd] at hj
                  simp only [joinWays] at hj
                  subst hj
                  have HB := Lib.hid hb
                  have HSH := Lib.hid hsh
                  have HFA := Lib.hid hfa
                  clear hb hsh hfa hd
                  go_wp2
                  go_roundw
                  case rel => exact ⟨t + 1, _, q, by omega, by go_num, HFA.out, HSH.out, by omega, HJ2.out, HB.out⟩
                  case measure => simp [intOf]; omega
        · obtain rfl : t = T := by omega
          rw [Nat.sub_self] at hj
          simp only [joinTicks] at hj
          subst hj
          have hF5 : Ft = builtM pp ws t := by
            rw [← HF2.out, ← HF1.out, builtM, HL.out, HACC.out]
          have hok := hsh.ok (by omega) (by omega) (by omega) (by omega)
          have rel5 : ∃ k, MoreRel w0 (x + 1) (x + 1) f F' k wr := ⟨_, Ft, by rw [hF5]; exact HR.out, hok, hfa, hb⟩
          have REL5 := Lib.hid rel5
          clear rel5 hF5 hok hfa hsh hb
          go_wp2
          go_loopw [] (fun wr => ∃ k, MoreRel w0 (x + 1) (x + 1) f F' k wr) (fun wr => least (fun k => MoreRel w0 (x + 1) (x + 1) f F' k wr))
          case atStart => exact REL5.out
          case round =>
            clear REL5
            obtain ⟨⟨F, hrun, hok, hfa, hb⟩, hmin⟩ := least_spec hrel
            generalize hm : least (fun k => MoreRel w0 (x + 1) (x + 1) f F' k wr) = m at *
            clear hm hmin hrel
            cases m with
            | zero => unfold runM at hrun; cases hrun
            | succ m =>
              unfold runM at hrun
              rcases hmo : moreM F f with _ | xx
              · rw [hmo] at hrun
                cases hrun
              · rw [hmo] at hrun
                rcases xx with _ | F2
                · have M : Calls Tryd.prog 141 #[.pointer (some ⟨x + 1, 0, none⟩)] wr (fun e w' => e = .returned (.bool false) ∧ FlowAt w' (x + 1) (x + 1) F ∧ Below (x + 1) wr w') := more_any wr (x + 1) (x + 1) F hfa hok f none hmo
                  have hF : F = F' := Option.some.inj hrun
                  subst hF
                  have HB := Lib.hid hb
                  clear hrun hmo hfa hb hok
                  go_wp2_with (go_at_call 141; refine M.mono ?_; rintro e w1 ⟨rfl, hfa1, hb1⟩)
                  go_ret
                  refine ⟨x + 1, rfl, ?_, ?_⟩
                  · rw [HX.out]
                    exact hfa1.moreB (by omega)
                  · rw [HX.out]
                    exact HB0.out.trans ((HB.out.trans hb1).mono (by omega))
                · have M : Calls Tryd.prog 141 #[.pointer (some ⟨x + 1, 0, none⟩)] wr (fun e w' => e = .returned (.bool true) ∧ FlowAt w' (x + 1) (x + 1) F2 ∧ Below (x + 1) wr w') := more_any wr (x + 1) (x + 1) F hfa hok f (some F2) hmo
                  have hok2 := moreM_ok hok hmo
                  have HB := Lib.hid hb
                  have HOK := Lib.hid hok2
                  have HRUN := Lib.hid (show runM m f F2 = some F' from hrun)
                  clear hrun hmo hfa hb hok hok2
                  go_wp2_with (go_at_call 141; refine M.mono ?_; rintro e w1 ⟨rfl, hfa1, hb1⟩)
                  case roundEnd =>
                    have hR : MoreRel w0 (x + 1) (x + 1) f F' m w1 := ⟨F2, HRUN.out, HOK.out, hfa1, HB.out.trans hb1⟩
                    refine ⟨⟨m, hR⟩, ?_⟩
                    have h1 := (least_spec (p := fun k => MoreRel w0 (x + 1) (x + 1) f F' k w1) ⟨m, hR⟩).2 m hR
                    omega
end Go.Proofs.YtmcjnfghlpnghaaDoor
