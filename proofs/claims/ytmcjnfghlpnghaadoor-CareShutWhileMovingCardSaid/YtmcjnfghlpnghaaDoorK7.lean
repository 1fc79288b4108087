/- apply at every event; told; Replay. Replay. CheckRooms. CheckRooms whole, roomsErr, ticksErr. -/
import Derived.Test.YtmcjnfghlpnghaaDoorK5
import Derived.Test.YtmcjnfghlpnghaaDoorK6
import Derived.Deep.Cut
namespace Go.Proofs.YtmcjnfghlpnghaaDoor
open Go.RowKit

section
variable {B g bg bd cg cd D : Nat} {T S : Int} {s : Tr}

theorem applyE_out (D : Nat) (T S : Int) (s : Tr) (k pl dr : Int) (h : withinB k 0 7 = false) : applyE D T S s k pl dr = 15 := by
  simp only [withinB, Bool.and_eq_false_iff, decide_eq_false_iff_not] at h
  unfold applyE
  split <;> first | rfl | (exfalso; omega)

theorem apply_any (w : World) (k pl dr : Int) (hB : B ≤ w.heap.size) (hD : D ≤ 1000000) (hk : KindsAt w) (h : TrainAt w B g bg bd cg cd D T S s)
    (hp : 0 ≤ s.place ∧ s.place ≤ 1000000000) (hT : 0 ≤ T ∧ T ≤ 1000000000) :
    Calls Tryd.prog 93 #[.pointer (some ⟨g, 0, none⟩), .agg #[.int .i64 k, .int .i64 pl, .int .i64 dr]] w fun e w' =>
      e = .returned (.int .i64 (applyE D T S s k pl dr)) ∧ (applyE D T S s k pl dr = 0 → TrainAt w' B g bg bd cg cd D T S (applyS s k pl dr)) ∧ Below B w w' := by
  by_cases hw : 0 ≤ k ∧ k ≤ 7
  · obtain ⟨n, rfl⟩ := Int.eq_ofNat_of_zero_le hw.1
    have hn : n ≤ 7 := by omega
    match n, hn with
    | 0, _ => exact apply_leave w pl dr hB hD hk h
    | 1, _ => exact apply_stop w pl dr hB hD hk h
    | 2, _ => exact apply_gate w pl dr hB hD hk h hp hT
    | 3, _ => exact apply_bar w pl dr hB hD hk h
    | 4, _ => exact apply_open w pl dr hB hD hk h hp hT
    | 5, _ => exact apply_shut w pl dr hB hD hk h
    | 6, _ => exact apply_alarm w pl dr hB hD hk h
    | 7, _ => exact apply_calm w pl dr hB hD hk h
  · have kw : withinB k 0 7 = false := by
      simp only [withinB, Bool.and_eq_false_iff, decide_eq_false_iff_not]
      omega
    have hA := applyE_out D T S s k pl dr kw
    have HA := Lib.hid hA
    clear hw hA
    go_enter Tryd.func93, Tryd.ntmps93
    go_wp2_with (go_at_call 99; refine (within_any _ _ _ _).mono ?_; rintro e w' ⟨rfl, rfl⟩)
    go_ret
    exact ⟨by rw [HA.out]; rfl, fun h => absurd (HA.out.symm.trans h) (by decide), (Below.refl _ _).alloc hB _⟩

def zeroSt : Value := .agg #[.bool false, .bool false, .int .i64 0, .slice none 0 0, .slice none 0 0]

theorem told_err (w : World) (p : Value) (e : Int) (he : e ≠ 0) :
    Calls Tryd.prog 105 #[p, .int .i64 e] w fun x w' => x = .returned (.tuple #[zeroSt, .int .i64 e]) ∧ Below w.heap.size w w' := by
  have hz : (e != 0) = true := by simp [he]
  clear he
  go_enter Tryd.func105, Tryd.ntmps105
  go_wp2
  refine bodyPost_ret (v := .tuple #[zeroSt, .int .i64 e]) (by simp [results, Tryd.results105, go_sem, zeroSt]) rfl ⟨rfl, ?_⟩
  exact (Below.refl _ _).alloc (Nat.le_refl _) _

def trSt (s : Tr) (bg bd cg cd D : Nat) : Value := .agg #[.bool s.mv, .bool s.al, .int .i64 s.place, .slice (some ⟨bg, 0, none⟩) D cg, .slice (some ⟨bd, 0, none⟩) D cd]

theorem told_ok (w : World) (h : TrainAt w B g bg bd cg cd D T S s) :
    Calls Tryd.prog 105 #[.pointer (some ⟨g, 0, none⟩), .int .i64 0] w fun x w' => x = .returned (.tuple #[trSt s bg bd cg cd D, .int .i64 0]) ∧ Below w.heap.size w w' := by
  have c0 := h.cell 0
  have c1 := h.cell 1
  have c2 := h.cell 2
  have c3 := h.cell 3
  have c4 := h.cell 4
  simp at c0 c1 c2 c3 c4
  have hg := h.gLt
  go_enter Tryd.func105, Tryd.ntmps105
  go_wp2
  refine bodyPost_ret (v := .tuple #[trSt s bg bd cg cd D, .int .i64 0]) (by simp [results, Tryd.results105, go_sem, trSt]) rfl ⟨rfl, ?_⟩
  exact (Below.refl _ _).alloc (Nat.le_refl _) _
end
end Go.Proofs.YtmcjnfghlpnghaaDoor

namespace Go.Proofs.YtmcjnfghlpnghaaDoor
open Go.RowKit

abbrev Ev := Int × Int × Int
def evCells (l : List Ev) : List Value := l.flatMap fun e => [.int .i64 e.1, .int .i64 e.2.1, .int .i64 e.2.2]

theorem evCells_at (l : List Ev) (k : Nat) (e : Ev) (h : l[k]? = some e) :
    (evCells l)[k * 3]? = some (.int .i64 e.1) ∧ (evCells l)[k * 3 + 1]? = some (.int .i64 e.2.1) ∧ (evCells l)[k * 3 + 2]? = some (.int .i64 e.2.2) := by
  induction l generalizing k with
  | nil => simp at h
  | cons a l ih =>
    cases k with
    | zero => simp at h; subst h; simp [evCells]
    | succ k =>
      have := ih k (by simpa using h)
      simp only [evCells, List.flatMap_cons] at this ⊢
      have e1 : (k + 1) * 3 = k * 3 + 3 := by omega
      rw [e1]
      simpa [List.getElem?_append] using this

theorem Rd.at3 {w : World} {B : Nat} {A : Option Addr} {xs : List Value} (h : Rd w B A xs) {k : Nat} {u0 u1 u2 : Value} (h0 : xs[k * 3]? = some u0) (h1 : xs[k * 3 + 1]? = some u1) (h2 : xs[k * 3 + 2]? = some u2) :
    ∃ b off, A = some ⟨b, off, none⟩ ∧ b < B ∧ w.cell? ⟨b, off + k * 3, none⟩ = some u0 ∧ w.cell? ⟨b, off + k * 3 + 1, none⟩ = some u1 ∧ w.cell? ⟨b, off + k * 3 + 2, none⟩ = some u2 := by
  obtain ⟨b, off, rfl, hbB, d0⟩ := h.at_ h0
  obtain ⟨b1, off1, hA1, _, d1⟩ := h.at_ h1
  obtain ⟨b2, off2, hA2, _, d2⟩ := h.at_ h2
  simp only [Option.some.injEq, Addr.mk.injEq, and_true] at hA1 hA2
  obtain ⟨rfl, rfl⟩ := hA1
  obtain ⟨rfl, rfl⟩ := hA2
  exact ⟨b, off, rfl, hbB, d0, by rw [Nat.add_assoc]; exact d1, by rw [Nat.add_assoc]; exact d2⟩

/-- from event number i on: the train, or the number of one and its error -/
def runTr (D : Nat) (T S : Int) (s : Tr) : List Ev → Nat → (Nat × Int) ⊕ Tr
  | [], _ => .inr s
  | e :: l, i => if applyE D T S s e.1 e.2.1 e.2.2 = 0 then runTr D T S (applyS s e.1 e.2.1 e.2.2) l (i + 1) else .inl (i, applyE D T S s e.1 e.2.1 e.2.2)

theorem applyS_place {D : Nat} {T S : Int} {s : Tr} {k pl dr : Int} (h : applyE D T S s k pl dr = 0) (hp : 0 ≤ s.place ∧ s.place ≤ 1000000000) :
    0 ≤ (applyS s k pl dr).place ∧ (applyS s k pl dr).place ≤ 1000000000 := by
  unfold applyS
  split
  any_goals exact hp
  rename_i hk
  rw [apply_stop_eq] at h
  have h1 : evE D true false pl dr = 0 := by
    unfold seqE at h
    split at h
    · assumption
    · exact h
  rw [evE, firstE3] at h1
  have h2 : isPlaceB pl = true := by
    cases h5 : isPlaceB pl
    · rw [h5] at h1
      simp [unlessE] at h1
      split at h1 <;> simp_all
    · rfl
  simp only [isPlaceB, withinB, Bool.and_eq_true, decide_eq_true_eq] at h2
  exact h2

theorem TrainAt.far {w : World} {B g bg bd cg cd D : Nat} {T S : Int} {s : Tr} (h : TrainAt w B g bg bd cg cd D T S s) {p : Addr} (h1 : p.block ≠ g) (h2 : p.block ≠ bg) (h3 : p.block ≠ bd) (u : Value) :
    TrainAt (w.setCell p u) B g bg bd cg cd D T S s :=
  ⟨(heap_setCell_other w p g u (Ne.symm h1)).trans h.blk, ownsRow_setCell_other h.gates (by simp [Value.ownBlock, Ne.symm h2]) u, ownsRow_setCell_other h.doors (by simp [Value.ownBlock, Ne.symm h3]) u, h.ne, h.hB⟩

theorem ownsRow_more {w : World} {base base' e size n : Nat} {v : Value} {xs : List Value} (h : w.ownsRow base e size v n xs) (hb : base' ≤ base) : w.ownsRow base' e size v n xs := by
  refine ⟨h.1, ?_⟩
  rcases h.2 with h2 | ⟨g, cap, cur, hv, hg, r⟩
  · exact .inl h2
  · exact .inr ⟨g, cap, cur, hv, Nat.le_trans hb hg, r⟩

theorem TrainAt.moreB {w : World} {B B' g bg bd cg cd D : Nat} {T S : Int} {s : Tr} (h : TrainAt w B g bg bd cg cd D T S s) (hb : B' ≤ B) : TrainAt w B' g bg bd cg cd D T S s :=
  ⟨h.blk, ownsRow_more h.gates hb, ownsRow_more h.doors hb, h.ne, Nat.le_trans hb h.hB⟩

def ReplayPost (w : World) (D : Nat) (T S place : Int) (l : List Ev) (e : Ending) (w' : World) : Prop :=
  Below w.heap.size w w' ∧
  match runTr D T S ⟨false, false, place, List.replicate D false, List.replicate D false⟩ l 0 with
  | .inl (i, err) => e = .returned (.tuple #[zeroSt, .int .i64 i, .int .i64 err])
  | .inr s => ∃ g bg bd cg cd, e = .returned (.tuple #[trSt s bg bd cg cd D, .int .i64 0, .int .i64 0]) ∧ TrainAt w' w.heap.size g bg bd cg cd D T S s

def ReplayRel (w w0 : World) (g bg bd D n : Nat) (T S place : Int) (l : List Ev) (i : Value) (wr : World) : Prop :=
  ∃ (k : Nat) (s : Tr), k ≤ n ∧ i = .int .i64 k ∧ TrainAt wr (w.heap.size + 2) g bg bd D D D T S s ∧ (0 ≤ s.place ∧ s.place ≤ 1000000000) ∧
      runTr D T S s (l.drop k) k = runTr D T S ⟨false, false, place, List.replicate D false, List.replicate D false⟩ l 0 ∧ Below (w.heap.size + 2) w0 wr

set_option maxHeartbeats 4000000 in
theorem Replay_yes (D : Nat) (T S place : Int) (A : Option Addr) (n c B : Nat) (l : List Ev) (w : World) (hD : D ≤ 6) (h0 : firstE [doorsE D T S, placeE place] = 0) (hn : n ≤ 100) (hl : l.length = n)
    (hk : KindsAt w) (h : Rd w B A (evCells l)) (hB : B ≤ w.heap.size) (hp : 0 ≤ place ∧ place ≤ 1000000000) (hT : 0 ≤ T ∧ T ≤ 1000000000) :
    Calls Tryd.prog 20 #[.agg #[.int .i64 D, .int .i64 T, .int .i64 S], .int .i64 place, .slice A n c] w (ReplayPost w D T S place l) := by
  have HL := Lib.hid hl; clear hl
  have H0 := Lib.hid h0; clear h0
  have hle : decide ((n : Int) ≤ 100) = true := by simp; omega
  have hz : firstE [0, unlessE true 8] = 0 := rfl
  go_enter Tryd.func20, Tryd.ntmps20
  go_wp2_with fail
  have hb0 : Below w.heap.size w ((w.alloc (.cells #[.int .i64 D, .int .i64 T, .int .i64 S] 23)).alloc (.cells #[.bool false, .bool false, .int .i64 0, .slice none 0 0, .slice none 0 0] 28)) :=
    ((Below.refl _ _).alloc (Nat.le_refl _) _).alloc (by simp) _
  have hs0 : ((w.alloc (.cells #[.int .i64 D, .int .i64 T, .int .i64 S] 23)).alloc (.cells #[.bool false, .bool false, .int .i64 0, .slice none 0 0, .slice none 0 0] 28)).heap.size = w.heap.size + 2 := by simp
  have hr : ((w.alloc (.cells #[.int .i64 D, .int .i64 T, .int .i64 S] 23)).alloc (.cells #[.bool false, .bool false, .int .i64 0, .slice none 0 0, .slice none 0 0] 28)).heap[w.heap.size + 1]? = some (.cells #[.bool false, .bool false, .int .i64 0, .slice none 0 0, .slice none 0 0] 28 (0, 0)) := by
    rw [heapq_alloc, if_pos (by simp)]
  generalize ((w.alloc (.cells #[.int .i64 D, .int .i64 T, .int .i64 S] 23)).alloc (.cells #[.bool false, .bool false, .int .i64 0, .slice none 0 0, .slice none 0 0] 28)) = w0 at *
  refine (begin_yes D T S place _ hD H0.out).mono ?_
  rintro e w1 ⟨g, bg, bd, rfl, ht1, hb1⟩
  have hlt1 : w.heap.size + 2 ≤ w1.heap.size := by have := hb1.size; omega
  go_wp2_with (first
    | (go_at_call 92; refine (unless_any _ _ _).mono ?_; rintro e w' ⟨rfl, rfl⟩)
    | (go_at_call 91; refine (first2 _ _ _).mono ?_; rintro e w' ⟨rfl, rfl⟩))
  rw [hs0] at ht1 hb1
  have hbA : Below (w.heap.size + 2) w0 (w1.alloc (.cells #[.int .i64 0, .int .i64 (unlessE true 8)] 29)) := hb1.alloc hlt1 _
  have htA := ht1.alloc (.cells #[.int .i64 0, .int .i64 (unlessE true 8)] 29)
  generalize w1.alloc (.cells #[.int .i64 0, .int .i64 (unlessE true 8)] 29) = w2 at *
  generalize w1.heap.size = q1 at *
  have hk0 : KindsAt w0 := hk.below hb0
  have hBk : 0 < w.heap.size := by
    have := lt_of_cell (hk 0 _ rfl)
    exact this
  clear hlt1 hb1 ht1 hz hle
  go_loopw [33] (fun i wr => ReplayRel w w0 g bg bd D n T S place l i wr)
    (fun i _ => n - (intOf i).toNat)
  case atStart => exact ⟨0, _, Nat.zero_le _, rfl, htA, hp, rfl, hbA⟩
  case round =>
    obtain ⟨k, s, hkn, rfl, ht, hps, he, hb⟩ := hrel
    have HE := Lib.hid he; clear he htA hbA
    have hrB : wr.heap[w.heap.size + 1]? = some (.cells #[.bool false, .bool false, .int .i64 0, .slice none 0 0, .slice none 0 0] 28 (0, 0)) := (hb.block _ (by omega)).trans hr
    have hsz : w.heap.size + 2 ≤ wr.heap.size := by have := hb.size; omega
    by_cases hlt : k < n
    · have hkl : k < l.length := by rw [HL.out]; exact hlt
      obtain ⟨x0, x1, x2⟩ := evCells_at l k (l[k]) (by simp [hkl])
      have HD := Lib.hid (List.drop_eq_getElem_cons hkl)
      generalize l[k] = ev at *
      obtain ⟨b, off, rfl, hbB, d0, d1, d2⟩ := h.at3 x0 x1 x2
      have e0 := keptB hb (p := ⟨b, off + k * 3, none⟩) (by show b < _; omega) (kept hb0 d0)
      have e1 := keptB hb (p := ⟨b, off + k * 3 + 1, none⟩) (by show b < _; omega) (kept hb0 d1)
      have e2 := keptB hb (p := ⟨b, off + k * 3 + 2, none⟩) (by show b < _; omega) (kept hb0 d2)
      have hkw := hk0.belowB hb (by omega)
      have htE := ht.alloc (.cells #[.int .i64 ev.1, .int .i64 ev.2.1, .int .i64 ev.2.2] 66)
      have hkE := hkw.below ((Below.refl _ _).alloc (Nat.le_refl _) (.cells #[.int .i64 ev.1, .int .i64 ev.2.1, .int .i64 ev.2.2] 66))
      have hbE : Below (w.heap.size + 2) w0 (wr.alloc (.cells #[.int .i64 ev.1, .int .i64 ev.2.1, .int .i64 ev.2.2] 66)) := hb.alloc hsz _
      have C := apply_any (wr.alloc (.cells #[.int .i64 ev.1, .int .i64 ev.2.1, .int .i64 ev.2.2] 66)) ev.1 ev.2.1 ev.2.2 (by simp; omega) (by omega) hkE htE hps hT
      clear x0 x1 x2 hkw htE hkE hk0 hkl hk h d0 d1 d2
      cases hE : (applyE D T S s ev.1 ev.2.1 ev.2.2 != 0)
      · have hE0 : applyE D T S s ev.1 ev.2.1 ev.2.2 = 0 := by simpa using hE
        have HE0 := Lib.hid hE0; clear hE0
        go_wp2_with (go_at_call 93; refine C.mono ?_; rintro e w3 ⟨rfl, ht3, hb3⟩)
        go_roundw
        case rel => exact ⟨k + 1, _, by omega, by go_num, ht3 HE0.out, applyS_place HE0.out hps, by rw [← HE.out, HD.out, runTr, if_pos HE0.out], hbE.trans hb3⟩
        case measure => simp [intOf]; omega
      · have hE0 : ¬ applyE D T S s ev.1 ev.2.1 ev.2.2 = 0 := by simpa using hE
        have HE0 := Lib.hid hE0; clear hE0
        go_wp2_with (go_at_call 93; refine C.mono ?_; rintro e w3 ⟨rfl, _, hb3⟩; have hr3 : w3.heap[w.heap.size + 1]? = _ := ((hbE.trans hb3).block _ (by omega)).trans hr; have t0 := cell_of_row _ _ 0 _ _ _ hr3; have t1 := cell_of_row _ _ 1 _ _ _ hr3; have t2 := cell_of_row _ _ 2 _ _ _ hr3; have t3 := cell_of_row _ _ 3 _ _ _ hr3; have t4 := cell_of_row _ _ 4 _ _ _ hr3; have q0 := frozen_of_row _ _ 0 _ _ hr3; have q1 := frozen_of_row _ _ 1 _ _ hr3; have q2 := frozen_of_row _ _ 2 _ _ hr3; have q3 := frozen_of_row _ _ 3 _ _ hr3; have q4 := frozen_of_row _ _ 4 _ _ hr3; simp at t0 t1 t2 t3 t4; clear hr3)
        refine bodyPost_ret (v := .tuple #[zeroSt, .int .i64 k, .int .i64 (applyE D T S s ev.1 ev.2.1 ev.2.2)]) (by simp [results, Tryd.results20, go_sem, zeroSt, t0, t1, t2, t3, t4]) rfl ⟨?_, ?_⟩
        · exact (((((((hb0.trans ((hbE.trans hb3).mono (by omega)))).setCell (by simp) _).setCell (by simp) _).setCell (by simp) _).setCell (by simp) _).setCell (by simp) _)
        · rw [← HE.out, HD.out, runTr, if_neg HE0.out]
    · have hkn' : k = n := by omega
      have c0 := ht.cell 0
      have c1 := ht.cell 1
      have c2 := ht.cell 2
      have c3 := ht.cell 3
      have c4 := ht.cell 4
      have t0 := cell_of_row _ _ 0 _ _ _ hrB
      have t1 := cell_of_row _ _ 1 _ _ _ hrB
      have t2 := cell_of_row _ _ 2 _ _ _ hrB
      have t3 := cell_of_row _ _ 3 _ _ _ hrB
      have t4 := cell_of_row _ _ 4 _ _ _ hrB
      have q0 := frozen_of_row _ _ 0 _ _ hrB
      have q1 := frozen_of_row _ _ 1 _ _ hrB
      have q2 := frozen_of_row _ _ 2 _ _ hrB
      have q3 := frozen_of_row _ _ 3 _ _ hrB
      have q4 := frozen_of_row _ _ 4 _ _ hrB
      simp at t0 t1 t2 t3 t4 c0 c1 c2 c3 c4
      have hgB := ht.hB
      have hend : runTr D T S ⟨false, false, place, List.replicate D false, List.replicate D false⟩ l 0 = .inr s := by
        rw [← HE.out, List.drop_eq_nil_of_le (by rw [HL.out]; omega), runTr]
      have HEND := Lib.hid hend
      clear hend hrB
      go_wp2
      refine bodyPost_ret (v := .tuple #[trSt s bg bd D D D, .int .i64 0, .int .i64 0]) (by simp [results, Tryd.results20, go_sem, trSt, t0, t1, t2, t3, t4]) rfl ⟨?_, ?_⟩
      · exact (((((((hb0.trans (hb.mono (by omega)))).setCell (by simp) _).setCell (by simp) _).setCell (by simp) _).setCell (by simp) _).setCell (by simp) _)
      · rw [HEND.out]
        refine ⟨g, bg, bd, D, D, rfl, ?_⟩
        have hg2 : g ≠ w.heap.size + 1 := by omega
        have hbg := ht.bgLt
        have hbd := ht.bdLt
        exact (((((ht.far (by simp; omega) (by simp; omega) (by simp; omega) _).far (by simp; omega) (by simp; omega) (by simp; omega) _).far (by simp; omega) (by simp; omega) (by simp; omega) _).far (by simp; omega) (by simp; omega) (by simp; omega) _).far (by simp; omega) (by simp; omega) (by simp; omega) _).moreB (by omega)

theorem doorsE_zero {D T S : Int} (h : doorsE D T S = 0) : (1 ≤ D ∧ D ≤ 6) ∧ (0 ≤ T ∧ T ≤ 1000000000) ∧ (0 ≤ S ∧ S ≤ 5000) := by
  unfold doorsE unlessE isPlaceB withinB at h
  cases h1 : decide (1 ≤ D) && decide (D ≤ 6) && (decide (0 ≤ T) && decide (T ≤ 1000000000)) && (decide (0 ≤ S) && decide (S ≤ 5000))
  · rw [h1] at h; simp at h
  · simp only [Bool.and_eq_true, decide_eq_true_eq] at h1
    exact ⟨h1.1.1, h1.1.2, h1.2⟩
theorem placeE_zero {n : Int} (h : placeE n = 0) : 0 ≤ n ∧ n ≤ 1000000000 := by
  unfold placeE unlessE isPlaceB withinB at h
  cases h1 : decide (0 ≤ n) && decide (n ≤ 1000000000)
  · rw [h1] at h; simp at h
  · simp only [Bool.and_eq_true, decide_eq_true_eq] at h1
    exact h1
theorem firstE2_zero {a b : Int} (h : firstE [a, b] = 0) : a = 0 ∧ b = 0 := by
  simp only [firstE] at h
  split at h
  · split at h <;> simp_all
  · contradiction

/-- a call of begin, whatever the doors and the place -/
theorem begin_any (D T S place : Int) (w : World) :
    Calls Tryd.prog 90 #[.agg #[.int .i64 D, .int .i64 T, .int .i64 S], .int .i64 place] w fun e w' =>
      (∃ p, e = .returned (.tuple #[.pointer p, .int .i64 (firstE [doorsE D T S, placeE place])])) ∧ Below w.heap.size w w' := by
  by_cases h0 : firstE [doorsE D T S, placeE place] = 0
  · have hd := doorsE_zero (firstE2_zero h0).1
    obtain ⟨n, rfl⟩ := Int.eq_ofNat_of_zero_le (show 0 ≤ D by omega)
    refine (begin_yes n T S place w (by omega) h0).mono ?_
    rintro e w' ⟨g, bg, bd, rfl, _, hb⟩
    exact ⟨⟨_, by rw [h0]⟩, hb⟩
  · refine (begin_no D T S place w h0).mono ?_
    rintro e w' ⟨rfl, hb⟩
    exact ⟨⟨_, rfl⟩, hb⟩

theorem res5 {W : World} {r t : Nat} {a0 a1 a2 a3 a4 : Value} (h : W.heap[r]? = some (.cells #[a0, a1, a2, a3, a4] t (0, 0))) :
    W.cell? ⟨r, 0, none⟩ = some a0 ∧ W.cell? ⟨r, 1, none⟩ = some a1 ∧ W.cell? ⟨r, 2, none⟩ = some a2 ∧ W.cell? ⟨r, 3, none⟩ = some a3 ∧ W.cell? ⟨r, 4, none⟩ = some a4 ∧
    W.frozen? ⟨r, 0, none⟩ = false ∧ W.frozen? ⟨r, 1, none⟩ = false ∧ W.frozen? ⟨r, 2, none⟩ = false ∧ W.frozen? ⟨r, 3, none⟩ = false ∧ W.frozen? ⟨r, 4, none⟩ = false := by
  refine ⟨?_, ?_, ?_, ?_, ?_, frozen_of_row _ _ _ _ _ h, frozen_of_row _ _ _ _ _ h, frozen_of_row _ _ _ _ _ h, frozen_of_row _ _ _ _ _ h, frozen_of_row _ _ _ _ _ h⟩ <;> rw [cell_of_row _ _ _ _ _ _ h] <;> rfl

set_option maxHeartbeats 4000000 in
theorem Replay_no (D T S place : Int) (A : Option Addr) (n c : Nat) (w : World) (_hn : n ≤ 1000000000) (h0 : firstE [firstE [doorsE D T S, placeE place], unlessE (decide ((n : Int) ≤ 100)) 8] ≠ 0) :
    Calls Tryd.prog 20 #[.agg #[.int .i64 D, .int .i64 T, .int .i64 S], .int .i64 place, .slice A n c] w fun e w' =>
      e = .returned (.tuple #[zeroSt, .int .i64 0, .int .i64 (firstE [firstE [doorsE D T S, placeE place], unlessE (decide ((n : Int) ≤ 100)) 8])]) ∧ Below w.heap.size w w' := by
  have hz : (firstE [firstE [doorsE D T S, placeE place], unlessE (decide ((n : Int) ≤ 100)) 8] != 0) = true := by simp [h0]
  have H0 := Lib.hid h0; clear h0
  obtain ⟨b, hb⟩ : ∃ b, b = decide ((n : Int) ≤ 100) := ⟨_, rfl⟩
  rw [← hb] at hz H0 ⊢
  have hb' : decide ((n : Int) ≤ 100) = b := hb.symm
  have HB := Lib.hid hb
  clear hb
  go_enter Tryd.func20, Tryd.ntmps20
  cases b
  all_goals
    go_wp2_with fail
    refine (begin_any _ _ _ _ _).mono ?_
    rintro e w1 ⟨⟨p, rfl⟩, hb1⟩
    have hlt1 : w.heap.size + 1 < w1.heap.size := by have := hb1.size; simp at this; omega
    have hr : ((w.alloc (.cells #[.int .i64 D, .int .i64 T, .int .i64 S] 23)).alloc (.cells #[.bool false, .bool false, .int .i64 0, .slice none 0 0, .slice none 0 0] 28)).heap[w.heap.size + 1]? = some (.cells #[.bool false, .bool false, .int .i64 0, .slice none 0 0, .slice none 0 0] 28 (0, 0)) := by
      rw [heapq_alloc, if_pos (by simp)]
    have hr1 := (hb1.block (w.heap.size + 1) (by simp)).trans hr
    have hb2 : Below w.heap.size w w1 := (((Below.refl _ _).alloc (Nat.le_refl _) _).alloc (by simp) _).trans (hb1.mono (by simp; omega))
    clear hr hb1
    go_wp2_with (go_at_call 92; refine (unless_any _ _ _).mono ?_; rintro e w' ⟨rfl, rfl⟩)
    refine (first2 _ _ _).mono ?_
    rintro e w2 ⟨rfl, hw2⟩
    have hb3 : Below w1.heap.size w1 w2 := by rw [← hw2]; exact (Below.refl _ _).alloc (Nat.le_refl _) _
    obtain ⟨t0, t1, t2, t3, t4, q0, q1, q2, q3, q4⟩ := res5 ((hb3.block (w.heap.size + 1) (by omega)).trans hr1)
    have hb4 : Below w.heap.size w w2 := thenB hb2 hb3
    clear hr1 hb2 hb3 hw2 hlt1
    go_wp2
    refine bodyPost_ret (v := .tuple #[zeroSt, .int .i64 0, .int .i64 (firstE [firstE [doorsE D T S, placeE place], unlessE _ 8])]) (by simp [results, Tryd.results20, go_sem, zeroSt, t0, t1, t2, t3, t4]) rfl ⟨rfl, ?_⟩
    exact (((((hb4.setCell (by simp) _).setCell (by simp) _).setCell (by simp) _).setCell (by simp) _).setCell (by simp) _)
end Go.Proofs.YtmcjnfghlpnghaaDoor

namespace Go.Proofs.YtmcjnfghlpnghaaDoor
open Go.RowKit

def isCrowdB (n : Int) : Bool := withinB n 0 10000
def notCrowdB (n : Int) : Bool := !isCrowdB n

theorem isCrowd_any (n : Int) (w : World) :
    Calls Tryd.prog 97 #[.int .i64 n] w fun e w' => e = .returned (.bool (isCrowdB n)) ∧ w = w' := by
  go_enter Tryd.func97, Tryd.ntmps97
  go_wp2_with (go_at_call 99; refine (within_any _ _ _ _).mono ?_; rintro e w' ⟨rfl, rfl⟩)
  go_ret
  exact ⟨rfl, rfl⟩

theorem notCrowd_any (n : Int) (w : World) :
    Calls Tryd.prog 96 #[.int .i64 n] w fun e w' => e = .returned (.bool (notCrowdB n)) ∧ w = w' := by
  go_enter Tryd.func96, Tryd.ntmps96
  go_wp2_with (go_at_call 97; refine (isCrowd_any _ _).mono ?_; rintro e w' ⟨rfl, rfl⟩)
  go_ret
  exact ⟨rfl, rfl⟩

def intCells (l : List Int) : List Value := l.map (.int .i64)
theorem intCells_at (l : List Int) (k : Nat) (h : k < l.length) : (intCells l)[k]? = some (.int .i64 (l[k]?.getD 0)) := by simp [intCells, h]

/-- slices.IndexFunc at []int, the predicate being function 96 -/
theorem IndexFunc_96 (A : Option Addr) (n c B : Nat) (l : List Int) (w : World) (hn : n ≤ 1000000000) (hl : l.length = n) (h : Rd w B A (intCells l)) :
    Calls Tryd.prog 95 #[.slice A n c, .func (.func 96) #[] #[]] w fun e w' => e = .returned (.int .i64 (idxGo notCrowdB l 0)) ∧ w = w' := by
  have HL := Lib.hid hl; clear hl
  go_enter Tryd.func95, Tryd.ntmps95
  go_wp2
  go_loop [5, 8] (fun _ i => ∃ k : Nat, k ≤ n ∧ i = .int .i64 k ∧ idxGo notCrowdB (l.drop k) k = idxGo notCrowdB l 0) (fun _ i => n - (intOf i).toNat)
  case atStart => exact ⟨0, Nat.zero_le _, rfl, rfl⟩
  case round =>
    obtain ⟨k, hk, rfl, he⟩ := hrel
    have HE := Lib.hid he; clear he
    by_cases hlt : k < n
    · have hkl : k < l.length := by rw [HL.out]; exact hlt
      obtain ⟨b, off, rfl, _, hc⟩ := h.at_ (intCells_at l k hkl)
      have HS := Lib.hid (drop_at l 0 k hkl)
      clear hkl
      cases hz : notCrowdB (l[k]?.getD 0)
      · have HZ := Lib.hid hz
        go_wp2_with (go_at_call 96; refine (notCrowd_any _ _).mono ?_; rintro e w' ⟨rfl, rfl⟩)
        go_round
        case rel => exact ⟨k + 1, by omega, by go_num, by rw [← HE.out, HS.out, idxGo]; simp [HZ.out]⟩
        case measure => simp [intOf]; omega
      · have HZ := Lib.hid hz
        go_wp2_with (go_at_call 96; refine (notCrowd_any _ _).mono ?_; rintro e w' ⟨rfl, rfl⟩)
        go_ret
        exact ⟨by rw [← HE.out, HS.out, idxGo, HZ.out]; rfl, rfl⟩
    · go_wp2
      go_ret
      have : l.drop k = [] := by rw [List.drop_eq_nil_iff]; rw [HL.out]; omega
      exact ⟨by rw [← HE.out, this]; rfl, rfl⟩

def isRoomB (np : Nat) (n : Int) : Bool := withinB n 0 ((np : Int) - 1)

theorem isRoom_any (n : Int) (g np cp : Nat) (A : Option Addr) (w : World) (hnp : np ≤ 1000000000) (hc : w.cell? ⟨g, 0, none⟩ = some (.slice A np cp)) :
    Calls Tryd.prog 98 #[.int .i64 n, .pointer (some ⟨g, 0, none⟩)] w fun e w' => e = .returned (.bool (isRoomB np n)) ∧ w = w' := by
  go_enter Tryd.func98, Tryd.ntmps98
  go_wp2_with (go_at_call 99; refine (within_any _ _ _ _).mono ?_; rintro e w' ⟨rfl, rfl⟩)
  go_ret
  exact ⟨rfl, rfl⟩

theorem isRoom_val (n : Int) (g np cp : Nat) (A : Option Addr) (w : World) (b : Bool) (hb : isRoomB np n = b) (hnp : np ≤ 1000000000) (hc : w.cell? ⟨g, 0, none⟩ = some (.slice A np cp)) :
    Calls Tryd.prog 98 #[.int .i64 n, .pointer (some ⟨g, 0, none⟩)] w fun e w' => e = .returned (.bool b) ∧ w = w' := by
  rw [← hb]
  exact isRoom_any n g np cp A w hnp hc

/-- the error of a way -/
def wayE (np : Nat) (x : Ev) : Int :=
  firstE [unlessE (isRoomB np x.1 && (x.2.1 == -1 || isRoomB np x.2.1)) 6, unlessE (x.1 != x.2.1) 13, unlessE (decide (0 < x.2.2) && isCrowdB x.2.2) 2]
def waysGo (np : Nat) : List Ev → Nat → Int × Int
  | [], _ => (0, 0)
  | x :: l, i => if wayE np x = 0 then waysGo np l (i + 1) else ((i : Int), wayE np x)
/-- CheckRooms -/
def roomsM (pp : List Int) (ws : List Ev) : Int × Int :=
  if pp.length = 0 then (0, 10)
  else if pp.length ≤ 6 ∧ ws.length ≤ 16 then
    if 0 ≤ idxGo notCrowdB pp 0 then (idxGo notCrowdB pp 0, 2) else waysGo pp.length ws 0
  else (0, 8)

theorem rooms_none (Ap Aw : Option Addr) (np cp nw cw : Nat) (w : World) (hc : np = 0) :
    Calls Tryd.prog 28 #[.agg #[.slice Ap np cp, .slice Aw nw cw]] w fun e w' => e = .returned (.tuple #[.int .i64 0, .int .i64 10]) ∧ Below w.heap.size w w' := by
  subst hc
  have b0 : (w.alloc (.cells #[.slice Ap 0 cp, .slice Aw nw cw] 42)).cell? ⟨w.heap.size, 0, none⟩ = some (.slice Ap 0 cp) := by simp
  have b1 : (w.alloc (.cells #[.slice Ap 0 cp, .slice Aw nw cw] 42)).cell? ⟨w.heap.size, 1, none⟩ = some (.slice Aw nw cw) := by simp
  have hb0 : Below w.heap.size w (w.alloc (.cells #[.slice Ap 0 cp, .slice Aw nw cw] 42)) := (Below.refl _ _).alloc (Nat.le_refl _) _
  have hs0 : w.heap.size ≤ (w.alloc (.cells #[.slice Ap 0 cp, .slice Aw nw cw] 42)).heap.size := by simp
  go_enter Tryd.func28, Tryd.ntmps28
  go_wp2
  generalize w.alloc (.cells #[.slice Ap 0 cp, .slice Aw nw cw] 42) = w0 at *
  generalize hB0 : w.heap.size = B0 at *
  have HB0 := Lib.hid hB0
  clear hB0
  have x0 := fun x : Xt w0 => x.cell b0
  have x1 := fun x : Xt w0 => x.cell b1
  refine wp_region_cut [] [0, 1, 2, 3, 4, 5, 6, 7, 8, 9, 10, 11, 12, 13, 14, 15] 16 [17, 18] (fun w' => ∃ x : Xt w0, w' = x.1) (by kernel_rfl) (by kernel_rfl) ⟨⟨w0.drew, (Below.refl _ _).drew⟩, rfl⟩ ?_
  simp only [opsAt_nil, opsAt_cons, consOpt_some, List.getElem?_toArray, List.getElem?_cons_zero, List.getElem?_cons_succ]
  refine wpQuiet_nil ?_
  show wpQuiet _ _ _ _ _ _
  repeat (go_big_quiet_step (first | (go_at_call 92; exact Xt.calls_same (unless_any _ _ _))))
  refine wpQuiet_nil ?_
  intro w1 hx
  have hb1 := Xt.below hx
  clear hx
  go_wp2_with (go_at_call 91; refine (first2 _ _ _).mono ?_; rintro e w' ⟨rfl, rfl⟩)
  refine onlyNormal_mk ?_
  go_wp2
  go_ret2
  exact ⟨rfl, by rw [HB0.out]; exact (hb0.trans (hb1.mono hs0)).alloc (Nat.le_trans hs0 hb1.size) _⟩

theorem rooms_many (Ap Aw : Option Addr) (np cp nw cw : Nat) (w : World) (h0 : 0 < np) (hc : 6 < np) :
    Calls Tryd.prog 28 #[.agg #[.slice Ap np cp, .slice Aw nw cw]] w fun e w' => e = .returned (.tuple #[.int .i64 0, .int .i64 8]) ∧ Below w.heap.size w w' := by
  have h1' : (0 : Int) < (np : Int) := by omega
  have h2' : ¬ (np : Int) ≤ 6 := by omega
  have h2'' : decide ((np : Int) ≤ 6) = false := by simp; omega
  have b0 : (w.alloc (.cells #[.slice Ap np cp, .slice Aw nw cw] 42)).cell? ⟨w.heap.size, 0, none⟩ = some (.slice Ap np cp) := by simp
  have b1 : (w.alloc (.cells #[.slice Ap np cp, .slice Aw nw cw] 42)).cell? ⟨w.heap.size, 1, none⟩ = some (.slice Aw nw cw) := by simp
  have hb0 : Below w.heap.size w (w.alloc (.cells #[.slice Ap np cp, .slice Aw nw cw] 42)) := (Below.refl _ _).alloc (Nat.le_refl _) _
  have hs0 : w.heap.size ≤ (w.alloc (.cells #[.slice Ap np cp, .slice Aw nw cw] 42)).heap.size := by simp
  go_enter Tryd.func28, Tryd.ntmps28
  go_wp2
  generalize w.alloc (.cells #[.slice Ap np cp, .slice Aw nw cw] 42) = w0 at *
  generalize hB0 : w.heap.size = B0 at *
  have HB0 := Lib.hid hB0
  clear hB0
  have x0 := fun x : Xt w0 => x.cell b0
  have x1 := fun x : Xt w0 => x.cell b1
  refine wp_region_cut [] [0, 1, 2, 3, 4, 5, 6, 7, 8, 9, 10, 11, 12, 13, 14, 15] 16 [17, 18] (fun w' => ∃ x : Xt w0, w' = x.1) (by kernel_rfl) (by kernel_rfl) ⟨⟨w0.drew, (Below.refl _ _).drew⟩, rfl⟩ ?_
  simp only [opsAt_nil, opsAt_cons, consOpt_some, List.getElem?_toArray, List.getElem?_cons_zero, List.getElem?_cons_succ]
  refine wpQuiet_nil ?_
  show wpQuiet _ _ _ _ _ _
  repeat (go_big_quiet_step (first | (go_at_call 92; exact Xt.calls_same (unless_any _ _ _))))
  refine wpQuiet_nil ?_
  intro w1 hx
  have hb1 := Xt.below hx
  clear hx
  go_wp2_with (go_at_call 91; refine (first2 _ _ _).mono ?_; rintro e w' ⟨rfl, rfl⟩)
  refine onlyNormal_mk ?_
  go_wp2
  go_ret2
  exact ⟨rfl, by rw [HB0.out]; exact (hb0.trans (hb1.mono hs0)).alloc (Nat.le_trans hs0 hb1.size) _⟩

theorem rooms_ways (Ap Aw : Option Addr) (np cp nw cw : Nat) (w : World) (h0 : 0 < np) (h1 : np ≤ 6) (hc : 16 < nw) :
    Calls Tryd.prog 28 #[.agg #[.slice Ap np cp, .slice Aw nw cw]] w fun e w' => e = .returned (.tuple #[.int .i64 0, .int .i64 8]) ∧ Below w.heap.size w w' := by
  have h1' : (0 : Int) < (np : Int) := by omega
  have h2' : (np : Int) ≤ 6 := by omega
  have h3' : ¬ (nw : Int) ≤ 16 := by omega
  have h3'' : decide ((nw : Int) ≤ 16) = false := by simp; omega
  have b0 : (w.alloc (.cells #[.slice Ap np cp, .slice Aw nw cw] 42)).cell? ⟨w.heap.size, 0, none⟩ = some (.slice Ap np cp) := by simp
  have b1 : (w.alloc (.cells #[.slice Ap np cp, .slice Aw nw cw] 42)).cell? ⟨w.heap.size, 1, none⟩ = some (.slice Aw nw cw) := by simp
  have hb0 : Below w.heap.size w (w.alloc (.cells #[.slice Ap np cp, .slice Aw nw cw] 42)) := (Below.refl _ _).alloc (Nat.le_refl _) _
  have hs0 : w.heap.size ≤ (w.alloc (.cells #[.slice Ap np cp, .slice Aw nw cw] 42)).heap.size := by simp
  go_enter Tryd.func28, Tryd.ntmps28
  go_wp2
  generalize w.alloc (.cells #[.slice Ap np cp, .slice Aw nw cw] 42) = w0 at *
  generalize hB0 : w.heap.size = B0 at *
  have HB0 := Lib.hid hB0
  clear hB0
  have x0 := fun x : Xt w0 => x.cell b0
  have x1 := fun x : Xt w0 => x.cell b1
  refine wp_region_cut [] [0, 1, 2, 3, 4, 5, 6, 7, 8, 9, 10, 11, 12, 13, 14, 15] 16 [17, 18] (fun w' => ∃ x : Xt w0, w' = x.1) (by kernel_rfl) (by kernel_rfl) ⟨⟨w0.drew, (Below.refl _ _).drew⟩, rfl⟩ ?_
  simp only [opsAt_nil, opsAt_cons, consOpt_some, List.getElem?_toArray, List.getElem?_cons_zero, List.getElem?_cons_succ]
  refine wpQuiet_nil ?_
  show wpQuiet _ _ _ _ _ _
  repeat (go_big_quiet_step (first | (go_at_call 92; exact Xt.calls_same (unless_any _ _ _))))
  refine wpQuiet_nil ?_
  intro w1 hx
  have hb1 := Xt.below hx
  clear hx
  go_wp2_with (go_at_call 91; refine (first2 _ _ _).mono ?_; rintro e w' ⟨rfl, rfl⟩)
  refine onlyNormal_mk ?_
  go_wp2
  go_ret2
  exact ⟨rfl, by rw [HB0.out]; exact (hb0.trans (hb1.mono hs0)).alloc (Nat.le_trans hs0 hb1.size) _⟩

theorem rooms_people (Ap Aw : Option Addr) (np cp nw cw : Nat) (w : World) (B : Nat) (pp : List Int) (h0 : 0 < np) (h1 : np ≤ 6) (hc : nw ≤ 16) (hl : pp.length = np) (hp : Rd w B Ap (intCells pp)) (hBw : B ≤ w.heap.size) (hi : 0 ≤ idxGo notCrowdB pp 0) :
    Calls Tryd.prog 28 #[.agg #[.slice Ap np cp, .slice Aw nw cw]] w fun e w' => e = .returned (.tuple #[.int .i64 (idxGo notCrowdB pp 0), .int .i64 2]) ∧ Below w.heap.size w w' := by
  have HL := Lib.hid hl
  clear hl
  have h1' : (0 : Int) < (np : Int) := by omega
  have h2' : (np : Int) ≤ 6 := by omega
  have h3' : (nw : Int) ≤ 16 := by omega
  have b0 : (w.alloc (.cells #[.slice Ap np cp, .slice Aw nw cw] 42)).cell? ⟨w.heap.size, 0, none⟩ = some (.slice Ap np cp) := by simp
  have b1 : (w.alloc (.cells #[.slice Ap np cp, .slice Aw nw cw] 42)).cell? ⟨w.heap.size, 1, none⟩ = some (.slice Aw nw cw) := by simp
  have hb0 : Below w.heap.size w (w.alloc (.cells #[.slice Ap np cp, .slice Aw nw cw] 42)) := (Below.refl _ _).alloc (Nat.le_refl _) _
  have hs0 : w.heap.size ≤ (w.alloc (.cells #[.slice Ap np cp, .slice Aw nw cw] 42)).heap.size := by simp
  go_enter Tryd.func28, Tryd.ntmps28
  go_wp2
  generalize w.alloc (.cells #[.slice Ap np cp, .slice Aw nw cw] 42) = w0 at *
  generalize hB0 : w.heap.size = B0 at *
  have HB0 := Lib.hid hB0
  clear hB0
  have x0 := fun x : Xt w0 => x.cell b0
  have x1 := fun x : Xt w0 => x.cell b1
  refine wp_region_cut [] [0, 1, 2, 3, 4, 5, 6, 7, 8, 9, 10, 11, 12, 13, 14, 15] 16 [17, 18] (fun w' => ∃ x : Xt w0, w' = x.1) (by kernel_rfl) (by kernel_rfl) ⟨⟨w0.drew, (Below.refl _ _).drew⟩, rfl⟩ ?_
  simp only [opsAt_nil, opsAt_cons, consOpt_some, List.getElem?_toArray, List.getElem?_cons_zero, List.getElem?_cons_succ]
  refine wpQuiet_nil ?_
  show wpQuiet _ _ _ _ _ _
  repeat (go_big_quiet_step (first | (go_at_call 92; exact Xt.calls_same (unless_any _ _ _))))
  refine wpQuiet_nil ?_
  intro w1 hx
  have hb1 := Xt.below hx
  clear hx
  go_wp2_with (go_at_call 91; refine (first2 _ _ _).mono ?_; rintro e w' ⟨he, hw'⟩; rw [show firstE [unlessE true 10, unlessE true 8] = 0 from rfl] at he; subst he)
  refine onlyNormal_mk ?_
  have hb2 : Below B0 w w' := by rw [← hw']; exact (hb0.trans (hb1.mono hs0)).alloc (Nat.le_trans hs0 hb1.size) _
  have hB2 : B0 < w'.heap.size := by
    have h1 := lt_of_cell b0
    have h2 := hb1.size
    rw [← hw']
    simp at h1 ⊢
    omega
  have c0 : w'.cell? ⟨B0, 0, none⟩ = some (.slice Ap np cp) := by rw [← hw']; exact cell_alloc_old _ (kept hb1 b0)
  have c1 : w'.cell? ⟨B0, 1, none⟩ = some (.slice Aw nw cw) := by rw [← hw']; exact cell_alloc_old _ (kept hb1 b1)
  clear hw' hb1 hb0 b0 b1 x0 x1
  have hp' := hp.below (hb2.mono hBw)
  have C := IndexFunc_96 Ap np cp B pp w' (by omega) HL.out hp'
  clear hp hp'
  generalize hix : idxGo notCrowdB pp 0 = ix at *
  have HIX := Lib.hid hix
  clear hix
  go_wp2_with (go_at_call 95; refine C.mono ?_; rintro e w' ⟨rfl, rfl⟩)
  go_ret2
  exact ⟨by rw [HIX.out]; rfl, by rw [HB0.out]; exact hb2⟩

def RoomsPost (w : World) (pp : List Int) (ws : List Ev) (e : Ending) (w' : World) : Prop :=
  e = .returned (.tuple #[.int .i64 (waysGo pp.length ws 0).1, .int .i64 (waysGo pp.length ws 0).2]) ∧ Below w.heap.size w w'

theorem waysGo_ge (np : Nat) (l : List Ev) (i : Nat) : 0 ≤ (waysGo np l i).1 := by
  induction l generalizing i with
  | nil => simp [waysGo]
  | cons a l ih =>
    unfold waysGo
    split
    · exact ih _
    · simp

def RoomsRel (B0 nw : Nat) (w : World) (pp : List Int) (ws : List Ev) (Ap Aw : Option Addr) (np cp cw : Nat) (i : Value) (wr : World) : Prop :=
  ∃ k : Nat, k ≤ nw ∧ i = .int .i64 k ∧ waysGo pp.length (ws.drop k) k = waysGo pp.length ws 0 ∧ Below B0 w wr ∧ B0 < wr.heap.size ∧
    wr.cell? ⟨B0, 0, none⟩ = some (.slice Ap np cp) ∧ wr.cell? ⟨B0, 1, none⟩ = some (.slice Aw nw cw)

set_option maxHeartbeats 8000000 in
theorem rooms_loop (Ap Aw : Option Addr) (np cp nw cw : Nat) (w : World) (B : Nat) (pp : List Int) (ws : List Ev) (h0 : 0 < np) (h1 : np ≤ 6) (hc : nw ≤ 16) (hl : pp.length = np) (hlw : ws.length = nw) (hp : Rd w B Ap (intCells pp)) (hw : Rd w B Aw (evCells ws))
    (hBw : B ≤ w.heap.size) (hi : idxGo notCrowdB pp 0 < 0) :
    Calls Tryd.prog 28 #[.agg #[.slice Ap np cp, .slice Aw nw cw]] w (RoomsPost w pp ws) := by
  have HL := Lib.hid hl
  have HW := Lib.hid hlw
  clear hl hlw
  have h1' : (0 : Int) < (np : Int) := by omega
  have h2' : (np : Int) ≤ 6 := by omega
  have h3' : (nw : Int) ≤ 16 := by omega
  have b0 : (w.alloc (.cells #[.slice Ap np cp, .slice Aw nw cw] 42)).cell? ⟨w.heap.size, 0, none⟩ = some (.slice Ap np cp) := by simp
  have b1 : (w.alloc (.cells #[.slice Ap np cp, .slice Aw nw cw] 42)).cell? ⟨w.heap.size, 1, none⟩ = some (.slice Aw nw cw) := by simp
  have hb0 : Below w.heap.size w (w.alloc (.cells #[.slice Ap np cp, .slice Aw nw cw] 42)) := (Below.refl _ _).alloc (Nat.le_refl _) _
  have hs0 : w.heap.size ≤ (w.alloc (.cells #[.slice Ap np cp, .slice Aw nw cw] 42)).heap.size := by simp
  go_enter Tryd.func28, Tryd.ntmps28
  go_wp2
  generalize w.alloc (.cells #[.slice Ap np cp, .slice Aw nw cw] 42) = w0 at *
  generalize hB0 : w.heap.size = B0 at *
  have HB0 := Lib.hid hB0
  clear hB0
  have x0 := fun x : Xt w0 => x.cell b0
  have x1 := fun x : Xt w0 => x.cell b1
  refine wp_region_cut [] [0, 1, 2, 3, 4, 5, 6, 7, 8, 9, 10, 11, 12, 13, 14, 15] 16 [17, 18] (fun w' => ∃ x : Xt w0, w' = x.1) (by kernel_rfl) (by kernel_rfl) ⟨⟨w0.drew, (Below.refl _ _).drew⟩, rfl⟩ ?_
  simp only [opsAt_nil, opsAt_cons, consOpt_some, List.getElem?_toArray, List.getElem?_cons_zero, List.getElem?_cons_succ]
  refine wpQuiet_nil ?_
  show wpQuiet _ _ _ _ _ _
  repeat (go_big_quiet_step (first | (go_at_call 92; exact Xt.calls_same (unless_any _ _ _))))
  refine wpQuiet_nil ?_
  intro w1 hx
  have hb1 := Xt.below hx
  clear hx
  go_wp2_with (go_at_call 91; refine (first2 _ _ _).mono ?_; rintro e w' ⟨he, hw'⟩; rw [show firstE [unlessE true 10, unlessE true 8] = 0 from rfl] at he; subst he)
  refine onlyNormal_mk ?_
  have hb2 : Below B0 w w' := by rw [← hw']; exact (hb0.trans (hb1.mono hs0)).alloc (Nat.le_trans hs0 hb1.size) _
  have hB2 : B0 < w'.heap.size := by
    have h1 := lt_of_cell b0
    have h2 := hb1.size
    rw [← hw']
    simp at h1 ⊢
    omega
  have c0 : w'.cell? ⟨B0, 0, none⟩ = some (.slice Ap np cp) := by rw [← hw']; exact cell_alloc_old _ (kept hb1 b0)
  have c1 : w'.cell? ⟨B0, 1, none⟩ = some (.slice Aw nw cw) := by rw [← hw']; exact cell_alloc_old _ (kept hb1 b1)
  clear hw' hb1 hb0 b0 b1 x0 x1
  have hp' := hp.below (hb2.mono hBw)
  have C := IndexFunc_96 Ap np cp B pp w' (by omega) HL.out hp'
  have hnp : np ≤ 1000000000 := by omega
  clear hp hp'
  generalize idxGo notCrowdB pp 0 = ix at *
  go_wp2_with (go_at_call 95; refine C.mono ?_; rintro e w' ⟨rfl, rfl⟩)
  clear C
  go_loopw [41] (fun i wr => RoomsRel B0 nw w pp ws Ap Aw np cp cw i wr) (fun i _ => nw - (intOf i).toNat)
  case atStart => exact ⟨0, Nat.zero_le _, rfl, rfl, hb2, hB2, c0, c1⟩
  case round =>
    obtain ⟨k, hk, rfl, he, hbr, hBr, r0', r1'⟩ := hrel
    have HE := Lib.hid he
    clear he hb2 hB2 c0 c1
    by_cases hlt : k < nw
    · have hkl : k < ws.length := by rw [HW.out]; exact hlt
      obtain ⟨z0, z1, z2⟩ := evCells_at ws k (ws[k]) (by simp [hkl])
      have HD := Lib.hid (List.drop_eq_getElem_cons hkl)
      generalize ws[k] = ev at *
      obtain ⟨b, off, rfl, hbB, d0, d1, d2⟩ := hw.at3 z0 z1 z2
      have e0 := keptB hbr (p := ⟨b, off + k * 3, none⟩) (by show b < _; omega) d0
      have e1 := keptB hbr (p := ⟨b, off + k * 3 + 1, none⟩) (by show b < _; omega) d1
      have e2 := keptB hbr (p := ⟨b, off + k * 3 + 2, none⟩) (by show b < _; omega) d2
      clear z0 z1 z2 d0 d1 d2 hw hkl
      go_wp2_with fail
      have g0 : (wr.alloc (.cells #[.int .i64 ev.1, .int .i64 ev.2.1, .int .i64 ev.2.2] 92)).cell? ⟨wr.heap.size, 0, none⟩ = some (.int .i64 ev.1) := by simp
      have g1 : (wr.alloc (.cells #[.int .i64 ev.1, .int .i64 ev.2.1, .int .i64 ev.2.2] 92)).cell? ⟨wr.heap.size, 1, none⟩ = some (.int .i64 ev.2.1) := by simp
      have g2 : (wr.alloc (.cells #[.int .i64 ev.1, .int .i64 ev.2.1, .int .i64 ev.2.2] 92)).cell? ⟨wr.heap.size, 2, none⟩ = some (.int .i64 ev.2.2) := by simp
      have r0 := cell_alloc_old (.cells #[.int .i64 ev.1, .int .i64 ev.2.1, .int .i64 ev.2.2] 92) r0'
      have r1 := cell_alloc_old (.cells #[.int .i64 ev.1, .int .i64 ev.2.1, .int .i64 ev.2.2] 92) r1'
      have hb3 : Below B0 w (wr.alloc (.cells #[.int .i64 ev.1, .int .i64 ev.2.1, .int .i64 ev.2.2] 92)) := hbr.alloc (by omega) _
      have hB3 : B0 < (wr.alloc (.cells #[.int .i64 ev.1, .int .i64 ev.2.1, .int .i64 ev.2.2] 92)).heap.size := by simp; omega
      clear r0' r1' hbr
      generalize (wr.alloc (.cells #[.int .i64 ev.1, .int .i64 ev.2.1, .int .i64 ev.2.2] 92)) = w3 at *
      generalize wr.heap.size = gl at *
      have x0 := fun x : Xt w3 => x.cell g0
      have x1 := fun x : Xt w3 => x.cell g1
      have x2 := fun x : Xt w3 => x.cell g2
      have hr : ∃ er, wayE np ev = er := ⟨_, rfl⟩
      cases a1 : isRoomB np ev.1 <;> cases a2 : (ev.2.1 == -1) <;> rcases Int.lt_or_le 0 ev.2.2 with a3 | a3
      all_goals
        have a3' : decide (0 < ev.2.2) = decide (0 < ev.2.2) := rfl
        first
          | (have a4 : decide (0 < ev.2.2) = true := by simp; omega)
          | (have a4 : decide (0 < ev.2.2) = false := by simp; omega)
        clear a3'
        refine wp_region_cut [] [0, 1, 2, 3, 4, 5, 6, 7, 8, 9, 10, 11, 12, 13, 14, 15, 16, 17, 18, 19, 20, 21, 22, 23, 24, 25, 26, 27, 28, 29, 30] 31 [32, 33] (fun w' => ∃ x : Xt w3, w' = x.1) (by kernel_rfl) (by kernel_rfl) ⟨⟨w3.drew, (Below.refl _ _).drew⟩, rfl⟩ ?_
        simp only [opsAt_nil, opsAt_cons, consOpt_some, List.getElem?_toArray, List.getElem?_cons_zero, List.getElem?_cons_succ]
        refine wpQuiet_nil ?_
        show wpQuiet _ _ _ _ _ _
        repeat (go_big_quiet_step (first | (go_at_call 92; exact Xt.calls_same (unless_any _ _ _)) | (go_at_call 97; exact Xt.calls_same (isCrowd_any _ _)) | (go_at_call 98; exact Xt.calls_same (isRoom_val _ _ _ _ _ _ _ a1 hnp (Xt.cell _ r0))) | (go_at_call 98; exact Xt.calls_same (isRoom_any _ _ _ _ _ _ hnp (Xt.cell _ r0)))))
        refine wpQuiet_nil ?_
        intro w4 hx
        have hb4 := Xt.below hx
        clear hx
        have hb5 : Below B0 w w4 := hb3.trans (hb4.mono (by omega))
        have r0q := kept hb4 r0
        have r1q := kept hb4 r1
        have hB5 : B0 < w4.heap.size := lt_of_cell r0q
        clear x0 x1 x2 g0 g1 g2 r0 r1 hb3 hb4
        go_wp2_with (go_at_call 91; refine (first3 _ _ _ _).mono ?_; rintro e w' ⟨rfl, rfl⟩)
        refine onlyNormal_mk ?_
        generalize hE : firstE _ = E
        have hev : wayE np ev = E := by rw [← hE]; simp [wayE, a1, a2, a4]
        have HEV := Lib.hid hev
        clear hev hE hr
        cases hz : (E != 0)
        · have hE0 : E = 0 := by simpa using hz
          have HE0 := Lib.hid hE0
          clear hE0
          go_wp2
          go_roundw
          case rel => exact ⟨k + 1, by omega, by go_num, by rw [← HE.out, HD.out, waysGo, HL.out, HEV.out, if_pos HE0.out], hb5.alloc (by omega) _, by simp; omega, cell_alloc_old _ r0q, cell_alloc_old _ r1q⟩
          case measure => simp [intOf]; omega
        · have hE0 : ¬ E = 0 := by simpa using hz
          have HE0 := Lib.hid hE0
          clear hE0
          go_wp2
          go_ret2
          exact ⟨by rw [← HE.out, HD.out, waysGo, HL.out, HEV.out, if_neg HE0.out]; rfl, by rw [HB0.out]; exact hb5.alloc (by omega) _⟩
    · go_wp2
      go_ret2
      have hd : ws.drop k = [] := by rw [List.drop_eq_nil_iff]; rw [HW.out]; omega
      exact ⟨by rw [← HE.out, hd]; rfl, by rw [HB0.out]; exact hbr⟩
end Go.Proofs.YtmcjnfghlpnghaaDoor

namespace Go.Proofs.YtmcjnfghlpnghaaDoor
open Go.RowKit

def RoomsVal (w : World) (pp : List Int) (ws : List Ev) (e : Ending) (w' : World) : Prop :=
  e = .returned (.tuple #[.int .i64 (roomsM pp ws).1, .int .i64 (roomsM pp ws).2]) ∧ Below w.heap.size w w'

theorem CheckRooms_any (Ap Aw : Option Addr) (np cp nw cw : Nat) (w : World) (B : Nat) (pp : List Int) (ws : List Ev) (hl : pp.length = np) (hlw : ws.length = nw) (hp : Rd w B Ap (intCells pp)) (hw : Rd w B Aw (evCells ws)) (hBw : B ≤ w.heap.size) :
    Calls Tryd.prog 28 #[.agg #[.slice Ap np cp, .slice Aw nw cw]] w (RoomsVal w pp ws) := by
  unfold RoomsVal
  by_cases h0 : np = 0
  · have : roomsM pp ws = (0, 10) := by simp [roomsM, hl, h0]
    rw [this]
    exact rooms_none Ap Aw np cp nw cw w h0
  by_cases h1 : np ≤ 6
  · by_cases h2 : nw ≤ 16
    · rcases Int.lt_or_le (idxGo notCrowdB pp 0) 0 with h3 | h3
      · have : roomsM pp ws = waysGo pp.length ws 0 := by
          simp only [roomsM, hl, hlw, h0, if_false]
          rw [if_pos ⟨h1, h2⟩, if_neg (by omega)]
        rw [this]
        exact rooms_loop Ap Aw np cp nw cw w B pp ws (by omega) h1 h2 hl hlw hp hw hBw h3
      · have : roomsM pp ws = (idxGo notCrowdB pp 0, 2) := by
          simp only [roomsM, hl, hlw, h0, if_false]
          rw [if_pos ⟨h1, h2⟩, if_pos h3]
        rw [this]
        exact rooms_people Ap Aw np cp nw cw w B pp (by omega) h1 h2 hl hp hBw h3
    · have : roomsM pp ws = (0, 8) := by
        simp only [roomsM, hl, hlw, h0, if_false]
        rw [if_neg (by omega)]
      rw [this]
      exact rooms_ways Ap Aw np cp nw cw w (by omega) h1 (by omega)
  · have : roomsM pp ws = (0, 8) := by
      simp only [roomsM, hl, hlw, h0, if_false]
      rw [if_neg (by omega)]
    rw [this]
    exact rooms_many Ap Aw np cp nw cw w (by omega) (by omega)

def ErrVal (w : World) (x : Int) (e : Ending) (w' : World) : Prop := e = .returned (.int .i64 x) ∧ Below w.heap.size w w'

theorem roomsErr_any (Ap Aw : Option Addr) (np cp nw cw : Nat) (w : World) (B : Nat) (pp : List Int) (ws : List Ev) (hl : pp.length = np) (hlw : ws.length = nw) (hp : Rd w B Ap (intCells pp)) (hw : Rd w B Aw (evCells ws)) (hBw : B ≤ w.heap.size) :
    Calls Tryd.prog 100 #[.agg #[.slice Ap np cp, .slice Aw nw cw]] w (ErrVal w (roomsM pp ws).2) := by
  have b0 : (w.alloc (.cells #[.slice Ap np cp, .slice Aw nw cw] 42)).cell? ⟨w.heap.size, 0, none⟩ = some (.slice Ap np cp) := by simp
  have b1 : (w.alloc (.cells #[.slice Ap np cp, .slice Aw nw cw] 42)).cell? ⟨w.heap.size, 1, none⟩ = some (.slice Aw nw cw) := by simp
  have hb0 : Below w.heap.size w (w.alloc (.cells #[.slice Ap np cp, .slice Aw nw cw] 42)) := (Below.refl _ _).alloc (Nat.le_refl _) _
  have hs0 : w.heap.size ≤ (w.alloc (.cells #[.slice Ap np cp, .slice Aw nw cw] 42)).heap.size := by simp
  go_enter Tryd.func100, Tryd.ntmps100
  go_upto_region 1 with (fail)
  generalize w.alloc (.cells #[.slice Ap np cp, .slice Aw nw cw] 42) = w0 at *
  generalize hB0 : w.heap.size = B0 at *
  have HB0 := Lib.hid hB0
  clear hB0
  have C := CheckRooms_any Ap Aw np cp nw cw w0 B pp ws hl hlw (hp.below (hb0.mono hBw)) (hw.below (hb0.mono hBw)) (by omega)
  clear hp hw hl hlw
  go_wp2_with (go_at_call 28; refine C.mono ?_; rintro e w' ⟨rfl, hb⟩)
  go_ret
  exact ⟨rfl, by rw [HB0.out]; exact hb0.trans (hb.mono hs0)⟩

theorem ticksErr_any (n : Int) (w : World) :
    Calls Tryd.prog 101 #[.int .i64 n] w fun e w' => e = .returned (.int .i64 (unlessE (withinB n 0 20) 2)) ∧ w = w' := by
  go_enter Tryd.func101, Tryd.ntmps101
  go_wp2_with (first | (go_at_call 99; refine (within_any _ _ _ _).mono ?_; rintro e w' ⟨rfl, rfl⟩) | (go_at_call 92; refine (unless_any _ _ _).mono ?_; rintro e w' ⟨rfl, rfl⟩))
  go_ret
  exact ⟨rfl, rfl⟩
end Go.Proofs.YtmcjnfghlpnghaaDoor
