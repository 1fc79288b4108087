/- Replay. -/
import Derived.Test.YtlbgocgocanloaaGreatDoorf4B1
namespace Go.Proofs.YtlbgocgocanloaaGreatDoor
open Go.RowKit
abbrev Ev := Int × Int × Int
def evCells (l : List Ev) : List Value := l.flatMap fun e => [.int .i64 e.1, .int .i64 e.2.1, .int .i64 e.2.2]
theorem evCells_at (l : List Ev) (k : Nat) (e : Ev) (h : l[k]? = some e) :
    (evCells l)[k * 3]? = some (.int .i64 e.1) ∧ (evCells l)[k * 3 + 1]? = some (.int .i64 e.2.1) ∧ (evCells l)[k * 3 + 2]? = some (.int .i64 e.2.2) := by
  induction l generalizing k with
  | nil => simp at h
  | cons a l ih =>
    cases k with
    | zero => simp at h; subst h; simp [evCells]
    | succ k =>
      have := ih k (by simpa using h)
      simp only [evCells, List.flatMap_cons] at this ⊢
      have e1 : (k + 1) * 3 = k * 3 + 3 := by omega
      rw [e1]
      simpa [List.getElem?_append] using this
theorem Rd.at3 {w : World} {B : Nat} {A : Option Addr} {xs : List Value} (h : Rd w B A xs) {k : Nat} {u0 u1 u2 : Value} (h0 : xs[k * 3]? = some u0) (h1 : xs[k * 3 + 1]? = some u1) (h2 : xs[k * 3 + 2]? = some u2) :
    ∃ b off, A = some ⟨b, off, none⟩ ∧ b < B ∧ w.cell? ⟨b, off + k * 3, none⟩ = some u0 ∧ w.cell? ⟨b, off + k * 3 + 1, none⟩ = some u1 ∧ w.cell? ⟨b, off + k * 3 + 2, none⟩ = some u2 := by
  obtain ⟨b, off, rfl, hbB, d0⟩ := h.at_ h0
  obtain ⟨b1, off1, hA1, _, d1⟩ := h.at_ h1
  obtain ⟨b2, off2, hA2, _, d2⟩ := h.at_ h2
  simp only [Option.some.injEq, Addr.mk.injEq, and_true] at hA1 hA2
  obtain ⟨rfl, rfl⟩ := hA1
  obtain ⟨rfl, rfl⟩ := hA2
  exact ⟨b, off, rfl, hbB, d0, by rw [Nat.add_assoc]; exact d1, by rw [Nat.add_assoc]; exact d2⟩
/-- from event number i on: the train, or the number of one and its error -/
def runTr (D : Nat) (T S : Int) (s : Tr) : List Ev → Nat → (Nat × Int) ⊕ Tr
  | [], _ => .inr s
  | e :: l, i => if applyE D T S s e.1 e.2.1 e.2.2 = 0 then runTr D T S (applyS s e.1 e.2.1 e.2.2) l (i + 1) else .inl (i, applyE D T S s e.1 e.2.1 e.2.2)
theorem applyS_place {D : Nat} {T S : Int} {s : Tr} {k pl dr : Int} (h : applyE D T S s k pl dr = 0) (hp : 0 ≤ s.place ∧ s.place ≤ 1000000000) :
    0 ≤ (applyS s k pl dr).place ∧ (applyS s k pl dr).place ≤ 1000000000 := by
  unfold applyS
  split
  any_goals exact hp
  rename_i hk
  rw [apply_stop_eq] at h
  have h1 : evE D true false pl dr = 0 := by
    unfold seqE at h
    split at h
    · assumption
    · exact h
  rw [evE, firstE3] at h1
  have h2 : isPlaceB pl = true := by
    cases h5 : isPlaceB pl
    · rw [h5] at h1
      simp [unlessE] at h1
      split at h1 <;> simp_all
    · rfl
  simp only [isPlaceB, withinB, Bool.and_eq_true, decide_eq_true_eq] at h2
  exact h2
theorem TrainAt.far {w : World} {B g bg bd cg cd D : Nat} {T S : Int} {s : Tr} (h : TrainAt w B g bg bd cg cd D T S s) {p : Addr} (h1 : p.block ≠ g) (h2 : p.block ≠ bg) (h3 : p.block ≠ bd) (u : Value) :
    TrainAt (w.setCell p u) B g bg bd cg cd D T S s :=
  ⟨(heap_setCell_other w p g u (Ne.symm h1)).trans h.blk, ownsRow_setCell_other h.gates (by simp [Value.ownBlock, Ne.symm h2]) u, ownsRow_setCell_other h.doors (by simp [Value.ownBlock, Ne.symm h3]) u, h.ne, h.hB⟩
theorem ownsRow_more {w : World} {base base' e size n : Nat} {v : Value} {xs : List Value} (h : w.ownsRow base e size v n xs) (hb : base' ≤ base) : w.ownsRow base' e size v n xs := by
  refine ⟨h.1, ?_⟩
  rcases h.2 with h2 | ⟨g, cap, cur, hv, hg, r⟩
  · exact .inl h2
  · exact .inr ⟨g, cap, cur, hv, Nat.le_trans hb hg, r⟩
theorem TrainAt.moreB {w : World} {B B' g bg bd cg cd D : Nat} {T S : Int} {s : Tr} (h : TrainAt w B g bg bd cg cd D T S s) (hb : B' ≤ B) : TrainAt w B' g bg bd cg cd D T S s :=
  ⟨h.blk, ownsRow_more h.gates hb, ownsRow_more h.doors hb, h.ne, Nat.le_trans hb h.hB⟩
def ReplayPost (w : World) (D : Nat) (T S place : Int) (l : List Ev) (e : Ending) (w' : World) : Prop :=
  Below w.heap.size w w' ∧
  match runTr D T S ⟨false, false, place, List.replicate D false, List.replicate D false⟩ l 0 with
  | .inl (i, err) => e = .returned (.tuple #[zeroSt, .int .i64 i, .int .i64 err])
  | .inr s => ∃ g bg bd cg cd, e = .returned (.tuple #[trSt s bg bd cg cd D, .int .i64 0, .int .i64 0]) ∧ TrainAt w' w.heap.size g bg bd cg cd D T S s
def ReplayRel (w w0 : World) (g bg bd D n : Nat) (T S place : Int) (l : List Ev) (i : Value) (wr : World) : Prop :=
  ∃ (k : Nat) (s : Tr), k ≤ n ∧ i = .int .i64 k ∧ TrainAt wr (w.heap.size + 2) g bg bd D D D T S s ∧ (0 ≤ s.place ∧ s.place ≤ 1000000000) ∧
      runTr D T S s (l.drop k) k = runTr D T S ⟨false, false, place, List.replicate D false, List.replicate D false⟩ l 0 ∧ Below (w.heap.size + 2) w0 wr
set_option maxHeartbeats 4000000 in
theorem Replay_yes (D : Nat) (T S place : Int) (A : Option Addr) (n c B : Nat) (l : List Ev) (w : World) (hD : D ≤ 6) (h0 : firstE [doorsE D T S, placeE place] = 0) (hn : n ≤ 100) (hl : l.length = n)
    (hk : KindsAt w) (h : Rd w B A (evCells l)) (hB : B ≤ w.heap.size) (hp : 0 ≤ place ∧ place ≤ 1000000000) (hT : 0 ≤ T ∧ T ≤ 1000000000) :
    Calls Tryz.prog 21 #[.agg #[.int .i64 D, .int .i64 T, .int .i64 S], .int .i64 place, .slice A n c] w (ReplayPost w D T S place l) := by
  have HL := Lib.hid hl; clear hl
  have H0 := Lib.hid h0; clear h0
  have hle : decide ((n : Int) ≤ 100) = true := by simp; omega
  have hz : firstE [0, unlessE true 8] = 0 := rfl
  go_enter Tryz.func21, Tryz.ntmps21
  go_wp2_with fail
  have hb0 : Below w.heap.size w ((w.alloc (.cells #[.int .i64 D, .int .i64 T, .int .i64 S] 40)).alloc (.cells #[.bool false, .bool false, .int .i64 0, .slice none 0 0, .slice none 0 0] 52)) :=
    ((Below.refl _ _).alloc (Nat.le_refl _) _).alloc (by simp) _
  have hs0 : ((w.alloc (.cells #[.int .i64 D, .int .i64 T, .int .i64 S] 40)).alloc (.cells #[.bool false, .bool false, .int .i64 0, .slice none 0 0, .slice none 0 0] 52)).heap.size = w.heap.size + 2 := by simp
  have hr : ((w.alloc (.cells #[.int .i64 D, .int .i64 T, .int .i64 S] 40)).alloc (.cells #[.bool false, .bool false, .int .i64 0, .slice none 0 0, .slice none 0 0] 52)).heap[w.heap.size + 1]? = some (.cells #[.bool false, .bool false, .int .i64 0, .slice none 0 0, .slice none 0 0] 52 (0, 0)) := by
    rw [heapq_alloc, if_pos (by simp)]
  generalize ((w.alloc (.cells #[.int .i64 D, .int .i64 T, .int .i64 S] 40)).alloc (.cells #[.bool false, .bool false, .int .i64 0, .slice none 0 0, .slice none 0 0] 52)) = w0 at *
  refine (begin_yes D T S place _ hD H0.out).mono ?_
  rintro e w1 ⟨g, bg, bd, rfl, ht1, hb1⟩
  have hlt1 : w.heap.size + 2 ≤ w1.heap.size := by have := hb1.size; omega
  go_wp2_with (first
    | (go_at_call 62; refine (unless_any _ _ _).mono ?_; rintro e w' ⟨rfl, rfl⟩)
    | (go_at_call 61; refine (first2 _ _ _).mono ?_; rintro e w' ⟨rfl, rfl⟩))
  rw [hs0] at ht1 hb1
  have hbA : Below (w.heap.size + 2) w0 (w1.alloc (.cells #[.int .i64 0, .int .i64 (unlessE true 8)] 29)) := hb1.alloc hlt1 _
  have htA := ht1.alloc (.cells #[.int .i64 0, .int .i64 (unlessE true 8)] 29)
  generalize w1.alloc (.cells #[.int .i64 0, .int .i64 (unlessE true 8)] 29) = w2 at *
  generalize w1.heap.size = q1 at *
  have hk0 : KindsAt w0 := hk.below hb0
  have hBk : 0 < w.heap.size := by
    have := lt_of_cell (hk 0 _ rfl)
    exact this
  clear hlt1 hb1 ht1 hz hle
  go_loopw [33] (fun i wr => ReplayRel w w0 g bg bd D n T S place l i wr)
    (fun i _ => n - (intOf i).toNat)
  case atStart => exact ⟨0, _, Nat.zero_le _, rfl, htA, hp, rfl, hbA⟩
  case round =>
    obtain ⟨k, s, hkn, rfl, ht, hps, he, hb⟩ := hrel
    have HE := Lib.hid he; clear he htA hbA
    have hrB : wr.heap[w.heap.size + 1]? = some (.cells #[.bool false, .bool false, .int .i64 0, .slice none 0 0, .slice none 0 0] 52 (0, 0)) := (hb.block _ (by omega)).trans hr
    have hsz : w.heap.size + 2 ≤ wr.heap.size := by have := hb.size; omega
    by_cases hlt : k < n
    · have hkl : k < l.length := by rw [HL.out]; exact hlt
      obtain ⟨x0, x1, x2⟩ := evCells_at l k (l[k]) (by simp [hkl])
      have HD := Lib.hid (List.drop_eq_getElem_cons hkl)
      generalize l[k] = ev at *
      obtain ⟨b, off, rfl, hbB, d0, d1, d2⟩ := h.at3 x0 x1 x2
      have e0 := keptB hb (p := ⟨b, off + k * 3, none⟩) (by show b < _; omega) (kept hb0 d0)
      have e1 := keptB hb (p := ⟨b, off + k * 3 + 1, none⟩) (by show b < _; omega) (kept hb0 d1)
      have e2 := keptB hb (p := ⟨b, off + k * 3 + 2, none⟩) (by show b < _; omega) (kept hb0 d2)
      have hkw := hk0.belowB hb (by omega)
      have htE := ht.alloc (.cells #[.int .i64 ev.1, .int .i64 ev.2.1, .int .i64 ev.2.2] 23)
      have hkE := hkw.below ((Below.refl _ _).alloc (Nat.le_refl _) (.cells #[.int .i64 ev.1, .int .i64 ev.2.1, .int .i64 ev.2.2] 23))
      have hbE : Below (w.heap.size + 2) w0 (wr.alloc (.cells #[.int .i64 ev.1, .int .i64 ev.2.1, .int .i64 ev.2.2] 23)) := hb.alloc hsz _
      have C := apply_any (wr.alloc (.cells #[.int .i64 ev.1, .int .i64 ev.2.1, .int .i64 ev.2.2] 23)) ev.1 ev.2.1 ev.2.2 (by simp; omega) (by omega) hkE htE hps hT
      clear x0 x1 x2 hkw htE hkE hk0 hkl hk h d0 d1 d2
      cases hE : (applyE D T S s ev.1 ev.2.1 ev.2.2 != 0)
      · have hE0 : applyE D T S s ev.1 ev.2.1 ev.2.2 = 0 := by simpa using hE
        have HE0 := Lib.hid hE0; clear hE0
        go_wp2_with (go_at_call 63; refine C.mono ?_; rintro e w3 ⟨rfl, ht3, hb3⟩)
        go_roundw
        case rel => exact ⟨k + 1, _, by omega, by go_num, ht3 HE0.out, applyS_place HE0.out hps, by rw [← HE.out, HD.out, runTr, if_pos HE0.out], hbE.trans hb3⟩
        case measure => simp [intOf]; omega
      · have hE0 : ¬ applyE D T S s ev.1 ev.2.1 ev.2.2 = 0 := by simpa using hE
        have HE0 := Lib.hid hE0; clear hE0
        go_wp2_with (go_at_call 63; refine C.mono ?_; rintro e w3 ⟨rfl, _, hb3⟩; have hr3 : w3.heap[w.heap.size + 1]? = _ := ((hbE.trans hb3).block _ (by omega)).trans hr; have t0 := cell_of_row _ _ 0 _ _ _ hr3; have t1 := cell_of_row _ _ 1 _ _ _ hr3; have t2 := cell_of_row _ _ 2 _ _ _ hr3; have t3 := cell_of_row _ _ 3 _ _ _ hr3; have t4 := cell_of_row _ _ 4 _ _ _ hr3; have q0 := frozen_of_row _ _ 0 _ _ hr3; have q1 := frozen_of_row _ _ 1 _ _ hr3; have q2 := frozen_of_row _ _ 2 _ _ hr3; have q3 := frozen_of_row _ _ 3 _ _ hr3; have q4 := frozen_of_row _ _ 4 _ _ hr3; simp at t0 t1 t2 t3 t4; clear hr3)
        refine bodyPost_ret (v := .tuple #[zeroSt, .int .i64 k, .int .i64 (applyE D T S s ev.1 ev.2.1 ev.2.2)]) (by simp [results, Tryz.results21, go_sem, zeroSt, t0, t1, t2, t3, t4]) rfl ⟨?_, ?_⟩
        · exact (((((((hb0.trans ((hbE.trans hb3).mono (by omega)))).setCell (by simp) _).setCell (by simp) _).setCell (by simp) _).setCell (by simp) _).setCell (by simp) _)
        · rw [← HE.out, HD.out, runTr, if_neg HE0.out]
    · have hkn' : k = n := by omega
      have c0 := ht.cell 0
      have c1 := ht.cell 1
      have c2 := ht.cell 2
      have c3 := ht.cell 3
      have c4 := ht.cell 4
      have t0 := cell_of_row _ _ 0 _ _ _ hrB
      have t1 := cell_of_row _ _ 1 _ _ _ hrB
      have t2 := cell_of_row _ _ 2 _ _ _ hrB
      have t3 := cell_of_row _ _ 3 _ _ _ hrB
      have t4 := cell_of_row _ _ 4 _ _ _ hrB
      have q0 := frozen_of_row _ _ 0 _ _ hrB
      have q1 := frozen_of_row _ _ 1 _ _ hrB
      have q2 := frozen_of_row _ _ 2 _ _ hrB
      have q3 := frozen_of_row _ _ 3 _ _ hrB
      have q4 := frozen_of_row _ _ 4 _ _ hrB
      simp at t0 t1 t2 t3 t4 c0 c1 c2 c3 c4
      have hgB := ht.hB
      have hend : runTr D T S ⟨false, false, place, List.replicate D false, List.replicate D false⟩ l 0 = .inr s := by
        rw [← HE.out, List.drop_eq_nil_of_le (by rw [HL.out]; omega), runTr]
      have HEND := Lib.hid hend
      clear hend hrB
      go_wp2
      refine bodyPost_ret (v := .tuple #[trSt s bg bd D D D, .int .i64 0, .int .i64 0]) (by simp [results, Tryz.results21, go_sem, trSt, t0, t1, t2, t3, t4]) rfl ⟨?_, ?_⟩
      · exact (((((((hb0.trans (hb.mono (by omega)))).setCell (by simp) _).setCell (by simp) _).setCell (by simp) _).setCell (by simp) _).setCell (by simp) _)
      · rw [HEND.out]
        refine ⟨g, bg, bd, D, D, rfl, ?_⟩
        have hg2 : g ≠ w.heap.size + 1 := by omega
        have hbg := ht.bgLt
        have hbd := ht.bdLt
        exact (((((ht.far (by simp; omega) (by simp; omega) (by simp; omega) _).far (by simp; omega) (by simp; omega) (by simp; omega) _).far (by simp; omega) (by simp; omega) (by simp; omega) _).far (by simp; omega) (by simp; omega) (by simp; omega) _).far (by simp; omega) (by simp; omega) (by simp; omega) _).moreB (by omega)
theorem doorsE_zero {D T S : Int} (h : doorsE D T S = 0) : (1 ≤ D ∧ D ≤ 6) ∧ (0 ≤ T ∧ T ≤ 1000000000) ∧ (0 ≤ S ∧ S ≤ 5000) := by
  unfold doorsE unlessE isPlaceB withinB at h
  cases h1 : decide (1 ≤ D) && decide (D ≤ 6) && (decide (0 ≤ T) && decide (T ≤ 1000000000)) && (decide (0 ≤ S) && decide (S ≤ 5000))
  · rw [h1] at h; simp at h
  · simp only [Bool.and_eq_true, decide_eq_true_eq] at h1
    exact ⟨h1.1.1, h1.1.2, h1.2⟩
theorem placeE_zero {n : Int} (h : placeE n = 0) : 0 ≤ n ∧ n ≤ 1000000000 := by
  unfold placeE unlessE isPlaceB withinB at h
  cases h1 : decide (0 ≤ n) && decide (n ≤ 1000000000)
  · rw [h1] at h; simp at h
  · simp only [Bool.and_eq_true, decide_eq_true_eq] at h1
    exact h1
theorem res5 {W : World} {r t : Nat} {a0 a1 a2 a3 a4 : Value} (h : W.heap[r]? = some (.cells #[a0, a1, a2, a3, a4] t (0, 0))) :
    W.cell? ⟨r, 0, none⟩ = some a0 ∧ W.cell? ⟨r, 1, none⟩ = some a1 ∧ W.cell? ⟨r, 2, none⟩ = some a2 ∧ W.cell? ⟨r, 3, none⟩ = some a3 ∧ W.cell? ⟨r, 4, none⟩ = some a4 ∧
    W.frozen? ⟨r, 0, none⟩ = false ∧ W.frozen? ⟨r, 1, none⟩ = false ∧ W.frozen? ⟨r, 2, none⟩ = false ∧ W.frozen? ⟨r, 3, none⟩ = false ∧ W.frozen? ⟨r, 4, none⟩ = false := by
  refine ⟨?_, ?_, ?_, ?_, ?_, frozen_of_row _ _ _ _ _ h, frozen_of_row _ _ _ _ _ h, frozen_of_row _ _ _ _ _ h, frozen_of_row _ _ _ _ _ h, frozen_of_row _ _ _ _ _ h⟩ <;> rw [cell_of_row _ _ _ _ _ _ h] <;> rfl
end Go.Proofs.YtlbgocgocanloaaGreatDoor
