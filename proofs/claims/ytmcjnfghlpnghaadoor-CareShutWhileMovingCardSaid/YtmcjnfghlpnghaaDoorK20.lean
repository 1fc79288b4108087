/- The reference's Replay. The reference's Replay of too many events. CareBegins: the walk. The code's Replay and the reference's, side by side. CareReplays: the walk. CareReplays: events of whatever number. -/
import Derived.Test.YtmcjnfghlpnghaaDoorK19
import Derived.Test.YtmcjnfghlpnghaaDoorK15
import Derived.Test.YtmcjnfghlpnghaaDoorK1
import Derived.Deep.Cut
namespace Go.Proofs.YtmcjnfghlpnghaaDoor
open Go.RowKit

/-- a state held in block y, its slices elsewhere -/
structure RRAt (w wr : World) (x y D : Nat) (T S : Int) (s : Tr) (g1 g2 c1 c2 : Nat) : Prop where
  r : wr.heap[x]? = some (.cells #[.int .i64 D, .int .i64 T, .int .i64 S] 23 (0, 0))
  res : wr.heap[x + 1]? = some (.cells #[.bool false, .bool false, .int .i64 0, .slice none 0 0, .slice none 0 0] 28 (0, 0))
  st : wr.heap[y]? = some (.cells #[.bool s.mv, .bool s.al, .int .i64 s.place, .slice (some ⟨g1, 0, none⟩) D c1, .slice (some ⟨g2, 0, none⟩) D c2] 28 (0, 0))
  own : OwnSt wr (x + 2) g1 g2 D D c1 c2 s
  n1 : y ≠ g1
  n2 : y ≠ g2
  below : Below x w wr
  hy : x + 2 ≤ y
  hx : w.heap.size = x

/-- the state variable takes another state -/
theorem RRAt.put {w wr W : World} {x y D : Nat} {T S : Int} {s s' : Tr} {g1 g2 c1 c2 h1 h2 d1 d2 : Nat} (h : RRAt w wr x y D T S s g1 g2 c1 c2) (hb : Below wr.heap.size wr W)
    (ho : OwnSt W wr.heap.size h1 h2 D D d1 d2 s') :
    RRAt w (((((W.setCell ⟨y, 0, none⟩ (.bool s'.mv)).setCell ⟨y, 1, none⟩ (.bool s'.al)).setCell ⟨y, 2, none⟩ (.int .i64 s'.place)).setCell ⟨y, 3, none⟩ (.slice (some ⟨h1, 0, none⟩) D d1)).setCell ⟨y, 4, none⟩ (.slice (some ⟨h2, 0, none⟩) D d2)) x y D T S s' h1 h2 d1 d2 := by
  have hy := h.hy
  have hx := h.hx
  have ly : y < wr.heap.size := by
    have := h.st
    rcases Nat.lt_or_ge y wr.heap.size with h' | h'
    · exact h'
    · rw [Array.getElem?_eq_none h'] at this; cases this
  have b1 : wr.heap.size ≤ h1 := (ownBlk ho.og rfl).1
  have b2 : wr.heap.size ≤ h2 := (ownBlk ho.od rfl).1
  refine ⟨?_, ?_, ?_, ?_, by omega, by omega, ?_, hy, hx⟩
  · rw [heapq_set, if_neg (by omega), heapq_set, if_neg (by omega), heapq_set, if_neg (by omega), heapq_set, if_neg (by omega), heapq_set, if_neg (by omega)]
    exact (hb.block x (by omega)).trans h.r
  · rw [heapq_set, if_neg (by omega), heapq_set, if_neg (by omega), heapq_set, if_neg (by omega), heapq_set, if_neg (by omega), heapq_set, if_neg (by omega)]
    exact (hb.block (x + 1) (by omega)).trans h.res
  · rw [heapq_set, if_pos rfl, heapq_set, if_pos rfl, heapq_set, if_pos rfl, heapq_set, if_pos rfl, heapq_set, if_pos rfl, (hb.block y ly).trans h.st]
    rfl
  · exact (((((ho.far (p := ⟨y, 0, none⟩) ly _).far (p := ⟨y, 1, none⟩) ly _).far (p := ⟨y, 2, none⟩) ly _).far (p := ⟨y, 3, none⟩) ly _).far (p := ⟨y, 4, none⟩) ly _).more (by omega)
  · exact ((((((h.below.trans (hb.mono (by omega)))).setCell (p := ⟨y, 0, none⟩) (by show x ≤ y; omega) _).setCell (p := ⟨y, 1, none⟩) (by show x ≤ y; omega) _).setCell (p := ⟨y, 2, none⟩) (by show x ≤ y; omega) _).setCell (p := ⟨y, 3, none⟩) (by show x ≤ y; omega) _).setCell (p := ⟨y, 4, none⟩) (by show x ≤ y; omega) _

theorem RRAt.keep {w wr W : World} {x y D : Nat} {T S : Int} {s : Tr} {g1 g2 c1 c2 : Nat} (h : RRAt w wr x y D T S s g1 g2 c1 c2) (hb : Below wr.heap.size wr W) : RRAt w W x y D T S s g1 g2 c1 c2 := by
  have lt : ∀ {b : Nat} {o : Obj}, wr.heap[b]? = some o → b < wr.heap.size := fun {b o} hh => by
    rcases Nat.lt_or_ge b wr.heap.size with h' | h'
    · exact h'
    · rw [Array.getElem?_eq_none h'] at hh; cases hh
  have hx := h.hx
  have hs := h.below.size
  exact ⟨(hb.block _ (lt h.r)).trans h.r, (hb.block _ (lt h.res)).trans h.res, (hb.block _ (lt h.st)).trans h.st, h.own.below hb, h.n1, h.n2, h.below.trans (hb.mono (by omega)), h.hy, h.hx⟩

theorem RRAt.set {w wr : World} {x y D : Nat} {T S : Int} {s : Tr} {g1 g2 c1 c2 : Nat} (h : RRAt w wr x y D T S s g1 g2 c1 c2) (a0 a1 a2 a3 a4 : Value) :
    Below x w (((((wr.setCell ⟨x + 1, 0, none⟩ a0).setCell ⟨x + 1, 1, none⟩ a1).setCell ⟨x + 1, 2, none⟩ a2).setCell ⟨x + 1, 3, none⟩ a3).setCell ⟨x + 1, 4, none⟩ a4) ∧
    StOwn x (((((wr.setCell ⟨x + 1, 0, none⟩ a0).setCell ⟨x + 1, 1, none⟩ a1).setCell ⟨x + 1, 2, none⟩ a2).setCell ⟨x + 1, 3, none⟩ a3).setCell ⟨x + 1, 4, none⟩ a4) s D (stV s (some ⟨g1, 0, none⟩) (some ⟨g2, 0, none⟩) D D c1 c2) := by
  refine ⟨((((h.below.setCell (by simp) _).setCell (by simp) _).setCell (by simp) _).setCell (by simp) _).setCell (by simp) _, _, _, _, _, rfl, ?_⟩
  have l : x + 1 < x + 2 := by omega
  exact (((((h.own.far (p := ⟨x + 1, 0, none⟩) l _).far (p := ⟨x + 1, 1, none⟩) l _).far (p := ⟨x + 1, 2, none⟩) l _).far (p := ⟨x + 1, 3, none⟩) l _).far (p := ⟨x + 1, 4, none⟩) l _).more (by omega)

theorem cells3 {W : World} {r t : Nat} {a0 a1 a2 : Value} (h : W.heap[r]? = some (.cells #[a0, a1, a2] t (0, 0))) :
    W.cell? ⟨r, 0, none⟩ = some a0 ∧ W.cell? ⟨r, 1, none⟩ = some a1 ∧ W.cell? ⟨r, 2, none⟩ = some a2 := by
  refine ⟨?_, ?_, ?_⟩ <;> rw [cell_of_row _ _ _ _ _ _ h] <;> rfl

/-- the worlds in which the doors and the event read the same -/
structure RdW (x : Nat) (D T S k pl dr : Int) (b o : Nat) where
  w : World
  r0 : w.cell? ⟨x, 0, none⟩ = some (.int .i64 D)
  r1 : w.cell? ⟨x, 1, none⟩ = some (.int .i64 T)
  r2 : w.cell? ⟨x, 2, none⟩ = some (.int .i64 S)
  e0 : w.cell? ⟨b, o, none⟩ = some (.int .i64 k)
  e1 : w.cell? ⟨b, o + 1, none⟩ = some (.int .i64 pl)
  e2 : w.cell? ⟨b, o + 2, none⟩ = some (.int .i64 dr)

theorem mkRd {w W : World} {x D b o : Nat} {T S k pl dr : Int} (hr : W.heap[x]? = some (.cells #[.int .i64 D, .int .i64 T, .int .i64 S] 23 (0, 0))) (hb : Below x w W) (hx : b < x)
    (d0 : w.cell? ⟨b, o, none⟩ = some (.int .i64 k)) (d1 : w.cell? ⟨b, o + 1, none⟩ = some (.int .i64 pl)) (d2 : w.cell? ⟨b, o + 2, none⟩ = some (.int .i64 dr)) : ∃ z : RdW x D T S k pl dr b o, W = z.w :=
  ⟨⟨W, (cells3 hr).1, (cells3 hr).2.1, (cells3 hr).2.2, keptB hb hx d0, keptB hb hx d1, keptB hb hx d2⟩, rfl⟩

/-- the state variable takes anything -/
theorem RRAt.putZ {w wr W : World} {x y D : Nat} {T S : Int} {s : Tr} {g1 g2 c1 c2 : Nat} (h : RRAt w wr x y D T S s g1 g2 c1 c2) (hb : Below wr.heap.size wr W) (a0 a1 a2 a3 a4 : Value) :
    let W' := (((((W.setCell ⟨y, 0, none⟩ a0).setCell ⟨y, 1, none⟩ a1).setCell ⟨y, 2, none⟩ a2).setCell ⟨y, 3, none⟩ a3).setCell ⟨y, 4, none⟩ a4)
    W'.heap[x]? = some (.cells #[.int .i64 D, .int .i64 T, .int .i64 S] 23 (0, 0)) ∧ W'.heap[x + 1]? = some (.cells #[.bool false, .bool false, .int .i64 0, .slice none 0 0, .slice none 0 0] 28 (0, 0)) ∧ Below x w W' := by
  have hy := h.hy
  have hk := h.keep hb
  refine ⟨?_, ?_, ?_⟩
  · rw [heapq_set, if_neg (by omega), heapq_set, if_neg (by omega), heapq_set, if_neg (by omega), heapq_set, if_neg (by omega), heapq_set, if_neg (by omega)]
    exact hk.r
  · rw [heapq_set, if_neg (by omega), heapq_set, if_neg (by omega), heapq_set, if_neg (by omega), heapq_set, if_neg (by omega), heapq_set, if_neg (by omega)]
    exact hk.res
  · exact ((((hk.below.setCell (p := ⟨y, 0, none⟩) (by show x ≤ y; omega) _).setCell (p := ⟨y, 1, none⟩) (by show x ≤ y; omega) _).setCell (p := ⟨y, 2, none⟩) (by show x ≤ y; omega) _).setCell (p := ⟨y, 3, none⟩) (by show x ≤ y; omega) _).setCell (p := ⟨y, 4, none⟩) (by show x ≤ y; omega) _

def RReplayPost (w : World) (D : Nat) (T S place : Int) (l : List Ev) (e : Ending) (w' : World) : Prop :=
  Below w.heap.size w w' ∧
  match runTr D T S (begin0 D place) l 0 with
  | .inl (i, err) => e = .returned (.tuple #[zeroSt, .int .i64 i, .int .i64 err])
  | .inr s => ∃ v, e = .returned (.tuple #[v, .int .i64 0, .int .i64 0]) ∧ StOwn w.heap.size w' s D v

def RRRel (w : World) (x y D n : Nat) (T S place : Int) (l : List Ev) (i : Value) (wr : World) : Prop :=
  ∃ (k : Nat) (s : Tr) (g1 g2 c1 c2 : Nat), k ≤ n ∧ i = .int .i64 k ∧ RRAt w wr x y D T S s g1 g2 c1 c2 ∧ (0 ≤ s.place ∧ s.place ≤ 1000000000) ∧
      runTr D T S s (l.drop k) k = runTr D T S (begin0 D place) l 0

set_option maxRecDepth 100000 in
set_option maxHeartbeats 4000000 in
theorem refReplay_yes (D : Nat) (T S place : Int) (A : Option Addr) (n c B : Nat) (l : List Ev) (w : World) (hD : D ≤ 6) (hD1 : 1 ≤ D) (hn : n ≤ 100) (hl : l.length = n)
    (h : Rd w B A (evCells l)) (hB : B ≤ w.heap.size) (hp : 0 ≤ place ∧ place ≤ 1000000000) (hT : 0 ≤ T ∧ T ≤ 1000000000) :
    Calls Tryd.prog 24 #[.agg #[.int .i64 D, .int .i64 T, .int .i64 S], .int .i64 place, .slice A n c] w (RReplayPost w D T S place l) := by
  have HL := Lib.hid hl; clear hl
  have hle : decide ((100 : Int) < (n : Int)) = false := by simp; omega
  have hb0 : Below w.heap.size w ((w.alloc (.cells #[.int .i64 D, .int .i64 T, .int .i64 S] 23)).alloc (.cells #[.bool false, .bool false, .int .i64 0, .slice none 0 0, .slice none 0 0] 28)) :=
    ((Below.refl _ _).alloc (Nat.le_refl _) _).alloc (by simp) _
  have hs0 : ((w.alloc (.cells #[.int .i64 D, .int .i64 T, .int .i64 S] 23)).alloc (.cells #[.bool false, .bool false, .int .i64 0, .slice none 0 0, .slice none 0 0] 28)).heap.size = w.heap.size + 2 := by simp
  have hr : ((w.alloc (.cells #[.int .i64 D, .int .i64 T, .int .i64 S] 23)).alloc (.cells #[.bool false, .bool false, .int .i64 0, .slice none 0 0, .slice none 0 0] 28)).heap[w.heap.size + 1]? = some (.cells #[.bool false, .bool false, .int .i64 0, .slice none 0 0, .slice none 0 0] 28 (0, 0)) := by
    rw [heapq_alloc, if_pos (by simp)]
  have hr0 : ((w.alloc (.cells #[.int .i64 D, .int .i64 T, .int .i64 S] 23)).alloc (.cells #[.bool false, .bool false, .int .i64 0, .slice none 0 0, .slice none 0 0] 28)).heap[w.heap.size]? = some (.cells #[.int .i64 D, .int .i64 T, .int .i64 S] 23 (0, 0)) := by
    rw [heapq_alloc, if_neg (by simp), heapq_alloc, if_pos rfl]
  go_enter Tryd.func24, Tryd.ntmps24
  go_upto_region 1 with (fail)
  generalize ((w.alloc (.cells #[.int .i64 D, .int .i64 T, .int .i64 S] 23)).alloc (.cells #[.bool false, .bool false, .int .i64 0, .slice none 0 0, .slice none 0 0] 28)) = w0 at *
  have k0 : w0.cell? ⟨w.heap.size, 0, none⟩ = some (.int .i64 D) := by rw [cell_of_row _ _ _ _ _ _ hr0]; rfl
  have k1 : w0.cell? ⟨w.heap.size, 1, none⟩ = some (.int .i64 T) := by rw [cell_of_row _ _ _ _ _ _ hr0]; rfl
  have k2 : w0.cell? ⟨w.heap.size, 2, none⟩ = some (.int .i64 S) := by rw [cell_of_row _ _ _ _ _ _ hr0]; rfl
  have C := refBegin_own D T S place w0 hD
  go_upto_region 4 with (go_at_call 38; refine C.mono ?_; rintro e w1 ⟨v, rfl, ⟨g1, g2, c1, c2, rfl, ho⟩, hb1⟩; simp only [stV])
  rw [hs0] at ho hb1
  have hsz1 := hb1.size
  rw [hs0] at hsz1
  have hAt : RRAt w (w1.alloc (.cells #[.bool (begin0 D place).mv, .bool (begin0 D place).al, .int .i64 (begin0 D place).place, .slice (some ⟨g1, 0, none⟩) D c1, .slice (some ⟨g2, 0, none⟩) D c2] 28)) w.heap.size w1.heap.size D T S (begin0 D place) g1 g2 c1 c2 := by
    have l1 : g1 < w1.heap.size := (ownBlk ho.og rfl).2.1
    have l2 : g2 < w1.heap.size := (ownBlk ho.od rfl).2.1
    refine ⟨?_, ?_, ?_, ho.below ((Below.refl _ _).alloc (Nat.le_refl _) _), by omega, by omega, hb0.trans ((hb1.alloc hsz1 _).mono (by omega)), by omega, rfl⟩
    · rw [heapq_alloc, if_neg (by omega)]
      exact (hb1.block _ (by omega)).trans hr0
    · rw [heapq_alloc, if_neg (by omega)]
      exact (hb1.block _ (by omega)).trans hr
    · rw [heapq_alloc, if_pos rfl]
  have hpl : 0 ≤ (begin0 D place).place ∧ (begin0 D place).place ≤ 1000000000 := hp
  generalize hW2 : w1.alloc (.cells #[.bool (begin0 D place).mv, .bool (begin0 D place).al, .int .i64 (begin0 D place).place, .slice (some ⟨g1, 0, none⟩) D c1, .slice (some ⟨g2, 0, none⟩) D c2] 28) = w2 at *
  generalize hY : w1.heap.size = y at *
  generalize hS0 : (begin0 D place) = s0 at *
  have HS0 := Lib.hid hS0
  clear hS0 hY hW2 hsz1 ho hb1 C k0 k1 k2 hr hr0 hs0 hb0 w0 hle
  go_wp2_with fail
  go_loopw [10] (fun i wr => RRRel w w.heap.size y D n T S place l i wr)
    (fun i _ => n - (intOf i).toNat)
  case atStart => exact ⟨0, _, _, _, _, _, Nat.zero_le _, rfl, hAt, hpl, by rw [HS0.out]; rfl⟩
  case round =>
    obtain ⟨k, s, g1, g2, c1, c2, hkn, rfl, ht, hps, he⟩ := hrel
    have HE := Lib.hid he; clear he hAt hpl
    by_cases hlt : k < n
    · have hkl : k < l.length := by rw [HL.out]; exact hlt
      obtain ⟨x0, x1, x2⟩ := evCells_at l k (l[k]) (by simp [hkl])
      have HD := Lib.hid (List.drop_eq_getElem_cons hkl)
      generalize l[k] = ev at *
      obtain ⟨b, off, rfl, hbB, d0, d1, d2⟩ := h.at3 x0 x1 x2
      have e0 := keptB ht.below (p := ⟨b, off + k * 3, none⟩) (by show b < _; omega) d0
      have e1 := keptB ht.below (p := ⟨b, off + k * 3 + 1, none⟩) (by show b < _; omega) d1
      have e2 := keptB ht.below (p := ⟨b, off + k * 3 + 2, none⟩) (by show b < _; omega) d2
      obtain ⟨r0, r1, r2⟩ := cells3 ht.r
      obtain ⟨t0, t1, t2, t3, t4⟩ := cells5 ht.st
      have xe0 := fun x : Xt wr => x.cell e0
      have xe1 := fun x : Xt wr => x.cell e1
      have xe2 := fun x : Xt wr => x.cell e2
      have xr0 := fun x : Xt wr => x.cell r0
      have xr1 := fun x : Xt wr => x.cell r1
      have xr2 := fun x : Xt wr => x.cell r2
      have hbx : b < w.heap.size := by omega
      clear x0 x1 x2 hkl
      go_upto_region 7 with (fail)
      refine wp_region_xt (by kernel_rfl) (by kernel_rfl) ?_
      repeat (go_big_quiet_step ((go_at_call 44; exact Xt.calls (EventErr_any D T S _ _ _ _ hD1 (by omega)))))
      refine wpQuiet_nil ?_
      intro w3 hx
      have hb3 := Xt.below hx
      clear hx xe0 xe1 xe2 xr0 xr1 xr2
      have ht3 := ht.keep hb3
      have f0 := kept hb3 e0
      have f1 := kept hb3 e1
      have f2 := kept hb3 e2
      clear ht e0 e1 e2 r0 r1 r2 t0 t1 t2 t3 t4 hb3
      cases hE : (evErrM D ev.1 ev.2.1 ev.2.2 == 0)
      · have hE0 : ¬ evErrM D ev.1 ev.2.1 ev.2.2 = 0 := by simpa using hE
        have hE1 : (evErrM D ev.1 ev.2.1 ev.2.2 != 0) = true := by simpa using hE
        have HC := Lib.hid (applyE_of_ev (T := T) (S := S) (s := s) hE0)
        have HE0 := Lib.hid hE0; clear hE0
        generalize evErrM D ev.1 ev.2.1 ev.2.2 = z at *
        obtain ⟨t0, t1, t2, t3, t4, q0, q1, q2, q3, q4⟩ := res5 ht3.res
        go_wp2_with fail
        refine bodyPost_ret (v := .tuple #[zeroSt, .int .i64 k, .int .i64 z]) (by simp [results, Tryd.results24, go_sem, zeroSt, t0, t1, t2, t3, t4]) rfl ⟨?_, ?_⟩
        · exact (ht3.set _ _ _ _ _).1
        · have hrun : runTr D T S (begin0 D place) l 0 = .inl (k, z) := by rw [← HE.out, HD.out, runTr, HC.out, if_neg HE0.out]
          rw [hrun]
      · have hE0 : evErrM D ev.1 ev.2.1 ev.2.2 = 0 := by simpa using hE
        rw [hE0]
        have HC : Hid (∀ w4, StAt w4 w4.heap.size (some ⟨g1, 0, none⟩) (some ⟨g2, 0, none⟩) D D s → Calls Tryd.prog 45 #[.agg #[.int .i64 D, .int .i64 T, .int .i64 S], stV s (some ⟨g1, 0, none⟩) (some ⟨g2, 0, none⟩) D D c1 c2, .agg #[.int .i64 ev.1, .int .i64 ev.2.1, .int .i64 ev.2.2]] w4 (RApplyPost w4 D (applyS s ev.1 ev.2.1 ev.2.2) (applyE D T S s ev.1 ev.2.1 ev.2.2))) :=
          fun w4 h4 => refApply_any w4 w4.heap.size D T S _ _ c1 c2 s _ _ _ h4 (Nat.le_refl _) (by omega) hps hT hE0
        have hS3 : ∃ z : RdW w.heap.size D T S ev.1 ev.2.1 ev.2.2 b (off + k * 3), w3.drew = z.w := mkRd (ht3.keep (Below.refl _ _).drew).r (ht3.keep (Below.refl _ _).drew).below hbx d0 d1 d2
        clear hE hE0 f0 f1 f2
        go_upto_region 9 with (fail)
        haveI : Nonempty (RdW w.heap.size D T S ev.1 ev.2.1 ev.2.2 b (off + k * 3)) := ⟨hS3.choose⟩
        have z0 := fun z : RdW w.heap.size D T S ev.1 ev.2.1 ev.2.2 b (off + k * 3) => z.r0
        have z1 := fun z : RdW w.heap.size D T S ev.1 ev.2.1 ev.2.2 b (off + k * 3) => z.r1
        have z2 := fun z : RdW w.heap.size D T S ev.1 ev.2.1 ev.2.2 b (off + k * 3) => z.r2
        have z3 := fun z : RdW w.heap.size D T S ev.1 ev.2.1 ev.2.2 b (off + k * 3) => z.e0
        have z4 := fun z : RdW w.heap.size D T S ev.1 ev.2.1 ev.2.2 b (off + k * 3) => z.e1
        have z5 := fun z : RdW w.heap.size D T S ev.1 ev.2.1 ev.2.2 b (off + k * 3) => z.e2
        refine wp_region_mid [] [0, 2, 3, 4, 5] 6 [11] (fun w' => ∃ z : RdW w.heap.size D T S ev.1 ev.2.1 ev.2.2 b (off + k * 3), w' = z.w) (by kernel_rfl) (by kernel_rfl) hS3 ?_
        simp only [opsAt_nil, opsAt_cons, consOpt_some, List.getElem?_toArray, List.getElem?_cons_zero, List.getElem?_cons_succ]
        refine wpQuiet_nil ?_
        show wpQuiet _ _ _ _ _ _
        repeat (go_big_quiet_step (fail))
        refine wpQuiet_nil ?_
        show wpOrders _ _ _ _ _ _ _ _ w3.drew
        clear z0 z1 z2 z3 z4 z5 hS3
        have ht4 := ht3.keep (Below.refl w3.heap.size w3).drew
        clear ht3
        generalize w3.drew = w4 at *
        have C := HC.out w4 (ht4.own.at_ (by omega) (by omega))
        clear HC
        obtain ⟨t0, t1, t2, t3, t4⟩ := cells5 ht4.st
        refine wpOrders_one (i := 1) (by kernel_rfl) ?_
        unfold wpMid
        simp only [opsAt_nil, opsAt_cons, consOpt_some, List.getElem?_toArray, List.getElem?_cons_zero, List.getElem?_cons_succ]
        go_wp2
        refine onlyNormal_mk ⟨mkRd ht4.r ht4.below hbx d0 d1 d2, ?_⟩
        clear t0 t1 t2 t3 t4
        cases hA : (applyE D T S s ev.1 ev.2.1 ev.2.2 != 0)
        · have hA0 : applyE D T S s ev.1 ev.2.1 ev.2.2 = 0 := by simpa using hA
          have HA := Lib.hid hA0
          rw [hA0] at C
          clear hA hA0
          refine wpOrders_one (i := 6) (by kernel_rfl) ?_
          unfold wpMid
          simp only [opsAt_nil, opsAt_cons, consOpt_some, List.getElem?_toArray, List.getElem?_cons_zero, List.getElem?_cons_succ]
          go_wp2_with (go_at_call 45; refine C.mono ?_; rintro e w5 ⟨⟨v, rfl, hv⟩, hb5⟩; rw [if_pos rfl] at hv; obtain ⟨h1, h2, d1', d2', rfl, ho⟩ := hv; have ht5 := ht4.keep hb5; simp only [stV])
          have htP := ht4.put hb5 ho
          obtain ⟨t0, t1, t2, t3, t4, q0, q1, q2, q3, q4⟩ := res5 ht5.st
          refine onlyNormal_mk ⟨mkRd ht5.r ht5.below hbx d0 d1 d2, ?_⟩
          refine wpOrders_one (i := 7) (by kernel_rfl) ?_
          unfold wpMid
          simp only [opsAt_nil, opsAt_cons, consOpt_some, List.getElem?_toArray, List.getElem?_cons_zero, List.getElem?_cons_succ]
          go_wp2
          refine onlyNormal_mk ⟨mkRd ht5.r ht5.below hbx d0 d1 d2, ?_⟩
          refine wpOrders_two (i := 8) (k := 9) (by kernel_rfl) ?_ ?_
          · unfold wpMid
            simp only [opsAt_nil, opsAt_cons, consOpt_some, List.getElem?_toArray, List.getElem?_cons_zero, List.getElem?_cons_succ]
            go_wp2
            refine onlyNormal_mk ⟨mkRd ht5.r ht5.below hbx d0 d1 d2, ?_⟩
            refine wpOrders_two (i := 9) (k := 10) (by kernel_rfl) ?_ ?_
            · unfold wpMid
              simp only [opsAt_nil, opsAt_cons, consOpt_some, List.getElem?_toArray, List.getElem?_cons_zero, List.getElem?_cons_succ]
              go_wp2
              refine onlyNormal_mk ⟨mkRd ht5.r ht5.below hbx d0 d1 d2, ?_⟩
              refine wpOrders_one (i := 10) (by kernel_rfl) ?_
              unfold wpMid
              simp only [opsAt_nil, opsAt_cons, consOpt_some, List.getElem?_toArray, List.getElem?_cons_zero, List.getElem?_cons_succ]
              go_wp2
              refine onlyNormal_mk ⟨mkRd htP.r htP.below hbx d0 d1 d2, ?_⟩
              refine wpOrders_zero ?_
              clear ht5 t0 t1 t2 t3 t4 q0 q1 q2 q3 q4 ht4
              go_wp2_with fail
              refine onlyNormal_mk ?_
              go_wp2_with fail
              go_roundw
              case rel => exact ⟨k + 1, _, _, _, _, _, by omega, by go_num, htP, applyS_place HA.out hps, by rw [← HE.out, HD.out, runTr, if_pos HA.out]⟩
              case measure => simp [intOf]; omega
            · unfold wpMid
              simp only [opsAt_nil, opsAt_cons, consOpt_some, List.getElem?_toArray, List.getElem?_cons_zero, List.getElem?_cons_succ]
              go_wp2
              refine onlyNormal_mk ⟨mkRd htP.r htP.below hbx d0 d1 d2, ?_⟩
              refine wpOrders_one (i := 9) (by kernel_rfl) ?_
              unfold wpMid
              simp only [opsAt_nil, opsAt_cons, consOpt_some, List.getElem?_toArray, List.getElem?_cons_zero, List.getElem?_cons_succ]
              go_wp2
              refine onlyNormal_mk ⟨mkRd htP.r htP.below hbx d0 d1 d2, ?_⟩
              refine wpOrders_zero ?_
              clear ht5 t0 t1 t2 t3 t4 q0 q1 q2 q3 q4 ht4
              go_wp2_with fail
              refine onlyNormal_mk ?_
              go_wp2_with fail
              go_roundw
              case rel => exact ⟨k + 1, _, _, _, _, _, by omega, by go_num, htP, applyS_place HA.out hps, by rw [← HE.out, HD.out, runTr, if_pos HA.out]⟩
              case measure => simp [intOf]; omega
          · unfold wpMid
            simp only [opsAt_nil, opsAt_cons, consOpt_some, List.getElem?_toArray, List.getElem?_cons_zero, List.getElem?_cons_succ]
            go_wp2
            refine onlyNormal_mk ⟨mkRd ht5.r ht5.below hbx d0 d1 d2, ?_⟩
            refine wpOrders_one (i := 8) (by kernel_rfl) ?_
            unfold wpMid
            simp only [opsAt_nil, opsAt_cons, consOpt_some, List.getElem?_toArray, List.getElem?_cons_zero, List.getElem?_cons_succ]
            go_wp2
            refine onlyNormal_mk ⟨mkRd ht5.r ht5.below hbx d0 d1 d2, ?_⟩
            refine wpOrders_one (i := 10) (by kernel_rfl) ?_
            unfold wpMid
            simp only [opsAt_nil, opsAt_cons, consOpt_some, List.getElem?_toArray, List.getElem?_cons_zero, List.getElem?_cons_succ]
            go_wp2
            refine onlyNormal_mk ⟨mkRd htP.r htP.below hbx d0 d1 d2, ?_⟩
            refine wpOrders_zero ?_
            clear ht5 t0 t1 t2 t3 t4 q0 q1 q2 q3 q4 ht4
            go_wp2_with fail
            refine onlyNormal_mk ?_
            go_wp2_with fail
            go_roundw
            case rel => exact ⟨k + 1, _, _, _, _, _, by omega, by go_num, htP, applyS_place HA.out hps, by rw [← HE.out, HD.out, runTr, if_pos HA.out]⟩
            case measure => simp [intOf]; omega
        · have hA0 : ¬ applyE D T S s ev.1 ev.2.1 ev.2.2 = 0 := by simpa using hA
          generalize hz : applyE D T S s ev.1 ev.2.1 ev.2.2 = z at *
          have HZ := Lib.hid hz
          have HA := Lib.hid hA0
          clear hA0 hz
          refine wpOrders_one (i := 6) (by kernel_rfl) ?_
          unfold wpMid
          simp only [opsAt_nil, opsAt_cons, consOpt_some, List.getElem?_toArray, List.getElem?_cons_zero, List.getElem?_cons_succ]
          go_wp2_with (go_at_call 45; refine C.mono ?_; rintro e w5 ⟨⟨v, rfl, hv⟩, hb5⟩; rw [if_neg HA.out] at hv; subst hv; have ht5 := ht4.keep hb5; simp only [zeroSt])
          have htP := ht4.putZ hb5 (.bool false) (.bool false) (.int .i64 0) (.slice none 0 0) (.slice none 0 0)
          simp only [] at htP
          obtain ⟨pr, ps, pb⟩ := htP
          obtain ⟨t0, t1, t2, t3, t4, q0, q1, q2, q3, q4⟩ := res5 ht5.st
          refine onlyNormal_mk ⟨mkRd ht5.r ht5.below hbx d0 d1 d2, ?_⟩
          refine wpOrders_one (i := 7) (by kernel_rfl) ?_
          unfold wpMid
          simp only [opsAt_nil, opsAt_cons, consOpt_some, List.getElem?_toArray, List.getElem?_cons_zero, List.getElem?_cons_succ]
          go_wp2
          refine onlyNormal_mk ⟨mkRd ht5.r ht5.below hbx d0 d1 d2, ?_⟩
          refine wpOrders_two (i := 8) (k := 9) (by kernel_rfl) ?_ ?_
          · unfold wpMid
            simp only [opsAt_nil, opsAt_cons, consOpt_some, List.getElem?_toArray, List.getElem?_cons_zero, List.getElem?_cons_succ]
            go_wp2
            refine onlyNormal_mk ⟨mkRd ht5.r ht5.below hbx d0 d1 d2, ?_⟩
            refine wpOrders_two (i := 9) (k := 10) (by kernel_rfl) ?_ ?_
            · unfold wpMid
              simp only [opsAt_nil, opsAt_cons, consOpt_some, List.getElem?_toArray, List.getElem?_cons_zero, List.getElem?_cons_succ]
              go_wp2
              refine onlyNormal_mk ⟨mkRd ht5.r ht5.below hbx d0 d1 d2, ?_⟩
              refine wpOrders_one (i := 10) (by kernel_rfl) ?_
              unfold wpMid
              simp only [opsAt_nil, opsAt_cons, consOpt_some, List.getElem?_toArray, List.getElem?_cons_zero, List.getElem?_cons_succ]
              go_wp2
              refine onlyNormal_mk ⟨mkRd pr pb hbx d0 d1 d2, ?_⟩
              refine wpOrders_zero ?_
              clear ht5 t0 t1 t2 t3 t4 q0 q1 q2 q3 q4 ht4
              go_wp2_with fail
              refine onlyNormal_mk ?_
              generalize World.setCell _ ⟨y, 4, none⟩ _ = wz at *
              obtain ⟨t0, t1, t2, t3, t4, q0, q1, q2, q3, q4⟩ := res5 ps
              go_wp2_with fail
              refine bodyPost_ret (v := .tuple #[zeroSt, .int .i64 k, .int .i64 z]) (by simp [results, Tryd.results24, go_sem, zeroSt, t0, t1, t2, t3, t4]) rfl ⟨?_, ?_⟩
              · exact ((((pb.setCell (by simp) _).setCell (by simp) _).setCell (by simp) _).setCell (by simp) _).setCell (by simp) _
              · have hrun : runTr D T S (begin0 D place) l 0 = .inl (k, z) := by rw [← HE.out, HD.out, runTr, HZ.out, if_neg HA.out]
                rw [hrun]
            · unfold wpMid
              simp only [opsAt_nil, opsAt_cons, consOpt_some, List.getElem?_toArray, List.getElem?_cons_zero, List.getElem?_cons_succ]
              go_wp2
              refine onlyNormal_mk ⟨mkRd pr pb hbx d0 d1 d2, ?_⟩
              refine wpOrders_one (i := 9) (by kernel_rfl) ?_
              unfold wpMid
              simp only [opsAt_nil, opsAt_cons, consOpt_some, List.getElem?_toArray, List.getElem?_cons_zero, List.getElem?_cons_succ]
              go_wp2
              refine onlyNormal_mk ⟨mkRd pr pb hbx d0 d1 d2, ?_⟩
              refine wpOrders_zero ?_
              clear ht5 t0 t1 t2 t3 t4 q0 q1 q2 q3 q4 ht4
              go_wp2_with fail
              refine onlyNormal_mk ?_
              generalize World.setCell _ ⟨y, 4, none⟩ _ = wz at *
              obtain ⟨t0, t1, t2, t3, t4, q0, q1, q2, q3, q4⟩ := res5 ps
              go_wp2_with fail
              refine bodyPost_ret (v := .tuple #[zeroSt, .int .i64 k, .int .i64 z]) (by simp [results, Tryd.results24, go_sem, zeroSt, t0, t1, t2, t3, t4]) rfl ⟨?_, ?_⟩
              · exact ((((pb.setCell (by simp) _).setCell (by simp) _).setCell (by simp) _).setCell (by simp) _).setCell (by simp) _
              · have hrun : runTr D T S (begin0 D place) l 0 = .inl (k, z) := by rw [← HE.out, HD.out, runTr, HZ.out, if_neg HA.out]
                rw [hrun]
          · unfold wpMid
            simp only [opsAt_nil, opsAt_cons, consOpt_some, List.getElem?_toArray, List.getElem?_cons_zero, List.getElem?_cons_succ]
            go_wp2
            refine onlyNormal_mk ⟨mkRd ht5.r ht5.below hbx d0 d1 d2, ?_⟩
            refine wpOrders_one (i := 8) (by kernel_rfl) ?_
            unfold wpMid
            simp only [opsAt_nil, opsAt_cons, consOpt_some, List.getElem?_toArray, List.getElem?_cons_zero, List.getElem?_cons_succ]
            go_wp2
            refine onlyNormal_mk ⟨mkRd ht5.r ht5.below hbx d0 d1 d2, ?_⟩
            refine wpOrders_one (i := 10) (by kernel_rfl) ?_
            unfold wpMid
            simp only [opsAt_nil, opsAt_cons, consOpt_some, List.getElem?_toArray, List.getElem?_cons_zero, List.getElem?_cons_succ]
            go_wp2
            refine onlyNormal_mk ⟨mkRd pr pb hbx d0 d1 d2, ?_⟩
            refine wpOrders_zero ?_
            clear ht5 t0 t1 t2 t3 t4 q0 q1 q2 q3 q4 ht4
            go_wp2_with fail
            refine onlyNormal_mk ?_
            generalize World.setCell _ ⟨y, 4, none⟩ _ = wz at *
            obtain ⟨t0, t1, t2, t3, t4, q0, q1, q2, q3, q4⟩ := res5 ps
            go_wp2_with fail
            refine bodyPost_ret (v := .tuple #[zeroSt, .int .i64 k, .int .i64 z]) (by simp [results, Tryd.results24, go_sem, zeroSt, t0, t1, t2, t3, t4]) rfl ⟨?_, ?_⟩
            · exact ((((pb.setCell (by simp) _).setCell (by simp) _).setCell (by simp) _).setCell (by simp) _).setCell (by simp) _
            · have hrun : runTr D T S (begin0 D place) l 0 = .inl (k, z) := by rw [← HE.out, HD.out, runTr, HZ.out, if_neg HA.out]
              rw [hrun]
    · have hkn' : k = n := by omega
      have hend : runTr D T S (begin0 D place) l 0 = .inr s := by
        rw [← HE.out, List.drop_eq_nil_of_le (by rw [HL.out]; omega), runTr]
      have HEND := Lib.hid hend
      clear hend HE HS0
      obtain ⟨c0', c1', c2', c3', c4'⟩ := cells5 ht.st
      obtain ⟨t0, t1, t2, t3, t4, q0, q1, q2, q3, q4⟩ := res5 ht.res
      go_wp2_with fail
      refine bodyPost_ret (v := .tuple #[stV s (some ⟨g1, 0, none⟩) (some ⟨g2, 0, none⟩) D D c1 c2, .int .i64 0, .int .i64 0]) (by simp [results, Tryd.results24, go_sem, stV, t0, t1, t2, t3, t4]) rfl ⟨?_, ?_⟩
      · exact (ht.set _ _ _ _ _).1
      · rw [HEND.out]
        exact ⟨_, rfl, (ht.set _ _ _ _ _).2⟩
end Go.Proofs.YtmcjnfghlpnghaaDoor

namespace Go.Proofs.YtmcjnfghlpnghaaDoor
open Go.RowKit

set_option maxRecDepth 100000 in
set_option maxHeartbeats 4000000 in
theorem refReplay_long (D T S place : Int) (A : Option Addr) (n c : Nat) (w : World) (hn : 100 < n) (hn1 : n ≤ 1000000000) :
    Calls Tryd.prog 24 #[.agg #[.int .i64 D, .int .i64 T, .int .i64 S], .int .i64 place, .slice A n c] w fun e w' =>
      e = .returned (.tuple #[zeroSt, .int .i64 0, .int .i64 8]) ∧ Below w.heap.size w w' := by
  have hb0 : Below w.heap.size w ((w.alloc (.cells #[.int .i64 D, .int .i64 T, .int .i64 S] 23)).alloc (.cells #[.bool false, .bool false, .int .i64 0, .slice none 0 0, .slice none 0 0] 28)) :=
    ((Below.refl _ _).alloc (Nat.le_refl _) _).alloc (by simp) _
  have hr : ((w.alloc (.cells #[.int .i64 D, .int .i64 T, .int .i64 S] 23)).alloc (.cells #[.bool false, .bool false, .int .i64 0, .slice none 0 0, .slice none 0 0] 28)).heap[w.heap.size + 1]? = some (.cells #[.bool false, .bool false, .int .i64 0, .slice none 0 0, .slice none 0 0] 28 (0, 0)) := by
    rw [heapq_alloc, if_pos (by simp)]
  go_enter Tryd.func24, Tryd.ntmps24
  go_upto_region 1 with (fail)
  generalize ((w.alloc (.cells #[.int .i64 D, .int .i64 T, .int .i64 S] 23)).alloc (.cells #[.bool false, .bool false, .int .i64 0, .slice none 0 0, .slice none 0 0] 28)) = w0 at *
  obtain ⟨t0, t1, t2, t3, t4, q0, q1, q2, q3, q4⟩ := res5 hr
  go_wp2_with fail
  refine bodyPost_ret (v := .tuple #[zeroSt, .int .i64 0, .int .i64 8]) (by simp [results, Tryd.results24, go_sem, zeroSt, t0, t1, t2, t3, t4]) rfl ⟨rfl, ?_⟩
  exact ((((hb0.setCell (by simp) _).setCell (by simp) _).setCell (by simp) _).setCell (by simp) _).setCell (by simp) _
end Go.Proofs.YtmcjnfghlpnghaaDoor

namespace Go.Proofs.YtmcjnfghlpnghaaDoor
open Go.RowKit

def zeroTr : Tr := ⟨false, false, 0, [], []⟩
theorem zeroAt (w : World) (B : Nat) : StAt w B none none 0 0 zeroTr := ⟨rfl, rfl, fun k u h => by simp [zeroTr] at h, fun k u h => by simp [zeroTr] at h, by omega, by omega⟩
theorem sameB_self (s : Tr) : sameB s s = true := by simp [sameB, (eqGo_iff s.gates s.gates).2 rfl, (eqGo_iff s.doors s.doors).2 rfl]

theorem SameZero (W : World) : Calls Tryd.prog 25 #[.agg #[.bool false, .bool false, .int .i64 0, .slice none 0 0, .slice none 0 0], .agg #[.bool false, .bool false, .int .i64 0, .slice none 0 0, .slice none 0 0]] W fun e w' => e = .returned (.bool true) ∧ Below W.heap.size W w' := by
  have S := Same_any W W.heap.size none none none none 0 0 0 0 0 0 0 0 zeroTr zeroTr (zeroAt _ _) (zeroAt _ _) (Nat.le_refl _)
  rw [sameB_self] at S
  exact S

end Go.Proofs.YtmcjnfghlpnghaaDoor

namespace Go.Proofs.YtmcjnfghlpnghaaDoor
open Go.RowKit

def RepRes (w : World) (s : Tr) (i err : Int) (e : Ending) (w' : World) : Prop :=
  ∃ Ag Ad ng nd cg cd, e = .returned (.tuple #[stV s Ag Ad ng nd cg cd, .int .i64 i, .int .i64 err]) ∧ StAt w' w'.heap.size Ag Ad ng nd s ∧ (∀ a, Ag = some a → w.heap.size ≤ a.block) ∧ (∀ a, Ad = some a → w.heap.size ≤ a.block) ∧ Below w.heap.size w w'

theorem repRes_zero {w w' : World} {i err : Int} {e : Ending} (he : e = .returned (.tuple #[zeroSt, .int .i64 i, .int .i64 err])) (hb : Below w.heap.size w w') : RepRes w zeroTr i err e w' :=
  ⟨none, none, 0, 0, 0, 0, he, zeroAt _ _, fun _ h => (by cases h), fun _ h => (by cases h), hb⟩

def CareRep (D T S place : Int) (n : Nat) (l : List Ev) (s : Tr) (i err : Int) : Prop :=
  ∀ (W : World) (A : Option Addr) (c : Nat), KindsAt W → Rd W W.heap.size A (evCells l) → Calls Tryd.prog 20 #[.agg #[.int .i64 D, .int .i64 T, .int .i64 S], .int .i64 place, .slice A n c] W (RepRes W s i err)
def RefRep (D T S place : Int) (n : Nat) (l : List Ev) (s : Tr) (i err : Int) : Prop :=
  ∀ (W : World) (A : Option Addr) (c : Nat), Rd W W.heap.size A (evCells l) → Calls Tryd.prog 24 #[.agg #[.int .i64 D, .int .i64 T, .int .i64 S], .int .i64 place, .slice A n c] W (RepRes W s i err)

theorem rep_both (D T S place : Int) (n : Nat) (l : List Ev) (hl : l.length = n) (hn : n ≤ 1000000000) :
    ∃ s i err, CareRep D T S place n l s i err ∧
      ((doorsE D T S = 0 ∧ placeE place = 0 ∧ RefRep D T S place n l s i err) ∨ (doorsE D T S ≠ 0 ∧ s = zeroTr ∧ i = 0 ∧ err = doorsE D T S) ∨ (doorsE D T S = 0 ∧ placeE place ≠ 0 ∧ s = zeroTr ∧ i = 0 ∧ err = placeE place)) := by
  by_cases hE : doorsE D T S = 0
  · by_cases hP : placeE place = 0
    · have hF : firstE [doorsE D T S, placeE place] = 0 := by
        simp only [firstE, hE, hP]
        simp
      obtain ⟨⟨hD1, hD2⟩, hT, _⟩ := doorsE_zero hE
      have hp := placeE_zero hP
      obtain ⟨D, rfl⟩ := Int.eq_ofNat_of_zero_le (show 0 ≤ D by omega)
      by_cases h100 : n ≤ 100
      · cases hr : runTr D T S (begin0 D place) l 0 with
        | inl p =>
          obtain ⟨i, err⟩ := p
          refine ⟨zeroTr, i, err, fun W A c hk h => ?_, .inl ⟨hE, hP, fun W A c h => ?_⟩⟩
          · refine (Replay_yes D T S place A n c W.heap.size l W (by omega) hF h100 hl hk h (Nat.le_refl _) hp hT).mono ?_
            rintro e w' ⟨hb, hm⟩
            have hr' : runTr D T S ⟨false, false, place, List.replicate D false, List.replicate D false⟩ l 0 = .inl (i, err) := hr
            rw [hr'] at hm
            exact repRes_zero hm hb
          · refine (refReplay_yes D T S place A n c W.heap.size l W (by omega) (by omega) h100 hl h (Nat.le_refl _) hp hT).mono ?_
            rintro e w' ⟨hb, hm⟩
            rw [hr] at hm
            exact repRes_zero hm hb
        | inr s =>
          refine ⟨s, 0, 0, fun W A c hk h => ?_, .inl ⟨hE, hP, fun W A c h => ?_⟩⟩
          · refine (Replay_yes D T S place A n c W.heap.size l W (by omega) hF h100 hl hk h (Nat.le_refl _) hp hT).mono ?_
            rintro e w' ⟨hb, hm⟩
            have hr' : runTr D T S ⟨false, false, place, List.replicate D false, List.replicate D false⟩ l 0 = .inr s := hr
            rw [hr'] at hm
            obtain ⟨g, bg, bd, cg, cd, he, ht⟩ := hm
            exact ⟨_, _, _, _, _, _, he, ht.st (by omega), fun _ h => by cases h; exact ht.bgLt.1, fun _ h => by cases h; exact ht.bdLt.1, hb⟩
          · refine (refReplay_yes D T S place A n c W.heap.size l W (by omega) (by omega) h100 hl h (Nat.le_refl _) hp hT).mono ?_
            rintro e w' ⟨hb, hm⟩
            rw [hr] at hm
            obtain ⟨v, he, g1, g2, c1, c2, rfl, ho⟩ := hm
            exact ⟨_, _, _, _, _, _, he, ho.at_ (by omega) (by omega), fun _ h => by cases h; exact (ownBlk ho.og rfl).1, fun _ h => by cases h; exact (ownBlk ho.od rfl).1, hb⟩
      · have h8 : firstE [firstE [doorsE (D : Int) T S, placeE place], unlessE (decide ((n : Int) ≤ 100)) 8] = 8 := by
          have : decide ((n : Int) ≤ 100) = false := by simp; omega
          rw [this, hF]
          rfl
        refine ⟨zeroTr, 0, 8, fun W A c hk h => ?_, .inl ⟨hE, hP, fun W A c h => ?_⟩⟩
        · refine (Replay_no D T S place A n c W hn (by rw [h8]; decide)).mono ?_
          rintro e w' ⟨he, hb⟩
          rw [h8] at he
          exact repRes_zero he hb
        · refine (refReplay_long D T S place A n c W (by omega) hn).mono ?_
          rintro e w' ⟨he, hb⟩
          exact repRes_zero he hb
    · have hF : firstE [firstE [doorsE D T S, placeE place], unlessE (decide ((n : Int) ≤ 100)) 8] = placeE place := by
        simp [firstE, hE, hP]
      refine ⟨zeroTr, 0, placeE place, fun W A c hk h => ?_, .inr (.inr ⟨hE, hP, rfl, rfl, rfl⟩)⟩
      refine (Replay_no D T S place A n c W hn (by rw [hF]; exact hP)).mono ?_
      rintro e w' ⟨he, hb⟩
      rw [hF] at he
      exact repRes_zero he hb
  · have hF : firstE [firstE [doorsE D T S, placeE place], unlessE (decide ((n : Int) ≤ 100)) 8] = doorsE D T S := by
      simp [firstE, hE]
    refine ⟨zeroTr, 0, doorsE D T S, fun W A c hk h => ?_, .inr (.inl ⟨hE, rfl, rfl, rfl⟩)⟩
    refine (Replay_no D T S place A n c W hn (by rw [hF]; exact hE)).mono ?_
    rintro e w' ⟨he, hb⟩
    rw [hF] at he
    exact repRes_zero he hb
end Go.Proofs.YtmcjnfghlpnghaaDoor

namespace Go.Proofs.YtmcjnfghlpnghaaDoor
open Go.RowKit

/-! ### a state's block, stored whole -/
theorem put5_other {W : World} {y k : Nat} (a0 a1 a2 a3 a4 : Value) (h : k ≠ y) : (((((W.setCell ⟨y, 0, none⟩ a0).setCell ⟨y, 1, none⟩ a1).setCell ⟨y, 2, none⟩ a2).setCell ⟨y, 3, none⟩ a3).setCell ⟨y, 4, none⟩ a4).heap[k]? = W.heap[k]? := by
  rw [heapq_set, if_neg h, heapq_set, if_neg h, heapq_set, if_neg h, heapq_set, if_neg h, heapq_set, if_neg h]
theorem put5_self {W : World} {y t : Nat} {z0 z1 z2 z3 z4 : Value} (a0 a1 a2 a3 a4 : Value) (h : W.heap[y]? = some (.cells #[z0, z1, z2, z3, z4] t (0, 0))) :
    (((((W.setCell ⟨y, 0, none⟩ a0).setCell ⟨y, 1, none⟩ a1).setCell ⟨y, 2, none⟩ a2).setCell ⟨y, 3, none⟩ a3).setCell ⟨y, 4, none⟩ a4).heap[y]? = some (.cells #[a0, a1, a2, a3, a4] t (0, 0)) := by
  rw [heapq_set, if_pos rfl, heapq_set, if_pos rfl, heapq_set, if_pos rfl, heapq_set, if_pos rfl, heapq_set, if_pos rfl, h]
  rfl
theorem put5_below {W : World} {B y : Nat} (a0 a1 a2 a3 a4 : Value) (h : B ≤ y) : Below B W (((((W.setCell ⟨y, 0, none⟩ a0).setCell ⟨y, 1, none⟩ a1).setCell ⟨y, 2, none⟩ a2).setCell ⟨y, 3, none⟩ a3).setCell ⟨y, 4, none⟩ a4) :=
  (((((Below.refl B W).setCell (p := ⟨y, 0, none⟩) h _).setCell (p := ⟨y, 1, none⟩) h _).setCell (p := ⟨y, 2, none⟩) h _).setCell (p := ⟨y, 3, none⟩) h _).setCell (p := ⟨y, 4, none⟩) h _
theorem put5_size {W : World} {y : Nat} (a0 a1 a2 a3 a4 : Value) : (((((W.setCell ⟨y, 0, none⟩ a0).setCell ⟨y, 1, none⟩ a1).setCell ⟨y, 2, none⟩ a2).setCell ⟨y, 3, none⟩ a3).setCell ⟨y, 4, none⟩ a4).heap.size = W.heap.size := by
  simp
theorem put5_cell {W : World} {y : Nat} (a0 a1 a2 a3 a4 : Value) {p : Addr} {v : Value} (h : p.block ≠ y) (hc : W.cell? p = some v) : (((((W.setCell ⟨y, 0, none⟩ a0).setCell ⟨y, 1, none⟩ a1).setCell ⟨y, 2, none⟩ a2).setCell ⟨y, 3, none⟩ a3).setCell ⟨y, 4, none⟩ a4).cell? p = some v := by
  have e : ∀ (W : World) (i : Nat) (a : Value), (W.setCell ⟨y, i, none⟩ a).cell? p = W.cell? p := fun W i a => World.cell?_setCell_other W _ _ _ (fun he => h (by rw [← he]))
  rw [e, e, e, e, e]
  exact hc
theorem put5_rd {W : World} {B y : Nat} (a0 a1 a2 a3 a4 : Value) {A : Option Addr} {xs : List Value} (h : Rd W B A xs) (hn : B ≤ y ∨ ∀ a, A = some a → y < a.block) : Rd (((((W.setCell ⟨y, 0, none⟩ a0).setCell ⟨y, 1, none⟩ a1).setCell ⟨y, 2, none⟩ a2).setCell ⟨y, 3, none⟩ a3).setCell ⟨y, 4, none⟩ a4) B A xs := fun k u hk => by
  obtain ⟨b, off, hA, hb, hc⟩ := h k u hk
  refine ⟨b, off, hA, hb, put5_cell a0 a1 a2 a3 a4 ?_ hc⟩
  rcases hn with hn | hn
  · show b ≠ y
    omega
  · have := hn _ hA
    show b ≠ y
    exact Nat.ne_of_gt this
theorem put5_st {W : World} {B y : Nat} (a0 a1 a2 a3 a4 : Value) {Ag Ad : Option Addr} {ng nd : Nat} {s : Tr} (h : StAt W B Ag Ad ng nd s) (hn : B ≤ y ∨ (∀ a, Ag = some a → y < a.block) ∧ ∀ a, Ad = some a → y < a.block) : StAt (((((W.setCell ⟨y, 0, none⟩ a0).setCell ⟨y, 1, none⟩ a1).setCell ⟨y, 2, none⟩ a2).setCell ⟨y, 3, none⟩ a3).setCell ⟨y, 4, none⟩ a4) B Ag Ad ng nd s :=
  ⟨h.lg, h.ld, put5_rd a0 a1 a2 a3 a4 h.rg (hn.imp id (·.1)), put5_rd a0 a1 a2 a3 a4 h.rd (hn.imp id (·.2)), h.ng1, h.nd1⟩

/-- a state in a variable, a number and an error behind it -/
def CutR (w1 : World) (s : Tr) (i err : Int) (s7 s8 s9 : Value) (wc : World) : Prop :=
  ∃ y Ag Ad ng nd cg cd, s7 = .pointer (some ⟨y, 0, none⟩) ∧ s8 = .int .i64 i ∧ s9 = .int .i64 err ∧ wc.heap[y]? = some (.cells #[.bool s.mv, .bool s.al, .int .i64 s.place, .slice Ag ng cg, .slice Ad nd cd] 28 (0, 0)) ∧
    StAt wc wc.heap.size Ag Ad ng nd s ∧ Below w1.heap.size w1 wc

theorem cutR_mk {w1 w5 : World} {s : Tr} {i err : Int} {y B ng nd cg cd : Nat} {Ag Ad : Option Addr} {z0 z1 z2 z3 z4 : Value} (hb : Below w1.heap.size w1 w5) (hy : w1.heap.size ≤ y) (ky : w5.heap[y]? = some (.cells #[z0, z1, z2, z3, z4] 28 (0, 0))) (hst : StAt w5 B Ag Ad ng nd s) (hB : B ≤ w5.heap.size)
    (hn : B ≤ y ∨ (∀ a, Ag = some a → y < a.block) ∧ ∀ a, Ad = some a → y < a.block) :
    CutR w1 s i err (.pointer (some ⟨y, 0, none⟩)) (.int .i64 i) (.int .i64 err) (((((w5.setCell ⟨y, 0, none⟩ (.bool s.mv)).setCell ⟨y, 1, none⟩ (.bool s.al)).setCell ⟨y, 2, none⟩ (.int .i64 s.place)).setCell ⟨y, 3, none⟩ (.slice Ag ng cg)).setCell ⟨y, 4, none⟩ (.slice Ad nd cd)) :=
  ⟨y, Ag, Ad, ng, nd, cg, cd, rfl, rfl, rfl, put5_self _ _ _ _ _ ky, (put5_st _ _ _ _ _ hst hn).mono (by rw [put5_size]; exact hB), hb.trans (put5_below _ _ _ _ _ hy)⟩

set_option maxRecDepth 100000 in
set_option maxHeartbeats 4000000 in
theorem CareReplays_any (w : World) (D T S place : Int) (A : Option Addr) (n c : Nat) (l : List Ev) (hk : KindsAt w) (hl : l.length = n) (hn : n ≤ 1000000) (h : Rd w w.heap.size A (evCells l)) :
    Calls Tryd.prog 3 #[.agg #[.int .i64 D, .int .i64 T, .int .i64 S], .int .i64 place, .slice A n c] w (AwakePost w) := by
  have hb0 : Below w.heap.size w (w.alloc (.cells #[.int .i64 D, .int .i64 T, .int .i64 S] 23)) := (Below.refl _ _).alloc (Nat.le_refl _) _
  have hk0 := hk.below hb0
  have k0 : (w.alloc (.cells #[.int .i64 D, .int .i64 T, .int .i64 S] 23)).heap[w.heap.size]? = some (.cells #[.int .i64 D, .int .i64 T, .int .i64 S] 23 (0, 0)) := by rw [heapq_alloc, if_pos rfl]
  have A0 := awake_any _ hk0
  have h0 := h.below hb0
  have HB0 := Lib.hid hb0
  have HL := Lib.hid hl
  clear hk hb0 h hl
  go_enter Tryd.func3, Tryd.ntmps3
  go_wp2_with fail
  generalize w.alloc (.cells #[.int .i64 D, .int .i64 T, .int .i64 S] 23) = w0 at *
  refine A0.mono ?_
  rintro e w1 ⟨rfl, hb1⟩
  have k1 := (hb1.block w.heap.size (lt_of_block k0)).trans k0
  obtain ⟨c0, c1, c2⟩ := cells3 k1
  have hk1 := hk0.below hb1
  have h1 : Rd w1 w1.heap.size A (evCells l) := (h0.below (hb1.mono HB0.out.size)).mono (by have := HB0.out.size; have := hb1.size; omega)
  have HBW := Lib.hid (HB0.out.trans (hb1.mono HB0.out.size))
  clear hb1 k0 A0 h0 hk0 HB0
  obtain ⟨s, i, err, hC, hR⟩ := rep_both D T S place n l HL.out (by omega)
  have x0 := fun x : Xt w1 => x.cell c0
  have x1 := fun x : Xt w1 => x.cell c1
  have x2 := fun x : Xt w1 => x.cell c2
  go_upto_region 5 with (fail)
  all_goals first | (go_ret; exact ⟨rfl, HBW.out⟩) | skip
  all_goals
    · go_cut [7, 8, 9] from 13 (fun s7 s8 s9 wc => CutR w1 s i err s7 s8 s9 wc)
      case first =>
        refine wp_region_eager [12] (fun w' => ∃ x : Xt w1, w' = x.1) (by kernel_rfl) ⟨⟨w1.drew, (Below.refl _ _).drew⟩, rfl⟩ ?_
        refine wpE_reads [0, 1, 2] 10 rfl (by kernel_rfl) ?_
        simp only [opsAt_nil, opsAt_cons, consOpt_some, List.getElem?_toArray, List.getElem?_cons_zero, List.getElem?_cons_succ]
        repeat (go_big_quiet_step (fail))
        refine wpQuiet_nil ?_
        have hb4 : Below w1.heap.size w1 w1.drew := (Below.refl _ _).drew
        show wpE _ _ _ _ _ _ _ _ _ w1.drew
        generalize w1.drew = w2 at *
        refine wpE_two (i := 3) (k := 9) rfl (by kernel_rfl) rfl rfl ?_ ?_
        · unfold wpMid
          simp only [opsAt_nil, opsAt_cons, consOpt_some, List.getElem?_toArray, List.getElem?_cons_zero, List.getElem?_cons_succ]
          go_wp2_with (go_at_call 21; refine (CopyEvents_any w2 w1.heap.size A n c l HL.out (by omega) (h1.below hb4) hb4.size).mono ?_; rintro e w3 ⟨A', c', rfl, hA, hb3⟩)
          have hb13 : Below w1.heap.size w1 w3 := hb4.trans (hb3.mono hb4.size)
          refine onlyNormal_mk ⟨⟨⟨_, hb13⟩, rfl⟩, ?_⟩
          refine wpE_two (i := 4) (k := 9) rfl (by kernel_rfl) rfl rfl ?_ ?_
          · unfold wpMid
            simp only [opsAt_nil, opsAt_cons, consOpt_some, List.getElem?_toArray, List.getElem?_cons_zero, List.getElem?_cons_succ]
            go_wp2_with (go_at_call 20; refine (hC w3 A' c' (hk1.below hb13) hA).mono ?_; rintro e w4 ⟨Ag, Ad, ng, nd, cg, cd, rfl, hst, _, _, hb34⟩; simp only [stV])
            have hb14 : Below w1.heap.size w1 w4 := hb13.trans (hb34.mono hb13.size)
            refine onlyNormal_mk ⟨⟨⟨_, hb14⟩, rfl⟩, ?_⟩
            refine wpE_reads [5, 6, 7, 8] 4 rfl (by kernel_rfl) ?_
            simp only [opsAt_nil, opsAt_cons, consOpt_some, List.getElem?_toArray, List.getElem?_cons_zero, List.getElem?_cons_succ]
            repeat (go_big_quiet_step (fail))
            refine wpQuiet_nil ?_
            refine wpE_one (i := 9) rfl (by kernel_rfl) rfl ?_
            unfold wpMid
            simp only [opsAt_nil, opsAt_cons, consOpt_some, List.getElem?_toArray, List.getElem?_cons_zero, List.getElem?_cons_succ]
            go_wp2
            have ky : (w4.alloc (.cells #[.bool false, .bool false, .int .i64 0, .slice none 0 0, .slice none 0 0] 28)).heap[w4.heap.size]? = some (.cells #[.bool false, .bool false, .int .i64 0, .slice none 0 0, .slice none 0 0] 28 (0, 0)) := by rw [heapq_alloc, if_pos rfl]
            have hbY := hb14.alloc hb14.size (.cells #[.bool false, .bool false, .int .i64 0, .slice none 0 0, .slice none 0 0] 28)
            have hstY := hst.below ((Below.refl _ _).alloc (Nat.le_refl _) (.cells #[.bool false, .bool false, .int .i64 0, .slice none 0 0, .slice none 0 0] 28))
            have hyl := hb14.size
            generalize w4.alloc (.cells #[.bool false, .bool false, .int .i64 0, .slice none 0 0, .slice none 0 0] 28) = w5 at *
            generalize w4.heap.size = y at *
            refine onlyNormal_mk ⟨⟨⟨_, hbY⟩, rfl⟩, ?_⟩
            obtain ⟨t0, t1, t2, t3, t4, q0, q1, q2, q3, q4⟩ := res5 ky
            refine wpE_one (i := 10) rfl (by kernel_rfl) rfl ?_
            unfold wpMid
            simp only [opsAt_nil, opsAt_cons, consOpt_some, List.getElem?_toArray, List.getElem?_cons_zero, List.getElem?_cons_succ]
            go_wp2
            have hbP : ∀ a0 a1 a2 a3 a4, Below w1.heap.size w1 (((((w5.setCell ⟨y, 0, none⟩ a0).setCell ⟨y, 1, none⟩ a1).setCell ⟨y, 2, none⟩ a2).setCell ⟨y, 3, none⟩ a3).setCell ⟨y, 4, none⟩ a4) := fun a0 a1 a2 a3 a4 =>
              ((((hbY.setCell (p := ⟨y, 0, none⟩) hyl _).setCell (p := ⟨y, 1, none⟩) hyl _).setCell (p := ⟨y, 2, none⟩) hyl _).setCell (p := ⟨y, 3, none⟩) hyl _).setCell (p := ⟨y, 4, none⟩) hyl _
            refine onlyNormal_mk ⟨⟨⟨_, hbP _ _ _ _ _⟩, rfl⟩, ?_⟩
            refine wpE_one (i := 11) rfl (by kernel_rfl) rfl ?_
            unfold wpMid
            simp only [opsAt_nil, opsAt_cons, consOpt_some, List.getElem?_toArray, List.getElem?_cons_zero, List.getElem?_cons_succ]
            go_wp2
            refine onlyNormal_mk ⟨⟨⟨_, hbP _ _ _ _ _⟩, rfl⟩, ?_⟩
            refine wpE_tail rfl (by kernel_rfl) ?_
            simp only [opsAt_nil, opsAt_cons, consOpt_some, List.getElem?_toArray, List.getElem?_cons_zero, List.getElem?_cons_succ]
            go_wp2
            refine onlyNormal_mk ?_
            go_wp2_with fail
            go_meet
            exact cutR_mk hbY hyl ky hstY (Nat.le_of_lt (lt_of_block ky)) (.inl (Nat.le_refl _))
          · unfold wpMid
            simp only [opsAt_nil, opsAt_cons, consOpt_some, List.getElem?_toArray, List.getElem?_cons_zero, List.getElem?_cons_succ]
            go_wp2
            have ky0 : (w3.alloc (.cells #[.bool false, .bool false, .int .i64 0, .slice none 0 0, .slice none 0 0] 28)).heap[w3.heap.size]? = some (.cells #[.bool false, .bool false, .int .i64 0, .slice none 0 0, .slice none 0 0] 28 (0, 0)) := by rw [heapq_alloc, if_pos rfl]
            have hb14 := hb13.alloc hb13.size (.cells #[.bool false, .bool false, .int .i64 0, .slice none 0 0, .slice none 0 0] 28)
            have hA4 : Rd (w3.alloc (.cells #[.bool false, .bool false, .int .i64 0, .slice none 0 0, .slice none 0 0] 28)) (w3.alloc (.cells #[.bool false, .bool false, .int .i64 0, .slice none 0 0, .slice none 0 0] 28)).heap.size A' (evCells l) := (hA.below ((Below.refl _ _).alloc (Nat.le_refl _) (.cells #[.bool false, .bool false, .int .i64 0, .slice none 0 0, .slice none 0 0] 28))).mono (by simp)
            have hyl := hb13.size
            generalize w3.alloc (.cells #[.bool false, .bool false, .int .i64 0, .slice none 0 0, .slice none 0 0] 28) = w4 at *
            generalize w3.heap.size = y at *
            refine onlyNormal_mk ⟨⟨⟨_, hb14⟩, rfl⟩, ?_⟩
            refine wpE_one (i := 4) rfl (by kernel_rfl) rfl ?_
            unfold wpMid
            simp only [opsAt_nil, opsAt_cons, consOpt_some, List.getElem?_toArray, List.getElem?_cons_zero, List.getElem?_cons_succ]
            go_wp2_with (go_at_call 20; refine (hC w4 A' c' (hk1.below hb14) hA4).mono ?_; rintro e w5 ⟨Ag, Ad, ng, nd, cg, cd, rfl, hstY, f1, f2, hb45⟩; simp only [stV])
            have hbY : Below w1.heap.size w1 w5 := hb14.trans (hb45.mono hb14.size)
            have ky := (hb45.block y (lt_of_block ky0)).trans ky0
            refine onlyNormal_mk ⟨⟨⟨_, hbY⟩, rfl⟩, ?_⟩
            refine wpE_reads [5, 6, 7, 8] 3 rfl (by kernel_rfl) ?_
            simp only [opsAt_nil, opsAt_cons, consOpt_some, List.getElem?_toArray, List.getElem?_cons_zero, List.getElem?_cons_succ]
            repeat (go_big_quiet_step (fail))
            refine wpQuiet_nil ?_
            obtain ⟨t0, t1, t2, t3, t4, q0, q1, q2, q3, q4⟩ := res5 ky
            refine wpE_one (i := 10) rfl (by kernel_rfl) rfl ?_
            unfold wpMid
            simp only [opsAt_nil, opsAt_cons, consOpt_some, List.getElem?_toArray, List.getElem?_cons_zero, List.getElem?_cons_succ]
            go_wp2
            have hbP : ∀ a0 a1 a2 a3 a4, Below w1.heap.size w1 (((((w5.setCell ⟨y, 0, none⟩ a0).setCell ⟨y, 1, none⟩ a1).setCell ⟨y, 2, none⟩ a2).setCell ⟨y, 3, none⟩ a3).setCell ⟨y, 4, none⟩ a4) := fun a0 a1 a2 a3 a4 =>
              ((((hbY.setCell (p := ⟨y, 0, none⟩) hyl _).setCell (p := ⟨y, 1, none⟩) hyl _).setCell (p := ⟨y, 2, none⟩) hyl _).setCell (p := ⟨y, 3, none⟩) hyl _).setCell (p := ⟨y, 4, none⟩) hyl _
            refine onlyNormal_mk ⟨⟨⟨_, hbP _ _ _ _ _⟩, rfl⟩, ?_⟩
            refine wpE_one (i := 11) rfl (by kernel_rfl) rfl ?_
            unfold wpMid
            simp only [opsAt_nil, opsAt_cons, consOpt_some, List.getElem?_toArray, List.getElem?_cons_zero, List.getElem?_cons_succ]
            go_wp2
            refine onlyNormal_mk ⟨⟨⟨_, hbP _ _ _ _ _⟩, rfl⟩, ?_⟩
            refine wpE_tail rfl (by kernel_rfl) ?_
            simp only [opsAt_nil, opsAt_cons, consOpt_some, List.getElem?_toArray, List.getElem?_cons_zero, List.getElem?_cons_succ]
            go_wp2
            refine onlyNormal_mk ?_
            go_wp2_with fail
            go_meet
            exact cutR_mk hbY hyl ky hstY (Nat.le_refl _) (.inr ⟨fun a ha => Nat.lt_of_lt_of_le (lt_of_block ky0) (f1 a ha), fun a ha => Nat.lt_of_lt_of_le (lt_of_block ky0) (f2 a ha)⟩)
        · unfold wpMid
          simp only [opsAt_nil, opsAt_cons, consOpt_some, List.getElem?_toArray, List.getElem?_cons_zero, List.getElem?_cons_succ]
          go_wp2
          have ky0 : (w2.alloc (.cells #[.bool false, .bool false, .int .i64 0, .slice none 0 0, .slice none 0 0] 28)).heap[w2.heap.size]? = some (.cells #[.bool false, .bool false, .int .i64 0, .slice none 0 0, .slice none 0 0] 28 (0, 0)) := by rw [heapq_alloc, if_pos rfl]
          have hb13 := hb4.alloc hb4.size (.cells #[.bool false, .bool false, .int .i64 0, .slice none 0 0, .slice none 0 0] 28)
          have hyl := hb4.size
          generalize w2.alloc (.cells #[.bool false, .bool false, .int .i64 0, .slice none 0 0, .slice none 0 0] 28) = w3 at *
          generalize w2.heap.size = y at *
          refine onlyNormal_mk ⟨⟨⟨_, hb13⟩, rfl⟩, ?_⟩
          refine wpE_one (i := 3) rfl (by kernel_rfl) rfl ?_
          unfold wpMid
          simp only [opsAt_nil, opsAt_cons, consOpt_some, List.getElem?_toArray, List.getElem?_cons_zero, List.getElem?_cons_succ]
          go_wp2_with (go_at_call 21; refine (CopyEvents_any w3 w1.heap.size A n c l HL.out (by omega) (h1.below hb13) hb13.size).mono ?_; rintro e w4 ⟨A', c', rfl, hA, hb34⟩)
          have hb14 : Below w1.heap.size w1 w4 := hb13.trans (hb34.mono hb13.size)
          have ky1 := (hb34.block y (lt_of_block ky0)).trans ky0
          refine onlyNormal_mk ⟨⟨⟨_, hb14⟩, rfl⟩, ?_⟩
          refine wpE_one (i := 4) rfl (by kernel_rfl) rfl ?_
          unfold wpMid
          simp only [opsAt_nil, opsAt_cons, consOpt_some, List.getElem?_toArray, List.getElem?_cons_zero, List.getElem?_cons_succ]
          go_wp2_with (go_at_call 20; refine (hC w4 A' c' (hk1.below hb14) hA).mono ?_; rintro e w5 ⟨Ag, Ad, ng, nd, cg, cd, rfl, hstY, f1, f2, hb45⟩; simp only [stV])
          have hbY : Below w1.heap.size w1 w5 := hb14.trans (hb45.mono hb14.size)
          have ky := (hb45.block y (lt_of_block ky1)).trans ky1
          refine onlyNormal_mk ⟨⟨⟨_, hbY⟩, rfl⟩, ?_⟩
          refine wpE_reads [5, 6, 7, 8] 3 rfl (by kernel_rfl) ?_
          simp only [opsAt_nil, opsAt_cons, consOpt_some, List.getElem?_toArray, List.getElem?_cons_zero, List.getElem?_cons_succ]
          repeat (go_big_quiet_step (fail))
          refine wpQuiet_nil ?_
          obtain ⟨t0, t1, t2, t3, t4, q0, q1, q2, q3, q4⟩ := res5 ky
          refine wpE_one (i := 10) rfl (by kernel_rfl) rfl ?_
          unfold wpMid
          simp only [opsAt_nil, opsAt_cons, consOpt_some, List.getElem?_toArray, List.getElem?_cons_zero, List.getElem?_cons_succ]
          go_wp2
          have hbP : ∀ a0 a1 a2 a3 a4, Below w1.heap.size w1 (((((w5.setCell ⟨y, 0, none⟩ a0).setCell ⟨y, 1, none⟩ a1).setCell ⟨y, 2, none⟩ a2).setCell ⟨y, 3, none⟩ a3).setCell ⟨y, 4, none⟩ a4) := fun a0 a1 a2 a3 a4 =>
            ((((hbY.setCell (p := ⟨y, 0, none⟩) hyl _).setCell (p := ⟨y, 1, none⟩) hyl _).setCell (p := ⟨y, 2, none⟩) hyl _).setCell (p := ⟨y, 3, none⟩) hyl _).setCell (p := ⟨y, 4, none⟩) hyl _
          refine onlyNormal_mk ⟨⟨⟨_, hbP _ _ _ _ _⟩, rfl⟩, ?_⟩
          refine wpE_one (i := 11) rfl (by kernel_rfl) rfl ?_
          unfold wpMid
          simp only [opsAt_nil, opsAt_cons, consOpt_some, List.getElem?_toArray, List.getElem?_cons_zero, List.getElem?_cons_succ]
          go_wp2
          refine onlyNormal_mk ⟨⟨⟨_, hbP _ _ _ _ _⟩, rfl⟩, ?_⟩
          refine wpE_tail rfl (by kernel_rfl) ?_
          simp only [opsAt_nil, opsAt_cons, consOpt_some, List.getElem?_toArray, List.getElem?_cons_zero, List.getElem?_cons_succ]
          go_wp2
          refine onlyNormal_mk ?_
          go_wp2_with fail
          go_meet
          exact cutR_mk hbY hyl ky hstY (Nat.le_refl _) (.inr ⟨fun a ha => Nat.lt_of_lt_of_le (lt_of_block ky1) (f1 a ha), fun a ha => Nat.lt_of_lt_of_le (lt_of_block ky1) (f2 a ha)⟩)
      case rest =>
        obtain ⟨y, Ag, Ad, ng, nd, cg, cd, rfl, rfl, rfl, ky, hst, hb⟩ := hcut
        have hxl : w.heap.size < w1.heap.size := lt_of_cell c0
        have e0 := keptB hb hxl c0
        have e1 := keptB hb hxl c1
        have e2 := keptB hb hxl c2
        have HB := Lib.hid (HBW.out.trans (hb.mono (Nat.le_of_lt hxl)))
        have HA := Lib.hid (h1.below hb)
        have HS := Lib.hid hb.size
        clear hb h1 c0 c1 c2 x0 x1 x2
        rcases hR with ⟨hE, hP, hR⟩ | ⟨hE, rfl, rfl, rfl⟩ | ⟨hE, hP, rfl, rfl, rfl⟩
        · have Dn := fun W => DoorsErr_any D T S W
          have Pn := fun W => PlaceErr_any place W
          simp only [hE] at Dn
          simp only [hP] at Pn
          have HR := Lib.hid hR
          clear hE hP hR hC
          go_wp2_with fail
          refine (Dn _).mono ?_
          rintro e w6 ⟨rfl, hb6⟩
          have ky6 := (hb6.block y (lt_of_block ky)).trans ky
          have d0 := kept hb6 e0
          have d1 := kept hb6 e1
          have d2 := kept hb6 e2
          have hst6 := (hst.below hb6).mono hb6.size
          have HA6 := Lib.hid (HA.out.below (hb6.mono HS.out))
          have HB6 := Lib.hid (HB.out.trans (hb6.mono (Nat.le_trans (Nat.le_of_lt hxl) HS.out)))
          have HS6 := Lib.hid (Nat.le_trans HS.out hb6.size)
          clear hb6 ky e0 e1 e2 hst HA HB HS
          go_upto_region 9 with (go_at_call 23; refine (Pn _).mono ?_; rintro e w' ⟨rfl, rfl⟩)
          have hba : Below w6.heap.size w6 (w6.alloc (.cells #[.bool false, .bool false, .int .i64 0, .slice none 0 0, .slice none 0 0] 28)) := (Below.refl _ _).alloc (Nat.le_refl _) _
          have kz : (w6.alloc (.cells #[.bool false, .bool false, .int .i64 0, .slice none 0 0, .slice none 0 0] 28)).heap[w6.heap.size]? = some (.cells #[.bool false, .bool false, .int .i64 0, .slice none 0 0, .slice none 0 0] 28 (0, 0)) := by rw [heapq_alloc, if_pos rfl]
          have hyz := lt_of_block ky6
          have ky7 := (hba.block y hyz).trans ky6
          have f0 := kept hba d0
          have f1 := kept hba d1
          have f2 := kept hba d2
          have hst7 := hst6.below hba
          have HA7 := Lib.hid (HA6.out.below (hba.mono HS6.out))
          have HB7 := Lib.hid (HB6.out.trans (hba.mono (Nat.le_trans (Nat.le_of_lt hxl) HS6.out)))
          have HS7 := Lib.hid (Nat.le_trans HS6.out hba.size)
          have HZ := Lib.hid HS6.out
          clear hba ky6 d0 d1 d2 hst6 HA6 HB6 HS6
          go_upto_region 12 with (fail)
          generalize w6.alloc (.cells #[.bool false, .bool false, .int .i64 0, .slice none 0 0, .slice none 0 0] 28) = w7 at *
          generalize w6.heap.size = z at *
          go_wp2_with fail
          refine (HR.out w7 A c ((HA7.out).mono HS7.out)).mono ?_
          rintro e w8 ⟨Ag', Ad', ng', nd', cg', cd', rfl, hst8, g1, g2, hb8⟩
          simp only [stV]
          have ky8 := (hb8.block y (lt_of_block ky7)).trans ky7
          have kz8 := (hb8.block z (lt_of_block kz)).trans kz
          have hzl := lt_of_block kz
          have hst78 := hst7.below (hb8.mono (Nat.le_of_lt hzl))
          have hzw := hb8.size
          have HB8 := Lib.hid (HB7.out.trans (hb8.mono (Nat.le_trans (Nat.le_of_lt hxl) HS7.out)))
          clear hb8 ky7 kz f0 f1 f2 hst7 HA7 HB7
          obtain ⟨t0, t1, t2, t3, t4, q0, q1, q2, q3, q4⟩ := res5 kz8
          go_upto_region 13 with (fail)
          have kyF := (put5_other (W := w8) (.bool s.mv) (.bool s.al) (.int .i64 s.place) (.slice Ag' ng' cg') (.slice Ad' nd' cd') (Nat.ne_of_lt hyz)).trans ky8
          have kzF := put5_self (.bool s.mv) (.bool s.al) (.int .i64 s.place) (.slice Ag' ng' cg') (.slice Ad' nd' cd') kz8
          have hsF := put5_size (W := w8) (y := z) (.bool s.mv) (.bool s.al) (.int .i64 s.place) (.slice Ag' ng' cg') (.slice Ad' nd' cd')
          have hA := (put5_st (.bool s.mv) (.bool s.al) (.int .i64 s.place) (.slice Ag' ng' cg') (.slice Ad' nd' cd') hst78 (.inl (Nat.le_refl _))).mono (show z ≤ (((((w8.setCell ⟨z, 0, none⟩ (.bool s.mv)).setCell ⟨z, 1, none⟩ (.bool s.al)).setCell ⟨z, 2, none⟩ (.int .i64 s.place)).setCell ⟨z, 3, none⟩ (.slice Ag' ng' cg')).setCell ⟨z, 4, none⟩ (.slice Ad' nd' cd')).heap.size by rw [hsF]; omega)
          have hC := (put5_st (.bool s.mv) (.bool s.al) (.int .i64 s.place) (.slice Ag' ng' cg') (.slice Ad' nd' cd') hst8 (.inr ⟨fun a ha => Nat.lt_of_lt_of_le hzl (g1 a ha), fun a ha => Nat.lt_of_lt_of_le hzl (g2 a ha)⟩)).mono (show w8.heap.size ≤ (((((w8.setCell ⟨z, 0, none⟩ (.bool s.mv)).setCell ⟨z, 1, none⟩ (.bool s.al)).setCell ⟨z, 2, none⟩ (.int .i64 s.place)).setCell ⟨z, 3, none⟩ (.slice Ag' ng' cg')).setCell ⟨z, 4, none⟩ (.slice Ad' nd' cd')).heap.size by rw [hsF]; exact Nat.le_refl _)
          have HF := Lib.hid (HB8.out.trans (put5_below (W := w8) (B := w.heap.size) (y := z) (.bool s.mv) (.bool s.al) (.int .i64 s.place) (.slice Ag' ng' cg') (.slice Ad' nd' cd') (Nat.le_trans (Nat.le_of_lt hxl) HZ.out)))
          have HSF : w.heap.size ≤ (((((w8.setCell ⟨z, 0, none⟩ (.bool s.mv)).setCell ⟨z, 1, none⟩ (.bool s.al)).setCell ⟨z, 2, none⟩ (.int .i64 s.place)).setCell ⟨z, 3, none⟩ (.slice Ag' ng' cg')).setCell ⟨z, 4, none⟩ (.slice Ad' nd' cd')).heap.size := by rw [hsF]; exact HB8.out.size
          clear hsF t0 t1 t2 t3 t4 q0 q1 q2 q3 q4 ky8 kz8 hst8 hst78 HB8 g1 g2
          generalize (((((w8.setCell ⟨z, 0, none⟩ (.bool s.mv)).setCell ⟨z, 1, none⟩ (.bool s.al)).setCell ⟨z, 2, none⟩ (.int .i64 s.place)).setCell ⟨z, 3, none⟩ (.slice Ag' ng' cg')).setCell ⟨z, 4, none⟩ (.slice Ad' nd' cd')) = w9 at *
          obtain ⟨m0, m1, m2, m3, m4⟩ := cells5 kyF
          obtain ⟨l0, l1, l2, l3, l4⟩ := cells5 kzF
          have Sm := Same_any w9 w9.heap.size Ag Ad Ag' Ad' ng nd cg cd ng' nd' cg' cd' s s hA hC (Nat.le_refl _)
          rw [sameB_self] at Sm
          simp only [stV] at Sm
          clear kyF kzF hA hC
          go_wp2_with (go_at_call 25; refine Sm.mono ?_; rintro e w10 ⟨rfl, hb10⟩)
          go_ret
          exact ⟨rfl, HF.out.trans (hb10.mono HSF)⟩
        · have Dn := fun W => DoorsErr_any D T S W
          have hE1 : (doorsE D T S == 0) = false := beq_eq_false_iff_ne.2 hE
          generalize doorsE D T S = E at *
          clear hE hC
          go_wp2_with fail
          refine (Dn _).mono ?_
          rintro e w6 ⟨rfl, hb6⟩
          have ky6 := (hb6.block y (lt_of_block ky)).trans ky
          have hst6 := (hst.below hb6).mono hb6.size
          have HB6 := Lib.hid (HB.out.trans (hb6.mono (Nat.le_trans (Nat.le_of_lt hxl) HS.out)))
          have HS6 := Lib.hid (Nat.le_trans HS.out hb6.size)
          clear hb6 ky e0 e1 e2 hst HA HB HS
          go_upto_region 13 with (fail)
          have hba : Below w6.heap.size w6 (w6.alloc (.cells #[.bool false, .bool false, .int .i64 0, .slice none 0 0, .slice none 0 0] 28)) := (Below.refl _ _).alloc (Nat.le_refl _) _
          have kz : (w6.alloc (.cells #[.bool false, .bool false, .int .i64 0, .slice none 0 0, .slice none 0 0] 28)).heap[w6.heap.size]? = some (.cells #[.bool false, .bool false, .int .i64 0, .slice none 0 0, .slice none 0 0] 28 (0, 0)) := by rw [heapq_alloc, if_pos rfl]
          have ky7 := (hba.block y (lt_of_block ky6)).trans ky6
          have hst7 := (hst6.below hba).mono hba.size
          have HB7 := Lib.hid (HB6.out.trans (hba.mono (Nat.le_trans (Nat.le_of_lt hxl) HS6.out)))
          have HS7 := Lib.hid (Nat.le_trans (Nat.le_trans (Nat.le_of_lt hxl) HS6.out) hba.size)
          clear hba ky6 hst6 HB6 HS6
          generalize w6.alloc (.cells #[.bool false, .bool false, .int .i64 0, .slice none 0 0, .slice none 0 0] 28) = w9 at *
          generalize w6.heap.size = z at *
          obtain ⟨m0, m1, m2, m3, m4⟩ := cells5 ky7
          obtain ⟨l0, l1, l2, l3, l4⟩ := cells5 kz
          have Sm := Same_any w9 w9.heap.size Ag Ad none none ng nd cg cd 0 0 0 0 zeroTr zeroTr hst7 (zeroAt _ _) (Nat.le_refl _)
          rw [sameB_self] at Sm
          simp only [stV] at Sm
          clear ky7 kz hst7
          go_wp2_with (go_at_call 25; refine Sm.mono ?_; rintro e w10 ⟨rfl, hb10⟩)
          go_ret
          exact ⟨rfl, HB7.out.trans (hb10.mono HS7.out)⟩
        · have Dn := fun W => DoorsErr_any D T S W
          have Pn := fun W => PlaceErr_any place W
          simp only [hE] at Dn
          have hP1 : (placeE place == 0) = false := beq_eq_false_iff_ne.2 hP
          generalize placeE place = E at *
          clear hE hP hC
          go_wp2_with fail
          refine (Dn _).mono ?_
          rintro e w6 ⟨rfl, hb6⟩
          have ky6 := (hb6.block y (lt_of_block ky)).trans ky
          have hst6 := (hst.below hb6).mono hb6.size
          have HB6 := Lib.hid (HB.out.trans (hb6.mono (Nat.le_trans (Nat.le_of_lt hxl) HS.out)))
          have HS6 := Lib.hid (Nat.le_trans HS.out hb6.size)
          clear hb6 ky e0 e1 e2 hst HA HB HS
          go_upto_region 13 with (go_at_call 23; refine (Pn _).mono ?_; rintro e w' ⟨rfl, rfl⟩)
          have hba : Below w6.heap.size w6 (w6.alloc (.cells #[.bool false, .bool false, .int .i64 0, .slice none 0 0, .slice none 0 0] 28)) := (Below.refl _ _).alloc (Nat.le_refl _) _
          have kz : (w6.alloc (.cells #[.bool false, .bool false, .int .i64 0, .slice none 0 0, .slice none 0 0] 28)).heap[w6.heap.size]? = some (.cells #[.bool false, .bool false, .int .i64 0, .slice none 0 0, .slice none 0 0] 28 (0, 0)) := by rw [heapq_alloc, if_pos rfl]
          have ky7 := (hba.block y (lt_of_block ky6)).trans ky6
          have hst7 := (hst6.below hba).mono hba.size
          have HB7 := Lib.hid (HB6.out.trans (hba.mono (Nat.le_trans (Nat.le_of_lt hxl) HS6.out)))
          have HS7 := Lib.hid (Nat.le_trans (Nat.le_trans (Nat.le_of_lt hxl) HS6.out) hba.size)
          clear hba ky6 hst6 HB6 HS6
          generalize w6.alloc (.cells #[.bool false, .bool false, .int .i64 0, .slice none 0 0, .slice none 0 0] 28) = w9 at *
          generalize w6.heap.size = z at *
          obtain ⟨m0, m1, m2, m3, m4⟩ := cells5 ky7
          obtain ⟨l0, l1, l2, l3, l4⟩ := cells5 kz
          have Sm := Same_any w9 w9.heap.size Ag Ad none none ng nd cg cd 0 0 0 0 zeroTr zeroTr hst7 (zeroAt _ _) (Nat.le_refl _)
          rw [sameB_self] at Sm
          simp only [stV] at Sm
          clear ky7 kz hst7
          go_wp2_with (go_at_call 25; refine Sm.mono ?_; rintro e w10 ⟨rfl, hb10⟩)
          go_ret
          exact ⟨rfl, HB7.out.trans (hb10.mono HS7.out)⟩
end Go.Proofs.YtmcjnfghlpnghaaDoor

namespace Go.Proofs.YtmcjnfghlpnghaaDoor
open Go.RowKit

theorem CareReplays_big (w : World) (D T S place : Int) (A : Option Addr) (n c : Nat) (hk : KindsAt w) (hn : 102 < n) (hm : n ≤ maxLen) :
    Calls Tryd.prog 3 #[.agg #[.int .i64 D, .int .i64 T, .int .i64 S], .int .i64 place, .slice A n c] w (AwakePost w) := by
  unfold maxLen at hm
  have hb0 : Below w.heap.size w (w.alloc (.cells #[.int .i64 D, .int .i64 T, .int .i64 S] 23)) := (Below.refl _ _).alloc (Nat.le_refl _) _
  have A0 := awake_any _ (hk.below hb0)
  have g1 : ¬ (n : Int) ≤ 100 := by omega
  have g2 : (20 : Int) < (n : Int) := by omega
  have g3 : (102 : Int) < (n : Int) := by omega
  clear hk
  go_enter Tryd.func3, Tryd.ntmps3
  go_wp2_with fail
  generalize w.alloc (.cells #[.int .i64 D, .int .i64 T, .int .i64 S] 23) = w0 at *
  refine A0.mono ?_
  rintro e w1 ⟨rfl, hb1⟩
  go_wp2
  go_ret
  exact ⟨rfl, hb0.trans (hb1.mono hb0.size)⟩

theorem CareReplays_all (w : World) (D T S place : Int) (A : Option Addr) (n c : Nat) (l : List Ev) (hk : KindsAt w) (hl : l.length = n) (hn : n ≤ maxLen) (h : Rd w w.heap.size A (evCells l)) :
    Calls Tryd.prog 3 #[.agg #[.int .i64 D, .int .i64 T, .int .i64 S], .int .i64 place, .slice A n c] w (AwakePost w) := by
  by_cases hs : n ≤ 1000000
  · exact CareReplays_any w D T S place A n c l hk hl hs h
  · exact CareReplays_big w D T S place A n c hk (by omega) hn
end Go.Proofs.YtmcjnfghlpnghaaDoor
