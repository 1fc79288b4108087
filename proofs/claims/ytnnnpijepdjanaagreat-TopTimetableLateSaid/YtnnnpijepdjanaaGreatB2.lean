/- The code: a right net opened; errors of events and of times. -/
import Derived.Test.YtnnnpijepdjanaaGreatB1
namespace Go.Proofs.YtnnnpijepdjanaaGreat
open Go.RowKit

/-- the net handed on, beside no error -/
def OpenPost (w : World) (Ae : Option Addr) (ne ce : Nat) (Aa : Option Addr) (na ca : Nat) (e : Ending) (w' : World) : Prop :=
  e = .returned (.tuple #[.agg #[.slice Ae ne ce, .slice Aa na ca], .int .i64 0]) ∧ Below w.heap.size w w'
set_option maxRecDepth 100000 in
theorem open_right (w : World) (B : Nat) (Ae Aa : Option Addr) (ne ce na ca : Nat) (evs : List ByteArray) (acts : List Act) (h : NetAt w B Ae Aa ne ce na evs acts) (hB : B ≤ w.heap.size) (hR : NetR evs acts) :
    Calls Tryz.prog 27 #[netV Ae ne ce Aa na ca] w (OpenPost w Ae ne ce Aa na ca) := by
  have CN := fun (W : World) (hW : NetAt W B Ae Aa ne ce na evs acts) (hB : B ≤ W.heap.size) => CheckNet_right W B Ae Aa ne ce na ca evs acts hW hB hR
  have k0 : ((w.alloc (.cells #[.slice Ae ne ce, .slice Aa na ca] 25)).alloc (.cells #[.slice none 0 0, .slice none 0 0] 66)).heap[w.heap.size]? = some (.cells #[.slice Ae ne ce, .slice Aa na ca] 25 (0, 0)) := by
    rw [heapq_alloc, if_neg (by simp), heapq_alloc, if_pos rfl]
  have k1 : ((w.alloc (.cells #[.slice Ae ne ce, .slice Aa na ca] 25)).alloc (.cells #[.slice none 0 0, .slice none 0 0] 66)).heap[w.heap.size + 1]? = some (.cells #[.slice none 0 0, .slice none 0 0] 66 (0, 0)) := by
    rw [heapq_alloc, if_pos (by simp)]
  have hb0 : Below w.heap.size w ((w.alloc (.cells #[.slice Ae ne ce, .slice Aa na ca] 25)).alloc (.cells #[.slice none 0 0, .slice none 0 0] 66)) := ((Below.refl _ _).alloc (Nat.le_refl _) _).alloc (by simp) _
  have hN := h.below (hb0.mono hB)
  have hB0 := Nat.le_trans hB hb0.size
  have hs := hb0.size
  have HB := Lib.hid hb0
  clear hb0 h
  unfold netV at CN ⊢
  unfold NoMark at CN
  go_enter Tryz.func27, Tryz.ntmps27
  go_upto_region 1 with (fail)
  generalize ((w.alloc (.cells #[.slice Ae ne ce, .slice Aa na ca] 25)).alloc (.cells #[.slice none 0 0, .slice none 0 0] 66)) = w0 at *
  obtain ⟨d0, d1⟩ := cells2 k0
  have hlt := (Array.getElem?_eq_some_iff.1 k1).1
  go_upto_region 2 with (go_at_call 50; refine (CN _ hN hB0).mono ?_; rintro e w1 ⟨rfl, hb1⟩; have hbA := hb1.trans ((Below.refl w1.heap.size w1).alloc (Nat.le_refl _) (.cells #[.int .i64 0, .int .i64 0] 58) |>.mono hb1.size); replace d0 := kept hbA d0; replace d1 := kept hbA d1; replace k1 := blk hbA k1; replace HB := Lib.hid (HB.out.trans (hbA.mono hs)); obtain ⟨r0, r1, q0, q1⟩ := res2 k1; clear hbA hb1)
  generalize w1.alloc (.cells #[.int .i64 0, .int .i64 0] 58) = w2 at *
  go_wp2
  refine bodyPost_ret (v := .tuple #[.agg #[.slice Ae ne ce, .slice Aa na ca], .int .i64 0]) (by simp [results, Tryz.results27, go_sem, r0, r1]) rfl ⟨rfl, ?_⟩
  exact HB.out.trans (put2_below _ _ (Nat.le_succ _))

theorem eventErr_any (w : World) (Ae : Option Addr) (ne ce : Nat) (Aa : Option Addr) (na ca : Nat) (i : Int) (hn : ne ≤ 1000000000) :
    Calls Tryz.prog 35 #[.agg #[.slice Ae ne ce, .slice Aa na ca], .int .i64 i] w fun e w' => e = .returned (.int .i64 (unlessE (withinB i 0 ((ne : Int) - 1)) 6)) ∧ Below w.heap.size w w' := by
  go_enter Tryz.func35, Tryz.ntmps35
  go_wp2_with (first | (go_at_call 53; refine (within_any _ _ _ _).mono ?_; rintro e w' ⟨rfl, rfl⟩) | (go_at_call 36; refine (unless_any _ _ _).mono ?_; rintro e w' ⟨rfl, rfl⟩))
  go_ret
  exact ⟨rfl, (Below.refl _ _).alloc (Nat.le_refl _) _⟩

/-- a time that is out of range -/
def offT (t : Int) : Bool := !withinB t 0 10000000
theorem offT_any (t : Int) (w : World) : Calls Tryz.prog 52 #[.int .i64 t] w fun e w' => e = .returned (.bool (offT t)) ∧ w = w' := by
  cases h : withinB t 0 10000000
  all_goals
    go_enter Tryz.func52, Tryz.ntmps52
    go_wp2_with (go_at_call 53; refine (within_val _ _ _ _ h _).mono ?_; rintro e w' ⟨rfl, rfl⟩)
    go_ret
    exact ⟨by rw [offT, h]; rfl, rfl⟩
theorem offT_val (t : Int) (b : Bool) (hb : offT t = b) (w : World) : Calls Tryz.prog 52 #[.int .i64 t] w fun e w' => e = .returned (.bool b) ∧ w = w' := by
  rw [← hb]
  exact offT_any t w
set_option maxRecDepth 100000 in
theorem IndexOff_any (A : Option Addr) (n c B : Nat) (l : List Int) (w : World) (hn : n ≤ 1000000000) (hl : l.length = n) (h : Rd w B A (intCells l)) :
    Calls Tryz.prog 75 #[.slice A n c, .func (.func 52) #[] #[]] w fun e w' => e = .returned (.int .i64 (idxGo offT l 0)) ∧ w = w' := by
  have HL := Lib.hid hl; clear hl
  go_enter Tryz.func75, Tryz.ntmps75
  go_wp2
  go_loop [5, 8] (fun _ i => ∃ k : Nat, k ≤ n ∧ i = .int .i64 k ∧ idxGo offT (l.drop k) k = idxGo offT l 0) (fun _ i => n - (intOf i).toNat)
  case atStart => exact ⟨0, Nat.zero_le _, rfl, rfl⟩
  case round =>
    obtain ⟨k, hk, rfl, he⟩ := hrel
    have HE := Lib.hid he; clear he
    by_cases hlt : k < n
    · have hkl : k < l.length := by rw [HL.out]; exact hlt
      obtain ⟨b, off, rfl, _, hc⟩ := h.at_ (k := k) (u := .int .i64 (l[k]?.getD 0)) (by simp [intCells, hkl])
      have HS := Lib.hid (drop_at l 0 k hkl)
      clear hkl
      generalize l[k]?.getD 0 = x at *
      obtain ⟨q, hq⟩ : ∃ q, offT x = q := ⟨_, rfl⟩
      have C := fun W => offT_val x q hq W
      have HX := Lib.hid hq
      clear hq
      cases q with
      | true =>
        go_wp2_with (go_at_call 52; refine (C _).mono ?_; rintro e w' ⟨rfl, rfl⟩)
        go_ret
        exact ⟨by rw [← HE.out, HS.out, idxGo, HX.out]; rfl, rfl⟩
      | false =>
        go_wp2_with (go_at_call 52; refine (C _).mono ?_; rintro e w' ⟨rfl, rfl⟩)
        go_round
        case rel => exact ⟨k + 1, by omega, by go_num, by rw [← HE.out, HS.out, idxGo, HX.out]; rfl⟩
        case measure => simp [intOf]; omega
    · go_wp2
      go_ret
      have : l.drop k = [] := by rw [List.drop_eq_nil_iff]; rw [HL.out]; omega
      exact ⟨by rw [← HE.out, this]; rfl, rfl⟩
theorem ContainsOff_any (A : Option Addr) (n c B : Nat) (l : List Int) (w : World) (hn : n ≤ 1000000000) (hl : l.length = n) (h : Rd w B A (intCells l)) :
    Calls Tryz.prog 51 #[.slice A n c, .func (.func 52) #[] #[]] w fun e w' => e = .returned (.bool (l.any offT)) ∧ w = w' := by
  have HV := Lib.hid (idxGo_nonneg offT l 0)
  go_enter Tryz.func51, Tryz.ntmps51
  go_wp2_with (go_at_call 75; refine (IndexOff_any A n c B l _ hn hl h).mono ?_; rintro e w' ⟨rfl, rfl⟩)
  go_ret
  exact ⟨by rw [← HV.out]; rfl, rfl⟩
/-- right times -/
theorem timesErr_right (w : World) (B : Nat) (Ae : Option Addr) (ne ce : Nat) (Aa : Option Addr) (na ca : Nat) (A : Option Addr) (c : Nat) (l : List Int) (hn : ne ≤ 1000000000) (hl : l.length = ne) (h : Rd w B A (intCells l)) (hB : B ≤ w.heap.size) (hR : ∀ t ∈ l, 0 ≤ t ∧ t ≤ 10000000) :
    Calls Tryz.prog 29 #[.agg #[.slice Ae ne ce, .slice Aa na ca], .slice A ne c] w fun e w' => e = .returned (.int .i64 0) ∧ Below w.heap.size w w' := by
  have hb0 : Below w.heap.size w (w.alloc (.cells #[.slice Ae ne ce, .slice Aa na ca] 66)) := (Below.refl _ _).alloc (Nat.le_refl _) _
  have h0 := h.below (hb0.mono hB)
  have ha : l.any offT = false := by
    rw [List.any_eq_false]
    intro t ht
    have := hR t ht
    simp [offT, withinB]
    omega
  have CO := fun (W : World) (hW : Rd W B A (intCells l)) => ContainsOff_any A ne c B l W hn hl hW
  rw [ha] at CO
  have hs := hb0.size
  have HB := Lib.hid hb0
  have k0 : (w.alloc (.cells #[.slice Ae ne ce, .slice Aa na ca] 66)).heap[w.heap.size]? = some (.cells #[.slice Ae ne ce, .slice Aa na ca] 66 (0, 0)) := by rw [heapq_alloc, if_pos rfl]
  obtain ⟨d0, d1⟩ := cells2 k0
  clear hb0 k0 ha hR hl h
  go_enter Tryz.func29, Tryz.ntmps29
  go_upto_region 1 with (fail)
  generalize (w.alloc (.cells #[.slice Ae ne ce, .slice Aa na ca] 66)) = w0 at *
  have F2 := fun a b => first2 w0 a b
  go_wp2_with (first | (go_at_call 51; refine (CO _ h0).mono ?_; rintro e w' ⟨rfl, rfl⟩) | (go_at_call 36; refine (unless_any _ _ _).mono ?_; rintro e w' ⟨rfl, rfl⟩) | (go_at_call 28; refine (F2 _ _).mono ?_; rintro e w' ⟨rfl, rfl⟩))
  go_ret
  exact ⟨by simp [firstE, unlessE], HB.out.trans ((Below.refl _ _).alloc hs _)⟩
end Go.Proofs.YtnnnpijepdjanaaGreat
