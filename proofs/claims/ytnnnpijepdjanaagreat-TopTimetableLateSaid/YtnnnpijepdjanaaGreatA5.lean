/- The reference of nets: the error of an activity. -/
import Derived.Test.YtnnnpijepdjanaaGreatA4
import Derived.Deep.Cut
namespace Go.Proofs.YtnnnpijepdjanaaGreat
open Go.RowKit

def durB (a : Act) : Bool := withinB a.least 1 100000 && (decide (a.most = -1) || withinB a.most 1 100000) && withinB a.wait 0 100000
def actE (m : Nat) (a : Act) : Int :=
  if withinB a.kind 0 4 = false then 15 else if evtE m a.src ≠ 0 ∨ evtE m a.dst ≠ 0 then 6 else if a.src = a.dst then 26 else
  if durB a = false then 2 else if a.most ≠ -1 ∧ a.most < a.least then 9 else if a.kind ≠ 2 ∧ a.wait ≠ 0 then 3 else 0
theorem evtE_zero {m : Nat} {i : Int} : evtE m i = 0 ↔ 0 ≤ i ∧ i < m := by
  unfold evtE
  by_cases h : withinB i 0 ((m : Int) - 1) = true
  · rw [if_pos h]
    simp [withinB] at h
    omega
  · rw [if_neg h]
    simp [withinB] at h
    omega
theorem actE_zero {m : Nat} {a : Act} : actE m a = 0 ↔ actR m a := by
  unfold actE actR
  by_cases h1 : withinB a.kind 0 4 = false
  · rw [if_pos h1]
    simp [withinB] at h1
    omega
  rw [if_neg h1]
  have h1' : 0 ≤ a.kind ∧ a.kind ≤ 4 := by simpa [withinB] using h1
  by_cases h2 : evtE m a.src ≠ 0 ∨ evtE m a.dst ≠ 0
  · rw [if_pos h2]
    have : ¬((0 ≤ a.src ∧ a.src < m) ∧ (0 ≤ a.dst ∧ a.dst < m)) := fun h => by
      rcases h2 with h2 | h2
      · exact h2 (evtE_zero.2 h.1)
      · exact h2 (evtE_zero.2 h.2)
    omega
  rw [if_neg h2]
  have h2a : evtE m a.src = 0 := Decidable.byContradiction fun h => h2 (.inl h)
  have h2b : evtE m a.dst = 0 := Decidable.byContradiction fun h => h2 (.inr h)
  rw [evtE_zero] at h2a h2b
  by_cases h3 : a.src = a.dst
  · rw [if_pos h3]
    omega
  rw [if_neg h3]
  have hd : durB a = true ↔ (1 ≤ a.least ∧ a.least ≤ 100000) ∧ (a.most = -1 ∨ (1 ≤ a.most ∧ a.most ≤ 100000)) ∧ 0 ≤ a.wait ∧ a.wait ≤ 100000 := by
    simp [durB, withinB, and_assoc]
  by_cases h4 : durB a = false
  · rw [if_pos h4]
    have : ¬(durB a = true) := by rw [h4]; decide
    rw [hd] at this
    omega
  rw [if_neg h4]
  have h4' : durB a = true := by simpa using h4
  rw [hd] at h4'
  by_cases h5 : a.most ≠ -1 ∧ a.most < a.least
  · rw [if_pos h5]
    omega
  rw [if_neg h5]
  by_cases h6 : a.kind ≠ 2 ∧ a.wait ≠ 0
  · rw [if_pos h6]
    omega
  rw [if_neg h6]
  omega
theorem box6 (w : World) (t : TypeId) (a0 a1 a2 a3 a4 a5 : Value) :
    (w.alloc (.cells #[a0, a1, a2, a3, a4, a5] t)).cell? ⟨w.heap.size, 0, none⟩ = some a0 ∧ (w.alloc (.cells #[a0, a1, a2, a3, a4, a5] t)).cell? ⟨w.heap.size, 1, none⟩ = some a1 ∧
    (w.alloc (.cells #[a0, a1, a2, a3, a4, a5] t)).cell? ⟨w.heap.size, 2, none⟩ = some a2 ∧ (w.alloc (.cells #[a0, a1, a2, a3, a4, a5] t)).cell? ⟨w.heap.size, 3, none⟩ = some a3 ∧
    (w.alloc (.cells #[a0, a1, a2, a3, a4, a5] t)).cell? ⟨w.heap.size, 4, none⟩ = some a4 ∧ (w.alloc (.cells #[a0, a1, a2, a3, a4, a5] t)).cell? ⟨w.heap.size, 5, none⟩ = some a5 := by
  have h : (w.alloc (.cells #[a0, a1, a2, a3, a4, a5] t)).heap[w.heap.size]? = some (.cells #[a0, a1, a2, a3, a4, a5] t (0, 0)) := by rw [heapq_alloc, if_pos rfl]
  refine ⟨?_, ?_, ?_, ?_, ?_, ?_⟩ <;> rw [cell_of_row _ _ _ _ _ _ h] <;> rfl
theorem boxv2 (w : World) (t : TypeId) (a0 a1 : Value) :
    (w.alloc (.cells #[a0, a1] t)).cell? ⟨w.heap.size, 0, none⟩ = some a0 ∧ (w.alloc (.cells #[a0, a1] t)).cell? ⟨w.heap.size, 1, none⟩ = some a1 := by
  have h : (w.alloc (.cells #[a0, a1] t)).heap[w.heap.size]? = some (.cells #[a0, a1] t (0, 0)) := by rw [heapq_alloc, if_pos rfl]
  refine ⟨?_, ?_⟩ <;> rw [cell_of_row _ _ _ _ _ _ h] <;> rfl

def actV (a : Act) : Value := .agg #[.int .i64 a.kind, .int .i64 a.src, .int .i64 a.dst, .int .i64 a.least, .int .i64 a.most, .int .i64 a.wait]
set_option maxRecDepth 100000 in
set_option maxHeartbeats 4000000 in
theorem refActivityErr_any (w : World) (Ae : Option Addr) (ne ce : Nat) (Aa : Option Addr) (na ca : Nat) (a : Act) (hn : ne ≤ 1000000000) :
    Calls Tryz.prog 41 #[netV Ae ne ce Aa na ca, actV a] w fun e w' => e = .returned (.int .i64 (actE ne a)) ∧ Below w.heap.size w w' := by
  obtain ⟨k, s, d, l, m, x⟩ := a
  have HV : Hid (actE ne ⟨k, s, d, l, m, x⟩ = if withinB k 0 4 = false then 15 else if evtE ne s ≠ 0 ∨ evtE ne d ≠ 0 then 6 else if s = d then 26 else
    if durB ⟨k, s, d, l, m, x⟩ = false then 2 else if m ≠ -1 ∧ m < l then 9 else if k ≠ 2 ∧ x ≠ 0 then 3 else 0) := rfl
  have HD : Hid (durB ⟨k, s, d, l, m, x⟩ = (withinB l 1 100000 && (decide (m = -1) || withinB m 1 100000) && withinB x 0 100000)) := rfl
  obtain ⟨E, hE⟩ : ∃ E, actE ne ⟨k, s, d, l, m, x⟩ = E := ⟨_, rfl⟩
  rw [hE] at HV
  rw [hE]
  clear hE
  obtain ⟨d0, d1⟩ := boxv2 w 25 (.slice Ae ne ce) (.slice Aa na ca)
  obtain ⟨c0, c1, c2, c3, c4, c5⟩ := box6 (w.alloc (.cells #[.slice Ae ne ce, .slice Aa na ca] 25)) 43 (.int .i64 k) (.int .i64 s) (.int .i64 d) (.int .i64 l) (.int .i64 m) (.int .i64 x)
  have hz : (w.alloc (.cells #[.slice Ae ne ce, .slice Aa na ca] 25)).heap.size = w.heap.size + 1 := by simp
  rw [hz] at c0 c1 c2 c3 c4 c5
  clear hz
  have hb1 : Below (w.alloc (.cells #[.slice Ae ne ce, .slice Aa na ca] 25)).heap.size (w.alloc (.cells #[.slice Ae ne ce, .slice Aa na ca] 25)) ((w.alloc (.cells #[.slice Ae ne ce, .slice Aa na ca] 25)).alloc (.cells #[.int .i64 k, .int .i64 s, .int .i64 d, .int .i64 l, .int .i64 m, .int .i64 x] 43)) := (Below.refl _ _).alloc (Nat.le_refl _) _
  replace d0 := kept hb1 d0
  replace d1 := kept hb1 d1
  have hb0 : Below w.heap.size w ((w.alloc (.cells #[.slice Ae ne ce, .slice Aa na ca] 25)).alloc (.cells #[.int .i64 k, .int .i64 s, .int .i64 d, .int .i64 l, .int .i64 m, .int .i64 x] 43)) := ((Below.refl _ _).alloc (Nat.le_refl _) _).alloc (by simp) _
  have hs := hb0.size
  have HB := Lib.hid hb0
  clear hb0 hb1
  obtain ⟨bk, hbk⟩ : ∃ b, withinB k 0 4 = b := ⟨_, rfl⟩
  obtain ⟨E1, hE1⟩ : ∃ b, evtE ne s = b := ⟨_, rfl⟩
  obtain ⟨E2, hE2⟩ : ∃ b, evtE ne d = b := ⟨_, rfl⟩
  obtain ⟨b1, hb1⟩ : ∃ b, withinB l 1 100000 = b := ⟨_, rfl⟩
  obtain ⟨b2, hb2⟩ : ∃ b, withinB m 1 100000 = b := ⟨_, rfl⟩
  obtain ⟨b3, hb3⟩ : ∃ b, withinB x 0 100000 = b := ⟨_, rfl⟩
  have KW := fun W => Within_val k 0 4 bk hbk W
  have WW := fun W => Within_val x 0 100000 b3 hb3 W
  have LE1 := fun W => isLeast_val l b1 hb1 W
  have LE2 := fun W => isLeast_val m b2 hb2 W
  have EV1 := fun W => EventErr_val W Ae ne ce Aa na ca s E1 hE1 hn
  have EV2 := fun W => EventErr_val W Ae ne ce Aa na ca d E2 hE2 hn
  rw [hb1, hb2, hb3] at HD
  rw [hbk, hE1, hE2, HD.out] at HV
  clear HD hbk hE1 hE2 hb1 hb2 hb3
  simp only [netV] at EV1 EV2
  unfold netV actV
  go_enter Tryz.func41, Tryz.ntmps41
  go_upto_region 1 with (fail)
  generalize ((w.alloc (.cells #[.slice Ae ne ce, .slice Aa na ca] 25)).alloc (.cells #[.int .i64 k, .int .i64 s, .int .i64 d, .int .i64 l, .int .i64 m, .int .i64 x] 43)) = w0 at *
  cases bk with
  | false =>
    rw [if_pos rfl] at HV
    go_wp2_with (first | (go_at_call 24; refine (KW _).mono ?_; rintro e w' ⟨rfl, rfl⟩; clear KW))
    go_ret
    exact ⟨by rw [HV.out]; rfl, HB.out⟩
  | true =>
    rw [if_neg (by decide)] at HV
    go_upto_region 3 with (first | (go_at_call 24; refine (KW _).mono ?_; rintro e w' ⟨rfl, rfl⟩; clear KW))
    by_cases e1 : E1 = 0
    · subst e1
      by_cases e2 : E2 = 0
      · subst e2
        rw [if_neg (by decide)] at HV
        go_upto_region 5 with (first | (go_at_call 23; refine (EV1 _).mono ?_; rintro e w' ⟨rfl, hb⟩; replace c0 := kept hb c0; replace c1 := kept hb c1; replace c2 := kept hb c2; replace c3 := kept hb c3; replace c4 := kept hb c4; replace c5 := kept hb c5; replace d0 := kept hb d0; replace d1 := kept hb d1; replace HB := Lib.hid (HB.out.trans (hb.mono hs)); replace hs := Nat.le_trans hs hb.size; clear hb; clear EV1) | (go_at_call 23; refine (EV2 _).mono ?_; rintro e w' ⟨rfl, hb⟩; replace c0 := kept hb c0; replace c1 := kept hb c1; replace c2 := kept hb c2; replace c3 := kept hb c3; replace c4 := kept hb c4; replace c5 := kept hb c5; replace d0 := kept hb d0; replace d1 := kept hb d1; replace HB := Lib.hid (HB.out.trans (hb.mono hs)); replace hs := Nat.le_trans hs hb.size; clear hb; clear EV2))
        by_cases e3 : s = d
        · subst e3
          rw [if_pos rfl] at HV
          go_wp2
          go_ret
          exact ⟨by rw [HV.out]; rfl, HB.out⟩
        · rw [if_neg e3] at HV
          go_upto_region 7 with (fail)
          clear e3
          cases b1 with
          | false =>
            rw [if_pos (by rfl)] at HV
            go_wp2_with (first | (go_at_call 65; refine (LE1 _).mono ?_; rintro e w' ⟨rfl, rfl⟩; clear LE1))
            go_ret
            exact ⟨by rw [HV.out]; rfl, HB.out⟩
          | true =>
            by_cases e4 : m = -1
            · subst e4
              cases b3 with
              | false =>
                rw [if_pos (by cases b2 <;> rfl)] at HV
                go_wp2_with (first | (go_at_call 65; refine (LE1 _).mono ?_; rintro e w' ⟨rfl, rfl⟩; clear LE1) | (go_at_call 24; refine (WW _).mono ?_; rintro e w' ⟨rfl, rfl⟩; clear WW))
                go_ret
                exact ⟨by rw [HV.out]; rfl, HB.out⟩
              | true =>
                rw [if_neg (by cases b2 <;> decide), if_neg (fun h => h.1 rfl)] at HV
                go_upto_region 11 with (first | (go_at_call 65; refine (LE1 _).mono ?_; rintro e w' ⟨rfl, rfl⟩; clear LE1) | (go_at_call 24; refine (WW _).mono ?_; rintro e w' ⟨rfl, rfl⟩; clear WW))
                by_cases e6 : k = 2
                · subst e6
                  rw [if_neg (fun h => h.1 rfl)] at HV
                  go_wp2
                  go_ret
                  exact ⟨by rw [HV.out]; rfl, HB.out⟩
                · by_cases e7 : x = 0
                  · subst e7
                    rw [if_neg (by omega)] at HV
                    go_wp2
                    go_ret
                    exact ⟨by rw [HV.out]; rfl, HB.out⟩
                  · rw [if_pos ⟨e6, e7⟩] at HV
                    have f6 : (k != 2) = true := bne_iff_ne.2 e6
                    have f7 : (x != 0) = true := bne_iff_ne.2 e7
                    go_wp2
                    go_ret
                    exact ⟨by rw [HV.out]; rfl, HB.out⟩
            · have f4 : (m != -1) = true := bne_iff_ne.2 e4
              cases b2 with
              | false =>
                rw [if_pos (by rw [decide_eq_false e4]; rfl)] at HV
                go_wp2_with (first | (go_at_call 65; refine (LE1 _).mono ?_; rintro e w' ⟨rfl, rfl⟩; clear LE1) | (go_at_call 65; refine (LE2 _).mono ?_; rintro e w' ⟨rfl, rfl⟩; clear LE2))
                go_ret
                exact ⟨by rw [HV.out]; rfl, HB.out⟩
              | true =>
                cases b3 with
                | false =>
                  rw [if_pos (by cases decide (m = -1) <;> rfl)] at HV
                  go_wp2_with (first | (go_at_call 65; refine (LE1 _).mono ?_; rintro e w' ⟨rfl, rfl⟩; clear LE1) | (go_at_call 65; refine (LE2 _).mono ?_; rintro e w' ⟨rfl, rfl⟩; clear LE2) | (go_at_call 24; refine (WW _).mono ?_; rintro e w' ⟨rfl, rfl⟩; clear WW))
                  go_ret
                  exact ⟨by rw [HV.out]; rfl, HB.out⟩
                | true =>
                  rw [if_neg (by cases decide (m = -1) <;> decide)] at HV
                  go_upto_region 9 with (first | (go_at_call 65; refine (LE1 _).mono ?_; rintro e w' ⟨rfl, rfl⟩; clear LE1) | (go_at_call 65; refine (LE2 _).mono ?_; rintro e w' ⟨rfl, rfl⟩; clear LE2) | (go_at_call 24; refine (WW _).mono ?_; rintro e w' ⟨rfl, rfl⟩; clear WW))
                  by_cases e5 : m < l
                  · rw [if_pos ⟨e4, e5⟩] at HV
                    go_wp2
                    go_ret
                    exact ⟨by rw [HV.out]; rfl, HB.out⟩
                  · rw [if_neg (fun h => e5 h.2)] at HV
                    go_upto_region 11 with (fail)
                    clear e4 e5
                    by_cases e6 : k = 2
                    · subst e6
                      rw [if_neg (fun h => h.1 rfl)] at HV
                      go_wp2
                      go_ret
                      exact ⟨by rw [HV.out]; rfl, HB.out⟩
                    · by_cases e7 : x = 0
                      · subst e7
                        rw [if_neg (by omega)] at HV
                        go_wp2
                        go_ret
                        exact ⟨by rw [HV.out]; rfl, HB.out⟩
                      · rw [if_pos ⟨e6, e7⟩] at HV
                        have f6 : (k != 2) = true := bne_iff_ne.2 e6
                        have f7 : (x != 0) = true := bne_iff_ne.2 e7
                        go_wp2
                        go_ret
                        exact ⟨by rw [HV.out]; rfl, HB.out⟩
      · rw [if_pos (.inr e2)] at HV
        have e9 : (E2 != 0) = true := bne_iff_ne.2 e2
        go_wp2_with (first | (go_at_call 23; refine (EV1 _).mono ?_; rintro e w' ⟨rfl, hb⟩; replace c0 := kept hb c0; replace c1 := kept hb c1; replace c2 := kept hb c2; replace c3 := kept hb c3; replace c4 := kept hb c4; replace c5 := kept hb c5; replace d0 := kept hb d0; replace d1 := kept hb d1; replace HB := Lib.hid (HB.out.trans (hb.mono hs)); replace hs := Nat.le_trans hs hb.size; clear hb; clear EV1) | (go_at_call 23; refine (EV2 _).mono ?_; rintro e w' ⟨rfl, hb⟩; replace c0 := kept hb c0; replace c1 := kept hb c1; replace c2 := kept hb c2; replace c3 := kept hb c3; replace c4 := kept hb c4; replace c5 := kept hb c5; replace d0 := kept hb d0; replace d1 := kept hb d1; replace HB := Lib.hid (HB.out.trans (hb.mono hs)); replace hs := Nat.le_trans hs hb.size; clear hb; clear EV2))
        go_ret
        exact ⟨by rw [HV.out]; rfl, HB.out⟩
    · rw [if_pos (.inl e1)] at HV
      have e9 : (E1 != 0) = true := bne_iff_ne.2 e1
      go_wp2_with (first | (go_at_call 23; refine (EV1 _).mono ?_; rintro e w' ⟨rfl, hb⟩; replace c0 := kept hb c0; replace c1 := kept hb c1; replace c2 := kept hb c2; replace c3 := kept hb c3; replace c4 := kept hb c4; replace c5 := kept hb c5; replace d0 := kept hb d0; replace d1 := kept hb d1; replace HB := Lib.hid (HB.out.trans (hb.mono hs)); replace hs := Nat.le_trans hs hb.size; clear hb; clear EV1))
      go_ret
      exact ⟨by rw [HV.out]; rfl, HB.out⟩
end Go.Proofs.YtnnnpijepdjanaaGreat
