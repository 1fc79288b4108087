/- The reference's numbers, forms of lines, words of kinds. -/
import Derived.Test.YtnnnpijepdjanaaGreatC2
namespace Go.Proofs.YtnnnpijepdjanaaGreat
open Go.RowKit

theorem dig_first (s : ByteArray) (h : digB s = true) : 0 < s.size ∧ ∃ c : Nat, 48 ≤ c ∧ ∀ W : World, Sem.run Tryz.prog (Instr.index 9 (.string s) (.int .i64 0)) W = .ok (.int .u8 (c : Int)) W := by
  simp only [digB, Bool.and_eq_true, Bool.or_eq_true, decide_eq_true_eq, List.all_eq_true] at h
  obtain ⟨⟨⟨h1, h6⟩, hd⟩, hz⟩ := h
  have hl : 0 < s.data.toList.length := Nat.lt_of_lt_of_eq h1 (by simp)
  refine ⟨h1, _, ?_, run_index90 s h1⟩
  rw [List.getD_eq_getElem?_getD, List.getElem?_eq_getElem hl]
  exact (hd _ (List.getElem_mem hl)).1
set_option maxRecDepth 100000 in
theorem number_any (s : ByteArray) (h : digB s = true) (w : World) : Calls Tryz.prog 78 #[.string s] w fun e w' => e = .returned (.tuple #[.int .i64 (digV s), .bool true]) ∧ Below w.heap.size w w' := by
  have hN := fun W => Number_any s h W
  obtain ⟨h0, c, hc, d0⟩ := dig_first s h
  have e1 : ((c : Int) != 45) = true := bne_iff_ne.2 (by omega)
  have g0 : (0 : Int) < (s.size : Int) := by omega
  clear h
  generalize digV s = dv at *
  go_enter Tryz.func78, Tryz.ntmps78
  go_upto_region 2 with (go_at_call 103; refine (hN _).mono ?_; rintro e w' ⟨rfl, rfl⟩)
  clear hN
  refine wp_region_xt (by kernel_rfl) (by kernel_rfl) ?_
  repeat (go_big_quiet_step (fail))
  refine wpQuiet_nil ?_
  intro w1 hx
  have hb1 := Xt.below hx
  clear hx d0
  go_wp2
  go_ret2
  exact ⟨rfl, hb1⟩
/-- the word event -/
def wEvent : ByteArray := ⟨#[101, 118, 101, 110, 116]⟩
def wConnect : ByteArray := ⟨#[99, 111, 110, 110, 101, 99, 116]⟩
def formE : ByteArray := ⟨#[110]⟩
def formC : ByteArray := ⟨#[101, 101, 100, 109, 100]⟩
def formO : ByteArray := ⟨#[101, 101, 100, 109]⟩
theorem formOf_any (s : ByteArray) (b1 b2 : Bool) (h1 : (s.toList == [101, 118, 101, 110, 116]) = b1) (h2 : (s.toList == [99, 111, 110, 110, 101, 99, 116]) = b2) (w : World) :
    Calls Tryz.prog 61 #[.string s] w fun e w' => e = .returned (.string (if b1 then formE else if b2 then formC else formO)) ∧ w = w' := by
  go_enter Tryz.func61, Tryz.ntmps61
  cases b1 with
  | true =>
    go_wp2
    go_ret
    exact ⟨rfl, rfl⟩
  | false =>
    cases b2 with
    | true =>
      go_wp2
      go_ret
      exact ⟨rfl, rfl⟩
    | false =>
      go_wp2
      go_ret
      exact ⟨rfl, rfl⟩
/-- the words of the kinds -/
def kindW : List ByteArray := [⟨#[114, 117, 110]⟩, ⟨#[115, 116, 111, 112]⟩, ⟨#[99, 111, 110, 110, 101, 99, 116]⟩, ⟨#[104, 101, 97, 100, 119, 97, 121]⟩, ⟨#[116, 117, 114, 110]⟩]
theorem kindWords_any (w : World) : Calls Tryz.prog 60 #[] w fun e w' => ∃ g, e = .returned (.slice (some ⟨g, 0, none⟩) 5 5) ∧ Rd w' w'.heap.size (some ⟨g, 0, none⟩) (strCells kindW) ∧ Below w.heap.size w w' := by
  go_enter Tryz.func60, Tryz.ntmps60
  go_wp2
  go_ret
  exact ⟨_, rfl, Rd_of_block (cs := (strCells kindW).toArray) (t := 9) (fr := (0, 0)) (by rw [heapq_alloc, if_pos rfl]; rfl), (Below.refl _ _).alloc (Nat.le_refl _) _⟩
/-- how one word of a line is read by its letter -/
def readE (c : Nat) (s : ByteArray) (l : List ByteArray) : Option Int :=
  if c = 110 then (if nameB s then some 0 else none)
  else if c = 101 then (if 0 ≤ numT l s then some (numT l s) else none)
  else if c = 109 ∧ s.toList = [45] then some (-1)
  else if digB s then some (digV s) else none
set_option maxRecDepth 100000 in
set_option maxHeartbeats 2000000 in
theorem read_any (c : Nat) (s : ByteArray) (A : Option Addr) (n cp B : Nat) (l : List ByteArray) (w : World) (hc : c ≤ 255) (hs : s.size ≤ 1000000) (hn : n ≤ 1000000000) (hl : l.length = n) (h : Rd w B A (strCells l)) (x : Int) (hx : readE c s l = some x) :
    Calls Tryz.prog 62 #[.int .u8 c, .string s, .slice A n cp] w fun e w' => e = .returned (.tuple #[.int .i64 x, .int .i64 0]) ∧ Below w.heap.size w w' := by
  have HN := fun W => refIsName_any s (by omega) W
  have HI := numberOf_any A n cp B l s w hn hl h
  by_cases h1 : c = 110
  · subst h1
    rw [readE, if_pos rfl] at hx
    cases hb : nameB s with
    | false => rw [hb] at hx; simp at hx
    | true =>
      rw [hb] at hx
      obtain rfl := Option.some.inj hx
      rw [hb] at HN
      clear HI hx h
      go_enter Tryz.func62, Tryz.ntmps62
      go_wp2_with (go_at_call 39; refine (HN _).mono ?_; rintro e w' ⟨rfl, rfl⟩)
      go_ret2
      exact ⟨rfl, Below.refl _ _⟩
  · rw [readE, if_neg h1] at hx
    have e1 : ((c : Int) == 110) = false := beq_eq_false_iff_ne.2 (by omega)
    by_cases h2 : c = 101
    · subst h2
      rw [if_pos rfl] at hx
      by_cases h3 : 0 ≤ numT l s
      · rw [if_pos h3] at hx
        obtain rfl := Option.some.inj hx
        clear HN hx h
        generalize numT l s = k at *
        go_enter Tryz.func62, Tryz.ntmps62
        go_wp2_with (go_at_call 59; refine HI.mono ?_; rintro e w' ⟨rfl, rfl⟩)
        go_ret2
        exact ⟨rfl, Below.refl _ _⟩
      · rw [if_neg h3] at hx
        simp at hx
    · rw [if_neg h2] at hx
      have e2 : ((c : Int) == 101) = false := beq_eq_false_iff_ne.2 (by omega)
      clear HN HI h
      by_cases h3 : c = 109
      · have e3 : ((c : Int) == 109) = true := beq_iff_eq.2 (by omega)
        cases h4 : (s.toList == [45]) with
        | true =>
          rw [if_pos ⟨h3, beq_iff_eq.1 h4⟩] at hx
          obtain rfl := Option.some.inj hx
          clear hx
          go_enter Tryz.func62, Tryz.ntmps62
          go_wp2
          go_ret2
          exact ⟨rfl, Below.refl _ _⟩
        | false =>
          rw [if_neg (fun hh => beq_eq_false_iff_ne.1 h4 hh.2)] at hx
          cases hd : digB s with
          | false => rw [hd] at hx; simp at hx
          | true =>
            rw [hd] at hx
            obtain rfl := Option.some.inj hx
            have HD := fun W => number_any s hd W
            clear hx
            generalize digV s = k at *
            go_enter Tryz.func62, Tryz.ntmps62
            go_wp2_with (go_at_call 78; refine (HD _).mono ?_; rintro e w' ⟨rfl, hb1⟩)
            go_ret2
            exact ⟨rfl, hb1⟩
      · have e3 : ((c : Int) == 109) = false := beq_eq_false_iff_ne.2 (by omega)
        rw [if_neg (fun hh => h3 hh.1)] at hx
        cases hd : digB s with
        | false => rw [hd] at hx; simp at hx
        | true =>
          rw [hd] at hx
          obtain rfl := Option.some.inj hx
          have HD := fun W => number_any s hd W
          clear hx
          generalize digV s = k at *
          go_enter Tryz.func62, Tryz.ntmps62
          go_wp2_with (go_at_call 78; refine (HD _).mono ?_; rintro e w' ⟨rfl, hb1⟩)
          go_ret2
          exact ⟨rfl, hb1⟩
end Go.Proofs.YtnnnpijepdjanaaGreat
