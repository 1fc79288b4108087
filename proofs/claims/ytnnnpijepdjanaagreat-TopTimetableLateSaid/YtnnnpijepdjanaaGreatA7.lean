/- Few, and the error of a net. -/
import Derived.Test.YtnnnpijepdjanaaGreatA6
namespace Go.Proofs.YtnnnpijepdjanaaGreat
open Go.RowKit

theorem NetErr_any (w : World) (B : Nat) (Ae Aa : Option Addr) (ne ce na ca : Nat) (evs : List ByteArray) (acts : List Act) (h : NetAt w B Ae Aa ne ce na evs acts) (hB : B ≤ w.heap.size) (hn : ne ≤ 1000000000) (hna : na ≤ 1000000000) :
    Calls Tryz.prog 6 #[netV Ae ne ce Aa na ca] w fun e w' => e = .returned (.int .i64 (netE evs acts)) ∧ Below w.heap.size w w' := by
  have hb0 : Below w.heap.size w (w.alloc (.cells #[.slice Ae ne ce, .slice Aa na ca] 25)) := (Below.refl _ _).alloc (Nat.le_refl _) _
  have CN := fun (W : World) (hW : NetAt W B Ae Aa ne ce na evs acts) (hB : B ≤ W.heap.size) => refCheckNet_any W B Ae Aa ne ce na ca evs acts hW hB hn hna
  have h0 := h.below (hb0.mono hB)
  have hB0 := Nat.le_trans hB hb0.size
  have hs := hb0.size
  have HB := Lib.hid hb0
  have k0 : (w.alloc (.cells #[.slice Ae ne ce, .slice Aa na ca] 25)).heap[w.heap.size]? = some (.cells #[.slice Ae ne ce, .slice Aa na ca] 25 (0, 0)) := by rw [heapq_alloc, if_pos rfl]
  obtain ⟨d0, d1⟩ := cells2 k0
  clear hb0 k0
  unfold netV at CN ⊢
  obtain ⟨E, hE⟩ : ∃ E, netE evs acts = E := ⟨_, rfl⟩
  rw [hE] at CN ⊢
  clear hE
  go_enter Tryz.func6, Tryz.ntmps6
  go_upto_region 1 with (fail)
  generalize (w.alloc (.cells #[.slice Ae ne ce, .slice Aa na ca] 25)) = w0 at *
  go_wp2_with (go_at_call 21; refine (CN _ h0 hB0).mono ?_; rintro e w1 ⟨a, b, rfl, hb1⟩)
  go_ret
  exact ⟨rfl, HB.out.trans ((hb1.mono hs).trans (((Below.refl _ _).alloc (Nat.le_trans hs hb1.size) _)))⟩

def FewRel (w0 : World) (evs : List ByteArray) (n : Nat) (u : Value) (wr : World) : Prop := ∃ k : Nat, k ≤ n ∧ u = .int .i64 k ∧ (∀ s ∈ evs.take k, s.size ≤ 20) ∧ Below w0.heap.size w0 wr
def FewPost (w : World) (evs : List ByteArray) (ne na : Nat) (e : Ending) (w' : World) : Prop := ∃ b, e = .returned (.bool b) ∧ Below w.heap.size w w' ∧ (b = true → ne ≤ 18 ∧ na ≤ 32 ∧ ∀ s ∈ evs, s.size ≤ 20)
set_option maxRecDepth 100000 in
set_option maxHeartbeats 4000000 in
theorem Few_any (w : World) (B : Nat) (Ae Aa : Option Addr) (ne ce na ca : Nat) (evs : List ByteArray) (hl : evs.length = ne) (h : Rd w B Ae (strCells evs)) (hB : B ≤ w.heap.size) :
    Calls Tryz.prog 5 #[netV Ae ne ce Aa na ca] w (FewPost w evs ne na) := by
  have hb0 : Below w.heap.size w (w.alloc (.cells #[.slice Ae ne ce, .slice Aa na ca] 25)) := (Below.refl _ _).alloc (Nat.le_refl _) _
  replace h := h.below (hb0.mono hB)
  have hB0 := Nat.le_trans hB hb0.size
  have hs := hb0.size
  have HB := Lib.hid hb0
  have HE := Lib.hid hl
  have k0 : (w.alloc (.cells #[.slice Ae ne ce, .slice Aa na ca] 25)).heap[w.heap.size]? = some (.cells #[.slice Ae ne ce, .slice Aa na ca] 25 (0, 0)) := by rw [heapq_alloc, if_pos rfl]
  obtain ⟨d0, d1⟩ := cells2 k0
  clear hb0 k0 hl
  unfold netV
  go_enter Tryz.func5, Tryz.ntmps5
  go_upto_region 1 with (fail)
  generalize (w.alloc (.cells #[.slice Ae ne ce, .slice Aa na ca] 25)) = w0 at *
  by_cases a1 : 8 < ne
  · have e1 : (8 : Int) < (ne : Int) := by omega
    by_cases a2 : ne ≤ 16
    · have e2 : (ne : Int) ≤ 16 := by omega
      go_wp2
      go_ret
      exact ⟨false, rfl, HB.out, fun hh => by cases hh⟩
    · have e2 : ¬(ne : Int) ≤ 16 := by omega
      by_cases a3 : 18 < ne
      · have e3 : (18 : Int) < (ne : Int) := by omega
        go_wp2
        go_ret
        exact ⟨false, rfl, HB.out, fun hh => by cases hh⟩
      · have e3 : ¬(18 : Int) < (ne : Int) := by omega
        by_cases b1 : 12 < na
        · have f1 : (12 : Int) < (na : Int) := by omega
          by_cases b2 : na ≤ 30
          · have f2 : (na : Int) ≤ 30 := by omega
            go_wp2
            go_ret
            exact ⟨false, rfl, HB.out, fun hh => by cases hh⟩
          · have f2 : ¬(na : Int) ≤ 30 := by omega
            by_cases b3 : 32 < na
            · have f3 : (32 : Int) < (na : Int) := by omega
              go_wp2
              go_ret
              exact ⟨false, rfl, HB.out, fun hh => by cases hh⟩
            · have f3 : ¬(32 : Int) < (na : Int) := by omega
              go_wp2
              go_loopw [3] (fun u wr => FewRel w0 evs ne u wr) (fun u _ => ne - (intOf u).toNat)
              case atStart => exact ⟨0, Nat.zero_le _, rfl, fun s hs => by simp at hs, Below.refl _ _⟩
              case round =>
                obtain ⟨k, hk, rfl, hgo, hb⟩ := hrel
                have HGO := Lib.hid hgo
                replace d0 := kept hb d0
                replace d1 := kept hb d1
                have hre := h.below (hb.mono hB0)
                have HB9 := Lib.hid (HB.out.trans (hb.mono hs))
                have HB0 := Lib.hid hb
                clear hgo hb
                by_cases hlt : k < ne
                · have hkl : k < evs.length := by rw [HE.out]; exact hlt
                  obtain ⟨x, hx⟩ : ∃ x, evs[k]? = some x := ⟨_, List.getElem?_eq_getElem hkl⟩
                  obtain ⟨b, off, hAe, _, hc⟩ := hre.at_ (k := k) (u := .string x) (by simp [strCells, hx])
                  have HT : Hid (evs.take (k + 1) = evs.take k ++ [x]) := by
                    rw [Hid, List.take_add_one, hx]
                    rfl
                  subst hAe
                  clear hx hkl
                  by_cases h9 : 20 < x.size
                  · have g9 : (20 : Int) < (x.size : Int) := by omega
                    go_wp2
                    go_ret
                    exact ⟨false, rfl, HB9.out, fun hh => by cases hh⟩
                  · have g9 : ¬(20 : Int) < (x.size : Int) := by omega
                    have HX := Lib.hid h9
                    clear h9
                    go_wp2
                    go_roundw
                    case rel => exact ⟨k + 1, by omega, by go_num, fun s hs => by
                      rw [HT.out, List.mem_append] at hs
                      rcases hs with hs | hs
                      · exact HGO.out s hs
                      · have := HX.out
                        simp at hs
                        subst hs
                        omega, HB0.out⟩
                    case measure => simp [intOf]; omega
                · have hkm : k = ne := by omega
                  have HG : Hid (∀ s ∈ evs, s.size ≤ 20) := fun s hs => by
                    refine HGO.out s ?_
                    rw [hkm, ← HE.out, List.take_length]
                    exact hs
                  clear hkm
                  go_wp2
                  go_ret
                  exact ⟨true, rfl, HB9.out, fun _ => ⟨by omega, by omega, HG.out⟩⟩
        · have f1 : ¬(12 : Int) < (na : Int) := by omega
          have f3 : ¬(32 : Int) < (na : Int) := by omega
          go_wp2
          go_loopw [3] (fun u wr => FewRel w0 evs ne u wr) (fun u _ => ne - (intOf u).toNat)
          case atStart => exact ⟨0, Nat.zero_le _, rfl, fun s hs => by simp at hs, Below.refl _ _⟩
          case round =>
            obtain ⟨k, hk, rfl, hgo, hb⟩ := hrel
            have HGO := Lib.hid hgo
            replace d0 := kept hb d0
            replace d1 := kept hb d1
            have hre := h.below (hb.mono hB0)
            have HB9 := Lib.hid (HB.out.trans (hb.mono hs))
            have HB0 := Lib.hid hb
            clear hgo hb
            by_cases hlt : k < ne
            · have hkl : k < evs.length := by rw [HE.out]; exact hlt
              obtain ⟨x, hx⟩ : ∃ x, evs[k]? = some x := ⟨_, List.getElem?_eq_getElem hkl⟩
              obtain ⟨b, off, hAe, _, hc⟩ := hre.at_ (k := k) (u := .string x) (by simp [strCells, hx])
              have HT : Hid (evs.take (k + 1) = evs.take k ++ [x]) := by
                rw [Hid, List.take_add_one, hx]
                rfl
              subst hAe
              clear hx hkl
              by_cases h9 : 20 < x.size
              · have g9 : (20 : Int) < (x.size : Int) := by omega
                go_wp2
                go_ret
                exact ⟨false, rfl, HB9.out, fun hh => by cases hh⟩
              · have g9 : ¬(20 : Int) < (x.size : Int) := by omega
                have HX := Lib.hid h9
                clear h9
                go_wp2
                go_roundw
                case rel => exact ⟨k + 1, by omega, by go_num, fun s hs => by
                  rw [HT.out, List.mem_append] at hs
                  rcases hs with hs | hs
                  · exact HGO.out s hs
                  · have := HX.out
                    simp at hs
                    subst hs
                    omega, HB0.out⟩
                case measure => simp [intOf]; omega
            · have hkm : k = ne := by omega
              have HG : Hid (∀ s ∈ evs, s.size ≤ 20) := fun s hs => by
                refine HGO.out s ?_
                rw [hkm, ← HE.out, List.take_length]
                exact hs
              clear hkm
              go_wp2
              go_ret
              exact ⟨true, rfl, HB9.out, fun _ => ⟨by omega, by omega, HG.out⟩⟩
  · have e1 : ¬(8 : Int) < (ne : Int) := by omega
    have e3 : ¬(18 : Int) < (ne : Int) := by omega
    by_cases b1 : 12 < na
    · have f1 : (12 : Int) < (na : Int) := by omega
      by_cases b2 : na ≤ 30
      · have f2 : (na : Int) ≤ 30 := by omega
        go_wp2
        go_ret
        exact ⟨false, rfl, HB.out, fun hh => by cases hh⟩
      · have f2 : ¬(na : Int) ≤ 30 := by omega
        by_cases b3 : 32 < na
        · have f3 : (32 : Int) < (na : Int) := by omega
          go_wp2
          go_ret
          exact ⟨false, rfl, HB.out, fun hh => by cases hh⟩
        · have f3 : ¬(32 : Int) < (na : Int) := by omega
          go_wp2
          go_loopw [3] (fun u wr => FewRel w0 evs ne u wr) (fun u _ => ne - (intOf u).toNat)
          case atStart => exact ⟨0, Nat.zero_le _, rfl, fun s hs => by simp at hs, Below.refl _ _⟩
          case round =>
            obtain ⟨k, hk, rfl, hgo, hb⟩ := hrel
            have HGO := Lib.hid hgo
            replace d0 := kept hb d0
            replace d1 := kept hb d1
            have hre := h.below (hb.mono hB0)
            have HB9 := Lib.hid (HB.out.trans (hb.mono hs))
            have HB0 := Lib.hid hb
            clear hgo hb
            by_cases hlt : k < ne
            · have hkl : k < evs.length := by rw [HE.out]; exact hlt
              obtain ⟨x, hx⟩ : ∃ x, evs[k]? = some x := ⟨_, List.getElem?_eq_getElem hkl⟩
              obtain ⟨b, off, hAe, _, hc⟩ := hre.at_ (k := k) (u := .string x) (by simp [strCells, hx])
              have HT : Hid (evs.take (k + 1) = evs.take k ++ [x]) := by
                rw [Hid, List.take_add_one, hx]
                rfl
              subst hAe
              clear hx hkl
              by_cases h9 : 20 < x.size
              · have g9 : (20 : Int) < (x.size : Int) := by omega
                go_wp2
                go_ret
                exact ⟨false, rfl, HB9.out, fun hh => by cases hh⟩
              · have g9 : ¬(20 : Int) < (x.size : Int) := by omega
                have HX := Lib.hid h9
                clear h9
                go_wp2
                go_roundw
                case rel => exact ⟨k + 1, by omega, by go_num, fun s hs => by
                  rw [HT.out, List.mem_append] at hs
                  rcases hs with hs | hs
                  · exact HGO.out s hs
                  · have := HX.out
                    simp at hs
                    subst hs
                    omega, HB0.out⟩
                case measure => simp [intOf]; omega
            · have hkm : k = ne := by omega
              have HG : Hid (∀ s ∈ evs, s.size ≤ 20) := fun s hs => by
                refine HGO.out s ?_
                rw [hkm, ← HE.out, List.take_length]
                exact hs
              clear hkm
              go_wp2
              go_ret
              exact ⟨true, rfl, HB9.out, fun _ => ⟨by omega, by omega, HG.out⟩⟩
    · have f1 : ¬(12 : Int) < (na : Int) := by omega
      have f3 : ¬(32 : Int) < (na : Int) := by omega
      go_wp2
      go_loopw [3] (fun u wr => FewRel w0 evs ne u wr) (fun u _ => ne - (intOf u).toNat)
      case atStart => exact ⟨0, Nat.zero_le _, rfl, fun s hs => by simp at hs, Below.refl _ _⟩
      case round =>
        obtain ⟨k, hk, rfl, hgo, hb⟩ := hrel
        have HGO := Lib.hid hgo
        replace d0 := kept hb d0
        replace d1 := kept hb d1
        have hre := h.below (hb.mono hB0)
        have HB9 := Lib.hid (HB.out.trans (hb.mono hs))
        have HB0 := Lib.hid hb
        clear hgo hb
        by_cases hlt : k < ne
        · have hkl : k < evs.length := by rw [HE.out]; exact hlt
          obtain ⟨x, hx⟩ : ∃ x, evs[k]? = some x := ⟨_, List.getElem?_eq_getElem hkl⟩
          obtain ⟨b, off, hAe, _, hc⟩ := hre.at_ (k := k) (u := .string x) (by simp [strCells, hx])
          have HT : Hid (evs.take (k + 1) = evs.take k ++ [x]) := by
            rw [Hid, List.take_add_one, hx]
            rfl
          subst hAe
          clear hx hkl
          by_cases h9 : 20 < x.size
          · have g9 : (20 : Int) < (x.size : Int) := by omega
            go_wp2
            go_ret
            exact ⟨false, rfl, HB9.out, fun hh => by cases hh⟩
          · have g9 : ¬(20 : Int) < (x.size : Int) := by omega
            have HX := Lib.hid h9
            clear h9
            go_wp2
            go_roundw
            case rel => exact ⟨k + 1, by omega, by go_num, fun s hs => by
              rw [HT.out, List.mem_append] at hs
              rcases hs with hs | hs
              · exact HGO.out s hs
              · have := HX.out
                simp at hs
                subst hs
                omega, HB0.out⟩
            case measure => simp [intOf]; omega
        · have hkm : k = ne := by omega
          have HG : Hid (∀ s ∈ evs, s.size ≤ 20) := fun s hs => by
            refine HGO.out s ?_
            rw [hkm, ← HE.out, List.take_length]
            exact hs
          clear hkm
          go_wp2
          go_ret
          exact ⟨true, rfl, HB9.out, fun _ => ⟨by omega, by omega, HG.out⟩⟩
end Go.Proofs.YtnnnpijepdjanaaGreat
