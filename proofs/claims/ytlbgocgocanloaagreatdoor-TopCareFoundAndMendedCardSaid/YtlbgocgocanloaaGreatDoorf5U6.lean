/- with: a record without what some beams explain. -/
import Derived.Test.YtlbgocgocanloaaGreatDoorf5U4
import Derived.Test.YtlbgocgocanloaaGreatDoorf5Z2
namespace Go.Proofs.YtlbgocgocanloaaGreatDoor
open Go.RowKit
theorem over169_val (n f t : Int) (x : Nat) (b : Bool) (hb : withinB n f t = b) (w : World) (h0 : w.cell? ⟨x, 0, none⟩ = some (.int .i64 f)) (h1 : w.cell? ⟨x, 1, none⟩ = some (.int .i64 t)) :
    Calls Tryz.prog 116 #[.int .i64 n, .pointer (some ⟨x, 0, none⟩)] w fun e w' => e = .returned (.bool b) ∧ w = w' := by
  go_enter Tryz.func116, Tryz.ntmps116
  go_wp2_with (go_at_call 41; refine (within_val _ _ _ _ hb _).mono ?_; rintro e w' ⟨rfl, rfl⟩)
  go_ret
  exact ⟨rfl, rfl⟩
theorem IndexFunc_169 (A : Option Addr) (n c B : Nat) (l : List Int) (f t : Int) (x : Nat) (w : World) (hn : n ≤ 1000000000) (hl : l.length = n) (h : Rd w B A (intCells l)) (h0 : w.cell? ⟨x, 0, none⟩ = some (.int .i64 f)) (h1 : w.cell? ⟨x, 1, none⟩ = some (.int .i64 t)) :
    Calls Tryz.prog 136 #[.slice A n c, .func (.func 116) #[] #[.pointer (some ⟨x, 0, none⟩)]] w fun e w' => e = .returned (.int .i64 (idxGo (fun n => withinB n f t) l 0)) ∧ w = w' := by
  have HL := Lib.hid hl; clear hl
  have C := fun n b hb => over169_val n f t x b hb w h0 h1
  clear h0 h1
  go_enter Tryz.func136, Tryz.ntmps136
  go_wp2
  go_loop [5, 8] (fun _ i => ∃ k : Nat, k ≤ n ∧ i = .int .i64 k ∧ idxGo (fun n => withinB n f t) (l.drop k) k = idxGo (fun n => withinB n f t) l 0) (fun _ i => n - (intOf i).toNat)
  case atStart => exact ⟨0, Nat.zero_le _, rfl, rfl⟩
  case round =>
    obtain ⟨k, hk, rfl, he⟩ := hrel
    have HE := Lib.hid he; clear he
    by_cases hlt : k < n
    · have hkl : k < l.length := by rw [HL.out]; exact hlt
      obtain ⟨b, off, rfl, _, hc⟩ := h.at_ (intCells_at l k hkl)
      have HS := Lib.hid (drop_at l 0 k hkl)
      clear hkl
      cases hz : withinB (l[k]?.getD 0) f t
      · have C' := C _ _ hz
        have HZ := Lib.hid hz
        clear hz
        go_wp2_with (go_at_call 116; refine C'.mono ?_; rintro e w' ⟨rfl, rfl⟩)
        go_round
        case rel => exact ⟨k + 1, by omega, by go_num, by rw [← HE.out, HS.out, idxGo]; simp [HZ.out]⟩
        case measure => simp [intOf]; omega
      · have C' := C _ _ hz
        have HZ := Lib.hid hz
        clear hz
        go_wp2_with (go_at_call 116; refine C'.mono ?_; rintro e w' ⟨rfl, rfl⟩)
        go_ret
        exact ⟨by rw [← HE.out, HS.out, idxGo]; simp [HZ.out], rfl⟩
    · go_wp2
      go_ret
      have : l.drop k = [] := by rw [List.drop_eq_nil_iff]; rw [HL.out]; omega
      exact ⟨by rw [← HE.out, this]; rfl, rfl⟩
theorem ContainsFunc_169 (A : Option Addr) (n c B : Nat) (l : List Int) (f t : Int) (x : Nat) (w : World) (hn : n ≤ 1000000000) (hl : l.length = n) (h : Rd w B A (intCells l)) (h0 : w.cell? ⟨x, 0, none⟩ = some (.int .i64 f)) (h1 : w.cell? ⟨x, 1, none⟩ = some (.int .i64 t)) :
    Calls Tryz.prog 115 #[.slice A n c, .func (.func 116) #[] #[.pointer (some ⟨x, 0, none⟩)]] w fun e w' => e = .returned (.bool (l.any fun n => withinB n f t)) ∧ w = w' := by
  have C := IndexFunc_169 A n c B l f t x w hn hl h h0 h1
  clear h h0 h1
  go_enter Tryz.func115, Tryz.ntmps115
  go_wp2_with (go_at_call 136; refine C.mono ?_; rintro e w1 ⟨rfl, rfl⟩)
  go_ret
  exact ⟨by rw [← idxGo_nonneg _ l 0]; rfl, rfl⟩
theorem news3 {X : World} {g : Nat} {a b c : Value} (h0 : X.cell? ⟨g, 0, none⟩ = some a) (h1 : X.cell? ⟨g, 1, none⟩ = some b) (h2 : X.cell? ⟨g, 2, none⟩ = some c) : ∀ j u, [a, b, c][j]? = some u → X.cell? ((⟨g, 0, none⟩ : Addr).add j) = some u := by
  intro j u hu
  match j with
  | 0 => simp at hu; subst hu; exact h0
  | 1 => simp at hu; subst hu; exact h1
  | 2 => simp at hu; subst hu; exact h2
  | j + 3 => simp at hu
theorem own_apart {w : World} {B e e2 size n : Nat} {v : Value} {xs : List Value} (h : w.ownsRow B e size v n xs) {k : Nat} {cur : Array Value} (hk : w.heap[k]? = some (Obj.cells cur e2 (0, 0))) (hne : e2 ≠ e) : some k ≠ v.ownBlock := fun he => by
  obtain ⟨_, _, cur', hc⟩ := ownBlk h he.symm
  rw [hk] at hc
  simp only [Option.some.injEq, Obj.cells.injEq] at hc
  exact hne hc.2.1
/-- does a reading stay -/
def keepB (bs : List Int) (r : Rg) : Bool := !r.2.2 || !bs.any fun b => withinB b r.1 r.2.1
def WithPost (w : World) (bm : Int) (m : List Rg) (e : Ending) (w' : World) : Prop :=
  ∃ A c, e = .returned (.agg #[.int .i64 bm, .slice A m.length c]) ∧ Rd w' w'.heap.size A (rgCells m) ∧ Below w.heap.size w w'
def WithRel (w0 : World) (K g6 : Nat) (bm : Int) (l : List Rg) (bs : List Int) (n : Nat) (F : List Rg) (u24 : Value) (wr : World) : Prop :=
  ∃ (k : Nat) (acc : List Rg) (A : Option Addr) (c : Nat), k ≤ n ∧ acc.length ≤ k + 1 ∧ u24 = .int .i64 k ∧ wr.heap[g6]? = some (.cells #[.int .i64 bm, .slice A acc.length c] 70 (0, 0)) ∧ wr.ownsRow K 148 3 (.slice A acc.length c) acc.length (rgCells acc) ∧ acc ++ (l.drop k).filter (keepB bs) = F ∧ Below K w0 wr
set_option maxRecDepth 100000 in
set_option maxHeartbeats 8000000 in
theorem with_any (w : World) (B : Nat) (bm : Int) (A Ab : Option Addr) (n c q c2 : Nat) (l : List Rg) (bs : List Int) (hl : l.length = n) (hl2 : bs.length = q + 1) (h : Rd w B A (rgCells l)) (h2 : Rd w B Ab (intCells bs)) (hB : B ≤ w.heap.size) (hn : n ≤ 40) (hq : q ≤ 1000) :
    Calls Tryz.prog 77 #[.agg #[.int .i64 bm, .slice A n c], .slice Ab (q + 1) c2] w (WithPost w bm (withM l bs (bs.getLast?.getD 0))) := by
  obtain ⟨i1, hi1, hy0, hy1, hy2⟩ := info_parts info148
  have hb0 : Below w.heap.size w ((w.alloc (.cells #[.int .i64 bm, .slice A n c] 70)).alloc (.cells #[.int .i64 0, .slice none 0 0] 70)) := ((Below.refl _ _).alloc (Nat.le_refl _) _).alloc (by simp) _
  have k0 : ((w.alloc (.cells #[.int .i64 bm, .slice A n c] 70)).alloc (.cells #[.int .i64 0, .slice none 0 0] 70)).heap[w.heap.size]? = some (.cells #[.int .i64 bm, .slice A n c] 70 (0, 0)) := by rw [heapq_alloc, if_neg (by simp), heapq_alloc, if_pos rfl]
  have k1 : ((w.alloc (.cells #[.int .i64 bm, .slice A n c] 70)).alloc (.cells #[.int .i64 0, .slice none 0 0] 70)).heap[w.heap.size + 1]? = some (.cells #[.int .i64 0, .slice none 0 0] 70 (0, 0)) := by rw [heapq_alloc, if_pos (by simp)]
  have hsz : ((w.alloc (.cells #[.int .i64 bm, .slice A n c] 70)).alloc (.cells #[.int .i64 0, .slice none 0 0] 70)).heap.size = w.heap.size + 2 := by simp
  have a0 := (cell_of_row _ _ 0 _ _ _ k0).trans (by rfl : _ = some (.int .i64 bm))
  have a1 := (cell_of_row _ _ 1 _ _ _ k0).trans (by rfl : _ = some (.slice A n c))
  have hr := h.below (hb0.mono hB)
  have hbs := h2.below (hb0.mono hB)
  have hlast : bs[q]?.getD 0 = bs.getLast?.getD 0 := by rw [List.getLast?_eq_getElem?, hl2]; rfl
  obtain ⟨bl, ol, rfl, _, e0⟩ := hbs.at_ (intCells_at bs q (by omega))
  rw [hlast] at e0
  generalize bs.getLast?.getD 0 = lv at *
  have HL := Lib.hid hl
  have HL2 := Lib.hid hl2
  have HB := Lib.hid hb0
  have HSZ := Lib.hid hsz
  have K1 := Lib.hid k1
  clear h h2 hl hl2 hb0 k0 k1 hsz hlast
  go_enter Tryz.func77, Tryz.ntmps77
  go_upto_region 1 with (fail)
  generalize (w.alloc (.cells #[.int .i64 bm, .slice A n c] 70)).alloc (.cells #[.int .i64 0, .slice none 0 0] 70) = w0 at *
  have hx2 : w0.heap.size = w.heap.size + 2 := HSZ.out
  generalize hxx : w.heap.size = x at *
  have HX := Lib.hid hxx.symm
  clear hxx
  go_upto_region 3 with (fail)
  have k5 : ((w0.alloc (.cells #[.int .i64 0, .int .i64 lv, .bool false] 148)).alloc (.cells #[.int .i64 bm, .slice (some ⟨x + 2, 0, none⟩) 1 1] 70)).heap[x + 2]? = some (.cells #[.int .i64 0, .int .i64 lv, .bool false] 148 (0, 0)) := by rw [heapq_alloc, if_neg (by simp; omega), heapq_alloc, if_pos hx2.symm]
  have k6 : ((w0.alloc (.cells #[.int .i64 0, .int .i64 lv, .bool false] 148)).alloc (.cells #[.int .i64 bm, .slice (some ⟨x + 2, 0, none⟩) 1 1] 70)).heap[x + 3]? = some (.cells #[.int .i64 bm, .slice (some ⟨x + 2, 0, none⟩) 1 1] 70 (0, 0)) := by rw [heapq_alloc, if_pos (by simp; omega)]
  have hb3 : Below (x + 2) w0 ((w0.alloc (.cells #[.int .i64 0, .int .i64 lv, .bool false] 148)).alloc (.cells #[.int .i64 bm, .slice (some ⟨x + 2, 0, none⟩) 1 1] 70)) := ((Below.refl _ _).alloc (by omega) _).alloc (by simp; omega) _
  have own3 : ((w0.alloc (.cells #[.int .i64 0, .int .i64 lv, .bool false] 148)).alloc (.cells #[.int .i64 bm, .slice (some ⟨x + 2, 0, none⟩) 1 1] 70)).ownsRow (x + 2) 148 3 (.slice (some ⟨x + 2, 0, none⟩) 1 1) 1 (rgCells [(0, lv, false)]) := ⟨rfl, .inr ⟨x + 2, 1, _, rfl, Nat.le_refl _, k5, by omega, by simp only [maxLen]; omega, rfl, rfl⟩⟩
  replace a1 := keptB hb3 (p := ⟨x, 1, none⟩) (show x < x + 2 by omega) a1
  obtain ⟨F, hF⟩ : ∃ F, withM l bs lv = F := ⟨_, rfl⟩
  rw [hF]
  have HREL : Hid (WithRel w0 (x + 2) (x + 3) bm l bs n F (.int .i64 0) ((w0.alloc (.cells #[.int .i64 0, .int .i64 lv, .bool false] 148)).alloc (.cells #[.int .i64 bm, .slice (some ⟨x + 2, 0, none⟩) 1 1] 70))) :=
    ⟨0, [(0, lv, false)], some ⟨x + 2, 0, none⟩, 1, Nat.zero_le _, by simp, rfl, k6, own3, by rw [List.drop_zero, ← hF]; rfl, hb3⟩
  have HF := Lib.hid hF
  clear k5 k6 hb3 own3 hF e0 a0
  generalize (w0.alloc (.cells #[.int .i64 0, .int .i64 lv, .bool false] 148)).alloc (.cells #[.int .i64 bm, .slice (some ⟨x + 2, 0, none⟩) 1 1] 70) = w3 at *
  have hx3 : x + 2 + 1 = x + 3 := rfl
  go_wp2
  go_loopw [24] (fun u24 wr => WithRel w0 (x + 2) (x + 3) bm l bs n F u24 wr) (fun u24 _ => n - (intOf u24).toNat)
  case atStart => exact HREL.out
  case round =>
    clear HREL a1
    obtain ⟨k, acc, Ar, cr, hk, hal, rfl, hg6, hown, he, hb⟩ := hrel
    have HE := Lib.hid he
    have HBK := Lib.hid hb
    have HOWN := Lib.hid hown
    have hszk := hb.size
    have hrk := hr.below (hb.mono (show B ≤ x + 2 by omega))
    have hbk := hbs.below (hb.mono (show B ≤ x + 2 by omega))
    have hl6 := lt_of_block hg6
    clear he hb hown
    by_cases hlt : k < n
    · have hkl : k < l.length := by rw [HL.out]; exact hlt
      obtain ⟨ev, hev⟩ : ∃ ev, l[k]? = some ev := ⟨_, List.getElem?_eq_getElem hkl⟩
      obtain ⟨z0, z1, z2⟩ := rgCells_at l k ev hev
      obtain ⟨bb, off, rfl, hbB, e0, e1, e2⟩ := hrk.at3 z0 z1 z2
      have HS := Lib.hid (drop_cons' hev)
      obtain ⟨f, td, wg⟩ := ev
      simp only at e0 e1 e2
      have hba : Below wr.heap.size wr (wr.alloc (.cells #[.int .i64 f, .int .i64 td, .bool wg] 148)) := (Below.refl _ _).alloc (Nat.le_refl _) _
      have kb : (wr.alloc (.cells #[.int .i64 f, .int .i64 td, .bool wg] 148)).heap[wr.heap.size]? = some (.cells #[.int .i64 f, .int .i64 td, .bool wg] 148 (0, 0)) := by rw [heapq_alloc, if_pos rfl]
      have t0 := (cell_of_row _ _ 0 _ _ _ kb).trans (by rfl : _ = some (.int .i64 f))
      have t1 := (cell_of_row _ _ 1 _ _ _ kb).trans (by rfl : _ = some (.int .i64 td))
      have t2 := (cell_of_row _ _ 2 _ _ _ kb).trans (by rfl : _ = some (.bool wg))
      have hg6a : (wr.alloc (.cells #[.int .i64 f, .int .i64 td, .bool wg] 148)).heap[x + 3]? = some (.cells #[.int .i64 bm, .slice Ar acc.length cr] 70 (0, 0)) := (hba.block _ hl6).trans hg6
      have HOWA := Lib.hid (ownsRow_below HOWN.out hba)
      have HBA := Lib.hid (HBK.out.trans (hba.mono (show x + 2 ≤ wr.heap.size by omega)))
      have hba2 := hbk.below (hba.mono (show B ≤ wr.heap.size by omega))
      have hsa : wr.heap.size ≤ (wr.alloc (.cells #[.int .i64 f, .int .i64 td, .bool wg] 148)).heap.size := hba.size
      clear kb z0 z1 z2 hev hkl hrk hbk hg6
      go_upto_region 6 with (fail)
      clear hba e0 e1 e2
      generalize wr.alloc (.cells #[.int .i64 f, .int .i64 td, .bool wg] 148) = wa at *
      generalize wr.heap.size = ga at *
      have CF := ContainsFunc_169 (some ⟨bl, ol, none⟩) (q + 1) c2 B bs f td ga wa (by omega) HL2.out hba2 t0 t1
      cases wg with
      | false =>
        have HK : Hid (keepB bs (f, td, false) = true) := rfl
        have HN : Hid ((acc ++ [(f, td, false)]) ++ (l.drop (k + 1)).filter (keepB bs) = F) := by
          have := HE.out
          rw [HS.out, List.filter_cons_of_pos HK.out] at this
          rw [Hid, List.append_assoc]
          exact this
        have s1 := (cell_of_row _ _ 1 _ _ _ hg6a).trans (by rfl : _ = some (.slice Ar acc.length cr))
        go_upto_region 7 with (go_at_call 115; refine CF.mono ?_; rintro e w' ⟨rfl, rfl⟩)
        have hbX : Below wa.heap.size wa (wa.alloc (.cells #[.int .i64 f, .int .i64 td, .bool false] 148)) := (Below.refl _ _).alloc (Nat.le_refl _) _
        have kX : (wa.alloc (.cells #[.int .i64 f, .int .i64 td, .bool false] 148)).heap[wa.heap.size]? = some (.cells #[.int .i64 f, .int .i64 td, .bool false] 148 (0, 0)) := by rw [heapq_alloc, if_pos rfl]
        have hN3 := news3 ((cell_of_row _ _ 0 _ _ _ kX).trans (by rfl : _ = some (.int .i64 f))) ((cell_of_row _ _ 1 _ _ _ kX).trans (by rfl : _ = some (.int .i64 td))) ((cell_of_row _ _ 2 _ _ _ kX).trans (by rfl : _ = some (.bool false)))
        go_wp2_with (at_builtin; refine stp ?_)
        unfold Stp
        refine wpList_append_lies _ rfl _ _ 68 rfl (x + 2) 148 i1 _ 3 24 Tryz.underlying68 hi1 hy0 hy1 hy2 rfl (by omega) (.slice Ar acc.length cr) acc.length (rgCells acc) rfl (ownsRow_below HOWA.out hbX) ⟨wa.heap.size, 0, none⟩ 1 1 [.int .i64 f, .int .i64 td, .bool false] rfl rfl hN3 (by simp [Value.oneCell']) (by omega) (by simp only [maxLen]; omega) (by omega) (by simp; omega) _ rfl ?_
        intro gg cap2 w5 hown5 hgrow5 hat5 hlt5
        have hownX := ownsRow_below HOWA.out hbX
        have hg6X := (hbX.block _ (lt_of_block hg6a)).trans hg6a
        have hg65 := (hgrow5.block (x + 3) (lt_of_block hg6X) (own_apart hownX hg6X (by decide))).trans hg6X
        have HB5 := Lib.hid (((HBA.out.trans (hbX.mono (show x + 2 ≤ wa.heap.size by omega))).grown hgrow5 (by simp; omega) (fun k hk => (ownBlk hownX hk).1)).setCell (p := ⟨x + 3, 1, none⟩) (show x + 2 ≤ x + 3 by omega) (.slice (some ⟨gg, 0, none⟩) (acc.length + 1) cap2))
        have s5 := (cell_of_row _ _ 1 _ _ _ hg65).trans (by rfl : _ = some (.slice Ar acc.length cr))
        have f5 := frozen_of_row _ _ 1 _ _ hg65
        have G6 : Hid ((w5.setCell ⟨x + 3, 1, none⟩ (.slice (some ⟨gg, 0, none⟩) (acc.length + 1) cap2)).heap[x + 3]? = some (.cells #[.int .i64 bm, .slice (some ⟨gg, 0, none⟩) (acc.length + 1) cap2] 70 (0, 0))) := by
          rw [Hid, heapq_set, if_pos rfl, hg65]
          simp [objSet_cells]
        have OW6 : Hid ((w5.setCell ⟨x + 3, 1, none⟩ (.slice (some ⟨gg, 0, none⟩) (acc.length + 1) cap2)).ownsRow (x + 2) 148 3 (.slice (some ⟨gg, 0, none⟩) (acc.length + 1) cap2) (acc.length + 1) (rgCells acc ++ [.int .i64 f, .int .i64 td, .bool false])) :=
          own_keep hown5 (fun k cur hk => by
            rw [heapq_set, if_neg]
            rintro rfl
            rw [hg65] at hk
            simp at hk)
        clear hown5 hgrow5 hat5 hlt5 hownX hg6X hg65 hg6a s1 hN3 kX hbX t0 t1 t2
        go_wp2
        go_roundw
        case rel => exact ⟨k + 1, acc ++ [(f, td, false)], some ⟨gg, 0, none⟩, cap2, by omega, by simp; omega, by go_num, by simpa using G6.out, by simpa [rgCells, rgVals] using OW6.out, HN.out, HB5.out⟩
        case measure => simp [intOf]; omega
      | true =>
        cases hany : bs.any (fun b => withinB b f td) with
        | true =>
          rw [hany] at CF
          have HN : Hid (acc ++ (l.drop (k + 1)).filter (keepB bs) = F) := by
            have := HE.out
            rw [HS.out, List.filter_cons_of_neg (by simp [keepB, hany])] at this
            exact this
          clear hany
          go_wp2_with (go_at_call 115; refine CF.mono ?_; rintro e w' ⟨rfl, rfl⟩)
          go_roundw
          case rel => exact ⟨k + 1, acc, Ar, cr, by omega, by omega, by go_num, hg6a, HOWA.out, HN.out, HBA.out⟩
          case measure => simp [intOf]; omega
        | false =>
          rw [hany] at CF
          have HK : Hid (keepB bs (f, td, true) = true) := by simp [Hid, keepB, hany]
          clear hany
          have HN : Hid ((acc ++ [(f, td, true)]) ++ (l.drop (k + 1)).filter (keepB bs) = F) := by
            have := HE.out
            rw [HS.out, List.filter_cons_of_pos HK.out] at this
            rw [Hid, List.append_assoc]
            exact this
          have s1 := (cell_of_row _ _ 1 _ _ _ hg6a).trans (by rfl : _ = some (.slice Ar acc.length cr))
          go_upto_region 7 with (go_at_call 115; refine CF.mono ?_; rintro e w' ⟨rfl, rfl⟩)
          have hbX : Below wa.heap.size wa (wa.alloc (.cells #[.int .i64 f, .int .i64 td, .bool true] 148)) := (Below.refl _ _).alloc (Nat.le_refl _) _
          have kX : (wa.alloc (.cells #[.int .i64 f, .int .i64 td, .bool true] 148)).heap[wa.heap.size]? = some (.cells #[.int .i64 f, .int .i64 td, .bool true] 148 (0, 0)) := by rw [heapq_alloc, if_pos rfl]
          have hN3 := news3 ((cell_of_row _ _ 0 _ _ _ kX).trans (by rfl : _ = some (.int .i64 f))) ((cell_of_row _ _ 1 _ _ _ kX).trans (by rfl : _ = some (.int .i64 td))) ((cell_of_row _ _ 2 _ _ _ kX).trans (by rfl : _ = some (.bool true)))
          go_wp2_with (at_builtin; refine stp ?_)
          unfold Stp
          refine wpList_append_lies _ rfl _ _ 68 rfl (x + 2) 148 i1 _ 3 24 Tryz.underlying68 hi1 hy0 hy1 hy2 rfl (by omega) (.slice Ar acc.length cr) acc.length (rgCells acc) rfl (ownsRow_below HOWA.out hbX) ⟨wa.heap.size, 0, none⟩ 1 1 [.int .i64 f, .int .i64 td, .bool true] rfl rfl hN3 (by simp [Value.oneCell']) (by omega) (by simp only [maxLen]; omega) (by omega) (by simp; omega) _ rfl ?_
          intro gg cap2 w5 hown5 hgrow5 hat5 hlt5
          have hownX := ownsRow_below HOWA.out hbX
          have hg6X := (hbX.block _ (lt_of_block hg6a)).trans hg6a
          have hg65 := (hgrow5.block (x + 3) (lt_of_block hg6X) (own_apart hownX hg6X (by decide))).trans hg6X
          have HB5 := Lib.hid (((HBA.out.trans (hbX.mono (show x + 2 ≤ wa.heap.size by omega))).grown hgrow5 (by simp; omega) (fun k hk => (ownBlk hownX hk).1)).setCell (p := ⟨x + 3, 1, none⟩) (show x + 2 ≤ x + 3 by omega) (.slice (some ⟨gg, 0, none⟩) (acc.length + 1) cap2))
          have s5 := (cell_of_row _ _ 1 _ _ _ hg65).trans (by rfl : _ = some (.slice Ar acc.length cr))
          have f5 := frozen_of_row _ _ 1 _ _ hg65
          have G6 : Hid ((w5.setCell ⟨x + 3, 1, none⟩ (.slice (some ⟨gg, 0, none⟩) (acc.length + 1) cap2)).heap[x + 3]? = some (.cells #[.int .i64 bm, .slice (some ⟨gg, 0, none⟩) (acc.length + 1) cap2] 70 (0, 0))) := by
            rw [Hid, heapq_set, if_pos rfl, hg65]
            simp [objSet_cells]
          have OW6 : Hid ((w5.setCell ⟨x + 3, 1, none⟩ (.slice (some ⟨gg, 0, none⟩) (acc.length + 1) cap2)).ownsRow (x + 2) 148 3 (.slice (some ⟨gg, 0, none⟩) (acc.length + 1) cap2) (acc.length + 1) (rgCells acc ++ [.int .i64 f, .int .i64 td, .bool true])) :=
            own_keep hown5 (fun k cur hk => by
              rw [heapq_set, if_neg]
              rintro rfl
              rw [hg65] at hk
              simp at hk)
          clear hown5 hgrow5 hat5 hlt5 hownX hg6X hg65 hg6a s1 hN3 kX hbX t0 t1 t2
          go_wp2
          go_roundw
          case rel => exact ⟨k + 1, acc ++ [(f, td, true)], some ⟨gg, 0, none⟩, cap2, by omega, by simp; omega, by go_num, by simpa using G6.out, by simpa [rgCells, rgVals] using OW6.out, HN.out, HB5.out⟩
          case measure => simp [intOf]; omega
    · have HF2 : Hid (acc = F) := by
        have := HE.out
        rw [List.drop_eq_nil_iff.2 (by rw [HL.out]; omega), List.filter_nil, List.append_nil] at this
        exact this
      have kz : wr.heap[x + 1]? = some (.cells #[.int .i64 0, .slice none 0 0] 70 (0, 0)) := by
        rw [HBK.out.block (x + 1) (by omega)]
        exact K1.out
      have g0 := (cell_of_row _ _ 0 _ _ _ hg6).trans (by rfl : _ = some (.int .i64 bm))
      have g1 := (cell_of_row _ _ 1 _ _ _ hg6).trans (by rfl : _ = some (.slice Ar acc.length cr))
      have zc0 := (cell_of_row _ _ 0 _ _ _ kz).trans (by rfl : _ = some (.int .i64 0))
      have fz0 := frozen_of_row _ _ 0 _ _ kz
      have ks : (wr.setCell ⟨x + 1, 0, none⟩ (.int .i64 bm)).heap[x + 1]? = some (.cells #[.int .i64 bm, .slice none 0 0] 70 (0, 0)) := by
        rw [heapq_set, if_pos rfl, kz]
        simp [objSet_cells]
      have zs1 := (cell_of_row _ _ 1 _ _ _ ks).trans (by rfl : _ = some (.slice none 0 0))
      have fs1 := frozen_of_row _ _ 1 _ _ ks
      have kf : ((wr.setCell ⟨x + 1, 0, none⟩ (.int .i64 bm)).setCell ⟨x + 1, 1, none⟩ (.slice Ar acc.length cr)).heap[x + 1]? = some (.cells #[.int .i64 bm, .slice Ar acc.length cr] 70 (0, 0)) := by
        rw [heapq_set, if_pos rfl, ks]
        simp [objSet_cells]
      have r0 := (cell_of_row _ _ 0 _ _ _ kf).trans (by rfl : _ = some (.int .i64 bm))
      have r1 := (cell_of_row _ _ 1 _ _ _ kf).trans (by rfl : _ = some (.slice Ar acc.length cr))
      have OWF : Hid (((wr.setCell ⟨x + 1, 0, none⟩ (.int .i64 bm)).setCell ⟨x + 1, 1, none⟩ (.slice Ar acc.length cr)).ownsRow (x + 2) 148 3 (.slice Ar acc.length cr) acc.length (rgCells acc)) :=
        own_keep HOWN.out (fun j cur hj => by
          have hne : x + 1 ≠ j := by
            rintro rfl
            rw [kz] at hj
            simp at hj
          rw [heapq_set, if_neg (fun e => hne e.symm), heapq_set, if_neg (fun e => hne e.symm)])
      have HFIN : Hid (Below x w ((wr.setCell ⟨x + 1, 0, none⟩ (.int .i64 bm)).setCell ⟨x + 1, 1, none⟩ (.slice Ar acc.length cr))) :=
        ((HB.out.trans (HBK.out.mono (by omega))).setCell (by simp only; omega) _).setCell (by simp only; omega) _
      clear kz ks kf hrk hbk
      go_wp2
      refine bodyPost_ret (v := .agg #[.int .i64 bm, .slice Ar acc.length cr]) (by simp [results, Tryz.results77, go_sem, r0, r1]) rfl ⟨Ar, cr, by rw [HF.out, ← HF2.out], by rw [HF.out, ← HF2.out]; exact rd_own OWF.out, HX.out ▸ HFIN.out⟩
end Go.Proofs.YtlbgocgocanloaaGreatDoor
