/- The net of the examples, and that they are as told. -/
import Derived.Test.YtnnnpijepdjanaaGreatB15
import Derived.Test.YtnnnpijepdjanaaGreatC7
namespace Go.Proofs.YtnnnpijepdjanaaGreat
open Go.RowKit

def NetPost1 (w : World) (e : Ending) (w' : World) : Prop :=
  ∃ Ae ce Aa ca, e = .returned (netV Ae 4 ce Aa 4 ca) ∧ NetAt w' w'.heap.size Ae Aa 4 ce 4 exEvs exActs ∧ Below w.heap.size w w'
theorem rd_apart {w : World} {B g t : Nat} {A : Option Addr} {xs : List Value} {cs : Array Value} (h : Rd w B A xs) (hg : w.heap[g]? = some (.cells cs t (0, 0))) (hcs : ∀ (i : Nat) (u : Value), u ∈ xs → cs[i]? ≠ some u) : ∀ (k : Nat) (u : Value), xs[k]? = some u → ∀ b off, A = some ⟨b, off, none⟩ → b ≠ g := by
  intro k u hk b off hA he
  obtain ⟨b', off', hA', _, hc⟩ := h k u hk
  rw [hA] at hA'
  simp only [Option.some.injEq, Addr.mk.injEq, and_true] at hA'
  obtain ⟨rfl, rfl⟩ := hA'
  subst he
  rw [cell_of_row w b _ _ _ _ hg] at hc
  exact hcs _ _ (List.mem_of_getElem? hk) hc
theorem strs_no (l : List ByteArray) (A A' : Option Addr) (n n' c c' : Nat) : ∀ (i : Nat) (u : Value), u ∈ strCells l → (#[Value.slice A n c, Value.slice A' n' c'])[i]? ≠ some u := by
  intro i u hu
  obtain ⟨m, _, rfl⟩ : ∃ m, m ∈ l ∧ Value.string m = u := by simpa [strCells] using hu
  match i with
  | 0 => simp
  | 1 => simp
  | i + 2 => simp
theorem acts_no (l : List Act) (A A' : Option Addr) (n n' c c' : Nat) : ∀ (i : Nat) (u : Value), u ∈ actCells l → (#[Value.slice A n c, Value.slice A' n' c'])[i]? ≠ some u := by
  intro i u hu
  obtain ⟨m, rfl⟩ : ∃ m, Value.int .i64 m = u := by
    rw [actCells, List.mem_flatMap] at hu
    obtain ⟨a, _, ha⟩ := hu
    simp only [actVals, List.mem_cons, List.not_mem_nil, or_false] at ha
    rcases ha with rfl | rfl | rfl | rfl | rfl | rfl <;> exact ⟨_, rfl⟩
  match i with
  | 0 => simp
  | 1 => simp
  | i + 2 => simp
set_option maxRecDepth 100000 in
theorem Net_ex (w : World) : Calls Tryz.prog 19 #[] w (NetPost1 w) := by
  have TX := fun W => Text_any W
  have PX := fun W => Parse_ex W
  unfold NetPost netV at PX
  have k0 : (w.alloc (.cells #[.slice none 0 0, .slice none 0 0] 25)).heap[w.heap.size]? = some (.cells #[.slice none 0 0, .slice none 0 0] 25 (0, 0)) := by rw [heapq_alloc, if_pos rfl]
  have hb0 : Below w.heap.size w (w.alloc (.cells #[.slice none 0 0, .slice none 0 0] 25)) := (Below.refl _ _).alloc (Nat.le_refl _) _
  have hs0 := hb0.size
  have HB := Lib.hid hb0
  clear hb0
  go_enter Tryz.func19, Tryz.ntmps19
  go_upto_region 1 with (fail)
  generalize w.alloc (.cells #[.slice none 0 0, .slice none 0 0] 25) = w0 at *
  go_upto_region 2 with (first | (go_at_call 34; refine (TX _).mono ?_; rintro e w' ⟨rfl, rfl⟩) | (go_at_call 33; refine (PX _).mono ?_; rintro e w1 ⟨Ae, ce, Aa, ca, a, b, rfl, hN, hb1⟩))
  have kn := blk hb1 k0
  have NE := rd_apart hN.re kn (strs_no _ _ _ _ _ _ _)
  have NA := rd_apart hN.ra kn (acts_no _ _ _ _ _ _ _)
  have hbA : Below w1.heap.size w1 ((w1.alloc (.cells #[.slice Ae 4 ce, .slice Aa 4 ca] 25)).alloc (.cells #[.int .i64 a, .int .i64 b] 86)) := ((Below.refl _ _).alloc (Nat.le_refl _) _).alloc (by simp) _
  have kt : ((w1.alloc (.cells #[.slice Ae 4 ce, .slice Aa 4 ca] 25)).alloc (.cells #[.int .i64 a, .int .i64 b] 86)).heap[w1.heap.size]? = some (.cells #[.slice Ae 4 ce, .slice Aa 4 ca] 25 (0, 0)) := by rw [heapq_alloc, if_neg (by simp), heapq_alloc, if_pos rfl]
  have k1 := blk hbA kn
  have HRE := Lib.hid (And.intro (hN.re.below hbA) (And.intro hbA.size NE))
  have HRA := Lib.hid (And.intro (hN.ra.below hbA) (And.intro hbA.size NA))
  have HN := Lib.hid hN
  have HBE := Lib.hid (HB.out.trans ((hb1.trans (hbA.mono hb1.size)).mono hs0))
  clear kn hbA hb1 k0 HB hN NE NA TX PX
  generalize (w1.alloc (.cells #[.slice Ae 4 ce, .slice Aa 4 ca] 25)).alloc (.cells #[.int .i64 a, .int .i64 b] 86) = w2 at *
  obtain ⟨c0, c1⟩ := cells2 kt
  obtain ⟨r0, r1, q0, q1⟩ := res2 k1
  have HZ := Lib.hid k1
  clear kt k1
  go_wp2
  refine bodyPost_ret (v := netV Ae 4 ce Aa 4 ca) (by simp [results, Tryz.results19, go_sem, netV, r0, r1]) rfl ⟨Ae, ce, Aa, ca, rfl, ⟨rfl, rfl, rd_set2 HRE.out, rd_set2 HRA.out, HN.out.hz, HN.out.hc⟩, ?_⟩
  exact (HBE.out.setCell (p := ⟨w.heap.size, 0, none⟩) (Nat.le_refl _) _).setCell (p := ⟨w.heap.size, 1, none⟩) (Nat.le_refl _) _
theorem rd_alloc4 (w : World) (a b c d : Int) : Rd (w.alloc (.cells #[.int .i64 a, .int .i64 b, .int .i64 c, .int .i64 d] 3)) (w.alloc (.cells #[.int .i64 a, .int .i64 b, .int .i64 c, .int .i64 d] 3)).heap.size (some ⟨w.heap.size, 0, none⟩) (intCells [a, b, c, d]) := by
  have hk : (w.alloc (.cells #[.int .i64 a, .int .i64 b, .int .i64 c, .int .i64 d] 3)).heap[w.heap.size]? = some (.cells #[.int .i64 a, .int .i64 b, .int .i64 c, .int .i64 d] 3 (0, 0)) := by rw [heapq_alloc, if_pos rfl]
  intro k u hu
  refine ⟨w.heap.size, 0, rfl, lt_of_block hk, ?_⟩
  rw [Nat.zero_add, cell_of_row _ _ _ _ _ _ hk]
  simpa [intCells] using hu
theorem ex_netR : NetR exEvs exActs := ⟨by decide, by decide, by decide +kernel, by decide, ex_right⟩
set_option maxRecDepth 100000 in
theorem Awake_any (w : World) : Calls Tryz.prog 4 #[] w fun e w' => e = .returned (.bool true) ∧ Below w.heap.size w w' := by
  have NX := fun W => Net_ex W
  have EA := fun (W : World) (Ae Aa : Option Addr) (ce ca : Nat) (h : NetAt W W.heap.size Ae Aa 4 ce 4 exEvs exActs) (At : Option Addr) (ct : Nat) (ht : Rd W W.heap.size At (intCells [0, 35, 0, 0])) => Earliest_any W W.heap.size Ae Aa 4 ce 4 ca exEvs exActs h (Nat.le_refl _) ex_netR At ct [0, 35, 0, 0] rfl ht (by simp) (fun _ i u hu => by
    rw [show ([0, 35, 0, 0] : List Int).map some = [some 0, some 35, some 0, some 0] from rfl, ex_early] at hu
    match i with
    | 0 => simp [farAt] at hu; omega
    | 1 => simp [farAt] at hu; omega
    | 2 => simp [farAt] at hu; omega
    | 3 => simp [farAt] at hu; omega
    | i + 4 => simp [farAt] at hu)
  rw [show ([0, 35, 0, 0] : List Int).map some = [some 0, some 35, some 0, some 0] from rfl, ex_early] at EA
  have BT := fun (W : World) (Ae Aa : Option Addr) (ce ca : Nat) (h : NetAt W W.heap.size Ae Aa 4 ce 4 exEvs exActs) => Between_any W W.heap.size Ae Aa 4 ce 4 ca exEvs exActs h (Nat.le_refl _) ex_netR 1 3 (by omega) (by omega) (by omega) ex_zero
  rw [ex_alone] at BT
  have IS := fun (A1 A2 : Option Addr) (c1 c2 B1 B2 : Nat) (W : World) (h1 : Rd W B1 A1 (intCells [15, 35, 40, 45])) (h2 : Rd W B2 A2 (intCells [15, 35, 40, 45])) (hB1 : B1 ≤ W.heap.size) (hB2 : B2 ≤ W.heap.size) => Ints_same A1 A2 4 c1 c2 B1 B2 [15, 35, 40, 45] W (by omega) rfl h1 h2 hB1 hB2
  unfold NetPost1 netV at NX
  have EB : ∀ (W : World) (Ae Aa : Option Addr) (ce ca : Nat) (_ : NetAt W W.heap.size Ae Aa 4 ce 4 exEvs exActs) (At : Option Addr) (ct : Nat) (_ : Rd W W.heap.size At (intCells [0, 35, 0, 0])), Calls Tryz.prog 16 #[.agg #[.slice Ae 4 ce, .slice Aa 4 ca], .slice At 4 ct] W fun e w' => ∃ A c, e = .returned (.tuple #[.slice A 4 c, .int .i64 0]) ∧ Rd w' w'.heap.size A (intCells [15, 35, 40, 45]) ∧ Below W.heap.size W w' := by
    intro W Ae Aa ce ca h At ct ht
    refine (EA W Ae Aa ce ca h At ct ht).mono ?_
    rintro e w' ⟨h | ⟨_, A, c, qs, hq, _, he, hr⟩, hb⟩
    · cases h.1
    · have hq2 := congrArg (List.map fun o : Option Int => o.getD 0) hq
      rw [List.map_map, show ((fun o : Option Int => o.getD 0) ∘ some) = id from rfl, List.map_id] at hq2
      have hq2 : [15, 35, 40, 45] = qs := hq2
      exact ⟨A, c, he, by rw [hq2]; exact hr, hb⟩
  have BB : ∀ (W : World) (Ae Aa : Option Addr) (ce ca : Nat) (_ : NetAt W W.heap.size Ae Aa 4 ce 4 exEvs exActs), Calls Tryz.prog 20 #[.agg #[.slice Ae 4 ce, .slice Aa 4 ca], .int .i64 1, .int .i64 3] W fun e w' => ∃ A n c, e = .returned (.tuple #[.int .i64 10, .slice A n c, .int .i64 0]) ∧ Below W.heap.size W w' := by
    intro W Ae Aa ce ca h
    refine (BT W Ae Aa ce ca h).mono ?_
    rintro e w' ⟨⟨A, n, c, he⟩, hb⟩
    exact ⟨A, n, c, he, hb⟩
  clear EA BT
  go_enter Tryz.func4, Tryz.ntmps4
  go_upto_region 2 with (first | (go_at_call 19; refine (NX _).mono ?_; rintro e w1 ⟨Ae, ce, Aa, ca, rfl, hN, hb1⟩; have hbS : Below w1.heap.size w1 (w1.alloc (.cells #[.int .i64 0, .int .i64 35, .int .i64 0, .int .i64 0] 3)) := (Below.refl _ _).alloc (Nat.le_refl _) _; have hN2 := (hN.below hbS).mono hbS.size; have hR2 : Rd (w1.alloc (.cells #[.int .i64 0, .int .i64 35, .int .i64 0, .int .i64 0] 3)) (w1.alloc (.cells #[.int .i64 0, .int .i64 35, .int .i64 0, .int .i64 0] 3)).heap.size (some ⟨w1.heap.size, 0, none⟩) (intCells [0, 35, 0, 0]) := rd_alloc4 _ _ _ _ _) | (go_at_call 16; refine (EB _ _ _ _ _ hN2 _ _ hR2).mono ?_; rintro e w2 ⟨A, c, rfl, hr, hb2⟩))
  have hbP := hb1.trans ((hbS.trans (hb2.mono hbS.size)).mono hb1.size)
  clear hN hN2 hR2 hbS hb1 hb2 EB
  go_upto_region 3 with (first | (go_at_call 19; refine (NX _).mono ?_; rintro e w3 ⟨Ae', ce', Aa', ca', rfl, hN, hb3⟩) | (go_at_call 20; refine (BB _ _ _ _ _ hN).mono ?_; rintro e w4 ⟨A', n', c', rfl, hb4⟩))
  have hb24 := hb3.trans (hb4.mono hb3.size)
  have hr4 := (hr.below hb24).mono hb24.size
  have hbQ := hbP.trans (hb24.mono hbP.size)
  have hbS : Below w4.heap.size w4 (w4.alloc (.cells #[.int .i64 15, .int .i64 35, .int .i64 40, .int .i64 45] 3)) := (Below.refl _ _).alloc (Nat.le_refl _) _
  have hRa := (hr4.below hbS).mono hbS.size
  have hRb := rd_alloc4 w4 15 35 40 45
  have HBS := Lib.hid (hbQ.trans (hbS.mono hbQ.size))
  have HSZ := Lib.hid (Nat.le_trans hbQ.size hbS.size)
  clear hb3 hb4 hb24 hbP hbQ hbS hr hr4 hN NX BB
  go_wp2_with (go_at_call 17; refine (IS _ _ _ _ _ _ _ hRa hRb (Nat.le_refl _) (Nat.le_refl _)).mono ?_; rintro e w5 ⟨rfl, hb5⟩)
  go_ret
  exact ⟨rfl, HBS.out.trans (hb5.mono HSZ.out)⟩
end Go.Proofs.YtnnnpijepdjanaaGreat
