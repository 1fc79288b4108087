/- The code: the order of events by their times. The code: numbers sorted, in memory of the call's own. The code: what becomes of delays: what stands in memory. -/
import Derived.Test.YtnnnpijepdjanaaGreatM1
import Derived.Test.YtnnnpijepdjanaaGreatSort
import Derived.Shelf.SlSortCmp.Whole1
import Derived.Test.YtnnnpijepdjanaaGreatShelf
import Derived.Test.YtnnnpijepdjanaaGreatB8
import Derived.Test.YtnnnpijepdjanaaGreatH0
namespace Go.Proofs.YtnnnpijepdjanaaGreat
open Go.RowKit

def natCells (l : List Nat) : List Value := l.map fun (i : Nat) => Value.int .i64 ((i : Nat) : Int)
def OrdPost (w : World) (blk ne : Nat) (l : List Int) (e : Ending) (w' : World) : Prop :=
  e = .returned (.tuple #[]) ∧ ∃ ord : List Nat, ord.Perm (List.range ne) ∧ ord.Pairwise (tmLt l) ∧ (∀ k u, (natCells ord)[k]? = some u → w'.cell? ⟨blk, k, none⟩ = some u) ∧ (∀ k, k < w.heap.size → k ≠ blk → w'.heap[k]? = w.heap[k]?) ∧ Below blk w w'
/-- the comparison of two events -/
def cfT (ne : Nat) (l : List Int) (x y : Fin ne) : Int := orI (gt l x.val - gt l y.val) ((x.val : Int) - y.val)
theorem cfT_lt {ne : Nat} {l : List Int} (x y : Fin ne) : cfT ne l x y < 0 ↔ tmLt l x.val y.val := by
  unfold cfT orI tmLt
  by_cases h : gt l x.val - gt l y.val = 0
  · rw [if_pos h]
    omega
  · rw [if_neg h]
    omega
def encF (ne : Nat) (i : Fin ne) : Value := .int .i64 ((i.val : Nat) : Int)

open Go.Shelf Go.Sort in
theorem swoT (ne : Nat) (l : List Int) : SWO (ltOf (cfT ne l)) where
  irrefl x := by
    show decide (cfT ne l x x < 0) = false
    rw [decide_eq_false_iff_not, cfT_lt]
    unfold tmLt
    omega
  trans x y z h1 h2 := by
    simp only [ltOf, decide_eq_true_eq, cfT_lt] at *
    unfold tmLt at *
    omega
  ntrans x y z h1 h2 := by
    simp only [ltOf, decide_eq_false_iff_not, cfT_lt] at *
    unfold tmLt at *
    omega
open Go.Shelf Go.Sort in
theorem sortT_size {α : Type} [Inhabited α] (enc : α → Value) (w : World) (blk off m : Nat) (d : Array α) : (putRow enc (Sort.ahead w m) blk off d).heap.size = w.heap.size := by
  simp [putRow, mapBlock, Sort.ahead]
open Go.Shelf Go.Sort in
theorem sortT_heap {α : Type} [Inhabited α] (enc : α → Value) (w : World) (blk off m : Nat) (d : Array α) (os : Array Obj) (k : Nat) (hk : k < w.heap.size) (hne : k ≠ blk) : (sortWorld enc w blk off m d os).heap[k]? = w.heap[k]? := by
  show (grow (putRow enc (Sort.ahead w m) blk off d) os).heap[k]? = _
  rw [heap_grow_old _ _ (by rw [sortT_size]; exact hk)]
  simp only [putRow, mapBlock, Sort.ahead, Array.getElem?_modify]
  rw [if_neg (fun e => hne e.symm)]
open Go.Shelf Go.Sort in
theorem sortT_below {α : Type} [Inhabited α] (enc : α → Value) (w : World) (blk off m : Nat) (d : Array α) (os : Array Obj) (hb : blk ≤ w.heap.size) : Go.RowKit.Below blk w (sortWorld enc w blk off m d os) := by
  refine ⟨rfl, rfl, rfl, ?_, ?_⟩
  · show w.heap.size ≤ (grow (putRow enc (Sort.ahead w m) blk off d) os).heap.size
    rw [size_grow, sortT_size]
    omega
  · intro k hk
    exact sortT_heap enc w blk off m d os k (by omega) (by omega)

open Go.Shelf Go.Sort in
set_option maxHeartbeats 1000000 in
theorem SortTimes_any (w : World) (blk cap ne : Nat) (B : Nat) (l : List Int) (x : Nat) (At : Option Addr) (ct : Nat) (Bt : Nat) (h1 : 1 ≤ ne) (hne : ne ≤ 1000) (h : w.ownsRow B 3 1 (.slice (some ⟨blk, 0, none⟩) ne cap) ne (natCells (List.range ne)))
    (hl : l.length = ne) (hx : w.heap[x]? = some (.cells #[.slice At ne ct] 26 (0, 0))) (ht : Rd w Bt At (intCells l)) (hBt : Bt ≤ blk) (hr : ∀ t ∈ l, 0 ≤ t ∧ t ≤ 10000000) :
    Calls Tryz.prog 46 #[.slice (some ⟨blk, 0, none⟩) ne cap, .func (.func 47) #[] #[.pointer (some ⟨x, 0, none⟩)]] w (OrdPost w blk ne l) := by
  have hblk : blk < w.heap.size := (ownBlk h rfl).2.1
  have hxb : x ≠ blk := by
    obtain ⟨_, _, cur, h9⟩ := ownBlk h rfl
    rintro rfl
    rw [hx] at h9
    cases h9
  haveI : Inhabited (Fin ne) := ⟨⟨0, h1⟩⟩
  have hd : ((List.finRange ne).toArray).size = ne := by simp
  have hcell : ∀ (d : Array (Fin ne)) (j : Nat), j < d.size → encF ne d[j]! = .int .i64 (((d[j]!).val : Nat) : Int) := fun _ _ _ => rfl
  have hH : Holds (encF ne) w blk 0 (List.finRange ne).toArray := by
    intro j hj
    have hj' : j < ne := by simpa using hj
    refine ⟨?_, by simpa using h.frozenAt (0 + j)⟩
    rw [Nat.zero_add, h.cellAt j (by omega), getElem!_pos _ j hj]
    simp [natCells, encF, hj']
  have hcmp : CmpLays1 Tryz.prog 47 #[.pointer (some ⟨x, 0, none⟩)] (encF ne) (cfT ne l) blk 0 ((List.finRange ne).toArray).size w := by
    intro m os dk hs y z
    have hx' : (sortWorld (encF ne) w blk 0 m dk os).heap[x]? = some (.cells #[.slice At ne ct] 26 (0, 0)) := (sortT_heap _ _ _ _ _ _ _ x (Array.getElem?_eq_some_iff.1 hx).1 hxb).trans hx
    have ht' : Rd (sortWorld (encF ne) w blk 0 m dk os) Bt At (intCells l) := ht.below ((sortT_below (encF ne) w blk 0 m dk os (Nat.le_of_lt hblk)).mono hBt)
    exact byTime_any _ y.val z.val x ne Bt At ct l hl hx' ht' y.isLt z.isLt hne hr
  have eg : ∀ args w, (callFunc 47 args).run Tryz.prog w = .ok (.enter 47 args) w := enters_of Tryz.func47 (by kernel_rfl) rfl
  have hS := Any.slices_SortFunc Tryz.laysSort46 (encF ne) (fun _ => rfl) (cfT ne l) (swoT ne l) 47 #[.pointer (some ⟨x, 0, none⟩)] blk 0 cap (List.finRange ne).toArray w eg hcmp hH hblk (by rw [hd]; omega)
  rw [hd] at hS
  refine Calls.mono hS ?_
  rintro e w' ⟨rfl, d, n, os, hp, hs, rfl⟩
  obtain ⟨p1, _, p3⟩ := hp
  have hdn : d.size = ne := by rw [p1, hd]
  have hperm : d.toList.Perm (List.finRange ne) := by
    rw [Array.extract_eq_self_of_le (by omega), Array.extract_eq_self_of_le (by omega)] at p3
    simpa using p3
  have hpm : (d.toList.map Fin.val).Perm (List.range ne) := by
    have h9 := hperm.map Fin.val
    rwa [show (List.finRange ne).map Fin.val = List.range ne from List.ext_getElem (by simp) (by intros; simp)] at h9
  refine ⟨rfl, d.toList.map Fin.val, hpm, ?_, ?_, fun k hk hne => sortT_heap _ _ _ _ _ _ _ k hk hne, sortT_below _ _ _ _ _ _ _ (Nat.le_of_lt hblk)⟩
  · rw [List.pairwise_iff_getElem]
    intro i j hi hj hij
    have hi' : i < d.size := by simpa using hi
    have hj' : j < d.size := by simpa using hj
    have h9 := hs i j (Nat.zero_le _) hij (by omega)
    rw [getElem!_pos d j hj', getElem!_pos d i hi'] at h9
    have h8 : ¬ tmLt l (d[j]).val (d[i]).val := by
      rw [← cfT_lt]
      simpa [ltOf] using h9
    have hnd := (List.pairwise_iff_getElem.1 (hpm.nodup_iff.2 List.nodup_range)) i j hi hj hij
    simp only [List.getElem_map, Array.getElem_toList] at hnd ⊢
    unfold tmLt at *
    omega
  · intro k u hu
    have hk : k < d.size := by
      have := (List.getElem?_eq_some_iff.1 hu).1
      simpa [natCells] using this
    show World.cell? (grow (putRow (encF ne) (Sort.ahead w n) blk 0 d) os) _ = _
    rw [cell?_grow _ _ _ (by rw [sortT_size]; exact hblk)]
    have h9 := cell?_putRow (encF ne) (Sort.ahead w n) blk 0 (List.finRange ne).toArray d hH (by rw [hd, hdn]) k hk
    rw [Nat.zero_add] at h9
    rw [h9, ← hu, getElem!_pos d k hk]
    simp [natCells, encF, hk]
end Go.Proofs.YtnnnpijepdjanaaGreat

namespace Go.Proofs.YtnnnpijepdjanaaGreat
open Go.RowKit

def SortGPost (w : World) (B : Nat) (Ag : Option Addr) (m : Nat) (G : List Int) (e : Ending) (w' : World) : Prop :=
  e = .returned (.tuple #[]) ∧ Below B w w' ∧ ∃ G' : List Int, G'.length = m ∧ (∀ x, x ∈ G' ↔ x ∈ G) ∧ Rd w' w'.heap.size Ag (intCells G')
open Go.Shelf Go.Sort in
theorem SortG_any (w : World) (B : Nat) (Ag : Option Addr) (m cg : Nat) (G : List Int) (h : w.ownsRow B 3 1 (.slice Ag m cg) m (intCells G)) (hm : m ≤ 100000) :
    Calls Tryz.prog 49 #[.slice Ag m cg] w (SortGPost w B Ag m G) := by
  have hl : G.length = m := by
    have := h.1
    rwa [intCells_len, Nat.mul_one] at this
  rcases hx : h.2 with ⟨h2, rfl⟩ | ⟨g, cap, cur, h2, _⟩
  · refine (Tryz.slices_Sort_int_none Ag cg w).mono ?_
    rintro e w' ⟨rfl, rfl⟩
    refine ⟨rfl, Go.RowKit.Below.refl _ _, G, hl, fun _ => Iff.rfl, fun k u hk => ?_⟩
    rw [List.length_eq_zero_iff.1 hl] at hk
    simp [intCells] at hk
  · clear hx
    simp only [Value.slice.injEq] at h2
    obtain ⟨rfl, -, rfl⟩ := h2
    have hblk : g < w.heap.size := (ownBlk h rfl).2.1
    have hBg : B ≤ g := (ownBlk h rfl).1
    have hH : Holds (Value.int .i64) w g 0 G.toArray := by
      intro j hj
      have hj' : j < G.length := by simpa using hj
      refine ⟨?_, by simpa using h.frozenAt (0 + j)⟩
      rw [Nat.zero_add, h.cellAt j (by omega)]
      simp [intCells, hj']
    have hS := Tryz.slices_Sort_int g 0 cg G w hH hblk (by omega)
    rw [hl] at hS
    refine hS.mono ?_
    rintro e w' ⟨rfl, n, os, rfl⟩
    obtain ⟨G', hG⟩ : ∃ G', (G.mergeSort fun x y => decide (x ≤ y)) = G' := ⟨_, rfl⟩
    have hperm : G'.Perm G := by
      rw [← hG]
      exact List.mergeSort_perm _ _
    rw [hG]
    have hs : G'.toArray.size = G.toArray.size := by simp [hperm.length_eq]
    refine ⟨rfl, (sortT_below (Value.int .i64) w g 0 n G'.toArray os (Nat.le_of_lt hblk)).mono hBg, G', by rw [hperm.length_eq, hl], fun x => hperm.mem_iff, fun k u hk => ⟨g, 0, rfl, ?_, ?_⟩⟩
    · show g < (grow (putRow (Value.int .i64) (Sort.ahead w n) g 0 G'.toArray) os).heap.size
      rw [size_grow, sortT_size]
      omega
    · have hkl : k < G'.length := by
        have := (List.getElem?_eq_some_iff.1 hk).1
        rwa [intCells_len] at this
      rw [Nat.zero_add]
      show World.cell? (grow (putRow (Value.int .i64) (Sort.ahead w n) g 0 G'.toArray) os) _ = _
      rw [cell?_grow _ _ _ (by rw [sortT_size]; exact hblk)]
      have h9 := cell?_putRow (Value.int .i64) (Sort.ahead w n) g 0 G.toArray G'.toArray hH hs k (by simpa using hkl)
      rw [Nat.zero_add] at h9
      rw [h9, ← hk]
      simp [intCells, hkl]
end Go.Proofs.YtnnnpijepdjanaaGreat

namespace Go.Proofs.YtnnnpijepdjanaaGreat
open Go.RowKit

theorem own_same {w w' : World} {B e size n g c : Nat} {xs : List Value} (h : w.ownsRow B e size (.slice (some ⟨g, 0, none⟩) n c) n xs) (hk : w'.heap[g]? = w.heap[g]?) : w'.ownsRow B e size (.slice (some ⟨g, 0, none⟩) n c) n xs := by
  refine ⟨h.1, ?_⟩
  rcases h.2 with h2 | ⟨g', cap, cur, h1, h2, h3, h4⟩
  · exact .inl h2
  · have : g = g' := by
      simp only [Value.slice.injEq, Option.some.injEq, Addr.mk.injEq] at h1
      omega
    subst this
    exact .inr ⟨g, cap, cur, h1, h2, hk.trans h3, h4⟩
theorem intCells_set (A : List Int) (v : Nat) (y : Int) : (intCells A).set v (.int .i64 y) = intCells (A.set v y) := by
  simp [intCells, List.map_set]
theorem run_eql_int26 (b off n c : Nat) (W : World) : Sem.run Tryz.prog (binOp BinOp.eql 26 (.slice (some ⟨b, off, none⟩) n c) (.slice none 0 0)) W = .ok (.bool false) W := by kernel_rfl
def RowIPost (w : World) (l : List Int) (n : Nat) (e : Ending) (w' : World) : Prop := ∃ g c, e = .returned (.slice (some ⟨g, 0, none⟩) n c) ∧ w'.ownsRow w.heap.size 3 1 (.slice (some ⟨g, 0, none⟩) n c) n (intCells l) ∧ Below w.heap.size w w'
set_option maxRecDepth 100000 in
theorem CloneI_any (w : World) (B : Nat) (A : Option Addr) (n c : Nat) (l : List Int) (hv : l.length = n) (h1 : 1 ≤ n) (hn : n ≤ 1000) (h : Rd w B A (intCells l)) (hB : B ≤ w.heap.size) :
    Calls Tryz.prog 45 #[.slice A n c] w (RowIPost w l n) := by
  obtain ⟨i1, hi1, hy0, hy1, hy2⟩ := info_parts info3
  have HV := Lib.hid hv
  have hlt : 0 < (intCells l).length := by rw [intCells_len]; omega
  obtain ⟨b, off, rfl, _, hq⟩ := h.at_ (k := 0) (List.getElem?_eq_getElem hlt)
  clear hq
  have qn := run_eql_int26 b off n c
  have h' := h.below (((Below.refl _ _).alloc (Nat.le_refl _) (.cells #[] 3) : Below w.heap.size w (w.alloc (.cells #[] 3))).mono hB)
  have hb0 : Below w.heap.size w (w.alloc (.cells #[] 3)) := (Below.refl _ _).alloc (Nat.le_refl _) _
  clear hv hlt h
  go_enter Tryz.func45, Tryz.ntmps45
  go_wp2_with (at_builtin; refine stp ?_)
  unfold Stp
  refine wpList_append_copy _ rfl _ _ 26 rfl w.heap.size 3 i1 _ 1 8 Tryz.underlying26 hi1 hy0 hy1 hy2 rfl (by omega) w.heap.size rfl (by rw [heapq_alloc, if_pos rfl]) (Nat.le_refl _) B (some ⟨b, off, none⟩) n c (intCells l) rfl (by rw [intCells_len, HV.out, Nat.mul_one]) h' (intCells_one l) (by simp only [maxLen]; omega) (by omega) (by simp) ?_
  intro g cap w1 hown hgrow _
  have hb1 : Below w.heap.size w w1 := hb0.grown hgrow (by simp) (fun k hk => by rw [← Option.some.inj hk]; exact Nat.le_refl _)
  have HR := Lib.hid hown
  have HB := Lib.hid hb1
  clear hown hgrow hb0 hb1 h' qn
  go_wp2
  go_ret
  exact ⟨_, _, rfl, HR.out, HB.out⟩

/-- the world of the day, the actual times being A -/
structure LaG (n0 gA cA ne : Nat) (Ae : Option Addr) (ce : Nat) (Aa : Option Addr) (na ca : Nat) (acts : List Act) (At : Option Addr) (ct : Nat) (times : List Int) (Ad : Option Addr) (ds : List Dl) (A : List Int) (w W : World) : Prop where
  bn : W.heap[n0]? = some (.cells #[.slice Ae ne ce, .slice Aa na ca] 66 (0, 0))
  bt : W.heap[n0 + 1]? = some (.cells #[.slice At ne ct] 26 (0, 0))
  b6 : W.heap[n0 + 2]? = some (.cells #[.slice none 0 0, .slice none 0 0] 34 (0, 0))
  act : W.ownsRow (n0 + 3) 3 1 (.slice (some ⟨gA, 0, none⟩) ne cA) ne (intCells A)
  ra : Rd W n0 Aa (actCells acts)
  rt : Rd W n0 At (intCells times)
  rd : Rd W n0 Ad (dlCells ds)
  low : Below n0 w W
section
variable {n0 gA cA ne : Nat} {Ae : Option Addr} {ce : Nat} {Aa : Option Addr} {na ca : Nat} {acts : List Act} {At : Option Addr} {ct : Nat} {times : List Int} {Ad : Option Addr} {ds : List Dl} {A A' : List Int} {w W V : World}
theorem LaG.gA3 (h : LaG n0 gA cA ne Ae ce Aa na ca acts At ct times Ad ds A w W) : n0 + 3 ≤ gA ∧ gA < W.heap.size := ⟨(ownBlk h.act rfl).1, (ownBlk h.act rfl).2.1⟩
theorem LaG.len (h : LaG n0 gA cA ne Ae ce Aa na ca acts At ct times Ad ds A w W) : A.length = ne := by
  have := h.act.1
  rwa [intCells_len, Nat.mul_one] at this
theorem LaG.keep (h : LaG n0 gA cA ne Ae ce Aa na ca acts At ct times Ad ds A w W) (hb : Below (n0 + 3) W V) (ha : V.ownsRow (n0 + 3) 3 1 (.slice (some ⟨gA, 0, none⟩) ne cA) ne (intCells A')) : LaG n0 gA cA ne Ae ce Aa na ca acts At ct times Ad ds A' w V :=
  have hb0 : Below n0 W V := hb.mono (by omega)
  ⟨(hb.block n0 (by omega)).trans h.bn, (hb.block (n0 + 1) (by omega)).trans h.bt, (hb.block (n0 + 2) (by omega)).trans h.b6, ha, h.ra.below hb0, h.rt.below hb0, h.rd.below hb0, h.low.trans hb0⟩
theorem LaG.below (h : LaG n0 gA cA ne Ae ce Aa na ca acts At ct times Ad ds A w W) (hb : Below W.heap.size W V) : LaG n0 gA cA ne Ae ce Aa na ca acts At ct times Ad ds A w V :=
  h.keep (hb.mono (by have := h.gA3; omega)) (ownsRow_below h.act hb)
theorem LaG.put (h : LaG n0 gA cA ne Ae ce Aa na ca acts At ct times Ad ds A w W) (v : Nat) (y : Int) : LaG n0 gA cA ne Ae ce Aa na ca acts At ct times Ad ds (A.set v y) w (W.setCell ⟨gA, v, none⟩ (.int .i64 y)) := by
  refine h.keep ((Below.refl _ _).setCell (p := ⟨gA, v, none⟩) h.gA3.1 _) ?_
  rw [← intCells_set]
  exact own_set h.act _
theorem LaG.row (h : LaG n0 gA cA ne Ae ce Aa na ca acts At ct times Ad ds A w W) {r : Nat} (hg : W.grownBy V (some r)) (hr : gA < r) : LaG n0 gA cA ne Ae ce Aa na ca acts At ct times Ad ds A w V := by
  obtain ⟨h1, h2⟩ := h.gA3
  exact h.keep ((Below.refl (n0 + 3) W).grown hg (by omega) (fun k hk => by cases hk; omega)) (own_same h.act (hg.block gA h2 (fun e => by cases e; omega)))
theorem LaG.other (h : LaG n0 gA cA ne Ae ce Aa na ca acts At ct times Ad ds A w W) {r j : Nat} (v : Value) (hr : gA < r) : LaG n0 gA cA ne Ae ce Aa na ca acts At ct times Ad ds A w (W.setCell ⟨r, j, none⟩ v) := by
  obtain ⟨h1, h2⟩ := h.gA3
  exact h.keep ((Below.refl _ _).setCell (p := ⟨r, j, none⟩) (show n0 + 3 ≤ r by omega) _) (own_same h.act (by rw [heapq_set, if_neg (show gA ≠ r by omega)]))
theorem LaG.cell (h : LaG n0 gA cA ne Ae ce Aa na ca acts At ct times Ad ds A w W) {v : Nat} (hv : v < ne) : W.cell? ⟨gA, v, none⟩ = some (.int .i64 (gt A v)) ∧ W.frozen? ⟨gA, v, none⟩ = false := by
  have hc := own_cell (i := v) h.act (v := .int .i64 (gt A v)) (by
    have hl := h.len
    rw [intCells, List.getElem?_map, gt_some (by omega)]
    rfl)
  exact ⟨hc.1, hc.2.1⟩
end
end Go.Proofs.YtnnnpijepdjanaaGreat
