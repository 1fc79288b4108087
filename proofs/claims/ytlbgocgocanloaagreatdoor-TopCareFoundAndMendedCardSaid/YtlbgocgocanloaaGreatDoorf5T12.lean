/- The texts of events and findings: the code's and the reference's. -/
import Derived.Test.YtlbgocgocanloaaGreatDoorf5T5
import Derived.Test.YtlbgocgocanloaaGreatDoorf4R7
import Derived.Test.YtlbgocgocanloaaGreatDoorf5Z2
namespace Go.Proofs.YtlbgocgocanloaaGreatDoor
open Go.RowKit
def blank : ByteArray := ⟨#[32]⟩
def I64 (n : Int) : Prop := -9223372036854775808 ≤ n ∧ n ≤ 9223372036854775807
theorem Join_any (a : ByteArray) (d b o : Int) (ha : a.size ≤ 1000000) (hd : I64 d) (hb : I64 b) (ho : I64 o) (w : World) (g : Nat) (h : w.heap[g]? = some (.cells #[.string a, .string (ba (Lib.itoa d)), .string (ba (Lib.itoa b)), .string (ba (Lib.itoa o))] 9 (0, 0))) :
    Calls Tryz.prog 43 #[.slice (some ⟨g, 0, none⟩) 4 4, .string ⟨#[32]⟩] w (StrPost w (ba (fmtF a.data.toList d b o))) := by
  have hlen : (Lib.join ([a, ba (Lib.itoa d), ba (Lib.itoa b), ba (Lib.itoa o)].map (·.data.toList)) (⟨#[32]⟩ : ByteArray).data.toList) = fmtF a.data.toList d b o := by
    simp only [List.map_cons, List.map_nil, ba_data]
    exact fmtF_join _ _ _ _
  have C := Tryz.strings_Join g 0 4 [a, ba (Lib.itoa d), ba (Lib.itoa b), ba (Lib.itoa o)] ⟨#[32]⟩ w (fun j x hj => by
    rw [Nat.zero_add, cell_of_row _ _ _ _ _ _ h]
    match j, hj with
    | 0, hj => simp at hj; subst hj; rfl
    | 1, hj => simp at hj; subst hj; rfl
    | 2, hj => simp at hj; subst hj; rfl
    | 3, hj => simp at hj; subst hj; rfl
    | j + 4, hj => simp at hj) (by
      rcases Nat.lt_or_ge g w.heap.size with h' | h'
      · exact h'
      · rw [Array.getElem?_eq_none h'] at h; cases h) (by simp) (by simp) (by
        rw [hlen]
        have := fmtF_len a.data.toList d b o hd hb ho
        rw [← Lib.size_eq] at this
        omega)
  rw [hlen] at C
  exact C
set_option maxRecDepth 100000 in
set_option maxHeartbeats 4000000 in
theorem FormatFinding_any (a : ByteArray) (d b o : Int) (ha : a.size ≤ 1000000) (hd : I64 d) (hb : I64 b) (ho : I64 o) (w : World) (ht : TxtAt w) :
    Calls Tryz.prog 8 #[.agg #[.string a, .int .i64 d, .int .i64 b, .int .i64 o]] w (StrPost w (ba (fmtF a.data.toList d b o))) := by
  have hb0 : Below w.heap.size w (w.alloc (.cells #[.string a, .int .i64 d, .int .i64 b, .int .i64 o] 25)) := (Below.refl _ _).alloc (Nat.le_refl _) _
  have k0 : (w.alloc (.cells #[.string a, .int .i64 d, .int .i64 b, .int .i64 o] 25)).heap[w.heap.size]? = some (.cells #[.string a, .int .i64 d, .int .i64 b, .int .i64 o] 25 (0, 0)) := by rw [heapq_alloc, if_pos rfl]
  have e0 := (cell_of_row _ _ 0 _ _ _ k0).trans (by rfl : _ = some (.string a))
  have e1 := (cell_of_row _ _ 1 _ _ _ k0).trans (by rfl : _ = some (.int .i64 d))
  have e2 := (cell_of_row _ _ 2 _ _ _ k0).trans (by rfl : _ = some (.int .i64 b))
  have e3 := (cell_of_row _ _ 3 _ _ _ k0).trans (by rfl : _ = some (.int .i64 o))
  have D1 := Itoa_any d hd.1 hd.2
  have D2 := Itoa_any b hb.1 hb.2
  have D3 := Itoa_any o ho.1 ho.2
  have HT := Lib.hid (ht.below hb0)
  have JN := Join_any a d b o ha hd hb ho
  generalize fmtF a.data.toList d b o = F at *
  generalize ba (Lib.itoa d) = s1 at *
  generalize ba (Lib.itoa b) = s2 at *
  generalize ba (Lib.itoa o) = s3 at *
  clear k0 hd hb ho ht
  have x0 := fun x : Xt (w.alloc (.cells #[.string a, .int .i64 d, .int .i64 b, .int .i64 o] 25)) => x.cell e0
  have x1 := fun x : Xt (w.alloc (.cells #[.string a, .int .i64 d, .int .i64 b, .int .i64 o] 25)) => x.cell e1
  have x2 := fun x : Xt (w.alloc (.cells #[.string a, .int .i64 d, .int .i64 b, .int .i64 o] 25)) => x.cell e2
  have x3 := fun x : Xt (w.alloc (.cells #[.string a, .int .i64 d, .int .i64 b, .int .i64 o] 25)) => x.cell e3
  clear e0 e1 e2 e3
  go_enter Tryz.func8, Tryz.ntmps8
  go_upto_region 1 with (fail)
  generalize (w.alloc (.cells #[.string a, .int .i64 d, .int .i64 b, .int .i64 o] 25)) = w0 at *
  refine wp_region_cut [] [0, 1, 2, 3, 4, 5, 6, 7, 8, 9, 10] 11 [12, 13] (fun w' => ∃ x : Xt w0, w' = x.1) (by kernel_rfl) (by kernel_rfl) ⟨⟨w0.drew, (Below.refl _ _).drew⟩, rfl⟩ ?_
  simp only [opsAt_nil, opsAt_cons, consOpt_some, List.getElem?_toArray, List.getElem?_cons_zero, List.getElem?_cons_succ]
  refine wpQuiet_nil ?_
  show wpQuiet _ _ _ _ _ _
  repeat (go_big_quiet_step (first | (go_at_call_of 42 (Value.int .i64 d); exact Xt.calls (D1 _ (HT.out.below (xprop _)))) | (go_at_call_of 42 (Value.int .i64 b); exact Xt.calls (D2 _ (HT.out.below (xprop _)))) | (go_at_call_of 42 (Value.int .i64 o); exact Xt.calls (D3 _ (HT.out.below (xprop _))))))
  refine wpQuiet_nil ?_
  intro w2 hx
  have hb2 := Xt.below hx
  clear hx x0 x1 x2 x3
  have hb3 : Below w.heap.size w w2 := hb0.trans (hb2.mono hb0.size)
  have HB3 := Lib.hid hb3
  have hs3 := hb3.size
  clear hb0 hb2 hb3
  have JN2 := fun C => JN (w2.alloc (.cells C 9)) w2.heap.size
  have hrow : ∀ C : Array Value, (w2.alloc (.cells C 9)).heap[w2.heap.size]? = some (.cells C 9 (0, 0)) := fun C => by rw [heapq_alloc, if_pos rfl]
  go_wp2_with (go_at_call 43; refine (JN2 _ (hrow _)).mono ?_; rintro e w' ⟨rfl, hb4⟩)
  refine onlyNormal_mk ?_
  go_wp2
  go_ret
  exact ⟨rfl, (HB3.out.alloc hs3 _).trans (hb4.mono (by simp; omega))⟩
end Go.Proofs.YtlbgocgocanloaaGreatDoor

/- What a text of a finding tells: the code's and the reference's. -/
namespace Go.Proofs.YtlbgocgocanloaaGreatDoor
open Go.RowKit
def zeroFd (E : Int) : Value := .tuple #[.agg #[.string ⟨#[]⟩, .int .i64 0, .int .i64 0, .int .i64 0], .int .i64 E]
/-- what ParseFinding returns -/
def fdP (r : Option (List UInt8 × Int × Int × Int)) : Value := match r with
  | none => zeroFd 7
  | some t => if fdE (ba t.1, t.2.1, t.2.2.1, t.2.2.2) = 0 then .tuple #[.agg #[.string (ba t.1), .int .i64 t.2.1, .int .i64 t.2.2.1, .int .i64 t.2.2.2], .int .i64 0] else zeroFd (fdE (ba t.1, t.2.1, t.2.2.1, t.2.2.2))
def FdTPost (w : World) (r : Option (List UInt8 × Int × Int × Int)) (e : Ending) (w' : World) : Prop := e = .returned (fdP r) ∧ Below w.heap.size w w'
theorem res4 {W : World} {r t : Nat} {a0 a1 a2 a3 : Value} (h : W.heap[r]? = some (.cells #[a0, a1, a2, a3] t (0, 0))) :
    W.cell? ⟨r, 0, none⟩ = some a0 ∧ W.cell? ⟨r, 1, none⟩ = some a1 ∧ W.cell? ⟨r, 2, none⟩ = some a2 ∧ W.cell? ⟨r, 3, none⟩ = some a3 ∧
    W.frozen? ⟨r, 0, none⟩ = false ∧ W.frozen? ⟨r, 1, none⟩ = false ∧ W.frozen? ⟨r, 2, none⟩ = false ∧ W.frozen? ⟨r, 3, none⟩ = false := by
  refine ⟨?_, ?_, ?_, ?_, frozen_of_row _ _ _ _ _ h, frozen_of_row _ _ _ _ _ h, frozen_of_row _ _ _ _ _ h, frozen_of_row _ _ _ _ _ h⟩ <;> rw [cell_of_row _ _ _ _ _ _ h] <;> rfl
theorem Split_any (s : ByteArray) (hs : s.size ≤ 1000000) (w : World) (ht : TxtAt w) : Calls Tryz.prog 48 #[.string s, .string ⟨#[32]⟩] w (TextsPost w (splB s) (splB s).length) := by
  obtain ⟨m, hm⟩ := ht.mx
  refine (Tryz.strings_Split s ⟨#[32]⟩ m w (by omega) hm (by decide)).mono fun e w' ⟨he, hw⟩ => ⟨some ⟨w.heap.size, 0, none⟩, (splB s).length, ?_, Nat.le_refl _, ?_, ?_⟩
  · rw [he, splitB_len]
  · rw [hw, splitB_spl]
    exact Rd_of_block (t := 9) (fr := (0, 0)) (cs := ((splB s).map Value.string).toArray) (by rw [heapq_alloc, if_pos rfl])
  · rw [hw]
    exact (Below.refl _ _).alloc (Nat.le_refl _) _
def FdSt (x y z : List UInt8) (k : Nat) (v1 v2 v3 : Int) : Prop :=
  (k = 0 ∧ v1 = 0 ∧ v2 = 0 ∧ v3 = 0) ∨ (k = 1 ∧ numL x 9 = some v1 ∧ v2 = 0 ∧ v3 = 0) ∨ (k = 2 ∧ numL x 9 = some v1 ∧ numL y 9 = some v2 ∧ v3 = 0) ∨ (k = 3 ∧ numL x 9 = some v1 ∧ numL y 9 = some v2 ∧ numL z 9 = some v3)
def FdRel (w : World) (Y T : Nat) (hd : List Value) (x y z : List UInt8) (u : Value) (wr : World) : Prop :=
  ∃ (k : Nat) (v1 v2 v3 : Int), u = .int .i64 k ∧ FdSt x y z k v1 v2 v3 ∧ wr.heap[Y]? = some (.cells (hd ++ [Value.int .i64 v1, Value.int .i64 v2, Value.int .i64 v3]).toArray T (0, 0)) ∧ Below Y w wr ∧ Y < wr.heap.size
theorem parF_four {l a x y z : List UInt8} (h : spl l = [a, x, y, z]) (ha : a ≠ []) : parF l = match numL x 9, numL y 9, numL z 9 with
    | some d, some b, some o => some (a, d, b, o)
    | _, _, _ => none := by
  unfold parF
  rw [h]
  simp only
  rw [if_neg ha]
  cases numL x 9 <;> cases numL y 9 <;> cases numL z 9 <;> rfl
theorem parF_no1 {l a x y z : List UInt8} (h : spl l = [a, x, y, z]) (ha : a ≠ []) (h1 : numL x 9 = none) : parF l = none := by
  rw [parF_four h ha, h1]
theorem parF_no2 {l a x y z : List UInt8} (h : spl l = [a, x, y, z]) (ha : a ≠ []) (h1 : numL y 9 = none) : parF l = none := by
  rw [parF_four h ha, h1]
  cases numL x 9 <;> rfl
theorem parF_no3 {l a x y z : List UInt8} (h : spl l = [a, x, y, z]) (ha : a ≠ []) (h1 : numL z 9 = none) : parF l = none := by
  rw [parF_four h ha, h1]
  cases numL x 9 <;> cases numL y 9 <;> rfl
theorem parF_yes {l a x y z : List UInt8} (h : spl l = [a, x, y, z]) (ha : a ≠ []) {d b o : Int} (h1 : numL x 9 = some d) (h2 : numL y 9 = some b) (h3 : numL z 9 = some o) : parF l = some (a, d, b, o) := by
  rw [parF_four h ha, h1, h2, h3]
theorem parF_len {l : List UInt8} (h : (spl l).length ≠ 4) : parF l = none := by
  unfold parF
  match hs : spl l with
  | [] => rfl
  | [_] => rfl
  | [_, _] => rfl
  | [_, _, _] => rfl
  | [a, x, y, z] => rw [hs] at h; simp at h
  | _ :: _ :: _ :: _ :: _ :: _ => rfl
theorem parF_head {l x y z : List UInt8} (h : spl l = [[], x, y, z]) : parF l = none := by
  unfold parF
  rw [h]
  simp
theorem idx_at0 (Y : Nat) (W : World) : Sem.run Tryz.prog (Instr.index 114 (.agg #[.pointer (some ⟨Y, 1, none⟩), .pointer (some ⟨Y, 2, none⟩), .pointer (some ⟨Y, 3, none⟩)]) (.int .i64 0)) W = .ok (.pointer (some ⟨Y, 1, none⟩)) W := by kernel_rfl
theorem idx_at1 (Y : Nat) (W : World) : Sem.run Tryz.prog (Instr.index 114 (.agg #[.pointer (some ⟨Y, 1, none⟩), .pointer (some ⟨Y, 2, none⟩), .pointer (some ⟨Y, 3, none⟩)]) (.int .i64 1)) W = .ok (.pointer (some ⟨Y, 2, none⟩)) W := by kernel_rfl
theorem idx_at2 (Y : Nat) (W : World) : Sem.run Tryz.prog (Instr.index 114 (.agg #[.pointer (some ⟨Y, 1, none⟩), .pointer (some ⟨Y, 2, none⟩), .pointer (some ⟨Y, 3, none⟩)]) (.int .i64 2)) W = .ok (.pointer (some ⟨Y, 3, none⟩)) W := by kernel_rfl
set_option maxRecDepth 100000 in
set_option maxHeartbeats 8000000 in
theorem ParseFinding_any (s : ByteArray) (hs : s.size ≤ 1000000) (w : World) (ht : TxtAt w) : Calls Tryz.prog 10 #[.string s] w (FdTPost w (parF s.data.toList)) := by
  have CC := fun W hW => Split_any s hs W hW
  have hpart := splB_part s
  have hspB : splB s = (spl s.data.toList).map ba := rfl
  have hlenB := splB_len s
  have hb0 : Below w.heap.size w (w.alloc (.cells #[.string ⟨#[]⟩, .int .i64 0, .int .i64 0, .int .i64 0] 25)) := (Below.refl _ _).alloc (Nat.le_refl _) _
  have hr0 : (w.alloc (.cells #[.string ⟨#[]⟩, .int .i64 0, .int .i64 0, .int .i64 0] 25)).heap[w.heap.size]? = some (.cells #[.string ⟨#[]⟩, .int .i64 0, .int .i64 0, .int .i64 0] 25 (0, 0)) := by rw [heapq_alloc, if_pos rfl]
  have hz0 : w.heap.size < (w.alloc (.cells #[.string ⟨#[]⟩, .int .i64 0, .int .i64 0, .int .i64 0] 25)).heap.size := by simp
  have ht0 := ht.below hb0
  clear ht
  by_cases h4 : (spl s.data.toList).length ≠ 4
  · have HR : Hid (parF s.data.toList = none) := parF_len h4
    have hn : (((splB s).length : Nat) : Int) ≠ 4 := by rw [hspB, List.length_map]; omega
    have hn2 : ((((splB s).length : Nat) : Int) != 4) = true := bne_iff_ne.2 hn
    generalize parF s.data.toList = R at *
    generalize (splB s).length = n at *
    clear h4 hpart hspB
    go_enter Tryz.func10, Tryz.ntmps10
    go_upto_region 1 with (fail)
    generalize (w.alloc (.cells #[.string ⟨#[]⟩, .int .i64 0, .int .i64 0, .int .i64 0] 25)) = wa at *
    generalize hxx : w.heap.size = x at *
    have HX := Lib.hid hxx
    clear hxx
    replace CC := CC wa ht0
    go_upto_region 2 with (go_at_call 48; refine CC.mono ?_; rintro e w1 ⟨A, c, rfl, hnc, hrd, hb1⟩)
    obtain ⟨t0, t1, t2, t3, q0, q1, q2, q3⟩ := res4 ((hb1.block x hz0).trans hr0)
    have HB1 : Hid (Below x w w1) := hb0.trans (hb1.mono (by omega))
    clear CC hb0 hr0 hz0 hb1 hrd ht0 hn
    go_wp2
    refine bodyPost_ret (v := fdP R) (by simp [results, Tryz.results10, go_sem, HR.out, fdP, zeroFd, t0, t1, t2, t3]) rfl ⟨rfl, ?_⟩
    rw [HX.out]
    exact ((((HB1.out.setCell (by simp) _).setCell (by simp) _).setCell (by simp) _).setCell (by simp) _)
  have h4' : (spl s.data.toList).length = 4 := by omega
  obtain ⟨a, lx, ly, lz, hsp⟩ : ∃ a x y z, spl s.data.toList = [a, x, y, z] := by
    match hq : spl s.data.toList, h4' with
    | [a, x, y, z], _ => exact ⟨a, x, y, z, rfl⟩
  rw [hsp] at hspB
  simp only [List.map_cons, List.map_nil] at hspB
  rw [hspB] at CC hpart
  simp only [List.length_cons, List.length_nil, Nat.zero_add, Nat.reduceAdd] at CC
  clear h4 h4'
  by_cases ha : a = []
  · subst ha
    have HR : Hid (parF s.data.toList = none) := parF_head hsp
    generalize parF s.data.toList = R at *
    clear hspB hpart hsp
    go_enter Tryz.func10, Tryz.ntmps10
    go_upto_region 1 with (fail)
    generalize (w.alloc (.cells #[.string ⟨#[]⟩, .int .i64 0, .int .i64 0, .int .i64 0] 25)) = wa at *
    generalize hxx : w.heap.size = x at *
    have HX := Lib.hid hxx
    clear hxx
    replace CC := CC wa ht0
    go_upto_region 2 with (go_at_call 48; refine CC.mono ?_; rintro e w1 ⟨A, c, rfl, hnc, hrd, hb1⟩)
    obtain ⟨b, off, rfl, hbB, hc0⟩ := hrd.at_ (k := 0) (u := .string ⟨#[]⟩) rfl
    rw [Nat.add_zero] at hc0
    obtain ⟨t0, t1, t2, t3, q0, q1, q2, q3⟩ := res4 ((hb1.block x hz0).trans hr0)
    have HB1 : Hid (Below x w w1) := hb0.trans (hb1.mono (by omega))
    clear CC hb0 hr0 hz0 hb1 hrd ht0
    go_wp2
    refine bodyPost_ret (v := fdP R) (by simp [results, Tryz.results10, go_sem, HR.out, fdP, zeroFd, t0, t1, t2, t3]) rfl ⟨rfl, ?_⟩
    rw [HX.out]
    exact ((((HB1.out.setCell (by simp) _).setCell (by simp) _).setCell (by simp) _).setCell (by simp) _)
  have hN1 := parF_no1 hsp ha
  have hN2 := parF_no2 hsp ha
  have hN3 := parF_no3 hsp ha
  have hY := fun d b o h1 h2 h3 => parF_yes hsp ha (d := d) (b := b) (o := o) h1 h2 h3
  generalize parF s.data.toList = R at *
  have HN1 := Lib.hid hN1
  have HN2 := Lib.hid hN2
  have HN3 := Lib.hid hN3
  have HY := Lib.hid hY
  have hsa : (ba a).size ≤ 1000000000 := by have := hpart (ba a) (by simp); omega
  have FE := fun d b o W => findingErr_any (ba a) d b o hsa W
  have N1 : ∀ W, TxtAt W → Calls Tryz.prog 47 #[.string (ba lx), .int .i64 ((9 : Nat) : Int)] W (NumPost W lx 9) := fun W hW => by
    have := number_any (ba lx) 9 (by omega) (by have := hpart (ba lx) (by simp); omega) W hW
    rw [ba_data] at this
    exact this
  have N2 : ∀ W, TxtAt W → Calls Tryz.prog 47 #[.string (ba ly), .int .i64 ((9 : Nat) : Int)] W (NumPost W ly 9) := fun W hW => by
    have := number_any (ba ly) 9 (by omega) (by have := hpart (ba ly) (by simp); omega) W hW
    rw [ba_data] at this
    exact this
  have N3 : ∀ W, TxtAt W → Calls Tryz.prog 47 #[.string (ba lz), .int .i64 ((9 : Nat) : Int)] W (NumPost W lz 9) := fun W hW => by
    have := number_any (ba lz) 9 (by omega) (by have := hpart (ba lz) (by simp); omega) W hW
    rw [ba_data] at this
    exact this
  have he1 : (ba a).toList.isEmpty = false := by rw [Lib.toList_data, ba_data]; cases a; exact absurd rfl ha; rfl
  have he2 : ((ba a).toList == []) = false := by rw [Lib.toList_data, ba_data]; exact beq_eq_false_iff_ne.2 ha
  have he3 : (ba a).toList ≠ [] := by rw [Lib.toList_data, ba_data]; exact ha
  have HFP : Hid (∀ d b o, fdP (some (a, d, b, o)) = if fdE (ba a, d, b, o) = 0 then .tuple #[.agg #[.string (ba a), .int .i64 d, .int .i64 b, .int .i64 o], .int .i64 0] else zeroFd (fdE (ba a, d, b, o))) := fun _ _ _ => rfl
  clear hN1 hN2 hN3 hY hspB hpart hsp hsa hs hlenB
  generalize hba : ba a = na at *
  generalize ba lx = nx at *
  generalize ba ly = ny at *
  generalize ba lz = nz at *
  go_enter Tryz.func10, Tryz.ntmps10
  go_upto_region 1 with (fail)
  generalize (w.alloc (.cells #[.string ⟨#[]⟩, .int .i64 0, .int .i64 0, .int .i64 0] 25)) = wa at *
  generalize hxx : w.heap.size = x at *
  have HX := Lib.hid hxx
  clear hxx
  replace CC := CC wa ht0
  go_upto_region 2 with (go_at_call 48; refine CC.mono ?_; rintro e w1 ⟨A, c, rfl, hnc, hrd, hb1⟩)
  obtain ⟨b, off, rfl, hbB, hc0⟩ := hrd.at_ (k := 0) (u := .string na) rfl
  obtain ⟨b1, off1, hA1, _, hc1⟩ := hrd.at_ (k := 1) (u := .string nx) rfl
  obtain ⟨b2, off2, hA2, _, hc2⟩ := hrd.at_ (k := 2) (u := .string ny) rfl
  obtain ⟨b3, off3, hA3, _, hc3⟩ := hrd.at_ (k := 3) (u := .string nz) rfl
  simp only [Option.some.injEq, Addr.mk.injEq, and_true] at hA1 hA2 hA3
  obtain ⟨rfl, rfl⟩ := hA1
  obtain ⟨rfl, rfl⟩ := hA2
  obtain ⟨rfl, rfl⟩ := hA3
  rw [Nat.add_zero] at hc0
  have hr1 := (hb1.block x hz0).trans hr0
  have hx1 : x < w1.heap.size := Nat.lt_of_lt_of_le hz0 hb1.size
  have HB1 : Hid (Below x w w1) := hb0.trans (hb1.mono (by omega))
  have ht1 := ht0.below hb1
  clear CC hb0 hr0 hz0 hb1 hrd ht0
  go_upto_region 5 with (fail)
  have hy1 : (w1.alloc (.cells #[.string na, .int .i64 0, .int .i64 0, .int .i64 0] 25)).heap[w1.heap.size]? = some (.cells #[.string na, .int .i64 0, .int .i64 0, .int .i64 0] 25 (0, 0)) := by rw [heapq_alloc, if_pos rfl]
  have hby1 : Below w1.heap.size w1 (w1.alloc (.cells #[.string na, .int .i64 0, .int .i64 0, .int .i64 0] 25)) := (Below.refl _ _).alloc (Nat.le_refl _) _
  have hyz : w1.heap.size < (w1.alloc (.cells #[.string na, .int .i64 0, .int .i64 0, .int .i64 0] 25)).heap.size := by simp
  generalize (w1.alloc (.cells #[.string na, .int .i64 0, .int .i64 0, .int .i64 0] 25)) = w2 at *
  generalize hY0 : w1.heap.size = Y at *
  have HY0 := Lib.hid hY0
  clear hY0
  go_wp2_with fail
  go_loopw [6, 7, 8, 9, 31] (fun _ _ _ _ u wr => FdRel w1 Y 25 [.string na] lx ly lz u wr) (fun _ _ _ _ u _ => 3 - (intOf u).toNat)
  case atStart => exact ⟨0, 0, 0, 0, rfl, .inl ⟨rfl, rfl, rfl, rfl⟩, hy1, hby1, hyz⟩
  case round =>
    obtain ⟨k, v1, v2, v3, rfl, hst, hrow, hb, hYs⟩ := hrel
    have HB := Lib.hid hb
    have htr : TxtAt wr := ht1.below (HY0.out ▸ hb)
    have hxr := (hb.block x hx1).trans hr1
    obtain ⟨u0, u1, u2, u3, p0, p1, p2, p3⟩ := res4 hrow
    have c0 := keptB hb (show b < Y from hbB) hc0
    have c1 := keptB hb (show b < Y from hbB) hc1
    have c2 := keptB hb (show b < Y from hbB) hc2
    have c3 := keptB hb (show b < Y from hbB) hc3
    rcases hst with ⟨rfl, rfl, rfl, rfl⟩ | ⟨rfl, g1, rfl, rfl⟩ | ⟨rfl, g1, g2, rfl⟩ | ⟨rfl, g1, g2, g3⟩
    · have NK := N1 wr htr
      have qi := idx_at0 Y
      clear N1 N2 N3 hb FE
      go_upto_region 9 with (go_at_call 47; refine NK.mono ?_; rintro e w5 ⟨n, rfl, hn, hb5⟩)
      have hrow5 := (hb5.block Y hYs).trans hrow
      obtain ⟨u0, u1, u2, u3, p0, p1, p2, p3⟩ := res4 hrow5
      have hb5s := hb5.size
      have HB5 : Hid (Below Y w1 w5) := HB.out.trans (hb5.mono (by omega))
      cases hN : numL lx 9 with
      | none =>
        have HR : Hid (R = none) := HN1.out hN
        obtain ⟨t0, t1, t2, t3, q0, q1, q2, q3⟩ := res4 ((hb5.block x (by omega)).trans hxr)
        simp only [Option.isSome_none]
        have HB6 : Hid (Below x w w5) := HB1.out.trans (HB5.out.mono (by omega))
        clear hN hn hb5 NK hrow hrow5 hxr
        go_wp2
        refine bodyPost_ret (v := fdP R) (by simp [results, Tryz.results10, go_sem, HR.out, fdP, zeroFd, t0, t1, t2, t3]) rfl ⟨rfl, ?_⟩
        rw [HX.out]
        exact ((((HB6.out.setCell (by simp) _).setCell (by simp) _).setCell (by simp) _).setCell (by simp) _)
      | some v =>
        obtain rfl := hn v hN
        simp only [Option.isSome_some]
        have HROW : Hid ((w5.setCell ⟨Y, 1, none⟩ (.int .i64 n)).heap[Y]? = some (.cells #[.string na, .int .i64 n, .int .i64 0, .int .i64 0] 25 (0, 0))) := by
          rw [Hid, heapq_set, if_pos rfl, hrow5]
          rfl
        have HST : Hid (FdSt lx ly lz 1 n 0 0) := .inr (.inl ⟨rfl, hN, rfl, rfl⟩)
        have HB6 : Hid (Below Y w1 (w5.setCell ⟨Y, 1, none⟩ (.int .i64 n))) := HB5.out.setCell (Nat.le_refl Y) _
        clear hN hn hb5 NK hrow hrow5 hxr
        go_wp2
        go_roundw
        case rel => exact ⟨1, n, 0, 0, rfl, HST.out, HROW.out, HB6.out, by simp; omega⟩
        case measure => simp [intOf]
    · have NK := N2 wr htr
      have qi := idx_at1 Y
      clear N1 N2 N3 hb FE
      go_upto_region 9 with (go_at_call 47; refine NK.mono ?_; rintro e w5 ⟨n, rfl, hn, hb5⟩)
      have hrow5 := (hb5.block Y hYs).trans hrow
      obtain ⟨u0, u1, u2, u3, p0, p1, p2, p3⟩ := res4 hrow5
      have hb5s := hb5.size
      have HB5 : Hid (Below Y w1 w5) := HB.out.trans (hb5.mono (by omega))
      cases hN : numL ly 9 with
      | none =>
        have HR : Hid (R = none) := HN2.out hN
        obtain ⟨t0, t1, t2, t3, q0, q1, q2, q3⟩ := res4 ((hb5.block x (by omega)).trans hxr)
        simp only [Option.isSome_none]
        have HB6 : Hid (Below x w w5) := HB1.out.trans (HB5.out.mono (by omega))
        clear hN hn hb5 NK hrow hrow5 hxr
        go_wp2
        refine bodyPost_ret (v := fdP R) (by simp [results, Tryz.results10, go_sem, HR.out, fdP, zeroFd, t0, t1, t2, t3]) rfl ⟨rfl, ?_⟩
        rw [HX.out]
        exact ((((HB6.out.setCell (by simp) _).setCell (by simp) _).setCell (by simp) _).setCell (by simp) _)
      | some v =>
        obtain rfl := hn v hN
        simp only [Option.isSome_some]
        have HROW : Hid ((w5.setCell ⟨Y, 2, none⟩ (.int .i64 n)).heap[Y]? = some (.cells #[.string na, .int .i64 v1, .int .i64 n, .int .i64 0] 25 (0, 0))) := by
          rw [Hid, heapq_set, if_pos rfl, hrow5]
          rfl
        have HST : Hid (FdSt lx ly lz 2 v1 n 0) := .inr (.inr (.inl ⟨rfl, g1, hN, rfl⟩))
        have HB6 : Hid (Below Y w1 (w5.setCell ⟨Y, 2, none⟩ (.int .i64 n))) := HB5.out.setCell (Nat.le_refl Y) _
        clear hN hn hb5 NK hrow hrow5 hxr
        go_wp2
        go_roundw
        case rel => exact ⟨2, v1, n, 0, rfl, HST.out, HROW.out, HB6.out, by simp; omega⟩
        case measure => simp [intOf]
    · have NK := N3 wr htr
      have qi := idx_at2 Y
      clear N1 N2 N3 hb FE
      go_upto_region 9 with (go_at_call 47; refine NK.mono ?_; rintro e w5 ⟨n, rfl, hn, hb5⟩)
      have hrow5 := (hb5.block Y hYs).trans hrow
      obtain ⟨u0, u1, u2, u3, p0, p1, p2, p3⟩ := res4 hrow5
      have hb5s := hb5.size
      have HB5 : Hid (Below Y w1 w5) := HB.out.trans (hb5.mono (by omega))
      cases hN : numL lz 9 with
      | none =>
        have HR : Hid (R = none) := HN3.out hN
        obtain ⟨t0, t1, t2, t3, q0, q1, q2, q3⟩ := res4 ((hb5.block x (by omega)).trans hxr)
        simp only [Option.isSome_none]
        have HB6 : Hid (Below x w w5) := HB1.out.trans (HB5.out.mono (by omega))
        clear hN hn hb5 NK hrow hrow5 hxr
        go_wp2
        refine bodyPost_ret (v := fdP R) (by simp [results, Tryz.results10, go_sem, HR.out, fdP, zeroFd, t0, t1, t2, t3]) rfl ⟨rfl, ?_⟩
        rw [HX.out]
        exact ((((HB6.out.setCell (by simp) _).setCell (by simp) _).setCell (by simp) _).setCell (by simp) _)
      | some v =>
        obtain rfl := hn v hN
        simp only [Option.isSome_some]
        have HROW : Hid ((w5.setCell ⟨Y, 3, none⟩ (.int .i64 n)).heap[Y]? = some (.cells #[.string na, .int .i64 v1, .int .i64 v2, .int .i64 n] 25 (0, 0))) := by
          rw [Hid, heapq_set, if_pos rfl, hrow5]
          rfl
        have HST : Hid (FdSt lx ly lz 3 v1 v2 n) := .inr (.inr (.inr ⟨rfl, g1, g2, hN⟩))
        have HB6 : Hid (Below Y w1 (w5.setCell ⟨Y, 3, none⟩ (.int .i64 n))) := HB5.out.setCell (Nat.le_refl Y) _
        clear hN hn hb5 NK hrow hrow5 hxr
        go_wp2
        go_roundw
        case rel => exact ⟨3, v1, v2, n, rfl, HST.out, HROW.out, HB6.out, by simp; omega⟩
        case measure => simp [intOf]
    · have HR : Hid (R = some (a, v1, v2, v3)) := HY.out _ _ _ g1 g2 g3
      have FE4 := fun W => FE v1 v2 v3 W
      have HV := Lib.hid (HFP.out v1 v2 v3)
      generalize fdE (na, v1, v2, v3) = E at *
      clear hb FE N1 N2 N3 hc0 hc1 hc2 hc3 c0 c1 c2 c3 hrow
      go_upto_region 14 with (go_at_call 49; refine (FE4 _).mono ?_; rintro e w6 ⟨rfl, hb6⟩)
      obtain ⟨t0, t1, t2, t3, q0, q1, q2, q3⟩ := res4 ((hb6.block x (by omega)).trans hxr)
      replace u0 := kept hb6 u0
      replace u1 := kept hb6 u1
      replace u2 := kept hb6 u2
      replace u3 := kept hb6 u3
      have hne : x ≠ Y := by omega
      have hne2 : Y ≠ x := by omega
      have HB6 : Hid (Below x w w6) := HB1.out.trans ((HB.out.mono (by omega)).trans (hb6.mono (by omega)))
      clear hb6 p0 p1 p2 p3 hxr FE4
      by_cases hE : E = 0
      · have HVE : Hid (fdP R = .tuple #[.agg #[.string na, .int .i64 v1, .int .i64 v2, .int .i64 v3], .int .i64 0]) := by rw [Hid, HR.out, HV.out, if_pos hE]
        clear HV HR
        subst hE
        go_wp2
        refine bodyPost_ret (v := fdP R) (by simp [results, Tryz.results10, go_sem, HVE.out, t0, t1, t2, t3]) rfl ⟨rfl, ?_⟩
        rw [HX.out]
        exact ((((HB6.out.setCell (by simp) _).setCell (by simp) _).setCell (by simp) _).setCell (by simp) _)
      · have HVE : Hid (fdP R = zeroFd E) := by rw [Hid, HR.out, HV.out, if_neg hE]
        have hE1 : (E != 0) = true := bne_iff_ne.2 hE
        have hE2 : (E == 0) = false := beq_eq_false_iff_ne.2 hE
        clear HV HR
        go_wp2
        refine bodyPost_ret (v := fdP R) (by simp [results, Tryz.results10, go_sem, HVE.out, zeroFd, t0, t1, t2, t3]) rfl ⟨rfl, ?_⟩
        rw [HX.out]
        exact ((((HB6.out.setCell (by simp) _).setCell (by simp) _).setCell (by simp) _).setCell (by simp) _)
end Go.Proofs.YtlbgocgocanloaaGreatDoor

/- What a text of a finding tells: the reference's walk. -/
namespace Go.Proofs.YtlbgocgocanloaaGreatDoor
open Go.RowKit
end Go.Proofs.YtlbgocgocanloaaGreatDoor
namespace Go.Proofs.YtlbgocgocanloaaGreatDoor
open Go.RowKit
theorem nameGo_blank : ∀ (l : List UInt8) (k : Nat), nameGo k l = true → (32 : UInt8) ∉ l
  | [], _, _ => by simp
  | c :: l, k, h => by
    rw [nameGo, Bool.and_eq_true] at h
    intro hm
    rcases List.mem_cons.1 hm with e | e
    · rw [← e] at h
      have h1 := h.1
      have e32 : (32 : UInt8).toNat = 32 := rfl
      rw [e32] at h1
      simp [okN] at h1
    · exact nameGo_blank l (k + 1) h.2 e
theorem name_blank {s : ByteArray} (h : nameB s = true) : s.data.toList ≠ [] ∧ (32 : UInt8) ∉ s.data.toList := by
  unfold nameB at h
  simp only [Bool.and_eq_true, decide_eq_true_eq] at h
  refine ⟨fun e => ?_, nameGo_blank _ 0 h.2⟩
  have := h.1.1
  rw [Lib.size_eq, e] at this
  simp at this
theorem fd_back (s : ByteArray) (d b o : Int) (h : fdE (s, d, b, o) = 0) : fdP (parF (fmtF s.data.toList d b o)) = .tuple #[.agg #[.string s, .int .i64 d, .int .i64 b, .int .i64 o], .int .i64 0] := by
  have h0 := h
  unfold fdE at h
  split at h
  case isFalse => exact absurd h (by decide)
  case isTrue hn =>
    split at h
    case isFalse => exact absurd h (by decide)
    case isTrue hr =>
      unfold rightB withinB at hr
      simp only [Bool.and_eq_true, decide_eq_true_eq] at hr
      obtain ⟨n1, n2⟩ := name_blank hn
      rw [parF_fmt _ _ _ _ n1 n2 (by omega) (by omega) (by omega)]
      simp only [fdP, ba_of]
      rw [if_pos h0]
end Go.Proofs.YtlbgocgocanloaaGreatDoor
