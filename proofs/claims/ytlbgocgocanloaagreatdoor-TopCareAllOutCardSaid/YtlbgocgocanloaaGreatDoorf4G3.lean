/- The cars of a train as rooms: what careRooms makes of a state. -/
import Derived.Test.YtlbgocgocanloaaGreatDoorf4X3
import Derived.Test.YtlbgocgocanloaaGreatDoorf4Q1
namespace Go.Proofs.YtlbgocgocanloaaGreatDoor
open Go.RowKit
/-- the ways that one car adds -/
def carB (b : Int) (k : Nat) : List Ev := if k = 0 then [] else [((k : Int) - 1, (k : Int), b), ((k : Int), (k : Int) - 1, b)]
def carD (dd : Int) (ds : List Bool) (k : Nat) : List Ev := if ds[k]?.getD false = true then [((k : Int), -1, dd)] else []
def waysM (b dd : Int) (ds : List Bool) : Nat → List Ev
  | 0 => []
  | k + 1 => waysM b dd ds k ++ carB b k ++ carD dd ds k
theorem waysM_len (b dd : Int) (ds : List Bool) : ∀ k, (waysM b dd ds k).length ≤ 3 * k
  | 0 => Nat.zero_le _
  | k + 1 => by
    have := waysM_len b dd ds k
    have h1 : (carB b k).length ≤ 2 := by unfold carB; split <;> simp
    have h2 : (carD dd ds k).length ≤ 1 := by unfold carD; split <;> simp
    simp only [waysM, List.length_append]
    omega
theorem info146 : (Tryz.prog.info? 146).map (fun i => (i.zero, i.size, i.bytes)) = some (some (.agg #[.int .i64 0, .int .i64 0, .int .i64 0]), 3, 24) := by kernel_rfl
theorem evCells_append (l m : List Ev) : evCells (l ++ m) = evCells l ++ evCells m := by simp [evCells]
/-- an append of ways to the ways of one's own -/
theorem wpList_append_ways (w : World) {ops : Array Oper} {rest : List Oper} {o : Oper} {a : Act} {Q : Exit → Act → World → Prop} (hgd : o.guard = none) (s x : Operand)
    (ho : o.op = .call { callee := .builtin .append, args := #[s, x], argTypes := #[63, 63] })
    (base : Nat) (A : Option Addr) (c n0 n1 : Nat) (l : List Ev) (hs : a.eval s = .slice A n0 c) (hown : w.ownsRow base 146 3 (.slice A n0 c) n0 (evCells l))
    (t : Nat) (m : Nat) (new : List Ev) (hx : a.eval x = .slice (some ⟨t, 0, none⟩) m m) (hm : new.length = m) (hm0 : 0 < m) (hn1 : n0 + m = n1) (hn : n1 ≤ 1000) (hrow : w.heap[t]? = some (.cells (evCells new).toArray 146 (0, 0))) (hbase : base ≤ w.heap.size)
    (h : ∀ g cap w', w'.ownsRow base 146 3 (.slice (some ⟨g, 0, none⟩) n1 cap) n1 (evCells (l ++ new)) → w.grownBy w' (Value.slice A n0 c).ownBlock → ((Value.slice A n0 c).ownBlock = some g ∨ g = w.heap.size) → g < w'.heap.size → wpList Tryz.prog ops Q rest (a.put o.dst (.slice (some ⟨g, 0, none⟩) n1 cap)) w') : wpList Tryz.prog ops Q (o :: rest) a w := by
  obtain ⟨i1, hi1, hy0, hy1, hy2⟩ := info_parts info146
  subst hn1
  refine wpList_append_lies w hgd s x 63 ho base 146 i1 _ 3 24 Tryz.underlying63 hi1 hy0 hy1 hy2 rfl (by omega) _ n0 (evCells l) hs hown ⟨t, 0, none⟩ m m (evCells new) hx (by rw [evCells_len, hm]) ?_ (evCells_one new) hm0 (by simp only [maxLen]; omega) (by omega) hbase _ rfl ?_
  · intro j u hu
    simp only [Addr.add]
    split
    · rename_i hj
      subst hj
      rw [cell_of_row w t 0 _ _ _ hrow]
      simpa using hu
    · rw [cell_of_row w t _ _ _ _ hrow]
      simpa using hu
  · intro g cap w' h1 h2 h3 h4
    rw [evCells_append] at h
    exact h g cap w' h1 h2 h3 h4
def CarsPost (w : World) (l : List Int) (ws : List Ev) (e : Ending) (w' : World) : Prop :=
  ∃ A c A' c', e = .returned (.agg #[.slice A l.length c, .slice A' ws.length c']) ∧ Rd w' w'.heap.size A (intCells l) ∧ Rd w' w'.heap.size A' (evCells ws) ∧ Below w.heap.size w w'
def CarsRel (w4 : World) (y : Nat) (p : Value) (b dd : Int) (ds : List Bool) (n : Nat) (u6 : Value) (wr : World) : Prop :=
  ∃ (k m : Nat) (Au : Option Addr) (cu : Nat), k ≤ n ∧ u6 = .int .i64 k ∧ (waysM b dd ds k).length = m ∧ wr.heap[y]? = some (.cells #[p, .slice Au m cu] 65 (0, 0)) ∧ wr.ownsRow (y + 1) 146 3 (.slice Au m cu) m (evCells (waysM b dd ds k)) ∧ Below y w4 wr ∧ y + 1 ≤ wr.heap.size
theorem cells2 {W : World} {r t : Nat} {a0 a1 : Value} (h : W.heap[r]? = some (.cells #[a0, a1] t (0, 0))) :
    W.cell? ⟨r, 0, none⟩ = some a0 ∧ W.cell? ⟨r, 1, none⟩ = some a1 ∧ W.frozen? ⟨r, 0, none⟩ = false ∧ W.frozen? ⟨r, 1, none⟩ = false :=
  ⟨by rw [cell_of_row _ _ _ _ _ _ h]; rfl, by rw [cell_of_row _ _ _ _ _ _ h]; rfl, frozen_of_row _ _ _ _ _ h, frozen_of_row _ _ _ _ _ h⟩
theorem cells3c {W : World} {r t : Nat} {a0 a1 a2 : Value} (h : W.heap[r]? = some (.cells #[a0, a1, a2] t (0, 0))) :
    W.cell? ⟨r, 0, none⟩ = some a0 ∧ W.cell? ⟨r, 1, none⟩ = some a1 ∧ W.cell? ⟨r, 2, none⟩ = some a2 := by
  refine ⟨?_, ?_, ?_⟩ <;> rw [cell_of_row _ _ _ _ _ _ h] <;> rfl
/-- the store of a slice into a block of two, seen from the row that it holds -/
theorem store_ways {w4 wr : World} {y g m cap n cu : Nat} {Au : Option Addr} {p : Value} {xs : List Value} (hy : wr.heap[y]? = some (.cells #[p, .slice Au n cu] 65 (0, 0)))
    (ho : wr.ownsRow (y + 1) 146 3 (.slice (some ⟨g, 0, none⟩) m cap) m xs) (hb : Below y w4 wr) (hs : y + 1 ≤ wr.heap.size) :
    (wr.setCell ⟨y, 1, none⟩ (.slice (some ⟨g, 0, none⟩) m cap)).heap[y]? = some (.cells #[p, .slice (some ⟨g, 0, none⟩) m cap] 65 (0, 0)) ∧
    (wr.setCell ⟨y, 1, none⟩ (.slice (some ⟨g, 0, none⟩) m cap)).ownsRow (y + 1) 146 3 (.slice (some ⟨g, 0, none⟩) m cap) m xs ∧ Below y w4 (wr.setCell ⟨y, 1, none⟩ (.slice (some ⟨g, 0, none⟩) m cap)) ∧
    y + 1 ≤ (wr.setCell ⟨y, 1, none⟩ (.slice (some ⟨g, 0, none⟩) m cap)).heap.size := by
  have hg : y + 1 ≤ g := (ownBlk ho rfl).1
  refine ⟨by rw [heapq_set, if_pos rfl, hy]; simp [objSet_cells], ownsRow_setCell_other ho (by simp [Value.ownBlock]; omega) _, hb.setCell (Nat.le_refl _) _, by simp [World.setCell]; omega⟩
theorem rd_ownC {w : World} {B e size n c : Nat} {A : Option Addr} {xs : List Value} (h : w.ownsRow B e size (.slice A n c) n xs) : Rd w w.heap.size A xs := by
  rcases h.2 with ⟨h1, h2⟩ | ⟨g, cap, cur, h1, _⟩
  · intro k u hk
    have := h.1
    rw [h2, Nat.zero_mul] at this
    rw [List.eq_nil_of_length_eq_zero this] at hk
    simp at hk
  · simp only [Value.slice.injEq] at h1
    obtain ⟨rfl, _, rfl⟩ := h1
    exact Rd_of_own h
theorem rd_set {w : World} {r t B : Nat} {a0 a1 : Value} {A : Option Addr} {l : List Int} (h : w.heap[r]? = some (.cells #[a0, a1] t (0, 0))) (h0 : ∀ n, a0 ≠ .int .i64 n) (h1 : ∀ n, a1 ≠ .int .i64 n) (hr : Rd w B A (intCells l)) (i : Nat) (v : Value) :
    Rd (w.setCell ⟨r, i, none⟩ v) B A (intCells l) := fun k u hk => by
  obtain ⟨b, off, hA, hb, hc⟩ := hr k u hk
  refine ⟨b, off, hA, hb, ?_⟩
  have hu : ∃ n, u = .int .i64 n := by
    have := List.mem_of_getElem? hk
    simp only [intCells, List.mem_map] at this
    obtain ⟨n, _, rfl⟩ := this
    exact ⟨n, rfl⟩
  obtain ⟨n, rfl⟩ := hu
  have hne : b ≠ r := by
    rintro rfl
    rw [cell_of_row _ _ _ _ _ _ h] at hc
    rcases hj : off + k with _ | _ | j
    · rw [hj] at hc
      exact h0 n (by simpa using hc)
    · rw [hj] at hc
      exact h1 n (by simpa using hc)
    · rw [hj] at hc
      simp at hc
  rw [← hc]
  simp only [World.cell?, heapq_set, if_neg hne]
set_option maxRecDepth 100000 in
set_option maxHeartbeats 8000000 in
theorem careRooms_any (w : World) (B : Nat) (Ag Ad A : Option Addr) (ng nd cg cd c : Nat) (s : Tr) (l : List Int) (b dd : Int) (h : StAt w B Ag Ad ng nd s) (hp : Rd w B A (intCells l)) (hl : l.length = nd) (hd : nd ≤ 100) (hB : B ≤ w.heap.size) :
    Calls Tryz.prog 28 #[stV s Ag Ad ng nd cg cd, .agg #[.slice A nd c, .int .i64 b, .int .i64 dd]] w (CarsPost w l (waysM b dd s.doors nd)) := by
  have hb0 : Below w.heap.size w (((w.alloc (.cells #[.bool s.mv, .bool s.al, .int .i64 s.place, .slice Ag ng cg, .slice Ad nd cd] 52)).alloc (.cells #[.slice A nd c, .int .i64 b, .int .i64 dd] 46)).alloc (.cells #[.slice none 0 0, .slice none 0 0] 65)) :=
    (((Below.refl _ _).alloc (Nat.le_refl _) _).alloc (by simp) _).alloc (by simp; omega) _
  have k0 : (((w.alloc (.cells #[.bool s.mv, .bool s.al, .int .i64 s.place, .slice Ag ng cg, .slice Ad nd cd] 52)).alloc (.cells #[.slice A nd c, .int .i64 b, .int .i64 dd] 46)).alloc (.cells #[.slice none 0 0, .slice none 0 0] 65)).heap[w.heap.size]? = some (.cells #[.bool s.mv, .bool s.al, .int .i64 s.place, .slice Ag ng cg, .slice Ad nd cd] 52 (0, 0)) := by
    rw [heapq_alloc, if_neg (by simp; omega), heapq_alloc, if_neg (by simp), heapq_alloc, if_pos rfl]
  have k1 : (((w.alloc (.cells #[.bool s.mv, .bool s.al, .int .i64 s.place, .slice Ag ng cg, .slice Ad nd cd] 52)).alloc (.cells #[.slice A nd c, .int .i64 b, .int .i64 dd] 46)).alloc (.cells #[.slice none 0 0, .slice none 0 0] 65)).heap[w.heap.size + 1]? = some (.cells #[.slice A nd c, .int .i64 b, .int .i64 dd] 46 (0, 0)) := by
    rw [heapq_alloc, if_neg (by simp), heapq_alloc, if_pos (by simp)]
  have k2 : (((w.alloc (.cells #[.bool s.mv, .bool s.al, .int .i64 s.place, .slice Ag ng cg, .slice Ad nd cd] 52)).alloc (.cells #[.slice A nd c, .int .i64 b, .int .i64 dd] 46)).alloc (.cells #[.slice none 0 0, .slice none 0 0] 65)).heap[w.heap.size + 1 + 1]? = some (.cells #[.slice none 0 0, .slice none 0 0] 65 (0, 0)) := by
    rw [heapq_alloc, if_pos (by simp)]
  have hs0 : (((w.alloc (.cells #[.bool s.mv, .bool s.al, .int .i64 s.place, .slice Ag ng cg, .slice Ad nd cd] 52)).alloc (.cells #[.slice A nd c, .int .i64 b, .int .i64 dd] 46)).alloc (.cells #[.slice none 0 0, .slice none 0 0] 65)).heap.size = w.heap.size + 3 := by simp
  have HS := Lib.hid (h.below (hb0.mono hB))
  have HP := hp.below (hb0.mono hB)
  clear h hp
  unfold stV
  go_enter Tryz.func28, Tryz.ntmps28
  go_upto_region 1 with (fail)
  generalize (((w.alloc (.cells #[.bool s.mv, .bool s.al, .int .i64 s.place, .slice Ag ng cg, .slice Ad nd cd] 52)).alloc (.cells #[.slice A nd c, .int .i64 b, .int .i64 dd] 46)).alloc (.cells #[.slice none 0 0, .slice none 0 0] 65)) = W0 at *
  generalize hx : w.heap.size = x at *
  have hBW : B ≤ W0.heap.size := by omega
  have C := CopyInts_any W0 B A nd c l hl (by omega) HP hBW
  obtain ⟨a0, a1, a2⟩ := cells3c k1
  have HX := Lib.hid hx
  have HS0 := Lib.hid hs0
  have HB0 := Lib.hid hb0
  have K0 := Lib.hid k0
  have K1 := Lib.hid k1
  have K2 := Lib.hid k2
  have HL := Lib.hid hl
  clear hx hb0 k0 k1 k2 hs0 HP hl
  go_upto_region 2 with (go_at_call 73; refine C.mono ?_; rintro e w3 ⟨A3, c3, rfl, hr3, hb3⟩)
  have hb4 : Below w3.heap.size w3 (w3.alloc (.cells #[.slice A3 nd c3, .slice none 0 0] 65)) := (Below.refl _ _).alloc (Nat.le_refl _) _
  have k4 : (w3.alloc (.cells #[.slice A3 nd c3, .slice none 0 0] 65)).heap[w3.heap.size]? = some (.cells #[.slice A3 nd c3, .slice none 0 0] 65 (0, 0)) := by rw [heapq_alloc, if_pos rfl]
  have hs4 : w3.heap.size + 1 ≤ (w3.alloc (.cells #[.slice A3 nd c3, .slice none 0 0] 65)).heap.size := by simp
  have hr4 := hr3.below hb4
  have hb5 := hb3.trans (hb4.mono hb3.size)
  have hy : x + 3 ≤ w3.heap.size := by have := hb3.size; have := HS0.out; omega
  clear hr3 hb3 C a0 a1 a2
  generalize w3.alloc (.cells #[.slice A3 nd c3, .slice none 0 0] 65) = w4 at *
  generalize w3.heap.size = y at *
  have HR4 := Lib.hid hr4
  have HB5 := Lib.hid hb5
  have REL : CarsRel w4 y (.slice A3 nd c3) b dd s.doors nd (.int .i64 0) w4 := ⟨0, 0, none, 0, Nat.zero_le _, rfl, rfl, k4, ⟨rfl, .inl ⟨rfl, rfl⟩⟩, Below.refl _ _, hs4⟩
  clear hr4 hb5 hb4 k4
  go_wp2
  go_loopw [6] (fun u6 wr => CarsRel w4 y (.slice A3 nd c3) b dd s.doors nd u6 wr) (fun u6 _ => nd - (intOf u6).toNat)
  case atStart => exact REL
  case round =>
    clear REL
    obtain ⟨k, m, Au, cu, hk, rfl, hm, hh, hown, hb, hsz⟩ := hrel
    have FACT : ∀ wr, Below y w4 wr → wr.cell? ⟨x, 0, none⟩ = some (.bool s.mv) ∧ wr.cell? ⟨x, 1, none⟩ = some (.bool s.al) ∧ wr.cell? ⟨x, 2, none⟩ = some (.int .i64 s.place) ∧ wr.cell? ⟨x, 3, none⟩ = some (.slice Ag ng cg) ∧ wr.cell? ⟨x, 4, none⟩ = some (.slice Ad nd cd) ∧ wr.cell? ⟨x + 1, 0, none⟩ = some (.slice A nd c) ∧ wr.cell? ⟨x + 1, 1, none⟩ = some (.int .i64 b) ∧ wr.cell? ⟨x + 1, 2, none⟩ = some (.int .i64 dd) ∧ StAt wr B Ag Ad ng nd s := by
      intro wr hb
      have h1 := HB5.out
      rw [HS0.out] at h1
      have hbW : Below (x + 3) W0 wr := h1.trans (hb.mono hy)
      obtain ⟨s0, s1, s2, s3, s4⟩ := cells5 ((hbW.block x (by omega)).trans K0.out)
      obtain ⟨q0, q1, q2⟩ := cells3c ((hbW.block (x + 1) (by omega)).trans K1.out)
      exact ⟨s0, s1, s2, s3, s4, q0, q1, q2, HS.out.below (hbW.mono (by have := HX.out; omega))⟩
    have HOWN := Lib.hid hown
    have HH := Lib.hid hh
    have HB := Lib.hid hb
    have HSZ := Lib.hid hsz
    have hml := waysM_len b dd s.doors k
    have hmk : waysM b dd s.doors (k + 1) = waysM b dd s.doors k ++ carB b k ++ carD dd s.doors k := rfl
    clear hown hh hb hsz
    by_cases hlt : k < nd
    · have hkd : k < s.doors.length := by have := HS.out.ld; omega
      rcases Nat.eq_zero_or_pos k with hk0 | hk0
      · subst hk0
        have hmk : waysM b dd s.doors (0 + 1) = waysM b dd s.doors 0 ++ carD dd s.doors 0 := by rw [hmk, carB, if_pos rfl, List.append_nil]
        obtain ⟨Lk, hLk⟩ : ∃ L, waysM b dd s.doors 0 = L := ⟨_, rfl⟩
        rw [hLk] at hmk hm HOWN hml
        obtain ⟨s0, s1, s2, s3, s4, q0, q1, q2, hst⟩ := FACT wr HB.out
        obtain ⟨t0, t1, z0, z1⟩ := cells2 HH.out
        obtain ⟨bb, off, hbb, hbl, hc⟩ := hst.rd.at_ (k := 0) (u := .bool (s.doors[0]?.getD false)) (by simp [hkd])
        clear hst
        subst hbb
        try simp only [Nat.add_zero] at hc
        cases hdo : s.doors[0]?.getD false
        · rw [hdo] at hc
          have hmk2 : waysM b dd s.doors (0 + 1) = Lk := by rw [hmk, carD, if_neg (by rw [hdo]; simp), List.append_nil]
          have HMK := Lib.hid hmk2
          clear hmk hmk2 hml
          go_wp2
          go_roundw
          case rel => exact ⟨0 + 1, m, Au, cu, by omega, by go_num, by rw [HMK.out]; exact hm, HH.out, by rw [HMK.out]; exact HOWN.out, HB.out, HSZ.out⟩
          case measure => simp [intOf]; omega
        · rw [hdo] at hc
          have hmk2 : waysM b dd s.doors (0 + 1) = Lk ++ [((0 : Int), -1, dd)] := by rw [hmk, carD, if_pos hdo]; try rfl
          have hml2 : (waysM b dd s.doors (0 + 1)).length = m + 1 := by rw [hmk2, List.length_append, hm]; rfl
          have hml3 : m + 1 ≤ 1000 := by
            have := waysM_len b dd s.doors (0 + 1)
            omega
          obtain ⟨m9, hm9⟩ : ∃ n, m + 1 = n := ⟨_, rfl⟩
          rw [hm9] at hml2 hml3
          have HML2 := Lib.hid hml2
          have HMK := Lib.hid hmk2
          have hba : Below wr.heap.size wr (wr.alloc (.cells #[.int .i64 0, .int .i64 (-1), .int .i64 dd] 146)) := (Below.refl _ _).alloc (Nat.le_refl _) _
          have hsa : (wr.alloc (.cells #[.int .i64 0, .int .i64 (-1), .int .i64 dd] 146)).heap.size = wr.heap.size + 1 := by simp
          have hra : (wr.alloc (.cells #[.int .i64 0, .int .i64 (-1), .int .i64 dd] 146)).heap[wr.heap.size]? = some (.cells #[.int .i64 0, .int .i64 (-1), .int .i64 dd] 146 (0, 0)) := by rw [heapq_alloc, if_pos rfl]
          have HBA := Lib.hid hba
          have HRA := Lib.hid hra
          clear hmk hmk2 hml hml2 hba hra
          go_wp2_with (at_builtin; refine stp ?_)
          unfold Stp
          refine wpList_append_ways _ rfl _ _ rfl (y + 1) Au cu m m9 Lk rfl (HOWN.out.alloc _) wr.heap.size 1 [((0 : Int), -1, dd)] rfl rfl (by omega) hm9 hml3 HRA.out (by have := HSZ.out; simp; omega) ?_
          intro g cap w9 hown9 hgrow hat hlt9
          have hyW : y < wr.heap.size := by have := HSZ.out; omega
          have hh9 := (hgrow.block y (by rw [hsa]; omega) (fun he => by have := (ownBlk HOWN.out he.symm).1; omega)).trans ((HBA.out.block y hyW).trans HH.out)
          have hb9 := (HB.out.trans (HBA.out.mono (by omega))).grown hgrow (by rw [hsa]; omega) (fun k hk => by have := (ownBlk HOWN.out hk).1; omega)
          obtain ⟨t0, t1, z0, z1⟩ := cells2 hh9
          obtain ⟨hh', own', hb', hs'⟩ := store_ways hh9 hown9 hb9 (by have h1 := (ownBlk hown9 rfl).1; simp only at h1; omega)
          have HH' := Lib.hid hh'
          have OWN' := Lib.hid own'
          have HB' := Lib.hid hb'
          have HS' := Lib.hid hs'
          clear hh' own' hb' hs' hh9 hb9 hown9 hgrow hat hlt9 s0 s1 s2 s3 s4 q0 q1 q2 hc
          go_wp2
          go_roundw
          case rel => exact ⟨0 + 1, m9, some ⟨g, 0, none⟩, cap, by omega, by go_num, HML2.out, HH'.out, by rw [HMK.out]; exact OWN'.out, HB'.out, HS'.out⟩
          case measure => simp [intOf]; omega
      · have hL : waysM b dd s.doors k ++ carB b k = waysM b dd s.doors k ++ [((k : Int) - 1, (k : Int), b), ((k : Int), (k : Int) - 1, b)] := by rw [carB, if_neg (by omega)]
        have hml2 : m + 2 ≤ 1000 := by omega
        obtain ⟨m8, hm8⟩ : ∃ n, m + 2 = n := ⟨_, rfl⟩
        rw [hm8] at hml2
        have hmL : (waysM b dd s.doors k ++ carB b k).length = m8 := by rw [hL, List.length_append, hm, ← hm8]; rfl
        obtain ⟨s0, s1, s2, s3, s4, q0, q1, q2, _⟩ := FACT wr HB.out
        obtain ⟨t0, t1, z0, z1⟩ := cells2 HH.out
        have e1 : (0 : Int) < (k : Int) := by omega
        have hba : Below wr.heap.size wr (wr.alloc (.cells #[.int .i64 ((k : Int) - 1), .int .i64 k, .int .i64 b, .int .i64 k, .int .i64 ((k : Int) - 1), .int .i64 b] 146)) := (Below.refl _ _).alloc (Nat.le_refl _) _
        have hsa : (wr.alloc (.cells #[.int .i64 ((k : Int) - 1), .int .i64 k, .int .i64 b, .int .i64 k, .int .i64 ((k : Int) - 1), .int .i64 b] 146)).heap.size = wr.heap.size + 1 := by simp
        have hra : (wr.alloc (.cells #[.int .i64 ((k : Int) - 1), .int .i64 k, .int .i64 b, .int .i64 k, .int .i64 ((k : Int) - 1), .int .i64 b] 146)).heap[wr.heap.size]? = some (.cells #[.int .i64 ((k : Int) - 1), .int .i64 k, .int .i64 b, .int .i64 k, .int .i64 ((k : Int) - 1), .int .i64 b] 146 (0, 0)) := by rw [heapq_alloc, if_pos rfl]
        have HBA := Lib.hid hba
        have HRA := Lib.hid hra
        have HML := Lib.hid hml
        have HMK0 := Lib.hid hmk
        have HL2 := Lib.hid hL
        have HM := Lib.hid hm
        have HMLL := Lib.hid hmL
        clear hml hmk hL hba hra hm hmL
        go_wp2_with (at_builtin; refine stp ?_)
        unfold Stp
        refine wpList_append_ways _ rfl _ _ rfl (y + 1) Au cu m m8 (waysM b dd s.doors k) rfl (HOWN.out.alloc _) wr.heap.size 2 [((k : Int) - 1, (k : Int), b), ((k : Int), (k : Int) - 1, b)] rfl rfl (by omega) hm8 hml2 HRA.out (by have := HSZ.out; simp; omega) ?_
        intro g1 cap1 w8 hown9 hgrow hat hlt9
        have hyW : y < wr.heap.size := by have := HSZ.out; omega
        have hh9 := (hgrow.block y (by rw [hsa]; omega) (fun he => by have := (ownBlk HOWN.out he.symm).1; omega)).trans ((HBA.out.block y hyW).trans HH.out)
        have hb9 := (HB.out.trans (HBA.out.mono (by omega))).grown hgrow (by rw [hsa]; omega) (fun k hk => by have := (ownBlk HOWN.out hk).1; omega)
        rw [← HL2.out] at hown9
        obtain ⟨t0, t1, z0, z1⟩ := cells2 hh9
        obtain ⟨hh', own', hb', hs'⟩ := store_ways hh9 hown9 hb9 (by have h1 := (ownBlk hown9 rfl).1; simp only at h1; omega)
        have HHs := Lib.hid hh'
        have OWNs := Lib.hid own'
        have HBs := Lib.hid hb'
        have HSs := Lib.hid hs'
        clear hh' own' hb' hs' hh9 hb9 hown9 hgrow hat hlt9 s0 s1 s2 s3 s4 q0 q1 q2
        have hmk := HMK0.out
        have hml := HML.out
        clear hmk hml
        go_upto_region 7 with (fail)
        have hmk := HMK0.out
        have hml := HML.out
        generalize w8.setCell ⟨y, 1, none⟩ (.slice (some ⟨g1, 0, none⟩) m8 cap1) = wS at *
        have hmk2 := hmk
        have hm := HMLL.out
        rw [show waysM b dd s.doors k ++ carB b k = waysM b dd s.doors k ++ carB b k from rfl] at hmk2
        obtain ⟨Lk, hLk⟩ : ∃ L, waysM b dd s.doors k ++ carB b k = L := ⟨_, rfl⟩
        rw [hLk] at hmk hm OWNs
        clear t0 t1 z0 z1 HOWN HH HB HSZ HBA HRA hsa hyW hml2 hmk2 hLk HL2 HMLL HM hm8 HML HMK0
        obtain ⟨s0, s1, s2, s3, s4, q0, q1, q2, hst⟩ := FACT wS HBs.out
        obtain ⟨t0, t1, z0, z1⟩ := cells2 HHs.out
        obtain ⟨bb, off, hbb, hbl, hc⟩ := hst.rd.at_ (k := k) (u := .bool (s.doors[k]?.getD false)) (by simp [hkd])
        clear hst
        subst hbb
        try simp only [Nat.add_zero] at hc
        cases hdo : s.doors[k]?.getD false
        · rw [hdo] at hc
          have hmk2 : waysM b dd s.doors (k + 1) = Lk := by rw [hmk, carD, if_neg (by rw [hdo]; simp), List.append_nil]
          have HMK := Lib.hid hmk2
          clear hmk hmk2 hml
          go_wp2
          go_roundw
          case rel => exact ⟨k + 1, m8, (some ⟨g1, 0, none⟩), cap1, by omega, by go_num, by rw [HMK.out]; exact hm, HHs.out, by rw [HMK.out]; exact OWNs.out, HBs.out, HSs.out⟩
          case measure => simp [intOf]; omega
        · rw [hdo] at hc
          have hmk2 : waysM b dd s.doors (k + 1) = Lk ++ [((k : Int), -1, dd)] := by rw [hmk, carD, if_pos hdo]; try rfl
          have hml2 : (waysM b dd s.doors (k + 1)).length = m8 + 1 := by rw [hmk2, List.length_append, hm]; rfl
          have hml3 : m8 + 1 ≤ 1000 := by
            have := waysM_len b dd s.doors (k + 1)
            omega
          obtain ⟨m9, hm9⟩ : ∃ n, m8 + 1 = n := ⟨_, rfl⟩
          rw [hm9] at hml2 hml3
          have HML2 := Lib.hid hml2
          have HMK := Lib.hid hmk2
          have hba : Below wS.heap.size wS (wS.alloc (.cells #[.int .i64 k, .int .i64 (-1), .int .i64 dd] 146)) := (Below.refl _ _).alloc (Nat.le_refl _) _
          have hsa : (wS.alloc (.cells #[.int .i64 k, .int .i64 (-1), .int .i64 dd] 146)).heap.size = wS.heap.size + 1 := by simp
          have hra : (wS.alloc (.cells #[.int .i64 k, .int .i64 (-1), .int .i64 dd] 146)).heap[wS.heap.size]? = some (.cells #[.int .i64 k, .int .i64 (-1), .int .i64 dd] 146 (0, 0)) := by rw [heapq_alloc, if_pos rfl]
          have HBA := Lib.hid hba
          have HRA := Lib.hid hra
          clear hmk hmk2 hml hml2 hba hra
          go_wp2_with (at_builtin; refine stp ?_)
          unfold Stp
          refine wpList_append_ways _ rfl _ _ rfl (y + 1) (some ⟨g1, 0, none⟩) cap1 m8 m9 Lk rfl (OWNs.out.alloc _) wS.heap.size 1 [((k : Int), -1, dd)] rfl rfl (by omega) hm9 hml3 HRA.out (by have := HSs.out; simp; omega) ?_
          intro g cap w9 hown9 hgrow hat hlt9
          have hyW : y < wS.heap.size := by have := HSs.out; omega
          have hh9 := (hgrow.block y (by rw [hsa]; omega) (fun he => by have := (ownBlk OWNs.out he.symm).1; omega)).trans ((HBA.out.block y hyW).trans HHs.out)
          have hb9 := (HBs.out.trans (HBA.out.mono (by omega))).grown hgrow (by rw [hsa]; omega) (fun k hk => by have := (ownBlk OWNs.out hk).1; omega)
          obtain ⟨t0, t1, z0, z1⟩ := cells2 hh9
          obtain ⟨hh', own', hb', hs'⟩ := store_ways hh9 hown9 hb9 (by have h1 := (ownBlk hown9 rfl).1; simp only at h1; omega)
          have HH' := Lib.hid hh'
          have OWN' := Lib.hid own'
          have HB' := Lib.hid hb'
          have HS' := Lib.hid hs'
          clear hh' own' hb' hs' hh9 hb9 hown9 hgrow hat hlt9 s0 s1 s2 s3 s4 q0 q1 q2 hc
          go_wp2
          go_roundw
          case rel => exact ⟨k + 1, m9, some ⟨g, 0, none⟩, cap, by omega, by go_num, HML2.out, HH'.out, by rw [HMK.out]; exact OWN'.out, HB'.out, HS'.out⟩
          case measure => simp [intOf]; omega
    · obtain rfl : k = nd := by omega
      obtain ⟨s0, s1, s2, s3, s4, q0, q1, q2, _⟩ := FACT wr HB.out
      obtain ⟨t0, t1, z0, z1⟩ := cells2 HH.out
      have hr2 : wr.heap[x + 1 + 1]? = some (.cells #[.slice none 0 0, .slice none 0 0] 65 (0, 0)) := by
        have h1 := HB5.out
        rw [HS0.out] at h1
        exact ((h1.trans (HB.out.mono hy)).block (x + 1 + 1) (by omega)).trans K2.out
      obtain ⟨r0, r1, f0, f1⟩ := cells2 hr2
      have HR2 := Lib.hid hr2
      have HM := Lib.hid hm
      clear hmk hml FACT hr2 hm
      go_wp2
      have hxy : x + 1 + 1 < y := by omega
      have hr3 : (wr.setCell ⟨x + 1 + 1, 0, none⟩ (.slice A3 k c3)).heap[x + 1 + 1]? = some (.cells #[.slice A3 k c3, .slice none 0 0] 65 (0, 0)) := by rw [heapq_set, if_pos rfl, HR2.out]; simp [objSet_cells]
      have hr4 : ((wr.setCell ⟨x + 1 + 1, 0, none⟩ (.slice A3 k c3)).setCell ⟨x + 1 + 1, 1, none⟩ (.slice Au m cu)).heap[x + 1 + 1]? = some (.cells #[.slice A3 k c3, .slice Au m cu] 65 (0, 0)) := by rw [heapq_set, if_pos rfl, hr3]; simp [objSet_cells]
      have hne : (Value.slice Au m cu).ownBlock ≠ some (x + 1 + 1) := fun he => by have := (ownBlk HOWN.out he).1; omega
      have O2 := ownsRow_setCell_other (ownsRow_setCell_other HOWN.out (a := ⟨x + 1 + 1, 0, none⟩) hne (.slice A3 k c3)) (a := ⟨x + 1 + 1, 1, none⟩) hne (.slice Au m cu)
      have hb0 : Below x w wr := by
        have h1 := HB5.out
        rw [HS0.out] at h1
        exact HB0.out.trans ((h1.trans (HB.out.mono hy)).mono (by omega))
      have hbE : Below x w ((wr.setCell ⟨x + 1 + 1, 0, none⟩ (.slice A3 k c3)).setCell ⟨x + 1 + 1, 1, none⟩ (.slice Au m cu)) := (hb0.setCell (show x ≤ x + 1 + 1 by omega) _).setCell (show x ≤ x + 1 + 1 by omega) _
      have RA := rd_set hr3 (fun _ h => by cases h) (fun _ h => by cases h) (rd_set HR2.out (fun _ h => by cases h) (fun _ h => by cases h) (HR4.out.below HB.out) 0 (.slice A3 k c3)) 1 (.slice Au m cu)
      obtain ⟨g0, g1, _, _⟩ := cells2 hr4
      refine bodyPost_ret (v := .agg #[.slice A3 k c3, .slice Au m cu]) (by simp [results, Tryz.results28, go_sem, g0, g1]) rfl ⟨A3, c3, Au, cu, by rw [HL.out, HM.out], RA.mono (by simp [World.setCell]; have := HSZ.out; omega), rd_ownC O2, by rw [HX.out]; exact hbE⟩
end Go.Proofs.YtlbgocgocanloaaGreatDoor
