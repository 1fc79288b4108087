/- A replay, whatever it comes to; a state stored whole, and what is known of it where the orders of a region meet. -/
import Derived.Test.YtlbgocgocanloaaGreatDoorf4G5
import Derived.Test.YtlbgocgocanloaaGreatDoorf4X14
import Derived.Test.YtlbgocgocanloaaGreatDoorf4G4
namespace Go.Proofs.YtlbgocgocanloaaGreatDoor
open Go.RowKit
def RepRes (w : World) (s : Tr) (i err : Int) (e : Ending) (w' : World) : Prop :=
  ∃ Ag Ad ng nd cg cd, e = .returned (.tuple #[stV s Ag Ad ng nd cg cd, .int .i64 i, .int .i64 err]) ∧ StAt w' w'.heap.size Ag Ad ng nd s ∧ (∀ a, Ag = some a → w.heap.size ≤ a.block) ∧ (∀ a, Ad = some a → w.heap.size ≤ a.block) ∧ Below w.heap.size w w'
def CareRep (D T S place : Int) (n : Nat) (l : List Ev) (s : Tr) (i err : Int) : Prop :=
  ∀ (W : World) (A : Option Addr) (c : Nat), KindsAt W → Rd W W.heap.size A (evCells l) → Calls Tryz.prog 21 #[.agg #[.int .i64 D, .int .i64 T, .int .i64 S], .int .i64 place, .slice A n c] W (RepRes W s i err)
theorem runTr_err {D : Nat} {T S : Int} : ∀ (l : List Ev) (k i : Nat) (s : Tr) (err : Int), runTr D T S s l k = .inl (i, err) → err ≠ 0
  | [], _, _, _, _, h => by cases h
  | e :: l, k, i, s, err, h => by
    unfold runTr at h
    split at h
    · exact runTr_err l (k + 1) i _ err h
    · rename_i h0
      have := Prod.mk.inj (Sum.inl.inj h)
      rw [← this.2]
      exact h0
/-- the state that nothing has been done to -/
def startTr (D : Nat) (place : Int) : Tr := ⟨false, false, place, List.replicate D false, List.replicate D false⟩
theorem placeE_of {D T S : Int} (h0 : doorsE D T S = 0) : placeE T = 0 := by
  obtain ⟨_, hT, _⟩ := doorsE_zero h0
  rcases placeE_cases T with ⟨_, p⟩ | ⟨p, _⟩
  · exact p
  · simp only [isPlaceB, withinB, Bool.and_eq_false_iff, decide_eq_false_iff_not] at p
    omega
theorem rep_one {D : Nat} {T S : Int} {n : Nat} {l : List Ev} (h0 : doorsE D T S = 0) (hl : l.length = n) (hn : n ≤ 100) :
    ∃ s i err, CareRep D T S T n l s i err ∧ ((runTr D T S (startTr D T) l 0 = .inr s ∧ err = 0) ∨ (s = zeroTr ∧ err ≠ 0)) := by
  obtain ⟨⟨hD1, hD2⟩, hT, _⟩ := doorsE_zero h0
  have hP : placeE T = 0 := by
    rcases placeE_cases T with ⟨_, p⟩ | ⟨p, _⟩
    · exact p
    · simp only [isPlaceB, withinB, Bool.and_eq_false_iff, decide_eq_false_iff_not] at p
      omega
  have hF : firstE [doorsE D T S, placeE T] = 0 := by
    simp only [firstE, h0, hP]
    simp
  cases hr : runTr D T S (startTr D T) l 0 with
  | inl p =>
    obtain ⟨i, err⟩ := p
    refine ⟨zeroTr, i, err, fun W A c hk h => ?_, .inr ⟨rfl, runTr_err l 0 i _ err hr⟩⟩
    refine (Replay_yes D T S T A n c W.heap.size l W (by omega) hF hn hl hk h (Nat.le_refl _) hT hT).mono ?_
    rintro e w' ⟨hb, hm⟩
    have hr' : runTr D T S ⟨false, false, T, List.replicate D false, List.replicate D false⟩ l 0 = .inl (i, err) := hr
    rw [hr'] at hm
    exact ⟨none, none, 0, 0, 0, 0, hm, zeroAt _ _, fun _ h => (by cases h), fun _ h => (by cases h), hb⟩
  | inr s =>
    refine ⟨s, 0, 0, fun W A c hk h => ?_, .inl ⟨rfl, rfl⟩⟩
    refine (Replay_yes D T S T A n c W.heap.size l W (by omega) hF hn hl hk h (Nat.le_refl _) hT hT).mono ?_
    rintro e w' ⟨hb, hm⟩
    have hr' : runTr D T S ⟨false, false, T, List.replicate D false, List.replicate D false⟩ l 0 = .inr s := hr
    rw [hr'] at hm
    obtain ⟨g, bg, bd, cg, cd, he, ht⟩ := hm
    exact ⟨_, _, _, _, _, _, he, ht.st (by omega), fun _ h => by cases h; exact ht.bgLt.1, fun _ h => by cases h; exact ht.bdLt.1, hb⟩
theorem put5_rd {W : World} {B y : Nat} (a0 a1 a2 a3 a4 : Value) {A : Option Addr} {xs : List Value} (h : Rd W B A xs) (hn : B ≤ y ∨ ∀ a, A = some a → y < a.block) : Rd (((((W.setCell ⟨y, 0, none⟩ a0).setCell ⟨y, 1, none⟩ a1).setCell ⟨y, 2, none⟩ a2).setCell ⟨y, 3, none⟩ a3).setCell ⟨y, 4, none⟩ a4) B A xs := fun k u hk => by
  obtain ⟨b, off, hA, hb, hc⟩ := h k u hk
  refine ⟨b, off, hA, hb, put5_cell a0 a1 a2 a3 a4 ?_ hc⟩
  rcases hn with hn | hn
  · show b ≠ y
    omega
  · have := hn _ hA
    show b ≠ y
    exact Nat.ne_of_gt this
theorem put5_st {W : World} {B y : Nat} (a0 a1 a2 a3 a4 : Value) {Ag Ad : Option Addr} {ng nd : Nat} {s : Tr} (h : StAt W B Ag Ad ng nd s) (hn : B ≤ y ∨ (∀ a, Ag = some a → y < a.block) ∧ ∀ a, Ad = some a → y < a.block) : StAt (((((W.setCell ⟨y, 0, none⟩ a0).setCell ⟨y, 1, none⟩ a1).setCell ⟨y, 2, none⟩ a2).setCell ⟨y, 3, none⟩ a3).setCell ⟨y, 4, none⟩ a4) B Ag Ad ng nd s :=
  ⟨h.lg, h.ld, put5_rd a0 a1 a2 a3 a4 h.rg (hn.imp id (·.1)), put5_rd a0 a1 a2 a3 a4 h.rd (hn.imp id (·.2)), h.ng1, h.nd1⟩
/-- a state in a variable, a number and an error behind it -/
def CutR (w1 : World) (s : Tr) (i err : Int) (s7 s8 s9 : Value) (wc : World) : Prop :=
  ∃ y Ag Ad ng nd cg cd, s7 = .pointer (some ⟨y, 0, none⟩) ∧ s8 = .int .i64 i ∧ s9 = .int .i64 err ∧ wc.heap[y]? = some (.cells #[.bool s.mv, .bool s.al, .int .i64 s.place, .slice Ag ng cg, .slice Ad nd cd] 52 (0, 0)) ∧
    StAt wc wc.heap.size Ag Ad ng nd s ∧ Below w1.heap.size w1 wc ∧ w1.heap.size ≤ y
theorem cutR_mk {w1 w5 : World} {s : Tr} {i err : Int} {y B ng nd cg cd : Nat} {Ag Ad : Option Addr} {z0 z1 z2 z3 z4 : Value} (hb : Below w1.heap.size w1 w5) (hy : w1.heap.size ≤ y) (ky : w5.heap[y]? = some (.cells #[z0, z1, z2, z3, z4] 52 (0, 0))) (hst : StAt w5 B Ag Ad ng nd s) (hB : B ≤ w5.heap.size)
    (hn : B ≤ y ∨ (∀ a, Ag = some a → y < a.block) ∧ ∀ a, Ad = some a → y < a.block) :
    CutR w1 s i err (.pointer (some ⟨y, 0, none⟩)) (.int .i64 i) (.int .i64 err) (((((w5.setCell ⟨y, 0, none⟩ (.bool s.mv)).setCell ⟨y, 1, none⟩ (.bool s.al)).setCell ⟨y, 2, none⟩ (.int .i64 s.place)).setCell ⟨y, 3, none⟩ (.slice Ag ng cg)).setCell ⟨y, 4, none⟩ (.slice Ad nd cd)) :=
  ⟨y, Ag, Ad, ng, nd, cg, cd, rfl, rfl, rfl, put5_self _ _ _ _ _ ky, (put5_st _ _ _ _ _ hst hn).mono (by rw [put5_size]; exact hB), hb.trans (put5_below _ _ _ _ _ hy), hy⟩
/-- an append of events to the events of one's own -/
theorem wpList_append_evs (w : World) {ops : Array Oper} {rest : List Oper} {o : Oper} {a : Act} {Q : Exit → Act → World → Prop} (hgd : o.guard = none) (s x : Operand)
    (ho : o.op = .call { callee := .builtin .append, args := #[s, x], argTypes := #[43, 43] })
    (base : Nat) (A : Option Addr) (c n0 n1 : Nat) (l : List Ev) (hs : a.eval s = .slice A n0 c) (hown : w.ownsRow base 23 3 (.slice A n0 c) n0 (evCells l))
    (t : Nat) (m : Nat) (new : List Ev) (hx : a.eval x = .slice (some ⟨t, 0, none⟩) m m) (hm : new.length = m) (hm0 : 0 < m) (hn1 : n0 + m = n1) (hn : n1 ≤ 1000) (hrow : w.heap[t]? = some (.cells (evCells new).toArray 23 (0, 0))) (hbase : base ≤ w.heap.size)
    (h : ∀ g cap w', w'.ownsRow base 23 3 (.slice (some ⟨g, 0, none⟩) n1 cap) n1 (evCells (l ++ new)) → w.grownBy w' (Value.slice A n0 c).ownBlock → ((Value.slice A n0 c).ownBlock = some g ∨ g = w.heap.size) → g < w'.heap.size → wpList Tryz.prog ops Q rest (a.put o.dst (.slice (some ⟨g, 0, none⟩) n1 cap)) w') : wpList Tryz.prog ops Q (o :: rest) a w := by
  obtain ⟨i1, hi1, hy0, hy1, hy2⟩ := info_parts info23
  subst hn1
  refine wpList_append_lies w hgd s x 43 ho base 23 i1 _ 3 24 Tryz.underlying43 hi1 hy0 hy1 hy2 rfl (by omega) _ n0 (evCells l) hs hown ⟨t, 0, none⟩ m m (evCells new) hx (by rw [evCells_len, hm]) ?_ (evCells_one new) hm0 (by simp only [maxLen]; omega) (by omega) hbase _ rfl ?_
  · intro j u hu
    simp only [Addr.add]
    split
    · rename_i hj
      subst hj
      rw [cell_of_row w t 0 _ _ _ hrow]
      simpa using hu
    · rw [cell_of_row w t _ _ _ _ hrow]
      simpa using hu
  · intro g cap w' h1 h2 h3 h4
    rw [evCells_append] at h
    exact h g cap w' h1 h2 h3 h4
end Go.Proofs.YtlbgocgocanloaaGreatDoor

/- All get out: what is known behind the first part: a right state in an alarm in a block that is stored into. -/
namespace Go.Proofs.YtlbgocgocanloaaGreatDoor
open Go.RowKit
/-- what lies as it lay although the state's block turns -/
structure Dx (W : World) (x : Nat) (D T S b dd : Int) (A2 : Option Addr) (n2 c2 : Nat) (pp : List Int) : Prop where
  kinds : KindsAt W
  r : W.heap[x]? = some (.cells #[.int .i64 D, .int .i64 T, .int .i64 S] 40 (0, 0))
  c : W.heap[x + 1]? = some (.cells #[.slice A2 n2 c2, .int .i64 b, .int .i64 dd] 46 (0, 0))
  pe : Rd W x A2 (intCells pp)
theorem Dx.belowB {W W' : World} {x n2 c2 B : Nat} {D T S b dd : Int} {A2 : Option Addr} {pp : List Int} (h : Dx W x D T S b dd A2 n2 c2 pp) (hb : Below B W W') (hB : x + 2 ≤ B) : Dx W' x D T S b dd A2 n2 c2 pp :=
  ⟨h.kinds.belowB hb (by omega), (hb.block x (by omega)).trans h.r, (hb.block (x + 1) (by omega)).trans h.c, h.pe.below (hb.mono (by omega))⟩
theorem Dx.cells {W : World} {x n2 c2 : Nat} {D T S b dd : Int} {A2 : Option Addr} {pp : List Int} (h : Dx W x D T S b dd A2 n2 c2 pp) :
    (W.cell? ⟨x, 0, none⟩ = some (.int .i64 D) ∧ W.cell? ⟨x, 1, none⟩ = some (.int .i64 T) ∧ W.cell? ⟨x, 2, none⟩ = some (.int .i64 S)) ∧
    W.cell? ⟨x + 1, 0, none⟩ = some (.slice A2 n2 c2) ∧ W.cell? ⟨x + 1, 1, none⟩ = some (.int .i64 b) ∧ W.cell? ⟨x + 1, 2, none⟩ = some (.int .i64 dd) := ⟨cells3w h.r, cells3w h.c⟩
/-- a state in block y -/
def StB (W : World) (y n : Nat) (s : Tr) (Ag Ad : Option Addr) (cg cd : Nat) : Prop :=
  W.heap[y]? = some (.cells #[.bool s.mv, .bool s.al, .int .i64 s.place, .slice Ag n cg, .slice Ad n cd] 52 (0, 0)) ∧ StAt W W.heap.size Ag Ad n n s
theorem StB.below {W W' : World} {y n cg cd : Nat} {s : Tr} {Ag Ad : Option Addr} (h : StB W y n s Ag Ad cg cd) (hb : Below W.heap.size W W') : StB W' y n s Ag Ad cg cd :=
  ⟨(hb.block y (lt_of_block h.1)).trans h.1, (h.2.below hb).mono hb.size⟩
/-- the store of a state that lies behind the block -/
theorem stB_put {W : World} {B y n g1 g2 c1 c2 : Nat} {s : Tr} {z0 z1 z2 z3 z4 : Value} (hy : W.heap[y]? = some (.cells #[z0, z1, z2, z3, z4] 52 (0, 0))) (ho : OwnSt W B g1 g2 n n c1 c2 s) (hB : y < B) (hn : n ≤ 1000000) :
    StB (((((W.setCell ⟨y, 0, none⟩ (.bool s.mv)).setCell ⟨y, 1, none⟩ (.bool s.al)).setCell ⟨y, 2, none⟩ (.int .i64 s.place)).setCell ⟨y, 3, none⟩ (.slice (some ⟨g1, 0, none⟩) n c1)).setCell ⟨y, 4, none⟩ (.slice (some ⟨g2, 0, none⟩) n c2)) y n s (some ⟨g1, 0, none⟩) (some ⟨g2, 0, none⟩) c1 c2 := by
  have h1 : B ≤ g1 := (ownBlk ho.og rfl).1
  have h2 : B ≤ g2 := (ownBlk ho.od rfl).1
  refine ⟨put5_self _ _ _ _ _ hy, ?_⟩
  rw [put5_size]
  exact put5_st _ _ _ _ _ (ho.at_ (by omega) (by omega)) (.inr ⟨fun a h => by cases h; show y < g1; omega, fun a h => by cases h; show y < g2; omega⟩)
/-- a right state that stands in an alarm -/
structure Out (D : Nat) (T S : Int) (s : Tr) : Prop where
  right : Right D T S s
  mv : s.mv = false
  al : s.al = true
theorem Out.open_ {D d : Nat} {T S : Int} {s : Tr} (h : Out D T S s) (hd : d < D) (ho : s.doors[d]?.getD false = false) : Out D T S (applyS s 4 0 d) :=
  ⟨apply_right h.right (open_ok hd h.mv h.al ho), h.mv, h.al⟩
theorem out_alarm {D : Nat} {T S : Int} {s : Tr} (h : Right D T S s) (hm : s.mv = false) (ha : s.al = false) : Out D T S (applyS s 6 0 0) :=
  ⟨apply_right h (alarm_ok ha), hm, rfl⟩
/-- the worlds that hold what lies ahead of block y -/
structure Yt (v : World) (y : Nat) where
  w : World
  hb : Below y v w
theorem Yt.cell {v : World} {y : Nat} {p : Addr} {u : Value} (hp : p.block < y) (h : v.cell? p = some u) (z : Yt v y) : z.w.cell? p = some u := keptB z.hb hp h
def AlR (w : World) (x y n : Nat) (D T S b dd : Int) (A2 : Option Addr) (n2 c2 : Nat) (pp : List Int) (wc : World) : Prop :=
  ∃ s Ag Ad cg cd, Out n T S s ∧ StB wc y n s Ag Ad cg cd ∧ Dx wc x D T S b dd A2 n2 c2 pp ∧ Below x w wc
end Go.Proofs.YtlbgocgocanloaaGreatDoor

/- All get out: the loop over doors: what holds from door to door. -/
namespace Go.Proofs.YtlbgocgocanloaaGreatDoor
open Go.RowKit
/-- the least time at the doors that are open now, as the loop holds it -/
def LastIs (pp : List Int) (b dd : Int) (ds : List Bool) (d last : Nat) (is : Bool) : Prop :=
  (is = true → LeastIs pp b dd ds (some last)) ∧ (is = false → d = 0 ∨ LeastIs pp b dd ds none)
def DoorRel (w : World) (x y n : Nat) (D T S b dd : Int) (A2 : Option Addr) (n2 c2 : Nat) (pp : List Int) (u19 u20 u21 : Value) (wr : World) : Prop :=
  ∃ (d last : Nat) (is : Bool) (s : Tr) (Ag Ad : Option Addr) (cg cd : Nat), d ≤ n ∧ u21 = .int .i64 d ∧ u19 = .int .i64 last ∧ u20 = .bool is ∧ Out n T S s ∧ StB wr y n s Ag Ad cg cd ∧ Dx wr x D T S b dd A2 n2 c2 pp ∧ Below x w wr ∧ (∀ i, i < d → s.doors[i]?.getD false = true) ∧ LastIs pp b dd s.doors d last is
/-- behind the opening of door d -/
def DoorCut (w : World) (x y n : Nat) (D T S b dd : Int) (A2 : Option Addr) (n2 c2 : Nat) (pp : List Int) (d : Nat) (ds : List Bool) (wc : World) : Prop :=
  ∃ s Ag Ad cg cd, Out n T S s ∧ StB wc y n s Ag Ad cg cd ∧ Dx wc x D T S b dd A2 n2 c2 pp ∧ Below x w wc ∧ DoorsLe ds s.doors ∧ ∀ i, i < d + 1 → s.doors[i]?.getD false = true
theorem Least8 (w : World) (A A' : Option Addr) (c c' : Nat) {pp : List Int} {b dd : Int} {ds : List Bool} {r : Option Nat} (h : CarsOk pp b dd) (hl : LeastIs pp b dd ds r) {n : Nat} (hn : pp.length = n) (hp : Rd w w.heap.size A (intCells pp)) (hw : Rd w w.heap.size A' (evCells (waysM b dd ds n))) :
    Calls Tryz.prog 27 #[.agg #[.slice A pp.length c, .slice A' (waysM b dd ds n).length c'], .int .i64 8] w (LeastPost w (leastN r) (leastE r)) := by
  subst hn
  obtain ⟨v, hv, hr⟩ := hl
  exact LeastTime_any w w.heap.size A A' pp.length c _ c' pp (waysM b dd ds pp.length) rfl rfl hp hw (Nat.le_refl _) (roomsM_of (h.rooms ds)) 8 (by omega) v (fun t ht => by
    obtain ⟨F, k, e, e1⟩ := hv t (by omega)
    rw [← e1]
    exact outIs_end e) r hr
theorem last_some {pp : List Int} {b dd : Int} {ds ds' : List Bool} {d last m : Nat} {is : Bool} (h : LastIs pp b dd ds d last is) (hd : 0 ≤ dd) (hle : DoorsLe ds ds') (hr : LeastIs pp b dd ds' (some m)) (hi : is = true) : m ≤ last := by
  obtain ⟨k, hk, h1⟩ := least_mono hd hle (h.1 hi) hr
  cases hk
  exact h1
theorem last_none {pp : List Int} {b dd : Int} {ds ds' : List Bool} {d last : Nat} {is : Bool} (h : LastIs pp b dd ds d last is) (hd : 0 ≤ dd) (hle : DoorsLe ds ds') (hr : LeastIs pp b dd ds' none) : is = false := by
  cases is with
  | false => rfl
  | true =>
    obtain ⟨k, hk, h1⟩ := least_mono hd hle (h.1 rfl) hr
    cases hk
theorem last_end {pp : List Int} {b dd : Int} {ds : List Bool} {d last T : Nat} {is : Bool} (h : LastIs pp b dd ds d last is) (ok : CarsOk pp b dd) (hd : 0 < d) (hf : ∀ i, i < pp.length → ds[i]?.getD false = true) (hT : ∀ x ∈ pp, x ≤ dd * (T : Int)) (h8 : T ≤ 8) : is = true ∧ last ≤ T := by
  cases is with
  | false =>
    rcases h.2 rfl with h0 | h0
    · omega
    · obtain ⟨m, hm, _⟩ := least_full ok hf hT h8 h0
      cases hm
  | true =>
    obtain ⟨m, hm, h1⟩ := least_full ok hf hT h8 (h.1 rfl)
    cases hm
    exact ⟨rfl, h1⟩
theorem doors_refl (ds : List Bool) : DoorsLe ds ds := fun _ h => h
theorem open_upto {ds : List Bool} {d : Nat} (hd : d < ds.length) (h : ∀ i, i < d → ds[i]?.getD false = true) : ∀ i, i < d + 1 → (ds.set d true)[i]?.getD false = true := fun i hi => by
  rw [getD_set hd]
  split
  · rfl
  · exact h i (by omega)
theorem open_here {ds : List Bool} {d : Nat} (hd : ds[d]?.getD false = true) (h : ∀ i, i < d → ds[i]?.getD false = true) : ∀ i, i < d + 1 → ds[i]?.getD false = true := fun i hi => by
  by_cases he : i = d
  · rw [he]
    exact hd
  · exact h i (by omega)
end Go.Proofs.YtlbgocgocanloaaGreatDoor
