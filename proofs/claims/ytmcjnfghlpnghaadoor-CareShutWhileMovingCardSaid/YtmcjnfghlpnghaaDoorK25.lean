/- The eager walk of a drawing region: reads, picks too. CareShutWhileMoving: the walk. CareShutWhileMoving: whatever the input. -/
import Derived.Test.YtmcjnfghlpnghaaDoorK1
import Derived.Test.YtmcjnfghlpnghaaDoorK24
import Derived.Deep.CutRange
namespace Go.Proofs.YtmcjnfghlpnghaaDoor
open Go

section
variable {P : Program} {ops : Array Oper} {md : Region.Mode} {S : World → Prop} {ts : List Nat} {Q : Exit → Act → World → Prop}

def readKind2 (o : Oper) : Bool :=
  match o.op with
  | .pick .. => true
  | _ => readKind o

theorem wpIf_of_quiet2 {K : Act → Prop} : ∀ (l : List Oper) (a : Act), l.all readKind2 = true → wpQuiet P ops S K l a → wpIf P ops S K l a
  | [], _, _, h => h
  | o :: rest, a, hk, h => by
    simp only [List.all_cons, Bool.and_eq_true] at hk
    by_cases hr : readKind o = true
    · have h1 : wpQuiet P ops S (fun a' => wpIf P ops S K rest a') [o] a := by
        unfold wpQuiet at h ⊢
        split
        · rename_i hw
          rw [if_pos hw] at h
          obtain ⟨v, h1, h2⟩ := h
          exact ⟨v, h1, by unfold wpQuiet; exact wpIf_of_quiet2 rest _ hk.2 h2⟩
        · rename_i hw
          rw [if_neg hw] at h
          unfold wpQuiet
          exact wpIf_of_quiet2 rest _ hk.2 h
      exact wpIf_of_quiet [o] a (by simp [hr]) h1
    · have hp : ∃ c x y, o.op = .pick c x y := by
        have hk1 := hk.1
        unfold readKind2 at hk1
        split at hk1
        · rename_i c x y hop
          exact ⟨c, x, y, hop⟩
        · exact absurd hk1 hr
      obtain ⟨c, x, y, hop⟩ := hp
      unfold wpQuiet at h
      by_cases hw : Region.wanted o (yielded ops a.tmps) = true
      · rw [if_pos hw] at h
        obtain ⟨v, h1, h2⟩ := h
        refine ⟨v, .inl ⟨hw, fun w hS => ?_⟩, wpIf_of_quiet2 rest _ hk.2 h2⟩
        have h3 := h1 w hS
        unfold Oper.quietAt at h3
        have hno : (∀ w', (execOp a.eval o).run P w ≠ .ok .skip w') ∧ ∀ f args w', (execOp a.eval o).run P w ≠ .ok (.enter f args) w' := by
          obtain ⟨dst, op, type, pos, after, guard⟩ := o
          obtain rfl : op = .pick c x y := hop
          have key : ∀ n w', (execOp a.eval ⟨dst, .pick c x y, type, pos, after, guard⟩).run P w = .ok n w' → ∃ v, n = .value v := by
            intro n w' h
            simp only [execOp] at h
            rw [Sem.run_bind] at h
            cases hb : (asBool (a.eval c)).run P w with
            | halt z w1 => rw [hb] at h; simp [Result.andThen] at h
            | ok b w1 =>
              rw [hb] at h
              simp [Result.andThen] at h
              exact ⟨_, h.1.symm⟩
          exact ⟨fun w' h => (by obtain ⟨v, hv⟩ := key _ _ h; cases hv), fun f args w' h => (by obtain ⟨v, hv⟩ := key _ _ h; cases hv)⟩
        generalize hr : (execOp a.eval o).run P w = r at h3 hno
        cases r with
        | ok n w' =>
          cases n <;> simp only [Oper.quietUpon] at h3
          case value u => obtain ⟨e1, e2⟩ := h3; rw [e1, e2]
          case skip => exact (hno.1 w' rfl).elim
          case enter f args => exact (hno.2 f args w' rfl).elim
        | halt x w' => simp only [Oper.quietUpon] at h3
      · rw [if_neg hw] at h
        exact ⟨undef, .inr ⟨by simpa using hw, rfl⟩, wpIf_of_quiet2 rest _ hk.2 h⟩

theorem wpE_reads2 {m : Nat} {listed : Array Bool} {a : Act} {w : World} (is : List Nat) (g : Nat) (hn : m = is.length + g)
    (hB : (Region.noSelect ops && hoistB md ops is listed && (ts.all fun t => waitsB md ops t is) && (opsAt ops is).all readKind2) = true)
    (h : wpQuiet P ops S (fun a' => wpE P md ops Q S ts g (listAll is listed) a' w) (opsAt ops is) a) : wpE P md ops Q S ts m listed a w := by
  intro inv hS
  simp only [Bool.and_eq_true] at hB
  obtain ⟨⟨⟨hsel, h1⟩, h2⟩, h4⟩ := hB
  rw [hn]
  refine wpAnyL_hoist hsel hS is _ a inv h1 (fun t ht i hi => ?_) (fun a' ha' => ha' (closed_listAll is _ inv h1) hS) (wpIf_of_quiet2 _ _ h4 h)
  have h6 := List.all_eq_true.1 h2 t (by simpa using ht)
  simp only [waitsB, List.all_eq_true] at h6 ⊢
  intro j hj
  have : j = i := by simpa using hj
  subst this
  exact h6 j hi
end
end Go.Proofs.YtmcjnfghlpnghaaDoor

namespace Go.Proofs.YtmcjnfghlpnghaaDoor
open Go.RowKit

/-- a state in a variable and an error, the state's slices younger than the world at the start -/
def CutF (w1 : World) (s : Tr) (err : Int) (s7 s8 : Value) (wc : World) : Prop :=
  ∃ y Ag Ad ng nd cg cd, s7 = .pointer (some ⟨y, 0, none⟩) ∧ s8 = .int .i64 err ∧ wc.heap[y]? = some (.cells #[.bool s.mv, .bool s.al, .int .i64 s.place, .slice Ag ng cg, .slice Ad nd cd] 28 (0, 0)) ∧
    StAt wc wc.heap.size Ag Ad ng nd s ∧ (∀ a, Ag = some a → w1.heap.size ≤ a.block) ∧ (∀ a, Ad = some a → w1.heap.size ≤ a.block) ∧ Below w1.heap.size w1 wc

theorem cutF_mk {w1 wS w5 : World} {s : Tr} {err : Int} {y B ng nd cg cd : Nat} {Ag Ad : Option Addr} {z0 z1 z2 z3 z4 : Value} (hb : Below w1.heap.size w1 w5) (hy : w1.heap.size ≤ y) (ky : w5.heap[y]? = some (.cells #[z0, z1, z2, z3, z4] 28 (0, 0))) (hst : StAt w5 B Ag Ad ng nd s) (hB : B ≤ w5.heap.size)
    (hn : B ≤ y ∨ (∀ a, Ag = some a → y < a.block) ∧ ∀ a, Ad = some a → y < a.block) (hS : w1.heap.size ≤ wS.heap.size) (f1 : ∀ a, Ag = some a → wS.heap.size ≤ a.block) (f2 : ∀ a, Ad = some a → wS.heap.size ≤ a.block) :
    CutF w1 s err (.pointer (some ⟨y, 0, none⟩)) (.int .i64 err) (((((w5.setCell ⟨y, 0, none⟩ (.bool s.mv)).setCell ⟨y, 1, none⟩ (.bool s.al)).setCell ⟨y, 2, none⟩ (.int .i64 s.place)).setCell ⟨y, 3, none⟩ (.slice Ag ng cg)).setCell ⟨y, 4, none⟩ (.slice Ad nd cd)) :=
  ⟨y, Ag, Ad, ng, nd, cg, cd, rfl, rfl, put5_self _ _ _ _ _ ky, (put5_st _ _ _ _ _ hst hn).mono (by rw [put5_size]; exact hB), fun a ha => Nat.le_trans hS (f1 a ha), fun a ha => Nat.le_trans hS (f2 a ha), hb.trans (put5_below _ _ _ _ _ hy)⟩

/-- the state variable: a right state -/
def ShutSt (w1 : World) (y D : Nat) (T S : Int) (wc : World) : Prop :=
  ∃ s Ag Ad cg cd, wc.heap[y]? = some (.cells #[.bool s.mv, .bool s.al, .int .i64 s.place, .slice Ag D cg, .slice Ad D cd] 28 (0, 0)) ∧ StAt wc wc.heap.size Ag Ad D D s ∧ Right D T S s ∧
    (∀ a, Ag = some a → a.block ≠ y) ∧ (∀ a, Ad = some a → a.block ≠ y) ∧ Below w1.heap.size w1 wc

def ShutRel (w1 : World) (y D n : Nat) (T S : Int) (gk : Nat) (u9 : Value) (wr : World) : Prop := ∃ k : Nat, k + gk = n ∧ u9 = .int .i64 k ∧ ShutSt w1 y D T S wr

theorem put5_rd' {W : World} {B y : Nat} (a0 a1 a2 a3 a4 : Value) {A : Option Addr} {xs : List Value} (h : Rd W B A xs) (hn : ∀ a, A = some a → a.block ≠ y) : Rd (((((W.setCell ⟨y, 0, none⟩ a0).setCell ⟨y, 1, none⟩ a1).setCell ⟨y, 2, none⟩ a2).setCell ⟨y, 3, none⟩ a3).setCell ⟨y, 4, none⟩ a4) B A xs := fun k u hk => by
  obtain ⟨b, off, hA, hb, hc⟩ := h k u hk
  exact ⟨b, off, hA, hb, put5_cell a0 a1 a2 a3 a4 (show b ≠ y from hn ⟨b, off, none⟩ hA) hc⟩

/-- the state variable takes another state -/
theorem ShutSt.take {w1 wc : World} {y z D n1 n2 p1 p2 : Nat} {T S : Int} {s : Tr} {B1 B2 : Option Addr} {v0 v1 v2 v3 v4 : Value} (hy : w1.heap.size ≤ y) (ky : wc.heap[y]? = some (.cells #[v0, v1, v2, v3, v4] 28 (0, 0)))
    (hst : StAt wc wc.heap.size B1 B2 n1 n2 s) (hR : Right D T S s) (f1 : ∀ a, B1 = some a → z ≤ a.block) (f2 : ∀ a, B2 = some a → z ≤ a.block) (hz : y < z) (hb : Below w1.heap.size w1 wc) :
    ShutSt w1 y D T S (((((wc.setCell ⟨y, 0, none⟩ (.bool s.mv)).setCell ⟨y, 1, none⟩ (.bool s.al)).setCell ⟨y, 2, none⟩ (.int .i64 s.place)).setCell ⟨y, 3, none⟩ (.slice B1 n1 p1)).setCell ⟨y, 4, none⟩ (.slice B2 n2 p2)) := by
  obtain rfl : n1 = D := by rw [← hR.lg]; exact hst.lg.symm
  obtain rfl : n2 = n1 := by rw [← hR.ld]; exact hst.ld.symm
  have g1 : ∀ a, B1 = some a → a.block ≠ y := fun a ha => Nat.ne_of_gt (Nat.lt_of_lt_of_le hz (f1 a ha))
  have g2 : ∀ a, B2 = some a → a.block ≠ y := fun a ha => Nat.ne_of_gt (Nat.lt_of_lt_of_le hz (f2 a ha))
  refine ⟨s, B1, B2, p1, p2, put5_self _ _ _ _ _ ky, ?_, hR, g1, g2, hb.trans (put5_below _ _ _ _ _ hy)⟩
  rw [put5_size]
  exact ⟨hst.lg, hst.ld, put5_rd' _ _ _ _ _ hst.rg g1, put5_rd' _ _ _ _ _ hst.rd g2, hst.ng1, hst.nd1⟩

theorem ShutSt.keep {w1 wc w2 : World} {y D : Nat} {T S : Int} {s : Tr} {Ag Ad : Option Addr} {cg cd : Nat} (ky : wc.heap[y]? = some (.cells #[.bool s.mv, .bool s.al, .int .i64 s.place, .slice Ag D cg, .slice Ad D cd] 28 (0, 0))) (hst : StAt wc wc.heap.size Ag Ad D D s) (hR : Right D T S s)
    (g1 : ∀ a, Ag = some a → a.block ≠ y) (g2 : ∀ a, Ad = some a → a.block ≠ y) (hb : Below w1.heap.size w1 wc) (hb2 : Below wc.heap.size wc w2) : ShutSt w1 y D T S w2 :=
  ⟨s, Ag, Ad, cg, cd, (hb2.block y (lt_of_block ky)).trans ky, (hst.below hb2).mono hb2.size, hR, g1, g2, hb.trans (hb2.mono hb.size)⟩

theorem StAt.blocks {w : World} {B D : Nat} {Ag Ad : Option Addr} {s : Tr} (h : StAt w B Ag Ad D D s) (hD : 1 ≤ D) : ∃ b1 o1 b2 o2, Ag = some ⟨b1, o1, none⟩ ∧ Ad = some ⟨b2, o2, none⟩ ∧ b1 < B ∧ b2 < B := by
  have lg := h.lg
  have ld := h.ld
  obtain ⟨b1, o1, e1, l1, _⟩ := h.rg.at_ (k := 0) (u := .bool (s.gates[0]?.getD false)) (by
    have : 0 < s.gates.length := by omega
    simp [this])
  obtain ⟨b2, o2, e2, l2, _⟩ := h.rd.at_ (k := 0) (u := .bool (s.doors[0]?.getD false)) (by
    have : 0 < s.doors.length := by omega
    simp [this])
  exact ⟨b1, o1, b2, o2, e1, e2, l1, l2⟩

theorem rdv {w : World} {B b o k : Nat} {l : List Bool} (h : Rd w B (some ⟨b, o, none⟩) (l.map .bool)) (hk : k < l.length) : w.cell? ⟨b, o + k, none⟩ = some (.bool (l[k]?.getD false)) := by
  obtain ⟨b', o', hA, _, hc⟩ := h k (.bool (l[k]?.getD false)) (by simp [hk])
  simp only [Option.some.injEq, Addr.mk.injEq, and_true] at hA
  obtain ⟨rfl, rfl⟩ := hA
  exact hc

def InnerRel (wq : World) (D : Nat) (gk : Nat) (u12 : Value) (wr : World) : Prop := ∃ d : Nat, d + gk = D ∧ u12 = .int .i64 d ∧ Below wq.heap.size wq wr

set_option maxRecDepth 100000 in
set_option maxHeartbeats 8000000 in
theorem CareShut_yes (w : World) (D : Nat) (T S place : Int) (A : Option Addr) (n c : Nat) (l : List Ev) (hk : KindsAt w) (hl : l.length = n) (hn : n ≤ 20) (h : Rd w w.heap.size A (evCells l)) (hE : doorsE D T S = 0) (hP : placeE place = 0) :
    Calls Tryd.prog 10 #[.agg #[.int .i64 D, .int .i64 T, .int .i64 S], .int .i64 place, .slice A n c] w (AwakePost w) := by
  have hb0 : Below w.heap.size w (w.alloc (.cells #[.int .i64 D, .int .i64 T, .int .i64 S] 23)) := (Below.refl _ _).alloc (Nat.le_refl _) _
  have hk0 := hk.below hb0
  have k0 : (w.alloc (.cells #[.int .i64 D, .int .i64 T, .int .i64 S] 23)).heap[w.heap.size]? = some (.cells #[.int .i64 D, .int .i64 T, .int .i64 S] 23 (0, 0)) := by rw [heapq_alloc, if_pos rfl]
  have A0 := awake_any _ hk0
  have h0 := h.below hb0
  obtain ⟨⟨hD1, hD2⟩, hT, _⟩ := doorsE_zero hE
  have Dn := fun W => DoorsErr_any D T S W
  have Pn := fun W => PlaceErr_any place W
  have Bn := fun W => Begin_yes D T S place W (by omega) (by rw [firstE_cons, firstE_cons]; exact ⟨hE, hP, rfl⟩)
  have CHK : ∀ s : Tr, Right D T S s → chkE D T S s = 0 := fun s hR => by unfold chkE; rw [if_pos hE]; exact right_iff.2 hR
  have FUL : ∀ (s : Tr) (k pl dr : Int), Right D T S s → fullE D T S s k pl dr = applyE D T S s k pl dr := fun s k pl dr hR => by
    unfold fullE
    rw [if_pos (CHK s hR)]
    rfl
  have HCHK := Lib.hid CHK
  have HFUL := Lib.hid FUL
  simp only [hE] at Dn
  simp only [hP] at Pn
  have HB0 := Lib.hid hb0
  have HL := Lib.hid hl
  have HPL := Lib.hid hP
  clear hk hb0 h hl hE hP CHK FUL
  go_enter Tryd.func10, Tryd.ntmps10
  go_wp2_with fail
  generalize w.alloc (.cells #[.int .i64 D, .int .i64 T, .int .i64 S] 23) = w0 at *
  refine A0.mono ?_
  rintro e w1 ⟨rfl, hb1⟩
  have k1 := (hb1.block w.heap.size (lt_of_block k0)).trans k0
  have hk1 := hk0.below hb1
  have h1 : Rd w1 w1.heap.size A (evCells l) := (h0.below (hb1.mono HB0.out.size)).mono (by have := HB0.out.size; have := hb1.size; omega)
  have HBW := Lib.hid (HB0.out.trans (hb1.mono HB0.out.size))
  obtain ⟨c0, c1, c2⟩ := cells3 k1
  clear hb1 k0 k1 A0 h0 hk0 HB0
  go_wp2_with fail
  refine (Dn _).mono ?_
  rintro e w2 ⟨rfl, hb2⟩
  replace c0 := kept hb2 c0
  replace c1 := kept hb2 c1
  replace c2 := kept hb2 c2
  replace h1 := (h1.below hb2).mono hb2.size
  replace hk1 := hk1.below hb2
  have hxl : w.heap.size < w2.heap.size := lt_of_cell c0
  replace HBW := Lib.hid (HBW.out.trans (hb2.mono HBW.out.size))
  clear hb2 Dn
  go_upto_region 5 with (go_at_call 23; refine (Pn _).mono ?_; rintro e w' ⟨rfl, rfl⟩)
  go_wp2_with fail
  refine (Bn _).mono ?_
  rintro e w3 ⟨Ag0, Ad0, cg0, cd0, rfl, hst3, hb3⟩
  simp only [stV]
  replace c0 := kept hb3 c0
  replace c1 := kept hb3 c1
  replace c2 := kept hb3 c2
  replace h1 := (h1.below hb3).mono hb3.size
  replace hk1 := hk1.below hb3
  replace hxl := lt_of_cell c0
  replace HBW := Lib.hid (HBW.out.trans (hb3.mono HBW.out.size))
  clear hb3 Bn Pn
  have ky : (w3.alloc (.cells #[.bool (begin0 D place).mv, .bool (begin0 D place).al, .int .i64 (begin0 D place).place, .slice Ag0 D cg0, .slice Ad0 D cd0] 28)).heap[w3.heap.size]? = some (.cells #[.bool (begin0 D place).mv, .bool (begin0 D place).al, .int .i64 (begin0 D place).place, .slice Ag0 D cg0, .slice Ad0 D cd0] 28 (0, 0)) := by rw [heapq_alloc, if_pos rfl]
  have hba : Below w3.heap.size w3 (w3.alloc (.cells #[.bool (begin0 D place).mv, .bool (begin0 D place).al, .int .i64 (begin0 D place).place, .slice Ag0 D cg0, .slice Ad0 D cd0] 28)) := (Below.refl _ _).alloc (Nat.le_refl _) _
  obtain ⟨bb1, oo1, bb2, oo2, eA, eB, lA, lB⟩ := hst3.blocks (by omega)
  have SH : ShutSt w3 w3.heap.size D T S (w3.alloc (.cells #[.bool (begin0 D place).mv, .bool (begin0 D place).al, .int .i64 (begin0 D place).place, .slice Ag0 D cg0, .slice Ad0 D cd0] 28)) :=
    ⟨begin0 D place, Ag0, Ad0, cg0, cd0, ky, (hst3.below hba).mono hba.size, begin0_right HPL.out, fun a ha => (by rw [eA] at ha; cases ha; exact Nat.ne_of_lt lA), fun a ha => (by rw [eB] at ha; cases ha; exact Nat.ne_of_lt lB), hba⟩
  have n0 := World.new_ne w3 _ c0
  have HC0 := Lib.hid c0
  have HC1 := Lib.hid c1
  have HC2 := Lib.hid c2
  clear eA eB lA lB hst3 ky hba
  go_upto_region 8 with (fail)
  clear n0
  obtain ⟨y, hy⟩ : ∃ y, y = w3.heap.size := ⟨_, rfl⟩
  rw [← hy] at SH
  rw [← hy]
  have HY := Lib.hid hy
  clear hy
  go_wp2_with fail
  go_loopg [9] n (fun gk u9 wr => ShutRel w3 y D n T S gk u9 wr)
  case atStart => exact ⟨0, by omega, rfl, SH⟩
  case round =>
    clear SH
    obtain ⟨k, hkn, rfl, s, Ag, Ad, cg, cd, ky, hst, hR, g1, g2, hb⟩ := hrel
    have HKN := Lib.hid hkn
    clear hkn
    replace c0 := keptB hb hxl c0
    replace c1 := keptB hb hxl c1
    replace c2 := keptB hb hxl c2
    have HBR := Lib.hid hb
    have hs3 := hb.size
    have hkr := hk1.belowB hb (by omega)
    have hAr := h1.below hb
    clear hb
    by_cases hlt : k < n
    · have hkl : k < l.length := by rw [HL.out]; exact hlt
      obtain ⟨ev, hev⟩ : ∃ ev, l[k]? = some ev := ⟨_, List.getElem?_eq_getElem hkl⟩
      obtain ⟨z0, z1, z2⟩ := evCells_at l k ev hev
      obtain ⟨b, off, rfl, hbB, e0, e1, e2⟩ := hAr.at3 z0 z1 z2
      obtain ⟨ek, epl, edr⟩ := ev
      simp only at e0 e1 e2
      clear z0 z1 z2 hev hkl hAr
      obtain ⟨b0, b1, b2, b3, b4⟩ := cells5 ky
      obtain ⟨cc, hcc⟩ : ∃ cc, cc = fullE D T S s ek epl edr := ⟨_, rfl⟩
      obtain ⟨sC, hsC⟩ : ∃ sC, sC = if cc = 0 then applyS s ek epl edr else zeroTr := ⟨_, rfl⟩
      have AP : ∀ (W : World) (Ag Ad : Option Addr) (cg cd : Nat), KindsAt W → StAt W W.heap.size Ag Ad D D s → Calls Tryd.prog 43 #[.agg #[.int .i64 D, .int .i64 T, .int .i64 S], stV s Ag Ad D D cg cd, .agg #[.int .i64 ek, .int .i64 epl, .int .i64 edr]] W (ApRes W sC cc) := by
        intro W Ag Ad cg cd hk h
        rw [hsC, hcc]
        exact (Apply_any W W.heap.size D T S Ag Ad D D cg cd s ek epl edr h (Nat.le_refl _) hk).mono fun e w' hp => apRes_of (by omega) hp
      simp only [stV] at AP
      have CP := fun (W : World) (hW : Below wr.heap.size wr W) => Copy_any W wr.heap.size Ag Ad D D cg cd s (hst.below hW) hW.size (by omega) (by omega)
      simp only [stV] at CP
      have HSC := Lib.hid hsC
      have HCC := Lib.hid hcc
      clear hsC hcc
      go_upto_region 11 with (fail)
      have x0 := fun x : Xt wr => x.cell c0
      have x1 := fun x : Xt wr => x.cell c1
      have x2 := fun x : Xt wr => x.cell c2
      have y0 := fun x : Xt wr => x.cell b0
      have y1 := fun x : Xt wr => x.cell b1
      have y2 := fun x : Xt wr => x.cell b2
      have y3 := fun x : Xt wr => x.cell b3
      have y4 := fun x : Xt wr => x.cell b4
      have m0 := fun x : Xt wr => x.cell e0
      have m1 := fun x : Xt wr => x.cell e1
      have m2 := fun x : Xt wr => x.cell e2
      go_cut [10, 11] from 36 to 138 (fun s10 s11 wc => CutF wr sC cc s10 s11 wc)
      case first =>
        refine wp_region_eager [13] (fun w' => ∃ x : Xt wr, w' = x.1) (by kernel_rfl) ⟨⟨wr.drew, (Below.refl _ _).drew⟩, rfl⟩ ?_
        refine wpE_reads [0, 1, 3, 4, 5, 6] 8 rfl (by kernel_rfl) ?_
        simp only [opsAt_nil, opsAt_cons, consOpt_some, List.getElem?_toArray, List.getElem?_cons_zero, List.getElem?_cons_succ]
        repeat (go_big_quiet_step (fail))
        refine wpQuiet_nil ?_
        have hbd : Below wr.heap.size wr wr.drew := (Below.refl _ _).drew
        show wpE _ _ _ _ _ _ _ _ _ wr.drew
        generalize wr.drew = wd at *
        refine wpE_two (i := 2) (k := 11) rfl (by kernel_rfl) rfl rfl ?_ ?_
        · unfold wpMid
          simp only [opsAt_nil, opsAt_cons, consOpt_some, List.getElem?_toArray, List.getElem?_cons_zero, List.getElem?_cons_succ]
          go_wp2_with (go_at_call 42; refine (CP wd hbd).mono ?_; rintro e wA ⟨a1, a2, i1, i2, rfl, ho, hbT⟩)
          have hbA := hbd.trans (hbT.mono hbd.size)
          refine onlyNormal_mk ⟨⟨⟨_, hbA⟩, rfl⟩, ?_⟩
          refine wpE_two (i := 7) (k := 11) rfl (by kernel_rfl) rfl rfl ?_ ?_
          · unfold wpMid
            simp only [opsAt_nil, opsAt_cons, consOpt_some, List.getElem?_toArray, List.getElem?_cons_zero, List.getElem?_cons_succ]
            go_wp2_with (go_at_call 43; refine (AP wA _ _ _ _ (hkr.below hbA) (ho.at_ (by omega) (by omega))).mono ?_; rintro e wB ⟨A1, A2, n1, n2, p1, p2, rfl, hst', f1', f2', hbS⟩; simp only [stV])
            have hbB := hbA.trans (hbS.mono hbA.size)
            refine onlyNormal_mk ⟨⟨⟨_, hbB⟩, rfl⟩, ?_⟩
            refine wpE_reads [8, 9, 10] 3 rfl (by kernel_rfl) ?_
            simp only [opsAt_nil, opsAt_cons, consOpt_some, List.getElem?_toArray, List.getElem?_cons_zero, List.getElem?_cons_succ]
            repeat (go_big_quiet_step (fail))
            refine wpQuiet_nil ?_
            refine wpE_one (i := 11) rfl (by kernel_rfl) rfl ?_
            unfold wpMid
            simp only [opsAt_nil, opsAt_cons, consOpt_some, List.getElem?_toArray, List.getElem?_cons_zero, List.getElem?_cons_succ]
            go_wp2
            have ky0 : (wB.alloc (.cells #[.bool false, .bool false, .int .i64 0, .slice none 0 0, .slice none 0 0] 28)).heap[wB.heap.size]? = some (.cells #[.bool false, .bool false, .int .i64 0, .slice none 0 0, .slice none 0 0] 28 (0, 0)) := by rw [heapq_alloc, if_pos rfl]
            have hbY := hbB.alloc hbB.size (.cells #[.bool false, .bool false, .int .i64 0, .slice none 0 0, .slice none 0 0] 28)
            have hyl := hbB.size
            have hstY := hst'.below ((Below.refl _ _).alloc (Nat.le_refl _) (.cells #[.bool false, .bool false, .int .i64 0, .slice none 0 0, .slice none 0 0] 28))
            generalize wB.alloc (.cells #[.bool false, .bool false, .int .i64 0, .slice none 0 0, .slice none 0 0] 28) = wY at *
            generalize wB.heap.size = yy at *
            refine onlyNormal_mk ⟨⟨⟨_, hbY⟩, rfl⟩, ?_⟩
            obtain ⟨t0, t1, t2, t3, t4, q0, q1, q2, q3, q4⟩ := res5 ky0
            refine wpE_one (i := 12) rfl (by kernel_rfl) rfl ?_
            unfold wpMid
            simp only [opsAt_nil, opsAt_cons, consOpt_some, List.getElem?_toArray, List.getElem?_cons_zero, List.getElem?_cons_succ]
            go_wp2
            refine onlyNormal_mk ⟨⟨⟨_, hbY.trans (put5_below _ _ _ _ _ hyl)⟩, rfl⟩, ?_⟩
            refine wpE_tail rfl (by kernel_rfl) ?_
            simp only [opsAt_nil, opsAt_cons, consOpt_some, List.getElem?_toArray, List.getElem?_cons_zero, List.getElem?_cons_succ]
            go_wp2
            refine onlyNormal_mk ?_
            go_wp2_with fail
            go_meet
            exact cutF_mk hbY hyl ky0 hstY (Nat.le_of_lt (lt_of_block ky0)) (.inl (Nat.le_refl _)) hbA.size f1' f2'
          · unfold wpMid
            simp only [opsAt_nil, opsAt_cons, consOpt_some, List.getElem?_toArray, List.getElem?_cons_zero, List.getElem?_cons_succ]
            go_wp2
            have ky0 : (wA.alloc (.cells #[.bool false, .bool false, .int .i64 0, .slice none 0 0, .slice none 0 0] 28)).heap[wA.heap.size]? = some (.cells #[.bool false, .bool false, .int .i64 0, .slice none 0 0, .slice none 0 0] 28 (0, 0)) := by rw [heapq_alloc, if_pos rfl]
            have hbY := hbA.alloc hbA.size (.cells #[.bool false, .bool false, .int .i64 0, .slice none 0 0, .slice none 0 0] 28)
            have hyl := hbA.size
            have hoY := ho.below ((Below.refl wA.heap.size wA).alloc (Nat.le_refl _) (.cells #[.bool false, .bool false, .int .i64 0, .slice none 0 0, .slice none 0 0] 28))
            generalize wA.alloc (.cells #[.bool false, .bool false, .int .i64 0, .slice none 0 0, .slice none 0 0] 28) = wY at *
            generalize wA.heap.size = yy at *
            refine onlyNormal_mk ⟨⟨⟨_, hbY⟩, rfl⟩, ?_⟩
            refine wpE_one (i := 7) rfl (by kernel_rfl) rfl ?_
            unfold wpMid
            simp only [opsAt_nil, opsAt_cons, consOpt_some, List.getElem?_toArray, List.getElem?_cons_zero, List.getElem?_cons_succ]
            go_wp2_with (go_at_call 43; refine (AP wY _ _ _ _ (hkr.below hbY) (hoY.at_ (by omega) (by omega))).mono ?_; rintro e wB ⟨A1, A2, n1, n2, p1, p2, rfl, hst', f1', f2', hbS⟩; simp only [stV])
            have hbB := hbY.trans (hbS.mono hbY.size)
            have ky := (hbS.block yy (lt_of_block ky0)).trans ky0
            refine onlyNormal_mk ⟨⟨⟨_, hbB⟩, rfl⟩, ?_⟩
            refine wpE_reads [8, 9, 10] 2 rfl (by kernel_rfl) ?_
            simp only [opsAt_nil, opsAt_cons, consOpt_some, List.getElem?_toArray, List.getElem?_cons_zero, List.getElem?_cons_succ]
            repeat (go_big_quiet_step (fail))
            refine wpQuiet_nil ?_
            obtain ⟨t0, t1, t2, t3, t4, q0, q1, q2, q3, q4⟩ := res5 ky
            refine wpE_one (i := 12) rfl (by kernel_rfl) rfl ?_
            unfold wpMid
            simp only [opsAt_nil, opsAt_cons, consOpt_some, List.getElem?_toArray, List.getElem?_cons_zero, List.getElem?_cons_succ]
            go_wp2
            refine onlyNormal_mk ⟨⟨⟨_, hbB.trans (put5_below _ _ _ _ _ hyl)⟩, rfl⟩, ?_⟩
            refine wpE_tail rfl (by kernel_rfl) ?_
            simp only [opsAt_nil, opsAt_cons, consOpt_some, List.getElem?_toArray, List.getElem?_cons_zero, List.getElem?_cons_succ]
            go_wp2
            refine onlyNormal_mk ?_
            go_wp2_with fail
            go_meet
            exact cutF_mk hbB hyl ky hst' (Nat.le_refl _) (.inr ⟨fun a ha => Nat.lt_of_lt_of_le (lt_of_block ky0) (f1' a ha), fun a ha => Nat.lt_of_lt_of_le (lt_of_block ky0) (f2' a ha)⟩) hbY.size f1' f2'
        · unfold wpMid
          simp only [opsAt_nil, opsAt_cons, consOpt_some, List.getElem?_toArray, List.getElem?_cons_zero, List.getElem?_cons_succ]
          go_wp2
          have ky0 : (wd.alloc (.cells #[.bool false, .bool false, .int .i64 0, .slice none 0 0, .slice none 0 0] 28)).heap[wd.heap.size]? = some (.cells #[.bool false, .bool false, .int .i64 0, .slice none 0 0, .slice none 0 0] 28 (0, 0)) := by rw [heapq_alloc, if_pos rfl]
          have hbY := hbd.alloc hbd.size (.cells #[.bool false, .bool false, .int .i64 0, .slice none 0 0, .slice none 0 0] 28)
          have hyl := hbd.size
          generalize wd.alloc (.cells #[.bool false, .bool false, .int .i64 0, .slice none 0 0, .slice none 0 0] 28) = wY at *
          generalize wd.heap.size = yy at *
          refine onlyNormal_mk ⟨⟨⟨_, hbY⟩, rfl⟩, ?_⟩
          refine wpE_one (i := 2) rfl (by kernel_rfl) rfl ?_
          unfold wpMid
          simp only [opsAt_nil, opsAt_cons, consOpt_some, List.getElem?_toArray, List.getElem?_cons_zero, List.getElem?_cons_succ]
          go_wp2_with (go_at_call 42; refine (CP wY hbY).mono ?_; rintro e wA ⟨a1, a2, i1, i2, rfl, ho, hbT⟩)
          have hbA := hbY.trans (hbT.mono hbY.size)
          have ky1 := (hbT.block yy (lt_of_block ky0)).trans ky0
          refine onlyNormal_mk ⟨⟨⟨_, hbA⟩, rfl⟩, ?_⟩
          refine wpE_one (i := 7) rfl (by kernel_rfl) rfl ?_
          unfold wpMid
          simp only [opsAt_nil, opsAt_cons, consOpt_some, List.getElem?_toArray, List.getElem?_cons_zero, List.getElem?_cons_succ]
          go_wp2_with (go_at_call 43; refine (AP wA _ _ _ _ (hkr.below hbA) (ho.at_ (by omega) (by omega))).mono ?_; rintro e wB ⟨A1, A2, n1, n2, p1, p2, rfl, hst', f1', f2', hbS⟩; simp only [stV])
          have hbB := hbA.trans (hbS.mono hbA.size)
          have ky := (hbS.block yy (lt_of_block ky1)).trans ky1
          refine onlyNormal_mk ⟨⟨⟨_, hbB⟩, rfl⟩, ?_⟩
          refine wpE_reads [8, 9, 10] 2 rfl (by kernel_rfl) ?_
          simp only [opsAt_nil, opsAt_cons, consOpt_some, List.getElem?_toArray, List.getElem?_cons_zero, List.getElem?_cons_succ]
          repeat (go_big_quiet_step (fail))
          refine wpQuiet_nil ?_
          obtain ⟨t0, t1, t2, t3, t4, q0, q1, q2, q3, q4⟩ := res5 ky
          refine wpE_one (i := 12) rfl (by kernel_rfl) rfl ?_
          unfold wpMid
          simp only [opsAt_nil, opsAt_cons, consOpt_some, List.getElem?_toArray, List.getElem?_cons_zero, List.getElem?_cons_succ]
          go_wp2
          refine onlyNormal_mk ⟨⟨⟨_, hbB.trans (put5_below _ _ _ _ _ hyl)⟩, rfl⟩, ?_⟩
          refine wpE_tail rfl (by kernel_rfl) ?_
          simp only [opsAt_nil, opsAt_cons, consOpt_some, List.getElem?_toArray, List.getElem?_cons_zero, List.getElem?_cons_succ]
          go_wp2
          refine onlyNormal_mk ?_
          go_wp2_with fail
          go_meet
          exact cutF_mk hbB hyl ky hst' (Nat.le_refl _) (.inr ⟨fun a ha => Nat.lt_of_lt_of_le (lt_of_block ky1) (f1' a ha), fun a ha => Nat.lt_of_lt_of_le (lt_of_block ky1) (f2' a ha)⟩) hbA.size f1' f2'
      case rest =>
        obtain ⟨z, B1, B2, n1, n2, p1, p2, rfl, rfl, kz, hstC, f1, f2, hb1⟩ := hcut
        have hyr := lt_of_block ky
        replace ky := (hb1.block y hyr).trans ky
        replace hst := (hst.below hb1).mono hb1.size
        replace c0 := kept hb1 c0
        replace c1 := kept hb1 c1
        replace c2 := kept hb1 c2
        replace HBR := Lib.hid (HBR.out.trans (hb1.mono hs3))
        have hs4 := Nat.le_trans hs3 hb1.size
        clear hb1 x0 x1 x2 y0 y1 y2 y3 y4 m0 m1 m2 b0 b1 b2 b3 b4 e0 e1 e2 AP CP
        go_upto_if 54 with (fail)
        go_cut [] from 36 to 138 (fun wc' => ShutSt w3 y D T S wc')
        case first =>
          by_cases hc : cc = 0
          · have hC : sC = applyS s ek epl edr := by rw [HSC.out, if_pos hc]
            have hR2 : Right D T S sC := by
              rw [hC]
              exact apply_right hR (by rw [← HFUL.out s ek epl edr hR, ← HCC.out]; exact hc)
            have HR2 := Lib.hid hR2
            have hc1 : (cc == 0) = true := beq_iff_eq.2 hc
            clear hC hR2 hc
            obtain ⟨b0, b1, b2, b3, b4⟩ := cells5 kz
            obtain ⟨t0, t1, t2, t3, t4, q0, q1, q2, q3, q4⟩ := res5 ky
            go_wp2_with fail
            go_meet
            exact ShutSt.take (p1 := p1) (p2 := p2) (by rw [HY.out]; exact Nat.le_refl _) ky hstC HR2.out f1 f2 hyr HBR.out
          · have hc1 : (cc == 0) = false := beq_eq_false_iff_ne.2 hc
            clear hc
            go_wp2_with fail
            go_meet
            exact ⟨s, Ag, Ad, cg, cd, ky, hst, hR, g1, g2, HBR.out⟩
        case rest =>
          clear ky hst hR g1 g2 HBR kz hstC f1 f2 HSC HCC c0 c1 c2 hs4 hyr
          obtain ⟨s2, Ag, Ad, cg, cd, ky, hst, hR, g1, g2, hb⟩ := hcut
          have hs4 := hb.size
          have HBR := Lib.hid hb
          have c0 := keptB hb hxl HC0.out
          have c1 := keptB hb hxl HC1.out
          have c2 := keptB hb hxl HC2.out
          clear hb
          obtain ⟨mv, al, pl, gs, ds⟩ := s2
          have hrp : placeE pl = 0 := hR.place
          have zp := placeE_zero hrp
          have CP := fun (W : World) (hW : Below wc.heap.size wc W) => Copy_any W wc.heap.size Ag Ad D D cg cd ⟨mv, al, pl, gs, ds⟩ (hst.below hW) hW.size (by omega) (by omega)
          have CH := fun (W : World) (Ag Ad : Option Addr) (cg cd : Nat) (h : StAt W W.heap.size Ag Ad D D ⟨mv, al, pl, gs, ds⟩) => CheckState_any W W.heap.size D T S Ag Ad D D cg cd ⟨mv, al, pl, gs, ds⟩ h (Nat.le_refl _)
          simp only [HCHK.out _ hR] at CH
          simp only [stV] at CP CH
          have PN := fun W => PlaceErr_val pl 0 hrp W
          have HRP := Lib.hid hrp
          have hdd : ((D : Int) != (D : Int)) = false := by simp
          clear hrp
          obtain ⟨b0, b1, b2, b3, b4⟩ := cells5 ky
          simp only at b0 b1 b2
          go_upto_region 14 with (fail)
          have x0 := fun x : Xt wc => x.cell c0
          have x1 := fun x : Xt wc => x.cell c1
          have x2 := fun x : Xt wc => x.cell c2
          have y0 := fun x : Xt wc => x.cell b0
          have y1 := fun x : Xt wc => x.cell b1
          have y2 := fun x : Xt wc => x.cell b2
          have y3 := fun x : Xt wc => x.cell b3
          have y4 := fun x : Xt wc => x.cell b4
          refine wp_region_eager [26] (fun w' => ∃ x : Xt wc, w' = x.1) (by kernel_rfl) ⟨⟨wc.drew, (Below.refl _ _).drew⟩, rfl⟩ ?_
          refine wpE_reads [0, 1, 3, 4] 23 rfl (by kernel_rfl) ?_
          simp only [opsAt_nil, opsAt_cons, consOpt_some, List.getElem?_toArray, List.getElem?_cons_zero, List.getElem?_cons_succ]
          repeat (go_big_quiet_step (fail))
          refine wpQuiet_nil ?_
          have hbd : Below wc.heap.size wc wc.drew := (Below.refl _ _).drew
          show wpE _ _ _ _ _ _ _ _ _ wc.drew
          have bd3 := kept hbd b3
          generalize wc.drew = wd at *
          refine wpE_one (i := 2) rfl (by kernel_rfl) rfl ?_
          unfold wpMid
          simp only [opsAt_nil, opsAt_cons, consOpt_some, List.getElem?_toArray, List.getElem?_cons_zero, List.getElem?_cons_succ]
          go_wp2
          refine onlyNormal_mk ⟨⟨⟨_, hbd⟩, rfl⟩, ?_⟩
          refine wpE_reads [5, 6, 7, 8, 10, 11] 16 rfl (by kernel_rfl) ?_
          simp only [opsAt_nil, opsAt_cons, consOpt_some, List.getElem?_toArray, List.getElem?_cons_zero, List.getElem?_cons_succ]
          repeat (go_big_quiet_step (fail))
          refine wpQuiet_nil ?_
          refine wpE_one (i := 9) rfl (by kernel_rfl) rfl ?_
          unfold wpMid
          simp only [opsAt_nil, opsAt_cons, consOpt_some, List.getElem?_toArray, List.getElem?_cons_zero, List.getElem?_cons_succ]
          go_wp2
          refine onlyNormal_mk ⟨⟨⟨_, hbd⟩, rfl⟩, ?_⟩
          refine wpE_reads2 [12, 13, 14, 15, 16] 10 rfl (by kernel_rfl) ?_
          simp only [opsAt_nil, opsAt_cons, consOpt_some, List.getElem?_toArray, List.getElem?_cons_zero, List.getElem?_cons_succ]
          repeat (go_big_quiet_step (fail))
          refine wpQuiet_nil ?_
          refine wpE_one (i := 17) rfl (by kernel_rfl) rfl ?_
          unfold wpMid
          simp only [opsAt_nil, opsAt_cons, consOpt_some, List.getElem?_toArray, List.getElem?_cons_zero, List.getElem?_cons_succ]
          go_wp2_with (go_at_call 23; refine (PN _).mono ?_; rintro e w' ⟨rfl, rfl⟩)
          refine onlyNormal_mk ⟨⟨⟨_, hbd⟩, rfl⟩, ?_⟩
          refine wpE_reads2 [18, 19, 20, 21, 22] 4 rfl (by kernel_rfl) ?_
          simp only [opsAt_nil, opsAt_cons, consOpt_some, List.getElem?_toArray, List.getElem?_cons_zero, List.getElem?_cons_succ]
          repeat (go_big_quiet_step (fail))
          refine wpQuiet_nil ?_
          refine wpE_one (i := 23) rfl (by kernel_rfl) rfl ?_
          unfold wpMid
          simp only [opsAt_nil, opsAt_cons, consOpt_some, List.getElem?_toArray, List.getElem?_cons_zero, List.getElem?_cons_succ]
          go_wp2_with (go_at_call 42; refine (CP wd hbd).mono ?_; rintro e wA ⟨a1, a2, i1, i2, rfl, ho, hbT⟩)
          have hbA := hbd.trans (hbT.mono hbd.size)
          refine onlyNormal_mk ⟨⟨⟨_, hbA⟩, rfl⟩, ?_⟩
          refine wpE_one (i := 24) rfl (by kernel_rfl) rfl ?_
          unfold wpMid
          simp only [opsAt_nil, opsAt_cons, consOpt_some, List.getElem?_toArray, List.getElem?_cons_zero, List.getElem?_cons_succ]
          go_wp2_with (go_at_call 41; refine (CH wA _ _ i1 i2 (ho.at_ (by omega) (by omega))).mono ?_; rintro e wB ⟨rfl, hbS⟩)
          have hbB2 := hbA.trans (hbS.mono hbA.size)
          refine onlyNormal_mk ⟨⟨⟨_, hbB2⟩, rfl⟩, ?_⟩
          refine wpE_reads [25] 1 rfl (by kernel_rfl) ?_
          simp only [opsAt_nil, opsAt_cons, consOpt_some, List.getElem?_toArray, List.getElem?_cons_zero, List.getElem?_cons_succ]
          repeat (go_big_quiet_step (fail))
          refine wpQuiet_nil ?_
          refine wpE_tail rfl (by kernel_rfl) ?_
          simp only [opsAt_nil, opsAt_cons, consOpt_some, List.getElem?_toArray, List.getElem?_cons_zero, List.getElem?_cons_succ]
          go_wp2
          refine onlyNormal_mk ?_
          clear x0 x1 x2 y0 y1 y2 y3 y4 CP CH PN hbS hbT hbA ho hbd
          replace ky := (hbB2.block y (lt_of_block ky)).trans ky
          replace hst := (hst.below hbB2).mono hbB2.size
          replace c0 := kept hbB2 c0
          replace c1 := kept hbB2 c1
          replace c2 := kept hbB2 c2
          replace b0 := kept hbB2 b0
          replace b1 := kept hbB2 b1
          replace b2 := kept hbB2 b2
          replace b3 := kept hbB2 b3
          replace b4 := kept hbB2 b4
          replace HBR := Lib.hid (HBR.out.trans (hbB2.mono hs4))
          replace hs4 := Nat.le_trans hs4 hbB2.size
          clear hbB2
          go_wp2_with fail
          obtain ⟨bG, oG, bD, oD, rfl, rfl, _, _⟩ := hst.blocks (by omega)
          have hlg : gs.length = D := hst.lg
          have hld : ds.length = D := hst.ld
          have HLG := Lib.hid hlg
          have HLD := Lib.hid hld
          clear hlg hld
          go_loopg [12] D (fun gk u12 wr' => InnerRel wB D gk u12 wr')
          case atStart => exact ⟨0, by omega, rfl, Below.refl _ _⟩
          case round =>
            obtain ⟨d, hd, rfl, hbi⟩ := hrel
            have HDD := Lib.hid hd
            clear hd
            by_cases hdl : d < D
            · have v1 := kept hbi (rdv hst.rg (k := d) (by rw [HLG.out]; exact hdl))
              have v2 := kept hbi (rdv hst.rd (k := d) (by rw [HLD.out]; exact hdl))
              have f1 : mv = true → gs[d]?.getD false = false ∧ ds[d]?.getD false = false := fun hm => by
                have := isOpenB_false.1 (hR.mv hm)
                exact ⟨this.1 d, this.2 d⟩
              have f2 : gs[d]?.getD false = true → inPlaceB T S pl = true := fun hg => hR.inp (hasB_true.2 ⟨d, hg⟩)
              have f3 : al = false → ds[d]?.getD false = true → gs[d]?.getD false = true := fun ha hd => bareB_false.1 (hR.bare ha) d hd
              replace c0 := kept hbi c0
              replace c1 := kept hbi c1
              replace c2 := kept hbi c2
              replace b0 := kept hbi b0
              replace b1 := kept hbi b1
              replace b2 := kept hbi b2
              replace b3 := kept hbi b3
              replace b4 := kept hbi b4
              have HBI := Lib.hid hbi
              clear hbi ky hst hR g1 g2 HBR
              simp only at v1 v2
              generalize gs[d]?.getD false = g at *
              generalize ds[d]?.getD false = dd at *
              cases mv <;> cases al <;> cases g <;> cases dd
              all_goals first
                | exact absurd (f1 rfl).1 (by decide)
                | exact absurd (f1 rfl).2 (by decide)
                | exact absurd (f3 rfl rfl) (by decide)
                | (fail_if_success (have hip := f2 rfl)
                   clear f1 f2 f3
                   go_wp2
                   go_roundg (gk - 1)
                   case measure => have := HDD.out; omega
                   case rel => exact ⟨d + 1, by have := HDD.out; omega, by go_num, HBI.out⟩)
                | skip
              all_goals
                have hip := f2 rfl
                have IP := fun W => InPlace_val D T S pl true hip W zp hT
                clear f1 f2 f3 hip
                go_wp2_with (go_at_call 59; refine (IP _).mono ?_; rintro e wI ⟨rfl, hbI⟩; have b1' := kept hbI b1; have b3' := kept hbI b3; have b4' := kept hbI b4; have v1' := kept hbI v1; have v2' := kept hbI v2)
                go_roundg (gk - 1)
                case measure => have := HDD.out; omega
                case rel => exact ⟨d + 1, by have := HDD.out; omega, by go_num, HBI.out.trans (hbI.mono HBI.out.size)⟩
            · obtain rfl : d = D := by have := HDD.out; omega
              have e0 := kept hbi c0
              clear c0 c1 c2 b0 b1 b2 b3 b4
              have HBI := Lib.hid hbi
              have KP := Lib.hid (ShutSt.keep ky hst hR g1 g2 HBR.out hbi)
              clear hbi ky hst hR g1 g2 HBR
              go_wp2
              go_roundg (n - (k + 1))
              case measure => have := HKN.out; omega
              case rel => exact ⟨k + 1, by have := HKN.out; omega, by go_num, KP.out⟩
    · obtain rfl : k = n := by have := HKN.out; omega
      go_wp2
      go_ret
      exact ⟨rfl, HBW.out.trans (HBR.out.mono HBW.out.size)⟩
end Go.Proofs.YtmcjnfghlpnghaaDoor

namespace Go.Proofs.YtmcjnfghlpnghaaDoor
open Go.RowKit

set_option maxRecDepth 100000 in
set_option maxHeartbeats 4000000 in
theorem CareShut_no (w : World) (D T S place : Int) (A : Option Addr) (n c : Nat) (hk : KindsAt w) (hn : n ≤ maxLen) (h : 20 < n ∨ (n ≤ 20 ∧ doorsE D T S ≠ 0) ∨ (n ≤ 20 ∧ doorsE D T S = 0 ∧ placeE place ≠ 0)) :
    Calls Tryd.prog 10 #[.agg #[.int .i64 D, .int .i64 T, .int .i64 S], .int .i64 place, .slice A n c] w (AwakePost w) := by
  unfold maxLen at hn
  have hb0 : Below w.heap.size w (w.alloc (.cells #[.int .i64 D, .int .i64 T, .int .i64 S] 23)) := (Below.refl _ _).alloc (Nat.le_refl _) _
  have A0 := awake_any _ (hk.below hb0)
  have k0 : (w.alloc (.cells #[.int .i64 D, .int .i64 T, .int .i64 S] 23)).heap[w.heap.size]? = some (.cells #[.int .i64 D, .int .i64 T, .int .i64 S] 23 (0, 0)) := by rw [heapq_alloc, if_pos rfl]
  obtain ⟨c0, c1, c2⟩ := cells3w k0
  have HB0 := Lib.hid hb0
  have hs0 := hb0.size
  have Dn := fun W => DoorsErr_any D T S W
  have Pn := fun W => PlaceErr_any place W
  clear hk hb0 k0
  go_enter Tryd.func10, Tryd.ntmps10
  go_wp2_with fail
  generalize w.alloc (.cells #[.int .i64 D, .int .i64 T, .int .i64 S] 23) = w0 at *
  refine A0.mono ?_
  rintro e w1 ⟨rfl, hb1⟩
  replace c0 := kept hb1 c0
  replace c1 := kept hb1 c1
  replace c2 := kept hb1 c2
  have hs1 := Nat.le_trans hs0 hb1.size
  replace HB0 := Lib.hid (HB0.out.trans (hb1.mono hs0))
  clear hb1 A0
  rcases h with h | ⟨h, hE⟩ | ⟨h, hE, hP⟩
  · have g2 : (20 : Int) < (n : Int) := by omega
    go_wp2
    go_ret
    exact ⟨rfl, HB0.out⟩
  · have g2 : ¬ (20 : Int) < (n : Int) := by omega
    have hE1 : (doorsE D T S != 0) = true := bne_iff_ne.2 hE
    generalize doorsE D T S = E at *
    clear hE
    go_wp2_with (go_at_call 22; refine (Dn _).mono ?_; rintro e w2 ⟨rfl, hb2⟩)
    go_ret
    exact ⟨rfl, HB0.out.trans (hb2.mono hs1)⟩
  · have g2 : ¬ (20 : Int) < (n : Int) := by omega
    simp only [hE] at Dn
    have hP1 : (placeE place != 0) = true := bne_iff_ne.2 hP
    generalize placeE place = E at *
    clear hE hP
    go_wp2_with (first | (go_at_call 22; refine (Dn _).mono ?_; rintro e w2 ⟨rfl, hb2⟩) | (go_at_call 23; refine (Pn _).mono ?_; rintro e w' ⟨rfl, rfl⟩))
    go_ret
    exact ⟨rfl, HB0.out.trans (hb2.mono hs1)⟩

theorem CareShut_all (w : World) (D T S place : Int) (A : Option Addr) (n c : Nat) (l : List Ev) (hk : KindsAt w) (hl : l.length = n) (hn : n ≤ maxLen) (h : Rd w w.heap.size A (evCells l)) :
    Calls Tryd.prog 10 #[.agg #[.int .i64 D, .int .i64 T, .int .i64 S], .int .i64 place, .slice A n c] w (AwakePost w) := by
  by_cases hs : n ≤ 20
  · by_cases hE : doorsE D T S = 0
    · by_cases hP : placeE place = 0
      · obtain ⟨d, rfl⟩ := Int.eq_ofNat_of_zero_le (show 0 ≤ D by have := doorsE_zero hE; omega)
        exact CareShut_yes w d T S place A n c l hk hl hs h hE hP
      · exact CareShut_no w D T S place A n c hk hn (.inr (.inr ⟨hs, hE, hP⟩))
    · exact CareShut_no w D T S place A n c hk hn (.inr (.inl ⟨hs, hE⟩))
  · exact CareShut_no w D T S place A n c hk hn (.inl (by omega))
end Go.Proofs.YtmcjnfghlpnghaaDoor
