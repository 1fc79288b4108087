/- Rescue: worst, the walk. -/
import Derived.Test.YtmcjnfghlpnghaaGreatDoorW4
namespace Go.Proofs.YtmcjnfghlpnghaaGreatDoor
open Go.RowKit
def PlOk (acc : List Int) : Prop := ∀ p ∈ acc, 0 ≤ p ∧ p ≤ 2000000000
def MeetRel (w0 : World) (X : Nat) (l : List Dep) (L : Int) (ds : List Nat) (m : Nat) (F1 : List Int) (u6 u25 : Value) (wr : World) : Prop :=
  ∃ (k : Nat) (acc : List Int), k ≤ m ∧ u25 = .int .i64 k ∧ wr.ownsRow X 3 1 u6 acc.length (intCells acc) ∧ acc.length ≤ 2 + 8 * k ∧ 2 ≤ acc.length ∧ PlOk acc ∧ meetI l L ds acc (ds.drop k) = F1 ∧ Below X w0 wr
def MeetRel2 (w0 : World) (X : Nat) (l : List Dep) (L : Int) (ds : List Nat) (m i N : Nat) (F2 : List Int) (u6 u31 : Value) (wr : World) : Prop :=
  ∃ (j : Nat) (acc : List Int), j ≤ m ∧ u31 = .int .i64 j ∧ wr.ownsRow X 3 1 u6 acc.length (intCells acc) ∧ acc.length ≤ N + j ∧ 2 ≤ acc.length ∧ PlOk acc ∧ meetK l L i acc (ds.drop j) = F2 ∧ Below X w0 wr
theorem RescueAt.keepB {w w' : World} {B K g1 g2 : Nat} {L : Int} {A D : Option Addr} {n c m e : Nat} {l : List Dep} {ds : List Nat} (h : RescueAt w B g1 g2 L A D n c m e l ds) (hb : Below K w w') (hB : B ≤ K) (h1 : g1 < K) (h2 : g2 < K) : RescueAt w' B g1 g2 L A D n c m e l ds :=
  ⟨keptB hb h2 h.c0, keptB hb h2 h.c1, keptB hb h1 h.d0, h.rl.below (hb.mono hB), h.rd.below (hb.mono hB), h.ln, h.lm, h.ok, h.ix, h.n1, h.m1, Nat.le_trans h.B1 hb.size⟩
def WorstRel (w2 : World) (y : Nat) (l : List Dep) (ds : List Nat) (S : List Int) (F3 : Int × Int) (u72 : Value) (wr : World) : Prop :=
  ∃ (k : Nat) (o : Int × Int), k ≤ S.length ∧ u72 = .int .i64 k ∧ wr.heap[y]? = some (.cells #[.int .i64 o.1, .int .i64 o.2] 90 (0, 0)) ∧ worstGo l ds o (S.drop k) = F3 ∧ Below y w2 wr
def WorstPost (w : World) (o : Int × Int) (e : Ending) (w' : World) : Prop := e = .returned (.agg #[.int .i64 o.1, .int .i64 o.2]) ∧ Below w.heap.size w w'
set_option maxRecDepth 100000 in
set_option maxHeartbeats 8000000 in
theorem worst_any (w : World) (B : Nat) (L : Int) (A D : Option Addr) (n c m e : Nat) (l : List Dep) (ds : List Nat) (hl : l.length = n) (hm : ds.length = m) (h : Rd w B A (depCells l)) (hd : Rd w B D (natCells ds)) (hB : B ≤ w.heap.size)
    (hL : 0 ≤ L ∧ L ≤ 1000000000) (ok : ∀ d ∈ l, DepOk d) (ix : ∀ i ∈ ds, i < n) (hn8 : n ≤ 1000) (hm8 : m ≤ 8) :
    Calls Tryz.prog 86 #[.agg #[.int .i64 L, .slice A n c], .slice D m e] w (WorstPost w (worstM l L ds)) := by
  obtain ⟨hL0, hL1⟩ := hL
  obtain ⟨i1, hi1, hy0, hy1, hy2⟩ := info_parts info3
  have H1 := Lib.hid hl
  have H2 := Lib.hid hm
  have H3 := Lib.hid h
  have H4 := Lib.hid hd
  have OK := Lib.hid ok
  have IX := Lib.hid ix
  clear hl hm h hd ok ix
  go_enter Tryz.func86, Tryz.ntmps86
  go_upto_region 3 with (fail)
  have hb0 : Below w.heap.size w ((((w.alloc (Obj.cells #[Value.int IntKind.i64 L, Value.slice A n c] 97)).alloc (Obj.cells #[Value.slice D m e] 44)).alloc (Obj.cells #[Value.int IntKind.i64 0, Value.int IntKind.i64 0] 90)).alloc (Obj.cells #[Value.int IntKind.i64 0, Value.int IntKind.i64 (2 * L)] 3)) :=
    ((((Below.refl _ _).alloc (Nat.le_refl _) _).alloc (by simp) _).alloc (by simp; omega) _).alloc (by simp; omega) _
  have k0 : ((((w.alloc (Obj.cells #[Value.int IntKind.i64 L, Value.slice A n c] 97)).alloc (Obj.cells #[Value.slice D m e] 44)).alloc (Obj.cells #[Value.int IntKind.i64 0, Value.int IntKind.i64 0] 90)).alloc (Obj.cells #[Value.int IntKind.i64 0, Value.int IntKind.i64 (2 * L)] 3)).heap[w.heap.size]? = some (.cells #[Value.int IntKind.i64 L, Value.slice A n c] 97 (0, 0)) := by
    rw [heapq_alloc, if_neg (by simp; omega), heapq_alloc, if_neg (by simp; omega), heapq_alloc, if_neg (by simp), heapq_alloc, if_pos rfl]
  have k1 : ((((w.alloc (Obj.cells #[Value.int IntKind.i64 L, Value.slice A n c] 97)).alloc (Obj.cells #[Value.slice D m e] 44)).alloc (Obj.cells #[Value.int IntKind.i64 0, Value.int IntKind.i64 0] 90)).alloc (Obj.cells #[Value.int IntKind.i64 0, Value.int IntKind.i64 (2 * L)] 3)).heap[w.heap.size + 1]? = some (.cells #[Value.slice D m e] 44 (0, 0)) := by
    rw [heapq_alloc, if_neg (by simp), heapq_alloc, if_neg (by simp), heapq_alloc, if_pos (by simp)]
  have k2 : ((((w.alloc (Obj.cells #[Value.int IntKind.i64 L, Value.slice A n c] 97)).alloc (Obj.cells #[Value.slice D m e] 44)).alloc (Obj.cells #[Value.int IntKind.i64 0, Value.int IntKind.i64 0] 90)).alloc (Obj.cells #[Value.int IntKind.i64 0, Value.int IntKind.i64 (2 * L)] 3)).heap[w.heap.size + 1 + 1]? = some (.cells #[Value.int IntKind.i64 0, Value.int IntKind.i64 0] 90 (0, 0)) := by
    rw [heapq_alloc, if_neg (by simp), heapq_alloc, if_pos (by simp)]
  have k3 : ((((w.alloc (Obj.cells #[Value.int IntKind.i64 L, Value.slice A n c] 97)).alloc (Obj.cells #[Value.slice D m e] 44)).alloc (Obj.cells #[Value.int IntKind.i64 0, Value.int IntKind.i64 0] 90)).alloc (Obj.cells #[Value.int IntKind.i64 0, Value.int IntKind.i64 (2 * L)] 3)).heap[w.heap.size + 1 + 1 + 1]? = some (.cells #[Value.int IntKind.i64 0, Value.int IntKind.i64 (2 * L)] 3 (0, 0)) := by
    rw [heapq_alloc, if_pos (by simp)]
  have hsz : ((((w.alloc (Obj.cells #[Value.int IntKind.i64 L, Value.slice A n c] 97)).alloc (Obj.cells #[Value.slice D m e] 44)).alloc (Obj.cells #[Value.int IntKind.i64 0, Value.int IntKind.i64 0] 90)).alloc (Obj.cells #[Value.int IntKind.i64 0, Value.int IntKind.i64 (2 * L)] 3)).heap.size = w.heap.size + 4 := by simp
  generalize ((((w.alloc (Obj.cells #[Value.int IntKind.i64 L, Value.slice A n c] 97)).alloc (Obj.cells #[Value.slice D m e] 44)).alloc (Obj.cells #[Value.int IntKind.i64 0, Value.int IntKind.i64 0] 90)).alloc (Obj.cells #[Value.int IntKind.i64 0, Value.int IntKind.i64 (2 * L)] 3)) = w0 at *
  generalize hx : w.heap.size = x at *
  have HX := Lib.hid hx
  clear hx
  have hR0 : RescueAt w0 B (x + 1) x L A D n c m e l ds := ⟨by rw [cell_of_row _ _ _ _ _ _ k0]; rfl, by rw [cell_of_row _ _ _ _ _ _ k0]; rfl, by rw [cell_of_row _ _ _ _ _ _ k1]; rfl, H3.out.below (hb0.mono hB), H4.out.below (hb0.mono hB), H1.out, H2.out, OK.out, IX.out, by omega, by omega, by omega⟩
  have own0 : w0.ownsRow (x + 3) 3 1 (.slice (some ⟨x + 1 + 1 + 1, 0, none⟩) 2 2) 2 (intCells [0, 2 * L]) := ⟨rfl, .inr ⟨x + 1 + 1 + 1, 2, #[Value.int IntKind.i64 0, Value.int IntKind.i64 (2 * L)], rfl, by omega, k3, by omega, by simp [maxLen], by simp, by simp [intCells]⟩⟩
  have d0 := hR0.d0
  have HR0 := Lib.hid hR0
  have HB0 := Lib.hid hb0
  have HSZ := Lib.hid hsz
  have K2 := Lib.hid k2
  generalize hF1 : meetI l L ds [0, 2 * L] ds = F1
  have rel1 : MeetRel w0 (x + 3) l L ds m F1 (.slice (some ⟨x + 1 + 1 + 1, 0, none⟩) 2 2) (.int .i64 0) w0 :=
    ⟨0, [0, 2 * L], Nat.zero_le _, rfl, own0, by simp, by simp, fun p hp => by simp at hp; omega, by simpa using hF1, Below.refl _ _⟩
  have REL1 := Lib.hid rel1
  have HF1 := Lib.hid hF1
  clear rel1 hF1 own0 hR0 hb0 hsz k0 k1 k2 k3
  go_wp2
  go_loopw [6, 25] (fun u6 u25 wr => MeetRel w0 (x + 3) l L ds m F1 u6 u25 wr) (fun _ u25 _ => m - (intOf u25).toNat)
  case atStart => exact REL1.out
  case round =>
    clear REL1
    obtain ⟨k, acc, hk, rfl, hown, hlen, hlen2, hpl, he, hb⟩ := hrel
    by_cases hlt : k < m
    · have hb4 : Below w0.heap.size w0 w0 := Below.refl _ _
      have hkd : k < ds.length := by rw [H2.out]; exact hlt
      obtain ⟨bd, offd, rfl, hbd, e0⟩ := (HR0.out.rd.below (hb.mono (by omega))).at_ (natCells_at ds k hkd)
      have hix := IX.out (ds[k]?.getD 0) (by rw [List.getElem?_eq_getElem hkd, Option.getD_some]; exact List.getElem_mem hkd)
      have hdr := drop_at ds 0 k hkd
      rw [hdr] at he
      have d1 := keptB hb (by simp) d0
      generalize ds[k]?.getD 0 = i at *
      simp only [meetI] at he
      generalize hF2 : meetK l L i acc ds = F2 at *
      have HE := Lib.hid he
      have rel2 : MeetRel2 w0 (x + 3) l L ds m i acc.length F2 u6 (.int .i64 0) wr := ⟨0, acc, Nat.zero_le _, rfl, hown, by omega, hlen2, hpl, by simpa using hF2, hb⟩
      have REL2 := Lib.hid rel2
      clear rel2 hF2 he hdr hkd hown hpl hb hb4
      go_wp2
      go_loopw [6, 31] (fun u6 u31 wr => MeetRel2 w0 (x + 3) l L ds m i acc.length F2 u6 u31 wr) (fun _ u31 _ => m - (intOf u31).toNat)
      case atStart => exact REL2.out
      case round =>
        clear REL2
        obtain ⟨j, acc2, hj, rfl, hown, hl2, hl22, hpl, he, hb⟩ := hrel
        by_cases hlt2 : j < m
        · have hjd : j < ds.length := by rw [H2.out]; exact hlt2
          obtain ⟨bd', offd', hee, hbd', e0'⟩ := (HR0.out.rd.below (hb.mono (by omega))).at_ (natCells_at ds j hjd)
          simp only [Option.some.injEq, Addr.mk.injEq, and_true] at hee
          obtain ⟨rfl, rfl⟩ := hee
          have hjx := IX.out (ds[j]?.getD 0) (by rw [List.getElem?_eq_getElem hjd, Option.getD_some]; exact List.getElem_mem hjd)
          have hdr := drop_at ds 0 j hjd
          rw [hdr] at he
          generalize ds[j]?.getD 0 = q at *
          simp only [meetK] at he
          obtain ⟨Au, cu, rfl⟩ := rowForm hown
          have HE2 := Lib.hid he
          have HOWN := Lib.hid hown
          have HPL := Lib.hid hpl
          have HB := Lib.hid hb
          clear he hdr hjd hown hpl hb
          have c1' := keptB HB.out (by simp) HR0.out.c1
          have hil : i < l.length := by rw [H1.out]; exact hix
          have hql : q < l.length := by rw [H1.out]; exact hjx
          obtain ⟨z0, z1⟩ := depCells_at l i (l[i]?.getD (0, 0)) (by simp [hil])
          obtain ⟨y0, y1⟩ := depCells_at l q (l[q]?.getD (0, 0)) (by simp [hql])
          obtain ⟨ba, offa, rfl, _, e1, e2⟩ := (HR0.out.rl.below (HB.out.mono (by omega))).at2 z0 z1
          obtain ⟨ba', offa', hee, _, e3, e4⟩ := (HR0.out.rl.below (HB.out.mono (by omega))).at2 y0 y1
          simp only [Option.some.injEq, Addr.mk.injEq, and_true] at hee
          obtain ⟨rfl, rfl⟩ := hee
          obtain ⟨p0, p1, p2, p3⟩ := OK.out (l[i]?.getD (0, 0)) (by rw [List.getElem?_eq_getElem hil, Option.getD_some]; exact List.getElem_mem hil)
          obtain ⟨p4, p5, p6, p7⟩ := OK.out (l[q]?.getD (0, 0)) (by rw [List.getElem?_eq_getElem hql, Option.getD_some]; exact List.getElem_mem hql)
          have hmt : meetM l i q = (l[i]?.getD (0, 0)).1 + (l[q]?.getD (0, 0)).1 + (l[q]?.getD (0, 0)).2 - (l[i]?.getD (0, 0)).2 := rfl
          have HMT := Lib.hid hmt
          clear z0 z1 y0 y1 hil hql hmt
          generalize l[i]?.getD (0, 0) = da at *
          generalize l[q]?.getD (0, 0) = db at *
          obtain ⟨a1, a2⟩ := da
          obtain ⟨b1, b2⟩ := db
          simp only at p0 p1 p2 p3 p4 p5 p6 p7 e1 e2 e3 e4
          have i0 : (0 : Int) ≤ (i : Int) := by omega
          have i1' : (i : Int) < (n : Int) := by omega
          have i2 : (0 : Int) ≤ (q : Int) := by omega
          have i3 : (q : Int) < (n : Int) := by omega
          go_upto_region 9 with (fail)
          have x1 := fun x : Xt wr => x.cell c1'
          have x2 := fun x : Xt wr => x.cell e1
          have x3 := fun x : Xt wr => x.cell e2
          have x4 := fun x : Xt wr => x.cell e3
          have x5 := fun x : Xt wr => x.cell e4
          refine wp_region_mid [] [0, 1, 2, 3, 4, 5, 6, 7, 8, 9] 3 [13] (fun w' => ∃ x : Xt wr, w' = x.1) (by kernel_rfl) (by kernel_rfl) ⟨⟨wr.drew, (Below.refl _ _).drew⟩, rfl⟩ ?_
          simp only [opsAt_nil, opsAt_cons, consOpt_some, List.getElem?_toArray, List.getElem?_cons_zero, List.getElem?_cons_succ]
          refine wpQuiet_nil ?_
          show wpQuiet _ _ _ _ _ _
          repeat (go_big_quiet_step (fail))
          refine wpQuiet_nil ?_
          show wpOrders _ _ _ _ _ _ _ _ wr.drew
          refine wpOrders_two (i := 10) (k := 11) (by kernel_rfl) ?_ ?_
          · unfold wpMid
            simp only [opsAt_nil, opsAt_cons, consOpt_some, List.getElem?_toArray, List.getElem?_cons_zero, List.getElem?_cons_succ]
            go_wp2
            refine onlyNormal_mk ⟨⟨⟨_, ((Below.refl _ _).drew).alloc (by simp) _⟩, rfl⟩, ?_⟩
            refine wpOrders_one (i := 11) (by kernel_rfl) ?_
            unfold wpMid
            simp only [opsAt_nil, opsAt_cons, consOpt_some, List.getElem?_toArray, List.getElem?_cons_zero, List.getElem?_cons_succ]
            go_wp2
            refine onlyNormal_mk ⟨⟨⟨_, (((Below.refl _ _).drew).alloc (by simp) _).alloc (by simp) _⟩, rfl⟩, ?_⟩
            refine wpOrders_one (i := 12) (by kernel_rfl) ?_
            unfold wpMid
            simp only [opsAt_nil, opsAt_cons, consOpt_some, List.getElem?_toArray, List.getElem?_cons_zero, List.getElem?_cons_succ]
            go_wp2
            refine onlyNormal_mk ⟨⟨⟨_, (((Below.refl _ _).alloc (by simp) _).alloc (by simp) _).drew⟩, rfl⟩, ?_⟩
            refine wpOrders_zero ?_
            go_wp2
            refine onlyNormal_mk ?_
            have hbN : Below wr.heap.size wr (((wr.alloc (Obj.cells #[Value.int IntKind.i64 a1, Value.int IntKind.i64 a2] 94)).alloc (Obj.cells #[Value.int IntKind.i64 b1, Value.int IntKind.i64 b2] 94)).drew) := (((Below.refl _ _).alloc (by simp) _).alloc (by simp) _).drew
            have f0 : (((wr.alloc (Obj.cells #[Value.int IntKind.i64 a1, Value.int IntKind.i64 a2] 94)).alloc (Obj.cells #[Value.int IntKind.i64 b1, Value.int IntKind.i64 b2] 94)).drew).cell? ⟨wr.heap.size, 0, none⟩ = some (.int .i64 a1) := by simp
            have f1 : (((wr.alloc (Obj.cells #[Value.int IntKind.i64 a1, Value.int IntKind.i64 a2] 94)).alloc (Obj.cells #[Value.int IntKind.i64 b1, Value.int IntKind.i64 b2] 94)).drew).cell? ⟨wr.heap.size, 1, none⟩ = some (.int .i64 a2) := by simp
            have g0 : (((wr.alloc (Obj.cells #[Value.int IntKind.i64 a1, Value.int IntKind.i64 a2] 94)).alloc (Obj.cells #[Value.int IntKind.i64 b1, Value.int IntKind.i64 b2] 94)).drew).cell? ⟨wr.heap.size + 1, 0, none⟩ = some (.int .i64 b1) := by simp
            have g1 : (((wr.alloc (Obj.cells #[Value.int IntKind.i64 a1, Value.int IntKind.i64 a2] 94)).alloc (Obj.cells #[Value.int IntKind.i64 b1, Value.int IntKind.i64 b2] 94)).drew).cell? ⟨wr.heap.size + 1, 1, none⟩ = some (.int .i64 b2) := by simp
            generalize ((wr.alloc (Obj.cells #[Value.int IntKind.i64 a1, Value.int IntKind.i64 a2] 94)).alloc (Obj.cells #[Value.int IntKind.i64 b1, Value.int IntKind.i64 b2] 94)).drew = wN at *
            have c0N := kept hbN (keptB HB.out (by simp) HR0.out.c0)
            have ownN := ownsRow_below HOWN.out hbN
            have hszN := hbN.size
            have hbB := HB.out.trans (hbN.mono (by have h1 := HSZ.out; have h2 := HB.out.size; omega))
            have hX : x + 3 ≤ wN.heap.size := by have h1 := HSZ.out; have h2 := HB.out.size; omega
            have OWN := Lib.hid ownN
            have HBB := Lib.hid hbB
            clear hbN ownN hbB e1 e2 e3 e4 c1' e0 e0' d1
            cases hw : withinB (a1 + b1 + b2 - a2) 0 (2 * L)
            · have HEE : Hid (meetK l L i acc2 (ds.drop (j + 1)) = F2) := by
                have h := HE2.out
                rw [HMT.out, hw] at h
                exact h
              go_wp2_with (go_at_call 41; refine (within_val _ _ _ _ hw _).mono ?_; rintro e w' ⟨rfl, rfl⟩)
              go_roundw
              case rel => exact ⟨j + 1, acc2, by omega, by go_num, OWN.out, by omega, hl22, HPL.out, HEE.out, HBB.out⟩
              case measure => simp [intOf]; omega
            · have HEE : Hid (meetK l L i (acc2 ++ [a1 + b1 + b2 - a2]) (ds.drop (j + 1)) = F2) := by
                have h := HE2.out
                rw [HMT.out, hw] at h
                exact h
              have hpl2 : PlOk (acc2 ++ [a1 + b1 + b2 - a2]) := by
                intro p hp
                rcases List.mem_append.1 hp with h | h
                · exact HPL.out p h
                · have : p = a1 + b1 + b2 - a2 := by simpa using h
                  subst this
                  simp only [withinB, Bool.and_eq_true, decide_eq_true_eq] at hw
                  omega
              have HPL2 := Lib.hid hpl2
              clear hpl2
              go_upto_region 12 with (go_at_call 41; refine (within_val _ _ _ _ hw _).mono ?_; rintro e w' ⟨rfl, rfl⟩)
              go_wp2_with (at_builtin; refine stp ?_)
              unfold Stp
              refine wpList_append_lies _ rfl _ _ 44 rfl (x + 3) 3 i1 _ 1 8 Tryz.underlying44 hi1 hy0 hy1 hy2 rfl (by omega) (.slice Au acc2.length cu) acc2.length (intCells acc2) rfl (OWN.out.alloc _) ⟨wN.heap.size, 0, none⟩ 1 1 [.int .i64 (a1 + b1 + b2 - a2)] rfl rfl (news1 (by simp)) (by simp [Value.oneCell']) (by omega) (by simp only [maxLen]; omega) (by omega) (by simp; omega) _ rfl ?_
              intro gg cap w1 hown1 hgrow hat hlt9
              have hb9 : Below (x + 3) w0 w1 := (HBB.out.alloc (by omega) _).grown hgrow (by simp; omega) (fun k hk => (ownBlk OWN.out hk).1)
              have HOWN1 := Lib.hid hown1
              have HB9 := Lib.hid hb9
              clear hown1 hgrow hat hlt9 hb9 f0 f1 g0 g1 c0N
              go_wp2
              go_roundw
              case rel => exact ⟨j + 1, acc2 ++ [a1 + b1 + b2 - a2], by omega, by go_num, by simpa [intCells] using HOWN1.out, by simp; omega, by simp; omega, HPL2.out, HEE.out, HB9.out⟩
              case measure => simp [intOf]; omega
          · unfold wpMid
            simp only [opsAt_nil, opsAt_cons, consOpt_some, List.getElem?_toArray, List.getElem?_cons_zero, List.getElem?_cons_succ]
            go_wp2
            refine onlyNormal_mk ⟨⟨⟨_, ((Below.refl _ _).drew).alloc (by simp) _⟩, rfl⟩, ?_⟩
            refine wpOrders_one (i := 10) (by kernel_rfl) ?_
            unfold wpMid
            simp only [opsAt_nil, opsAt_cons, consOpt_some, List.getElem?_toArray, List.getElem?_cons_zero, List.getElem?_cons_succ]
            go_wp2
            refine onlyNormal_mk ⟨⟨⟨_, (((Below.refl _ _).drew).alloc (by simp) _).alloc (by simp) _⟩, rfl⟩, ?_⟩
            refine wpOrders_one (i := 12) (by kernel_rfl) ?_
            unfold wpMid
            simp only [opsAt_nil, opsAt_cons, consOpt_some, List.getElem?_toArray, List.getElem?_cons_zero, List.getElem?_cons_succ]
            go_wp2
            refine onlyNormal_mk ⟨⟨⟨_, (((Below.refl _ _).alloc (by simp) _).alloc (by simp) _).drew⟩, rfl⟩, ?_⟩
            refine wpOrders_zero ?_
            go_wp2
            refine onlyNormal_mk ?_
            have hbN : Below wr.heap.size wr (((wr.alloc (Obj.cells #[Value.int IntKind.i64 b1, Value.int IntKind.i64 b2] 94)).alloc (Obj.cells #[Value.int IntKind.i64 a1, Value.int IntKind.i64 a2] 94)).drew) := (((Below.refl _ _).alloc (by simp) _).alloc (by simp) _).drew
            have f0 : (((wr.alloc (Obj.cells #[Value.int IntKind.i64 b1, Value.int IntKind.i64 b2] 94)).alloc (Obj.cells #[Value.int IntKind.i64 a1, Value.int IntKind.i64 a2] 94)).drew).cell? ⟨wr.heap.size + 1, 0, none⟩ = some (.int .i64 a1) := by simp
            have f1 : (((wr.alloc (Obj.cells #[Value.int IntKind.i64 b1, Value.int IntKind.i64 b2] 94)).alloc (Obj.cells #[Value.int IntKind.i64 a1, Value.int IntKind.i64 a2] 94)).drew).cell? ⟨wr.heap.size + 1, 1, none⟩ = some (.int .i64 a2) := by simp
            have g0 : (((wr.alloc (Obj.cells #[Value.int IntKind.i64 b1, Value.int IntKind.i64 b2] 94)).alloc (Obj.cells #[Value.int IntKind.i64 a1, Value.int IntKind.i64 a2] 94)).drew).cell? ⟨wr.heap.size, 0, none⟩ = some (.int .i64 b1) := by simp
            have g1 : (((wr.alloc (Obj.cells #[Value.int IntKind.i64 b1, Value.int IntKind.i64 b2] 94)).alloc (Obj.cells #[Value.int IntKind.i64 a1, Value.int IntKind.i64 a2] 94)).drew).cell? ⟨wr.heap.size, 1, none⟩ = some (.int .i64 b2) := by simp
            generalize ((wr.alloc (Obj.cells #[Value.int IntKind.i64 b1, Value.int IntKind.i64 b2] 94)).alloc (Obj.cells #[Value.int IntKind.i64 a1, Value.int IntKind.i64 a2] 94)).drew = wN at *
            have c0N := kept hbN (keptB HB.out (by simp) HR0.out.c0)
            have ownN := ownsRow_below HOWN.out hbN
            have hszN := hbN.size
            have hbB := HB.out.trans (hbN.mono (by have h1 := HSZ.out; have h2 := HB.out.size; omega))
            have hX : x + 3 ≤ wN.heap.size := by have h1 := HSZ.out; have h2 := HB.out.size; omega
            have OWN := Lib.hid ownN
            have HBB := Lib.hid hbB
            clear hbN ownN hbB e1 e2 e3 e4 c1' e0 e0' d1
            cases hw : withinB (a1 + b1 + b2 - a2) 0 (2 * L)
            · have HEE : Hid (meetK l L i acc2 (ds.drop (j + 1)) = F2) := by
                have h := HE2.out
                rw [HMT.out, hw] at h
                exact h
              go_wp2_with (go_at_call 41; refine (within_val _ _ _ _ hw _).mono ?_; rintro e w' ⟨rfl, rfl⟩)
              go_roundw
              case rel => exact ⟨j + 1, acc2, by omega, by go_num, OWN.out, by omega, hl22, HPL.out, HEE.out, HBB.out⟩
              case measure => simp [intOf]; omega
            · have HEE : Hid (meetK l L i (acc2 ++ [a1 + b1 + b2 - a2]) (ds.drop (j + 1)) = F2) := by
                have h := HE2.out
                rw [HMT.out, hw] at h
                exact h
              have hpl2 : PlOk (acc2 ++ [a1 + b1 + b2 - a2]) := by
                intro p hp
                rcases List.mem_append.1 hp with h | h
                · exact HPL.out p h
                · have : p = a1 + b1 + b2 - a2 := by simpa using h
                  subst this
                  simp only [withinB, Bool.and_eq_true, decide_eq_true_eq] at hw
                  omega
              have HPL2 := Lib.hid hpl2
              clear hpl2
              go_upto_region 12 with (go_at_call 41; refine (within_val _ _ _ _ hw _).mono ?_; rintro e w' ⟨rfl, rfl⟩)
              go_wp2_with (at_builtin; refine stp ?_)
              unfold Stp
              refine wpList_append_lies _ rfl _ _ 44 rfl (x + 3) 3 i1 _ 1 8 Tryz.underlying44 hi1 hy0 hy1 hy2 rfl (by omega) (.slice Au acc2.length cu) acc2.length (intCells acc2) rfl (OWN.out.alloc _) ⟨wN.heap.size, 0, none⟩ 1 1 [.int .i64 (a1 + b1 + b2 - a2)] rfl rfl (news1 (by simp)) (by simp [Value.oneCell']) (by omega) (by simp only [maxLen]; omega) (by omega) (by simp; omega) _ rfl ?_
              intro gg cap w1 hown1 hgrow hat hlt9
              have hb9 : Below (x + 3) w0 w1 := (HBB.out.alloc (by omega) _).grown hgrow (by simp; omega) (fun k hk => (ownBlk OWN.out hk).1)
              have HOWN1 := Lib.hid hown1
              have HB9 := Lib.hid hb9
              clear hown1 hgrow hat hlt9 hb9 f0 f1 g0 g1 c0N
              go_wp2
              go_roundw
              case rel => exact ⟨j + 1, acc2 ++ [a1 + b1 + b2 - a2], by omega, by go_num, by simpa [intCells] using HOWN1.out, by simp; omega, by simp; omega, HPL2.out, HEE.out, HB9.out⟩
              case measure => simp [intOf]; omega
        · obtain rfl : j = m := by omega
          have hdr : ds.drop j = [] := by rw [List.drop_eq_nil_iff]; rw [H2.out]; exact Nat.le_refl _
          rw [hdr] at he
          simp only [meetK] at he
          subst he
          have HOWN := Lib.hid hown
          have HPL := Lib.hid hpl
          have HB := Lib.hid hb
          clear hown hpl hb hdr
          go_wp2
          go_roundw
          case rel => exact ⟨k + 1, acc2, by omega, by go_num, HOWN.out, by omega, hl22, HPL.out, HE.out, HB.out⟩
          case measure => simp [intOf]; omega
    · obtain rfl : k = m := by omega
      have hdr : ds.drop k = [] := by rw [List.drop_eq_nil_iff]; rw [H2.out]; exact Nat.le_refl _
      rw [hdr] at he
      simp only [meetI] at he
      subst he
      obtain ⟨blk, cap, rfl, _, _⟩ := hown.form (by omega)
      have hblk := (ownBlk hown rfl).1
      have hblk2 := (ownBlk hown rfl).2.1
      have S := Sort_own wr (x + 3) blk cap acc hown (by omega)
      have HB := Lib.hid hb
      have HPL := Lib.hid hpl
      have hwsz : x + 4 ≤ wr.heap.size := by have h1 := HSZ.out; have h2 := hb.size; omega
      clear hb hpl hdr hown
      go_upto_region 16 with (go_at_call 82; refine S.mono ?_; rintro e1 w1 ⟨rfl, hcells, hoth, hb1⟩)
      have hbw1 : Below (x + 3) w0 w1 := HB.out.trans (hb1.mono hblk)
      have hR1 := HR0.out.keepB hbw1 (by omega) (by omega) (by omega)
      have k21 : w1.heap[x + 1 + 1]? = some (.cells #[.int .i64 0, .int .i64 0] 90 (0, 0)) := by
        rw [hbw1.block (x + 1 + 1) (by omega)]
        exact K2.out
      have hpl1 : ∀ p ∈ sortI acc, 0 ≤ p ∧ p ≤ 2000000000 := fun p hp => HPL.out p (sortI_mem.1 hp)
      have hlen1 : (sortI acc).length = acc.length := sortI_len acc
      generalize hSS : sortI acc = SS at *
      have HSS := Lib.hid hSS
      have w1sz : blk < w1.heap.size := by have := hb1.size; omega
      have w1s2 : x + 4 ≤ w1.heap.size := by have := hb1.size; omega
      have hbx1 : Below x w w1 := HB0.out.trans (hbw1.mono (by omega))
      clear hSS hb1 hoth
      have hbw2 : Below w1.heap.size w1 (w1.alloc (.cells #[.int .i64 0, .int .i64 (-1)] 90)) := (Below.refl _ _).alloc (Nat.le_refl _) _
      have hR2 := hR1.keep hbw2
      have k22 : (w1.alloc (.cells #[.int .i64 0, .int .i64 (-1)] 90)).heap[x + 1 + 1]? = some (.cells #[.int .i64 0, .int .i64 0] 90 (0, 0)) := by
        rw [heapq_alloc, if_neg (by omega)]
        exact k21
      have ky2 : (w1.alloc (.cells #[.int .i64 0, .int .i64 (-1)] 90)).heap[w1.heap.size]? = some (.cells #[.int .i64 0, .int .i64 (-1)] 90 (0, 0)) := by
        rw [heapq_alloc, if_pos rfl]
      have hcells2 : ∀ (k : Nat) (u : Value), (intCells SS)[k]? = some u → (w1.alloc (.cells #[.int .i64 0, .int .i64 (-1)] 90)).cell? ⟨blk, k, none⟩ = some u := fun k u hu => cell_alloc_old _ (hcells k u hu)
      have hbx2 : Below x w (w1.alloc (.cells #[.int .i64 0, .int .i64 (-1)] 90)) := hbx1.alloc (by omega) _
      clear hR1 k21 hcells hbx1 hbw1
      go_upto_region 17 with (fail)
      generalize hy : w1.heap.size = y at *
      have hysz : y < (w1.alloc (.cells #[.int .i64 0, .int .i64 (-1)] 90)).heap.size := by simp; omega
      generalize (w1.alloc (.cells #[.int .i64 0, .int .i64 (-1)] 90)) = w2 at *
      generalize hF3 : worstGo l ds (0, -1) SS = F3
      have rel3 : WorstRel w2 y l ds SS F3 (.int .i64 0) w2 := ⟨0, (0, -1), Nat.zero_le _, rfl, ky2, by simpa using hF3, Below.refl _ _⟩
      have HFIN : Hid (worstM l L ds = F3) := by rw [Hid, worstM, HF1.out, HSS.out, hF3]
      have REL3 := Lib.hid rel3
      have HR2 := Lib.hid hR2
      have HBX2 := Lib.hid hbx2
      have K22 := Lib.hid k22
      have HC2 := Lib.hid hcells2
      have HLEN1 := Lib.hid hlen1
      have HPL1 := Lib.hid hpl1
      have hlen1' : SS.length ≤ acc.length := by omega
      have hlen1'' : acc.length ≤ SS.length := by omega
      clear rel3 hF3 ky2 hR2 hbx2 k22 hcells2 hlen1 hpl1 hbw2 hy
      go_wp2
      go_loopw [72] (fun u72 wr => WorstRel w2 y l ds SS F3 u72 wr) (fun u72 _ => acc.length - (intOf u72).toNat)
      case atStart => exact REL3.out
      case round =>
        clear REL3
        obtain ⟨j, o, hj, rfl, ky, he, hb⟩ := hrel
        by_cases hlt : j < SS.length
        · have hlt' : j < acc.length := by omega
          have hc := keptB hb (by simp; omega) (HC2.out j _ (intCells_at SS j hlt))
          have hp := HPL1.out (SS[j]?.getD 0) (by rw [List.getElem?_eq_getElem hlt, Option.getD_some]; exact List.getElem_mem hlt)
          rw [drop_at SS 0 j hlt] at he
          generalize SS[j]?.getD 0 = p at *
          simp only [worstGo] at he
          have hRr := HR2.out.keepB hb (by omega) (by omega) (by omega)
          have C := reached_any wr B (x + 1) x L A D n c k e l ds hRr p hp
          have yc0 := cell_of_row wr y 0 _ _ _ ky
          have yc1 := cell_of_row wr y 1 _ _ _ ky
          simp at yc0 yc1
          have KY := Lib.hid ky
          have HE := Lib.hid he
          have HB := Lib.hid hb
          have hyl := lt_of_block ky
          clear he hb hRr ky hp
          generalize reachGo l p (-1) ds = r at *
          have yc1' := fun (W : World) (h : Below wr.heap.size wr W) => kept h yc1
          clear yc1'
          have wysz : y < wr.heap.size := hyl
          rcases Int.lt_or_le o.2 r with hro | hro
          · have HEE : Hid (worstGo l ds (p, r) (SS.drop (j + 1)) = F3) := by
              have h := HE.out
              rw [if_pos hro] at h
              exact h
            have hro' : decide (o.2 < r) = true := by simp; omega
            go_wp2_with fail
            refine C.mono ?_
            rintro e1 w3 ⟨rfl, hb3⟩
            have ky3 : w3.heap[y]? = some (.cells #[.int .i64 o.1, .int .i64 o.2] 90 (0, 0)) := by
              rw [hb3.block y hyl]
              exact KY.out
            have yd0 := kept hb3 yc0
            have yd1 := kept hb3 yc1
            have fz0 := frozen_of_row w3 y 0 _ _ ky3
            have fz1 := frozen_of_row w3 y 1 _ _ ky3
            have KYF : Hid (((w3.setCell ⟨y, 0, none⟩ (.int .i64 p)).setCell ⟨y, 1, none⟩ (.int .i64 r)).heap[y]? = some (.cells #[.int .i64 p, .int .i64 r] 90 (0, 0))) := by
              rw [Hid, heapq_set, if_pos rfl, heapq_set, if_pos rfl, ky3]
              simp [objSet_cells]
            have HBF : Hid (Below y w2 ((w3.setCell ⟨y, 0, none⟩ (.int .i64 p)).setCell ⟨y, 1, none⟩ (.int .i64 r))) := ((HB.out.trans (hb3.mono (by omega))).setCell (Nat.le_refl _) _).setCell (Nat.le_refl _) _
            have ys1 : (w3.setCell ⟨y, 0, none⟩ (.int .i64 p)).cell? ⟨y, 1, none⟩ = some (.int .i64 o.2) := by
              rw [cell_of_row _ y 1 #[.int .i64 p, .int .i64 o.2] 90 (0, 0) (by rw [heapq_set, if_pos rfl, ky3]; simp [objSet_cells])]
              rfl
            have fs1 : (w3.setCell ⟨y, 0, none⟩ (.int .i64 p)).frozen? ⟨y, 1, none⟩ = false := frozen_of_row _ y 1 #[.int .i64 p, .int .i64 o.2] 90 (by rw [heapq_set, if_pos rfl, ky3]; simp [objSet_cells])
            clear ky3 hb3 C hc yc0 yc1
            go_wp2
            go_roundw
            case rel => exact ⟨j + 1, (p, r), by omega, by go_num, KYF.out, HEE.out, HBF.out⟩
            case measure => simp [intOf]; omega
          · have HEE : Hid (worstGo l ds o (SS.drop (j + 1)) = F3) := by
              have h := HE.out
              rw [if_neg (by omega)] at h
              exact h
            have hro' : decide (o.2 < r) = false := by simp; omega
            go_wp2_with fail
            refine C.mono ?_
            rintro e1 w3 ⟨rfl, hb3⟩
            have KYF : Hid (w3.heap[y]? = some (.cells #[.int .i64 o.1, .int .i64 o.2] 90 (0, 0))) := by
              rw [Hid, hb3.block y hyl]
              exact KY.out
            have yd1 := kept hb3 yc1
            have HBF : Hid (Below y w2 w3) := HB.out.trans (hb3.mono (by omega))
            clear hb3 C hc yc0 yc1
            go_wp2
            go_roundw
            case rel => exact ⟨j + 1, o, by omega, by go_num, KYF.out, HEE.out, HBF.out⟩
            case measure => simp [intOf]; omega
        · have hdr : SS.drop j = [] := by rw [List.drop_eq_nil_iff]; omega
          have hjl : ¬ j < acc.length := by omega
          rw [hdr] at he
          simp only [worstGo] at he
          subst he
          have yc0 := cell_of_row wr y 0 _ _ _ ky
          have yc1 := cell_of_row wr y 1 _ _ _ ky
          simp at yc0 yc1
          have kz : wr.heap[x + 1 + 1]? = some (.cells #[.int .i64 0, .int .i64 0] 90 (0, 0)) := by
            rw [hb.block (x + 1 + 1) (by omega)]
            exact K22.out
          have zc0 := cell_of_row wr (x + 1 + 1) 0 _ _ _ kz
          have zc1 := cell_of_row wr (x + 1 + 1) 1 _ _ _ kz
          simp at zc0 zc1
          have fz0 := frozen_of_row wr (x + 1 + 1) 0 _ _ kz
          have zs1 : (wr.setCell ⟨x + 1 + 1, 0, none⟩ (.int .i64 o.1)).cell? ⟨x + 1 + 1, 1, none⟩ = some (.int .i64 0) := by
            rw [cell_of_row _ (x + 1 + 1) 1 #[.int .i64 o.1, .int .i64 0] 90 (0, 0) (by rw [heapq_set, if_pos rfl, kz]; simp [objSet_cells])]
            rfl
          have fs1 : (wr.setCell ⟨x + 1 + 1, 0, none⟩ (.int .i64 o.1)).frozen? ⟨x + 1 + 1, 1, none⟩ = false := frozen_of_row _ (x + 1 + 1) 1 #[.int .i64 o.1, .int .i64 0] 90 (by rw [heapq_set, if_pos rfl, kz]; simp [objSet_cells])
          have kf : ((wr.setCell ⟨x + 1 + 1, 0, none⟩ (.int .i64 o.1)).setCell ⟨x + 1 + 1, 1, none⟩ (.int .i64 o.2)).heap[x + 1 + 1]? = some (.cells #[.int .i64 o.1, .int .i64 o.2] 90 (0, 0)) := by
            rw [heapq_set, if_pos rfl, heapq_set, if_pos rfl, kz]
            simp [objSet_cells]
          have HBF : Hid (Below x w ((wr.setCell ⟨x + 1 + 1, 0, none⟩ (.int .i64 o.1)).setCell ⟨x + 1 + 1, 1, none⟩ (.int .i64 o.2))) := ((HBX2.out.trans (hb.mono (by omega))).setCell (by simp only; omega) _).setCell (by simp only; omega) _
          have r0 := cell_of_row _ (x + 1 + 1) 0 _ _ _ kf
          have r1 := cell_of_row _ (x + 1 + 1) 1 _ _ _ kf
          simp at r0 r1
          have HKF := Lib.hid kf
          clear kf hb ky kz hdr
          go_wp2
          refine bodyPost_ret (v := .agg #[.int .i64 o.1, .int .i64 o.2]) (by simp [results, Tryz.results86, go_sem, r0, r1]) rfl ⟨by rw [HFIN.out], by rw [HX.out]; exact HBF.out⟩
end Go.Proofs.YtmcjnfghlpnghaaGreatDoor
