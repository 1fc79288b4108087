/- What a row's condition gives: the table of kinds, the library's tables and errors; the end of every law: true, and each argument reads as it did; the closed facts of a row. -/
import Derived.Test.YtlbgocgocanloaaGreatDoorf5T5
import Derived.Test.YtlbgocgocanloaaGreatDoorRows
import Derived.ProofKit
import Derived.LaidMore
import Derived.Lay
import Derived.Stop.Joined
import Derived.Stop.LaidErr
import Derived.Lib.SmallJoins
import Derived.OpenShut
import Derived.Carry
import Derived.JoinedOf
import Derived.HandedShaped
namespace Go.Proofs.YtlbgocgocanloaaGreatDoor
open Go.ChangeShapes Go.WideShapes Go.ChangeAt Go.RowKit Go
theorem own : ownKnob Tryz.prog.godebug = none := by kernel_rfl
theorem gKinds : Tryz.prog.globalNamed "guideway/care.kinds" = some 0 := by kernel_rfl
theorem tKinds : (Tryz.prog.globals[0]?).map (·.type) = some 101 := by kernel_rfl
theorem cells196 : Tryz.prog.cellsOf 100 = 4 := by kernel_rfl
theorem cells197 : Tryz.prog.cellsOf 101 = 32 := by kernel_rfl
theorem cells9 : Tryz.prog.cellsOf 9 = 1 := by kernel_rfl
theorem cells4 : Tryz.prog.cellsOf 4 = 1 := by kernel_rfl
theorem cells194 : Tryz.prog.cellsOf 98 = 1 := by kernel_rfl
theorem laidOut : laidOutB Tryz.prog = true := by kernel_rfl
theorem list4 {α : Type} {l : List α} (h : l.length = 4) : ∃ c0 c1 c2 c3, l = [c0, c1, c2, c3] := by
  match l, h with
  | [c0, c1, c2, c3], _ => exact ⟨c0, c1, c2, c3, rfl⟩
/-- one row of the table -/
theorem kind_row {W : World} {sp : Nat → Bool} {fuel : Nat} {cs : List Value} {y : DataW (List UInt8) × List MemPlace} {s : List UInt8} {b1 b2 : Bool} {b : UInt8} {r : List UInt8} {f0 : FuncId}
    (h : DataW.trod (funcToken Tryz.prog) Tryz.prog W 0 sp true fuel 100 cs = some y) (hy : y.1 = .agg [.lit (.string s), .lit (.bool b1), .lit (.bool b2), .held (b :: r)])
    (hone : ((List.range Tryz.prog.funcs.size).filter fun f => (Tryz.prog.funcs[f]?).any (·.name.toUTF8.data.toList == b :: r)) = [f0]) :
    cs = [strB s, .bool b1, .bool b2, .func (.func f0) #[] #[]] := by
  obtain ⟨y0, y1, y2, y3, n, rfl, hl, h0, h1, h2, h3⟩ := Joins.trod_struct4 Tryz.underlying100 h
  rw [cells196] at hl
  obtain ⟨c0, c1, c2, c3, rfl⟩ := list4 hl
  · simp only [cells9, cells4, cells194, List.drop_zero, List.take_succ_cons, List.take_zero, List.drop_succ_cons] at h0 h1 h2 h3
    simp only [DataW.agg.injEq, List.cons.injEq, and_true] at hy
    obtain ⟨e0, e1, e2, e3⟩ := hy
    obtain ⟨z0, p0⟩ := y0
    obtain ⟨z1, p1⟩ := y1
    obtain ⟨z2, p2⟩ := y2
    obtain ⟨z3, p3⟩ := y3
    simp only at e0 e1 e2 e3
    subst e0 e1 e2 e3
    have k3 := func_of_trod Tryz.underlying98 hone h3
    have k0 : c0 = strB s := by
      cases n with
      | zero => simp [DataW.trod] at h0
      | succ n =>
        cases c0 <;> simp [DataW.trod, Tryz.underlying9] at h0
        obtain ⟨_, hs, _⟩ := h0
        simp [strB, ← hs]
    have kb : ∀ {c : Value} {bb : Bool} {q : List MemPlace}, DataW.trod (funcToken Tryz.prog) Tryz.prog W 0 sp true n 4 [c] = some (.lit (.bool bb), q) → c = .bool bb := by
      intro c bb q hq
      cases n with
      | zero => simp [DataW.trod] at hq
      | succ n =>
        cases c <;> simp [DataW.trod, Tryz.underlying4] at hq
        rw [hq.1]
    rw [k0, k3, kb h1, kb h2]
theorem kinds_of_laid {W : World} {l : List (String × DataW Unit)} (h : laidMetH Tryz.prog l W) (hm : ("guideway/care.kinds", Rows.laid_guideway_care_kinds) ∈ l) : KindsAt W := by
  obtain ⟨g, t, cs, fuel, p, hg, ht, hv, hd⟩ := h.funcs hm
  obtain rfl := Option.some.inj (gKinds.symm.trans hg)
  obtain rfl := Option.some.inj (tKinds.symm.trans ht)
  obtain ⟨xs, m, _, hx, hl, hlen, hel⟩ := DataW.trod_array Tryz.underlying101 hd
  rw [cells197] at hl
  simp only [Prod.mk.injEq] at hx
  have hx1 := hx.1
  simp only [DataW.funcsOut, DataW.funcsOutAll, DataW.agg.injEq, if_pos, beq_self_eq_true] at hx1
  rw [cells196] at hel
  have row : ∀ (i : Nat) (s : List UInt8) (b1 b2 : Bool) (b : UInt8) (r : List UInt8) (f0 : FuncId), i < 8 → (xs.map (·.1))[i]? = some (.agg [.lit (.string s), .lit (.bool b1), .lit (.bool b2), .held (b :: r)]) →
      ((List.range Tryz.prog.funcs.size).filter fun f => (Tryz.prog.funcs[f]?).any (·.name.toUTF8.data.toList == b :: r)) = [f0] →
      (cs.toList.drop (i * 4)).take 4 = [strB s, .bool b1, .bool b2, .func (.func f0) #[] #[]] := by
    intro i s b1 b2 b r f0 hi hm hone
    have h1 := hel i hi
    rw [List.getElem?_map] at hm
    cases hy : xs[i]? with
    | none => rw [hy] at hm; simp at hm
    | some y =>
      rw [hy] at hm h1
      exact kind_row h1 (by simpa using hm) hone
  rw [← hx1] at row
  have r0 := row 0 _ _ _ _ _ 231 (by omega) rfl (by kernel_rfl)
  have r1 := row 1 _ _ _ _ _ 232 (by omega) rfl (by kernel_rfl)
  have r2 := row 2 _ _ _ _ _ 233 (by omega) rfl (by kernel_rfl)
  have r3 := row 3 _ _ _ _ _ 234 (by omega) rfl (by kernel_rfl)
  have r4 := row 4 _ _ _ _ _ 235 (by omega) rfl (by kernel_rfl)
  have r5 := row 5 _ _ _ _ _ 236 (by omega) rfl (by kernel_rfl)
  have r6 := row 6 _ _ _ _ _ 237 (by omega) rfl (by kernel_rfl)
  have r7 := row 7 _ _ _ _ _ 238 (by omega) rfl (by kernel_rfl)
  have hall : cs.toList = kindCells := by
    have e : cs.toList = (cs.toList.drop (0 * 4)).take 4 ++ ((cs.toList.drop (1 * 4)).take 4 ++ ((cs.toList.drop (2 * 4)).take 4 ++ ((cs.toList.drop (3 * 4)).take 4 ++ ((cs.toList.drop (4 * 4)).take 4 ++ ((cs.toList.drop (5 * 4)).take 4 ++ ((cs.toList.drop (6 * 4)).take 4 ++ (cs.toList.drop (7 * 4)).take 4)))))) := by
      generalize cs.toList = l at *
      have cut : ∀ (i : Nat) (t : List Value), l.drop ((i + 1) * 4) = t → l.drop (i * 4) = (l.drop (i * 4)).take 4 ++ t := by
        intro i t ht
        rw [← ht, show (i + 1) * 4 = i * 4 + 4 by omega, ← List.drop_drop]
        exact (List.take_append_drop 4 _).symm
      have h7 : l.drop (7 * 4) = (l.drop (7 * 4)).take 4 := by
        rw [List.take_of_length_le]
        simp
        omega
      have := cut 0 _ (cut 1 _ (cut 2 _ (cut 3 _ (cut 4 _ (cut 5 _ (cut 6 _ h7))))))
      simpa using this
    rw [e, r0, r1, r2, r3, r4, r5, r6, r7]
    rfl
  intro k u hk
  rw [World.var?_cell hg hv k, ← hall] at *
  rw [← Array.getElem?_toList]
  exact hk
/-- the arguments read behind the call as ahead of it -/
theorem trodAll_below {P : Program} (hlo : laidOutB P = true) {H : Type} {enc : TypeId × Value → H} {W W' : World} (hb : Below W.heap.size W W') : ∀ (ts : List TypeId) (vs : List Value) (ds : List (DataW H)) (ps : List MemPlace),
    (∀ t ∈ ts, P.readableRec t = true ∧ t < P.types.size) → DataW.TrodAll enc P W 0 (fun _ => true) true ts vs ds ps → (∀ x ∈ ps, x.block < W.heap.size) →
    DataW.TrodAll enc P W' 0 (fun b => decide (b < W.heap.size)) true ts vs ds ps
  | [], [], [], _, _, h, _ => h
  | t :: ts, v :: vs, d :: ds, ps, ht, h, hlt => by
    obtain ⟨p, q, h1, h2, rfl⟩ := h
    have ht0 := ht t (by simp)
    exact ⟨p, q, Below.trod hlo ht0.1 ht0.2 h1 hb (fun x hx => hlt x (by simp [hx])), trodAll_below hlo hb ts vs ds q (fun x hx => ht x (by simp [hx])) h2 (fun x hx => hlt x (by simp [hx])), rfl⟩
  | [], [], _ :: _, _, _, h, _ => h.elim
  | [], _ :: _, _, _, _, h, _ => h.elim
  | _ :: _, [], _, _, _, h, _ => h.elim
  | _ :: _, _ :: _, [], _, _, h, _ => h.elim
theorem law_end {H : Type} {enc : TypeId × Value → H} {f : Func} {s : ChangeSpec} {W W' : World} {args : Array Value} {ds : List (DataW H)} {before : List MemPlace}
    (hvars : s.vars = []) (hW : DataW.Whole enc Tryz.prog f.params.toList s.vars false W args.toList ds [] before) (hfn : s.fn H (ds ++ []) = { results := [.lit (.bool true)], args := ds })
    (hr : f.resultTypes = #[4]) (ht : ∀ t ∈ f.params.toList, Tryz.prog.readableRec t = true ∧ t < Tryz.prog.types.size) (hb : Below W.heap.size W W') :
    s.post enc Tryz.prog f false true false false W args (.bool true) W' := by
  have hW' := hW
  obtain ⟨p, q, hA, hV, rfl, hfz, hnd⟩ := hW
  have hlt : ∀ x ∈ p, x.block < W.heap.size := fun x hx => hW'.lt x (by simp [hx])
  refine ⟨ds, [], _, [], p, [], hW', ?_, ?_, ?_, hb.frame _, fun h => by cases h⟩
  · rw [hfn, hr]
    exact trodAll_mk1 (shut_bool Tryz.underlying4 _)
  · rw [hfn]
    exact trodAll_below laidOut hb _ _ _ _ ht hA hlt
  · rw [hfn, hvars]
    rfl
theorem gPow : Tryz.prog.globalNamed "internal/strconv.uint64pow10" = some 2 := by kernel_rfl
theorem tPow : (Tryz.prog.globals[2]?).map (·.type) = some 248 := by kernel_rfl
theorem cells216 : Tryz.prog.cellsOf 216 = 1 := by kernel_rfl
theorem cells248 : Tryz.prog.cellsOf 248 = 20 := by kernel_rfl
theorem pow_tab : (Rows.laid_internal_strconv_uint64pow10 : DataW Unit) = Lib.tabData .u64 Lib.pow10Tab := by rfl
theorem gES : Tryz.prog.globalNamed "strconv.ErrSyntax" = some 3 := by kernel_rfl
theorem tES : (Tryz.prog.globals[3]?).map (·.type) = some 168 := by kernel_rfl
theorem gER : Tryz.prog.globalNamed "strconv.ErrRange" = some 4 := by kernel_rfl
theorem tER : (Tryz.prog.globals[4]?).map (·.type) = some 168 := by kernel_rfl
theorem cells268 : Tryz.prog.cellsOf 268 = 1 := by kernel_rfl
theorem starZ : "*" ++ "errors.errorString" = "*errors.errorString" := by decide
theorem row266 (u : TypeId) (h : Tryz.prog.typeName? 3 u = some "*errors.errorString") : u = 266 :=
  typeName_ptr_named (nm := "errors.errorString") (by rw [starZ]; kernel_rfl) (by kernel_rfl) (by decide) u (by rw [starZ]; exact h)
/-- the plain part of a list with a table of functions -/
theorem plain_of_laid {W : World} {l m : List (String × DataW Unit)} (h : laidMetH Tryz.prog l W) {n : String} {d : DataW Unit} (hx : (n, DataW.iface "func table" d) ∈ l) (hm : (l.filter fun x => x.2.handleName?.isNone) = m) : laidMet Tryz.prog m W := by
  have hs : (DataW.iface "func table" d : DataW Unit).handleName?.isSome = true := by
    unfold DataW.handleName?
    split
    · rename_i t s e; cases e; rfl
    · rename_i t d' _ e; cases e; rfl
    · rename_i h2; exact absurd rfl (h2 _ _)
  have hmem : (n, DataW.iface "func table" d) ∈ l.filter fun x => x.2.handleName?.isSome := List.mem_filter.2 ⟨hx, hs⟩
  unfold laidMetH at h
  generalize (l.filter fun x => x.2.handleName?.isSome) = fl at h hmem
  cases fl with
  | nil => cases hmem
  | cons a rest => rw [← hm]; exact h.1
theorem txt_of_parts {W : World} {r1 r2 r3 : List (String × DataW Unit)} (hk : KindsAt W) (h1 : laidMet Tryz.prog (("internal/strconv.uint64pow10", Rows.laid_internal_strconv_uint64pow10) :: r1) W) (h2 : laidMet Tryz.prog (("strconv.ErrRange", Rows.laid_strconv_ErrRange) :: r2) W)
    (h3 : laidMet Tryz.prog (("strconv.ErrSyntax", Rows.laid_strconv_ErrSyntax) :: r3) W) (hs : W.ShapedOpen Tryz.prog) : TxtAt W := by
  rw [pow_tab] at h1
  obtain ⟨a0, s0, hv0, -, -, -⟩ := laid_sentinel h3 gES tES Tryz.underlying168 row266 Tryz.underlying266 Tryz.underlying268 rfl rfl Tryz.underlying9 cells268 cells9
  obtain ⟨a1, s1, hv1, -, -, -⟩ := laid_sentinel h2 gER tER Tryz.underlying168 row266 Tryz.underlying266 Tryz.underlying268 rfl rfl Tryz.underlying9 cells268 cells9
  exact ⟨hk, Lib.tabIs_of_head gPow tPow Tryz.underlying248 Tryz.underlying216 cells216 cells248 h1, ⟨_, _, by have h0 := World.var?_cell gES hv0 0; simpa using h0⟩, ⟨_, _, by have h0 := World.var?_cell gER hv1 0; simpa using h0⟩, Tryz.laysM145.s1_3 W hs⟩
/-- the wrap with the listed variables and the world's shape -/
theorem handed_and_shaped {H : Type} {enc : TypeId × Value → H} {a : Assume} {C : Checked} {os : Os} {f : FuncId} {fn : Func} {s : ChangeSpec} {conds : List PathCond} {apart fresh handsOn again : Bool} {X : World → Array Value → Prop}
    (hX : ∀ (w w' : World) (args : Array Value), w.heap = w'.heap → X w args → X w' args)
    (own : ownKnob C.prog.godebug = none) (started : os.Started) (noInit : C.prog.inits.idxOf? f = none) (hfn : C.prog.funcs[f]? = some fn)
    (witness : ∃ (w : World) (tape : Tape) (i : Input), w.os = os ∧ (w.forCall tape i).Shaped C.prog ∧ i.vars = [] ∧ Input.okWide C.prog (w.forCall tape i) .any w.heap.size f i ∧
      ((s.pre enc C.prog fn conds apart (w.forCall tape i).memory i.args ∧ X (w.forCall tape i).memory i.args) ∧ sizedMet enc C.prog fn (OpenSpec.ofChange s) apart (w.forCall tape i).memory i.args) ∧ a.holds C.prog (lone (Frame.enter C.prog f i.args .normal) [] (w.forCall tape i)))
    (contract : ∀ (W : World) (base : Nat) (args : Array Value) (ds gs : List (DataW H)) (before : List MemPlace),
      (∀ (j : Nat) t v, fn.params[j]? = some t → args[j]? = some v → Value.okWide C.prog W .any base t v) →
      DataW.Whole enc C.prog fn.params.toList s.vars apart W args.toList ds gs before →
      conds.all (PathCond.test C.prog ⟨fn.params.toList, ds, s.plain.varTypes C.prog, gs⟩) = true →
      (DataW.weightsEach C.prog (fn.params.toList ++ s.plain.varTypes C.prog) (ds ++ gs)).all (· ≤ reachBytes) = true → X W args →
      W.ShapedOpen C.prog →
      a.holds C.prog (lone (Frame.enter C.prog f args .normal) [] W) →
      Calls C.prog f args W fun e W' => ∃ v, e = .returned v ∧ s.post enc C.prog fn apart fresh handsOn again W args v W') :
    ReturnsInHanded a C os f .any (fun w args => (s.pre enc C.prog fn conds apart w args ∧ X w args) ∧ sizedMet enc C.prog fn (OpenSpec.ofChange s) apart w args) (s.post enc C.prog fn apart fresh handsOn again) := by
  refine returnsInHanded_of_calls own started noInit witness ?_
  intro w tape i _ hsh _ hok hpre hholds
  obtain ⟨_, _, _, fn', hfn', _, _, _, _, hval⟩ := hok
  have e : fn' = fn := Option.some.inj (hfn'.symm.trans hfn)
  subst e
  obtain ⟨⟨⟨ds, gs, before, hw, hc⟩, hx⟩, hz⟩ := hpre
  have hw' := DataW.Whole.of_heap (w' := w.forCall tape i) (by rfl) hw
  refine (contract (w.forCall tape i) w.heap.size i.args ds gs before hval hw' hc (hz.weights hw) (hX _ _ _ (by rfl) hx) hsh hholds).mono fun e W' ⟨v, he, hp⟩ => ?_
  subst he
  exact ChangeSpec.post_blind hp
theorem facts_of {P : Program} {f : FuncId} {fn : Func} {s : ChangeSpec} {c : OpenClaim} (h1 : c.wf (OpenSpec.ofChange s) = true) (h2 : laidOutB P = true) (h3 : mapsRowed P = true)
    (h4 : fn.params.all (P.readableRec ·) = true) (h5 : namedTie P c.named s.vars = true) (h6 : (c.stops == []) = true) (h7 : (P.stops == []) = true) (h8 : (c.knobs == []) = true) (h9 : (P.stopKnobs == []) = true)
    (h10 : (c.inPlace == P.inPlace f) = true) (h11 : (c.unfollowed == P.unfollowed f) = true) (h12 : (c.recurses == P.recurses f) = true) (h13 : (c.named == P.varsNamed f) = true)
    (h14 : ((c.maps == (fn.params.toList ++ s.plain.varTypes P).any (P.mapsRec ·)) && (c.ifaces == (fn.params.toList ++ s.plain.varTypes P).any (P.ifacesRec ·)) && (c.mapsOut == P.mapsAmong fn.resultTypes.toList)) = true)
    (h17 : (c.loops == (fn.params.toList ++ s.plain.varTypes P).any (P.loopsFrom ·)) = true) (h18 : (c.wideKeys == (fn.params.toList ++ s.plain.varTypes P ++ fn.resultTypes.toList).any (P.wideKeysFrom ·)) = true)
    (h19 : (s.vars.all (P.varReadable ·) && fn.resultTypes.all (fun t => P.readableRec t && decide (t < P.types.size)) && (c.ifacesOut == fn.resultTypes.toList.any (P.ifacesRec ·)) && (c.loopsOut == fn.resultTypes.toList.any (P.loopsFrom ·))) = true)
    (h23 : (c.plainKeys == P.plainKeys) = true) (h24 : c.shortTexts.isNone = true) (h25 : P.stopsHeard = true) (h26 : P.mayEnter = true) (h27 : (c.lifted == P.liftsFinal) = true) (h28 : (P.make == some c.make) = true)
    (h29 : (c.kinds == (if c.domain.isEmpty then [] else fn.params.toList.map fun t => match P.underlying t with | some (.int k) => some k | _ => none)) = true) (h30 : (c.pinned == c.pinnedBy) = true)
    (h31 : (c.veiled == (fn.params.toList ++ s.plain.varTypes P ++ fn.resultTypes.toList).any (P.veiledRec ·)) = true) (h32 : c.veiledFits P fn.params.toList (fn.params.toList ++ s.plain.varTypes P ++ fn.resultTypes.toList) = true) :
    joinedFacts P f fn s c = true := by
  simp only [Bool.and_eq_true] at h14 h19
  obtain ⟨⟨m1, m2⟩, m3⟩ := h14
  obtain ⟨⟨⟨n1, n2⟩, n3⟩, n4⟩ := h19
  unfold joinedFacts
  simp only [Bool.and_eq_true]
  exact ⟨⟨⟨⟨⟨⟨⟨⟨⟨⟨⟨⟨⟨⟨⟨⟨⟨⟨⟨⟨⟨⟨⟨⟨⟨⟨⟨⟨⟨⟨⟨h1, h2⟩, h3⟩, h4⟩, h5⟩, h6⟩, h7⟩, h8⟩, h9⟩, h10⟩, h11⟩, h12⟩, h13⟩, m1⟩, m2⟩, m3⟩, h17⟩, h18⟩, n1⟩, n2⟩, n3⟩, n4⟩, h23⟩, h24⟩, h25⟩, h26⟩, h27⟩, h28⟩, h29⟩, h30⟩, h31⟩, h32⟩
theorem pf_maps : mapsRowed Tryz.prog = true := by kernel_rfl
theorem pf_stops : (Tryz.prog.stops == []) = true := by kernel_rfl
theorem pf_knobs : (Tryz.prog.stopKnobs == []) = true := by kernel_rfl
theorem pf_heard : Tryz.prog.stopsHeard = true := by kernel_rfl
theorem pf_enter : Tryz.prog.mayEnter = true := by kernel_rfl
end Go.Proofs.YtlbgocgocanloaaGreatDoor
namespace Go.Proofs.YtlbgocgocanloaaGreatDoor
open Go.ChangeShapes Go.WideShapes Go.ChangeAt Go.RowKit Go
theorem laidMet_over {P : Program} {w0 : World} {laid : List (String × DataW Unit)} (args : Array Value)
    (hf : w0.layFits P laid [] = true)
    (hi : w0.layIfaces P laid (w0.layVars P laid) = true) :
    laidMet P laid ((w0.layVars P laid).forCall (fun _ _ => 0) ⟨#[], args, []⟩).memory := by
  have e1 : (laid.filter fun x => (laid.map (·.1)).contains x.1) = laid := List.filter_eq_self.2 fun x hx => List.contains_iff_mem.2 (List.mem_map.2 ⟨x, hx, rfl⟩)
  have e2 : (laid.filter fun x => !(laid.map (·.1)).contains x.1) = [] := List.filter_eq_nil_iff.2 fun x hx => by rw [List.contains_iff_mem.2 (List.mem_map.2 ⟨x, hx, rfl⟩)]; simp
  have h : laidMet P laid (w0.layVars P laid) := laidMet_layVars (w0 := w0) (laid.map (·.1)) [] (by rw [e1]) (by rw [e1]; exact hf) (by rw [e1]; exact hi) (by rw [e2]; exact LaidIn.none)
  exact h.of_heap (by simp [World.memory, World.forCall, Input.heap])
/-- the plain variables of the law of texts -/
def plainT : List (String × DataW Unit) := [("math/bits.deBruijn32tab", Rows.laid_math_bits_deBruijn32tab), ("math/bits.deBruijn64tab", Rows.laid_math_bits_deBruijn64tab), ("internal/strconv.uint64pow10", Rows.laid_internal_strconv_uint64pow10), ("unicode/utf8.acceptRanges", Rows.laid_unicode_utf8_acceptRanges), ("strconv.ErrRange", Rows.laid_strconv_ErrRange), ("strconv.ErrSyntax", Rows.laid_strconv_ErrSyntax), ("unicode/utf8.first", Rows.laid_unicode_utf8_first)]
noncomputable def worldT (os : Os) : World := (World.doorLaid Tryz.prog 600 os).layVars Tryz.prog plainT
theorem laidT_eq : Rows.careTextsRow.laid = [("math/bits.deBruijn32tab", Rows.laid_math_bits_deBruijn32tab), ("math/bits.deBruijn64tab", Rows.laid_math_bits_deBruijn64tab), ("internal/strconv.uint64pow10", Rows.laid_internal_strconv_uint64pow10), ("unicode/utf8.acceptRanges", Rows.laid_unicode_utf8_acceptRanges), ("strconv.ErrRange", Rows.laid_strconv_ErrRange), ("strconv.ErrSyntax", Rows.laid_strconv_ErrSyntax), ("guideway/care.kinds", Rows.laid_guideway_care_kinds), ("unicode/utf8.first", Rows.laid_unicode_utf8_first)] := rfl
theorem filterT : (Rows.careTextsRow.laid.filter fun x => x.2.handleName?.isNone) = plainT := by rfl
theorem worldT_met (os : Os) (args : Array Value) : laidMetH Tryz.prog Rows.careTextsRow.laid ((worldT os).forCall (fun _ _ => 0) ⟨#[], args, []⟩).memory :=
  laidMetH_of_parts3 (fuel := 8) (by rw [filterT]; exact laidMet_over args (by kernel_rfl) (by kernel_rfl)) (by kernel_rfl) (by kernel_rfl)
theorem txtT {W : World} (h : laidMetH Tryz.prog Rows.careTextsRow.laid W) (hs : W.ShapedOpen Tryz.prog) : TxtAt W := by
  have hm : ("guideway/care.kinds", Rows.laid_guideway_care_kinds) ∈ Rows.careTextsRow.laid := by rw [laidT_eq]; simp
  have hp := plain_of_laid h hm filterT
  exact txt_of_parts (kinds_of_laid h hm) hp.tail.tail hp.tail.tail.tail.tail hp.tail.tail.tail.tail.tail hs
end Go.Proofs.YtlbgocgocanloaaGreatDoor
