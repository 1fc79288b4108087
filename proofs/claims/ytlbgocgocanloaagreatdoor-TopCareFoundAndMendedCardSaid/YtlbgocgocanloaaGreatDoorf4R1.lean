/- A region that draws its order, cut in three: operations that yield the same in every world (first), operations that are quiet in a class of worlds (next), and a tail whose order is forced: one walk serves every order. -/
import Derived.Deep.Quiet
import Derived.Tactics
namespace Go.Proofs.YtlbgocgocanloaaGreatDoor
open Go
section
variable {P : Program} {ops : Array Oper} {md : Region.Mode} {C : World → Prop}
/-- The post that lets nothing but the region's own end by. -/
def onlyNormal (Q : Exit → Act → World → Prop) : Exit → Act → World → Prop
  | .normal, a, w => Q .normal a w
  | _, _, _ => False
theorem onlyNormal_mk {Q : Exit → Act → World → Prop} {a : Act} {w : World} (h : Q .normal a w) : onlyNormal Q .normal a w := h
theorem Oper_wp_only {o : Oper} {Q : Exit → Act → World → Prop} {a : Act} {w : World} {K : Act → World → Prop}
    (hh : o.wp P a w K (onlyNormal Q)) : o.wp P a w K Q := by
  unfold Oper.wp at *
  generalize (execOp a.eval o).run P w = r at *
  cases r with
  | ok n w' =>
    cases n <;> simp only [Oper.upon] at hh ⊢ <;>
      first
        | exact hh
        | exact Calls.mono hh (fun e w'' he => by
            cases e
            · exact he
            · exact absurd he (by simp [onlyNormal])
            · obtain ⟨_, _, h⟩ := he; exact absurd h (by simp [onlyNormal]))
  | halt x w' => cases x <;> simp only [Oper.upon] at hh ⊢ <;> first | exact hh | exact absurd hh (by simp [onlyNormal])
theorem wpOp_only {i : Nat} {Q : Exit → Act → World → Prop} {a : Act} {w : World} {K : Act → World → Prop}
    (hh : wpOp P ops (onlyNormal Q) i K a w) : wpOp P ops Q i K a w := by
  unfold wpOp at *
  split
  · simpa [*] using hh
  · rename_i o ho
    simp only [ho] at hh
    split
    · rename_i hw
      simp only [hw, if_true] at hh
      rcases hh with h | ⟨_, _, _, h⟩
      · exact .inl (Oper_wp_only h)
      · exact absurd h (by simp [onlyNormal])
    · rename_i hw; simp only [hw] at hh; exact hh
theorem wpAny_only {Q : Exit → Act → World → Prop} : ∀ (fuel : Nat) (listed : Array Bool) (a : Act) (w : World),
    wpAny P md ops (onlyNormal Q) fuel listed a w → wpAny P md ops Q fuel listed a w
  | 0, _, _, _, h => h
  | fuel + 1, _, _, _, h => ⟨h.1, fun i hi => wpOp_mono (fun a' w' h' => wpAny_only fuel _ a' w' h') (wpOp_only (h.2 i hi))⟩
def hoistB (md : Region.Mode) (ops : Array Oper) : List Nat → Array Bool → Bool
  | [], _ => true
  | i :: is, listed => (Region.ready md ops listed).contains i && Region.free md ops listed i && hoistB md ops is (listed.setIfInBounds i true)
def listAll : List Nat → Array Bool → Array Bool
  | [], listed => listed
  | i :: is, listed => listAll is (listed.setIfInBounds i true)
def seqL (md : Region.Mode) (ops : Array Oper) : List Nat → Array Bool → Bool
  | [], listed => (Region.ready md ops listed).isEmpty
  | t :: ts, listed => decide (Region.ready md ops listed = [t]) && seqL md ops ts (listed.setIfInBounds t true)
def markAll (md : Region.Mode) : List Edge → Array Bool → Array Bool
  | [], m => m
  | e :: es, m => markAll md es (if Region.binds md e then m.setIfInBounds e.on true else m)
/-- what operation t waits for, directly or through others: the operations below k are looked at from the last one down -/
def marks (md : Region.Mode) (ops : Array Oper) : Nat → Array Bool → Array Bool
  | 0, m => m
  | j + 1, m => marks md ops j (if m.getD j false then (match ops[j]? with | some o => markAll md o.after.toList m | none => m) else m)
def ClosedL (md : Region.Mode) (ops : Array Oper) (listed : Array Bool) : Prop :=
  listed.size = ops.size ∧ ∀ j oj, ops[j]? = some oj → listed.getD j false = true → ∀ e ∈ oj.after, Region.binds md e = true → listed.getD e.on false = true
theorem getD_false_of_true {listed : Array Bool} {i : Nat} (h : listed.getD i true = false) : listed.getD i false = false := by
  rcases Nat.lt_or_ge i listed.size with h' | h'
  · simp [h'] at h ⊢; exact h
  · simp [Array.getElem?_eq_none h'] at h
theorem ClosedL.set {i : Nat} {listed : Array Bool} (inv : ClosedL md ops listed) (hi : i ∈ Region.ready md ops listed) : ClosedL md ops (listed.setIfInBounds i true) := by
  obtain ⟨_, oi, hoi, hall⟩ := mem_ready.1 hi
  refine ⟨by simp [inv.1], fun j oj hj hl e he hb => ?_⟩
  by_cases hij : i = j
  · subst hij
    have : oj = oi := Option.some.inj (hj.symm.trans hoi)
    subst this
    exact getD_set_true (hall e he hb)
  · rw [getD_set_ne false hij] at hl
    exact getD_set_true (inv.2 j oj hj hl e he hb)
theorem markAll_spec {listed : Array Bool} {t : Nat} : ∀ (es : List Edge) (m : Array Bool), (∀ i, m.getD i false = true → i = t ∨ listed.getD i false = true) →
    (∀ e ∈ es, Region.binds md e = true → listed.getD e.on false = true) → ∀ i, (markAll md es m).getD i false = true → i = t ∨ listed.getD i false = true
  | [], _, hm, _ => hm
  | e :: es, m, hm, he => by
    unfold markAll
    refine markAll_spec es _ (fun i hi => ?_) (fun e' h' => he e' (by simp [h']))
    split at hi
    · rename_i hb
      by_cases hie : e.on = i
      · exact .inr (hie ▸ he e (by simp) hb)
      · rw [getD_set_ne false hie] at hi
        exact hm i hi
    · exact hm i hi
theorem marks_spec {listed : Array Bool} {t : Nat} (inv : ClosedL md ops listed) (ht : ∀ o, ops[t]? = some o → ∀ e ∈ o.after, Region.binds md e = true → listed.getD e.on false = true) :
    ∀ (k : Nat) (m : Array Bool), (∀ i, m.getD i false = true → i = t ∨ listed.getD i false = true) → ∀ i, (marks md ops k m).getD i false = true → i = t ∨ listed.getD i false = true
  | 0, _, hm => hm
  | j + 1, m, hm => by
    unfold marks
    refine marks_spec inv ht j _ ?_
    split
    · rename_i hj
      split
      · rename_i o ho
        refine markAll_spec _ _ hm (fun e he hb => ?_)
        have he' : e ∈ o.after := by simpa using he
        rcases hm j hj with h | h
        · subst h; exact ht o ho e he' hb
        · exact inv.2 j o ho h e he' hb
      · exact hm
    · exact hm
def waitsB (md : Region.Mode) (ops : Array Oper) (t : Nat) (is : List Nat) : Bool :=
  let m := marks md ops ops.size ((Array.replicate ops.size false).setIfInBounds t true)
  is.all fun i => m.getD i false && i != t
theorem waitsB_ready {listed : Array Bool} (inv : ClosedL md ops listed) {t : Nat} {is : List Nat} (hw : waitsB md ops t is = true) {i : Nat} (hi : i ∈ is) (ht : t ∈ Region.ready md ops listed)
    (hun : listed.getD i true = false) : False := by
  obtain ⟨_, ot, hot, hall⟩ := mem_ready.1 ht
  simp only [waitsB, List.all_eq_true, Bool.and_eq_true, bne_iff_ne] at hw
  obtain ⟨h1, h2⟩ := hw i hi
  have h3 := marks_spec inv (t := t) (fun o ho e he hb => by
    have : o = ot := Option.some.inj (ho.symm.trans hot)
    subst this
    exact hall e he hb) ops.size _ (fun k hk => by
      by_cases hkt : t = k
      · exact .inl hkt.symm
      · rw [getD_set_ne false hkt] at hk
        have : (Array.replicate ops.size false).getD k false = false := by
          rcases Nat.lt_or_ge k ops.size with h | h
          · simp [h]
          · simp [h]
        rw [this] at hk
        cases hk) i h1
  rcases h3 with h | h
  · exact h2 h
  · rw [getD_false_of_true hun] at h
    cases h
def anyQ (P : Program) (md : Region.Mode) (ops : Array Oper) (C : World → Prop) (L : Array Bool → Act → Prop) : Nat → Array Bool → Act → Prop
  | 0, listed, a => L listed a
  | f + 1, listed, a => Region.ready md ops listed ≠ [] ∧ ∀ i ∈ Region.ready md ops listed, qOp P ops C i (anyQ P md ops C L f (listed.setIfInBounds i true)) a
theorem wpAny_of_anyQ {g : Nat} {L : Array Bool → Act → Prop} {Q : Exit → Act → World → Prop} (hL : ∀ listed a, L listed a → ∀ w, C w → wpAny P md ops Q g listed a w) :
    ∀ (f : Nat) (listed : Array Bool) (a : Act), anyQ P md ops C L f listed a → ∀ w, C w → wpAny P md ops Q (f + g) listed a w
  | 0, listed, a, h, w, hw => by rw [Nat.zero_add]; exact hL _ _ h w hw
  | f + 1, listed, a, h, w, hw => by
    rw [show f + 1 + g = (f + g) + 1 by omega]
    exact ⟨fun h0 => absurd h0 h.1, fun i hi => wpOp_of_qOp hw (fun a' w' hw' h' => wpAny_of_anyQ hL f _ a' h' w' hw') (h.2 i hi)⟩
theorem anyQ_first {i t : Nat} {hs : List Nat} {oi : Oper} {v : Value} {L : Array Bool → Act → Prop} (hi : ops[i]? = some oi) (hsel : ∀ (j : Nat) (o : Oper) cs b, ops[j]? = some o → o.op ≠ .select cs b)
    (hL : ∀ listed a, L listed a → ∀ j ∈ Region.ready md ops listed, j = t) (hw : waitsB md ops t hs = true) (hih : i ∈ hs) :
    ∀ (f : Nat) (listed : Array Bool) (a : Act), ClosedL md ops listed →
      (∀ j oj, ops[j]? = some oj → j ≠ i → listed.getD j true = false → (∀ e ∈ oj.after, Region.binds md e = true → e.on ≠ i) → oi.apart ops oj = true) →
      i ∈ Region.ready md ops listed → YieldsIn P ops C oi v a →
      anyQ P md ops C L f (listed.setIfInBounds i true) (a.put oi.dst v) → anyQ P md ops C L (f + 1) listed a := by
  intro f
  induction f with
  | zero =>
    intro listed a inv _ hr hy H
    have hun := (mem_ready.1 hr).1
    refine ⟨fun h => (by rw [h] at hr; cases hr), fun j hj => ?_⟩
    by_cases hji : j = i
    · subst hji; exact hy.qOp hi H
    · have hjt := hL _ _ H j (ready_mono hj hji)
      subst hjt
      exact (waitsB_ready inv hw hih hj hun).elim
  | succ f ih =>
    intro listed a inv hfree hr hy H
    have hun := (mem_ready.1 hr).1
    refine ⟨fun h => (by rw [h] at hr; cases hr), fun j hj => ?_⟩
    by_cases hji : j = i
    · subst hji; exact hy.qOp hi H
    · have h1 := H.2 j (ready_mono hj hji)
      obtain ⟨hjun, oj, hoj, hall⟩ := mem_ready.1 hj
      have hnot : ∀ e ∈ oj.after, Region.binds md e = true → e.on ≠ i := fun e he hb heq => by
        have h1 := hall e he hb
        rw [heq, getD_false_of_true hun] at h1
        cases h1
      have h2 := qOp_put hoj (hfree j oj hoj hji hjun hnot) (fun cs b => hsel i oi cs b hi) (fun cs b => hsel j oj cs b hoj) hy h1
      have hfree' : ∀ k ok, ops[k]? = some ok → k ≠ i → (listed.setIfInBounds j true).getD k true = false →
          (∀ e ∈ ok.after, Region.binds md e = true → e.on ≠ i) → oi.apart ops ok = true := fun k ok hk hki hun hno => by
        refine hfree k ok hk hki ?_ hno
        by_cases hjk : j = k
        · subst hjk; exact hjun
        · rw [getD_set_ne true hjk] at hun; exact hun
      refine qOp_mono (fun a' h3 => ih (listed.setIfInBounds j true) a' (inv.set hj) hfree' (ready_mono hr (Ne.symm hji)) h3.1 ?_) h2
      rw [Array.setIfInBounds_comm _ _ hji]
      exact h3.2
/-- the operations of an index list -/
def consOpt : Option Oper → List Oper → List Oper
  | some o, l => o :: l
  | none, l => l
theorem consOpt_some (o : Oper) (l : List Oper) : consOpt (some o) l = o :: l := rfl
def opsAt (ops : Array Oper) : List Nat → List Oper
  | [] => []
  | i :: is => consOpt ops[i]? (opsAt ops is)
theorem opsAt_nil (ops : Array Oper) : opsAt ops [] = [] := rfl
theorem opsAt_cons (ops : Array Oper) (i : Nat) (is : List Nat) : opsAt ops (i :: is) = consOpt ops[i]? (opsAt ops is) := rfl
theorem anyQ_lex {t : Nat} {hws : List Nat} {L : Array Bool → Act → Prop} {Lq : Act → Prop} (hs : Region.noSelect ops = true)
    (hL : ∀ listed a, L listed a → ∀ j ∈ Region.ready md ops listed, j = t) :
    ∀ (is : List Nat) (listed : Array Bool) (a : Act), ClosedL md ops listed → hoistB md ops is listed = true → waitsB md ops t hws = true → (∀ i ∈ is, i ∈ hws) →
      (∀ a', Lq a' → L (listAll is listed) a') → wpQuiet P ops C Lq (opsAt ops is) a → anyQ P md ops C L is.length listed a
  | [], listed, a, _, _, _, _, hLq, h => hLq a h
  | i :: is, listed, a, inv, hB, hw, hin, hLq, h => by
    simp only [hoistB, Bool.and_eq_true] at hB
    obtain ⟨⟨hr, hf⟩, hB'⟩ := hB
    have hr' : i ∈ Region.ready md ops listed := by simpa using hr
    obtain ⟨_, oi, hoi, _⟩ := mem_ready.1 hr'
    have hop : opsAt ops (i :: is) = oi :: opsAt ops is := by simp [opsAt, hoi, consOpt]
    rw [hop] at h
    have hst : qOp P ops C i (wpQuiet P ops C Lq (opsAt ops is)) a := by unfold qOp; simp only [hoi]; exact h
    obtain ⟨v, hy, hK⟩ := yieldsIn_of_qOp hoi hst
    exact anyQ_first hoi (Region.noSelect_spec hs) hL hw (hin i (by simp)) is.length listed a inv (Region.free_spec hoi hf) hr' hy
      (anyQ_lex hs hL is _ _ (inv.set hr') hB' hw (fun k hk => hin k (by simp [hk])) hLq hK)
theorem wpAny_seqL {Q : Exit → Act → World → Prop} : ∀ (ts : List Nat) (listed : Array Bool) (a : Act) (w : World),
    seqL md ops ts listed = true → wpList P ops Q (opsAt ops ts) a w → wpAny P md ops Q ts.length listed a w
  | [], _, _, _, hB, h => ⟨by simpa [seqL] using hB, h⟩
  | t :: ts, listed, a, w, hB, h => by
    simp only [seqL, Bool.and_eq_true, decide_eq_true_eq] at hB
    refine ⟨fun h1 => (by rw [hB.1] at h1; cases h1), fun i hi => ?_⟩
    have hi' := hi
    rw [hB.1] at hi
    have hit : i = t := by simpa using hi
    subst hit
    obtain ⟨_, oi, hoi, _⟩ := mem_ready.1 hi'
    have hop : opsAt ops (i :: ts) = oi :: opsAt ops ts := by simp [opsAt, hoi, consOpt]
    rw [hop] at h
    have hw : wpOp P ops Q i (wpList P ops Q (opsAt ops ts)) a w := by unfold wpOp; simp only [hoi]; exact h
    exact wpOp_mono (fun a' w' h' => wpAny_seqL ts _ a' w' hB.2 h') hw
def wpPure (P : Program) (ops : Array Oper) (Q : Act → Prop) : List Oper → Act → Prop
  | [], a => Q a
  | o :: rest, a => ∃ v, Yields P ops o v a ∧ wpPure P ops Q rest (a.put o.dst v)
theorem wpAny_pure {g : Nat} {Q : Exit → Act → World → Prop} {Lq : Act → Prop} (hs : Region.noSelect ops = true) :
    ∀ (is : List Nat) (listed : Array Bool) (a : Act) (w : World), hoistB md ops is listed = true →
      (∀ a', Lq a' → wpAny P md ops (onlyNormal Q) g (listAll is listed) a' w) → wpPure P ops Lq (opsAt ops is) a → wpAny P md ops (onlyNormal Q) (is.length + g) listed a w
  | [], listed, a, w, _, hL, h => by rw [List.length_nil, Nat.zero_add]; exact hL a h
  | i :: is, listed, a, w, hB, hL, h => by
    simp only [hoistB, Bool.and_eq_true] at hB
    obtain ⟨⟨hr, hf⟩, hB'⟩ := hB
    have hr' : i ∈ Region.ready md ops listed := by simpa using hr
    obtain ⟨_, oi, hoi, _⟩ := mem_ready.1 hr'
    have hop : opsAt ops (i :: is) = oi :: opsAt ops is := by simp [opsAt, hoi, consOpt]
    rw [hop] at h
    obtain ⟨v, hy, hK⟩ := h
    rw [show (i :: is).length + g = (is.length + g) + 1 by simp; omega]
    exact wpAny_first hoi (Region.noSelect_spec hs) (fun _ _ _ h => h) _ listed a w (Region.free_spec hoi hf) hr' hy (wpAny_pure hs is _ _ w hB' hL hK)
theorem closed_replicate (n : Nat) (h : n = ops.size) : ClosedL md ops (Array.replicate n false) :=
  ⟨by simp [h], fun j _ _ hl => by
    have : (Array.replicate n false).getD j false = false := by
      rcases Nat.lt_or_ge j n with h | h
      · simp [h]
      · simp [h]
    rw [this] at hl
    cases hl⟩
theorem closed_listAll : ∀ (is : List Nat) (listed : Array Bool), ClosedL md ops listed → hoistB md ops is listed = true → ClosedL md ops (listAll is listed)
  | [], _, inv, _ => inv
  | i :: is, listed, inv, hB => by
    simp only [hoistB, Bool.and_eq_true] at hB
    exact closed_listAll is _ (inv.set (by simpa using hB.1.1)) hB.2
def splitB (md : Region.Mode) (ops : Array Oper) (ps hs : List Nat) (t : Nat) (ts : List Nat) : Bool :=
  Region.noSelect ops && decide (ps.length + (hs.length + (ts.length + 1)) = ops.size) && hoistB md ops ps (Array.replicate ops.size false) &&
  hoistB md ops hs (listAll ps (Array.replicate ops.size false)) && seqL md ops (t :: ts) (listAll hs (listAll ps (Array.replicate ops.size false))) &&
  waitsB md ops t hs
/-- **One walk for every order**: ps yield the same in every world; hs are quiet in the class C, and t waits for each of them; t and ts come in just this order. -/
theorem wp_region_split {id : Nat} {Q : Exit → Act → World → Prop} {a : Act} {w : World} {l : List Oper} (ps hs : List Nat) (t : Nat) (ts : List Nat) (C : World → Prop)
    (hm : P.follows .mixedOrders = true) (hB : splitB .any l.toArray ps hs t ts = true) (hC : C { w with drawn := w.drawn + 1 })
    (h : wpPure P l.toArray (fun a1 => wpQuiet P l.toArray C (fun a2 => ∀ w', C w' → wpList P l.toArray (onlyNormal Q) (opsAt l.toArray (t :: ts)) a2 w') (opsAt l.toArray hs) a1) (opsAt l.toArray ps) a) :
    (Code.region id l.toArray true).wp P Q a w := by
  simp only [splitB, Bool.and_eq_true, decide_eq_true_eq] at hB
  obtain ⟨⟨⟨⟨⟨hsel, hn⟩, h1⟩, h2⟩, h3⟩, h4⟩ := hB
  have inv0 : ClosedL .any l.toArray (Array.replicate l.toArray.size false) := closed_replicate _ rfl
  have inv1 := closed_listAll ps _ inv0 h1
  refine wp_region_any hm (wpAny_only _ _ _ _ ?_)
  rw [← hn]
  refine wpAny_pure (g := hs.length + (ts.length + 1)) hsel ps _ a _ (by rw [hn]; exact h1) (fun a1 ha1 => ?_) h
  rw [hn]
  refine wpAny_of_anyQ (C := C) (L := fun listed a' => seqL .any l.toArray (t :: ts) listed = true ∧ ∀ w', C w' → wpList P l.toArray (onlyNormal Q) (opsAt l.toArray (t :: ts)) a' w')
    (fun listed a' hL w' hw' => wpAny_seqL (t :: ts) listed a' w' hL.1 (hL.2 w' hw')) hs.length _ a1 ?_ _ hC
  refine anyQ_lex (t := t) (hws := hs) hsel (fun listed a' hL j hj => ?_) hs _ a1 inv1 h2 h4 (fun i hi => hi) (fun a' ha' => ⟨h3, ha'⟩) ha1
  have h5 := hL.1
  simp only [seqL, Bool.and_eq_true, decide_eq_true_eq] at h5
  rw [h5.1] at hj
  simpa using hj
/-- operations that hand back a value, call nothing and change nothing -/
def pureKind (o : Oper) : Bool :=
  match o.op with
  | .move _ | .assign _ | .nilCheck _ | .fieldAddr .. | .unOp .. | .binOp .. | .extract .. | .field .. => true
  | _ => false
theorem Sem_value_enter {s : Sem Value} {w w' : World} {f : FuncId} {args : Array Value} (h : (do pure (Next.value (← s)) : Sem Next).run P w = .ok (.enter f args) w') : False := by
  rw [Sem.run_bind] at h
  cases hr : s.run P w with
  | ok v w1 => rw [hr] at h; simp [Result.andThen] at h
  | halt x w1 => rw [hr] at h; simp [Result.andThen] at h
theorem pureKind_enter {o : Oper} (hk : pureKind o = true) {ρ : Operand → Value} {w w' : World} {f : FuncId} {args : Array Value}
    (h : (execOp ρ o).run P w = .ok (.enter f args) w') : False := by
  obtain ⟨dst, op, type, pos, after, guard⟩ := o
  cases op <;> simp only [pureKind, Bool.false_eq_true] at hk <;> simp only [execOp] at h
  case move => simp at h
  case assign => simp at h
  case nilCheck x =>
    split at h
    · simp [runtimePanic] at h
    · simp [runtimePanic] at h
    · simp [runtimePanic] at h
    · split at h
      · simp [runtimePanic] at h
      · simp only [Sem.run_bind] at h
        generalize Sem.run P _ w = r at h
        cases r with
        | halt _ _ => simp [Result.andThen] at h
        | ok p w1 =>
          simp only [Result.andThen_ok] at h
          generalize Sem.run P (nilAhead _ _ _ _) w1 = r at h
          cases r with
          | halt _ _ => simp [Result.andThen] at h
          | ok q w2 =>
            simp only [Result.andThen_ok] at h
            split at h
            · simp [unsupported] at h
            · simp at h
      · simp at h
    · simp at h
  all_goals exact Sem_value_enter h
theorem Sem_value_skip {s : Sem Value} {w w' : World} (h : (do pure (Next.value (← s)) : Sem Next).run P w = .ok .skip w') : False := by
  rw [Sem.run_bind] at h
  cases hr : s.run P w with
  | ok v w1 => rw [hr] at h; simp [Result.andThen] at h
  | halt x w1 => rw [hr] at h; simp [Result.andThen] at h
theorem pureKind_skip {o : Oper} (hk : pureKind o = true) {ρ : Operand → Value} {w w' : World}
    (h : (execOp ρ o).run P w = .ok .skip w') : False := by
  obtain ⟨dst, op, type, pos, after, guard⟩ := o
  cases op <;> simp only [pureKind, Bool.false_eq_true] at hk <;> simp only [execOp] at h
  case move => simp at h
  case assign => simp at h
  case nilCheck x =>
    split at h
    · simp [runtimePanic] at h
    · simp [runtimePanic] at h
    · simp [runtimePanic] at h
    · split at h
      · simp [runtimePanic] at h
      · simp only [Sem.run_bind] at h
        generalize Sem.run P _ w = r at h
        cases r with
        | halt _ _ => simp [Result.andThen] at h
        | ok p w1 =>
          simp only [Result.andThen_ok] at h
          generalize Sem.run P (nilAhead _ _ _ _) w1 = r at h
          cases r with
          | halt _ _ => simp [Result.andThen] at h
          | ok q w2 =>
            simp only [Result.andThen_ok] at h
            split at h
            · simp [unsupported] at h
            · simp at h
      · simp at h
    · simp at h
  all_goals exact Sem_value_skip h
theorem wpPure_of_quiet {Q : Act → Prop} : ∀ (l : List Oper) (a : Act), l.all pureKind = true → wpQuiet P ops (fun _ => True) Q l a → wpPure P ops Q l a
  | [], _, _, h => h
  | o :: rest, a, hk, h => by
    simp only [List.all_cons, Bool.and_eq_true] at hk
    unfold wpQuiet at h
    by_cases hw : Region.wanted o (yielded ops a.tmps) = true
    · rw [if_pos hw] at h
      obtain ⟨v, h1, h2⟩ := h
      refine ⟨v, .inl ⟨hw, fun w => ?_⟩, wpPure_of_quiet rest _ hk.2 h2⟩
      have h3 := h1 w trivial
      unfold Oper.quietAt at h3
      generalize hr : (execOp a.eval o).run P w = r at h3
      cases r with
      | ok n w' =>
        cases n <;> simp only [Oper.quietUpon] at h3
        case value u => obtain ⟨e1, e2⟩ := h3; rw [e1, e2]
        case skip => exact (pureKind_skip hk.1 hr).elim
        case enter f args => exact (pureKind_enter hk.1 hr).elim
      | halt x w' => simp only [Oper.quietUpon] at h3
    · rw [if_neg hw] at h
      exact ⟨undef, .inr ⟨by simpa using hw, rfl⟩, wpPure_of_quiet rest _ hk.2 h⟩
/-- **One walk for every order**: the operations ps yield the same in every world; hs are quiet in the class C, and t waits for each of them; t and ts come in just this order. -/
theorem wp_region_cut {id : Nat} {Q : Exit → Act → World → Prop} {a : Act} {w : World} {l : List Oper} (ps hs : List Nat) (t : Nat) (ts : List Nat) (C : World → Prop)
    (hm : P.follows .mixedOrders = true) (hB : (splitB .any l.toArray ps hs t ts && (opsAt l.toArray ps).all pureKind) = true) (hC : C { w with drawn := w.drawn + 1 })
    (h : wpQuiet P l.toArray (fun _ => True) (fun a1 => wpQuiet P l.toArray C (fun a2 => ∀ w', C w' → wpList P l.toArray (onlyNormal Q) (opsAt l.toArray (t :: ts)) a2 w') (opsAt l.toArray hs) a1) (opsAt l.toArray ps) a) :
    (Code.region id l.toArray true).wp P Q a w := by
  simp only [Bool.and_eq_true] at hB
  exact wp_region_split ps hs t ts C hm hB.1 hC (wpPure_of_quiet _ _ hB.2 h)
end
end Go.Proofs.YtlbgocgocanloaaGreatDoor
