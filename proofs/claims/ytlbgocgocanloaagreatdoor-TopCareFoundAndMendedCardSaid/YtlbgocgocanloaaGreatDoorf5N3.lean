/- The worst place of the reference is the worst place: plain. -/
import Derived.Test.YtlbgocgocanloaaGreatDoorf5W5
import Derived.Test.YtlbgocgocanloaaGreatDoorf5C6
import Derived.Test.YtlbgocgocanloaaGreatDoorf5K0
import Derived.Test.YtlbgocgocanloaaGreatDoorf4X1
import Derived.Test.YtlbgocgocanloaaGreatDoorf5Z8
namespace Go.Proofs.YtlbgocgocanloaaGreatDoor
/-- the first of the places that are reached latest -/
def BestP (f : Int → Int) (xs : List Int) (r : Int × Int) : Prop := r.1 ∈ xs ∧ r.2 = f r.1 ∧ ∀ p ∈ xs, f p < r.2 ∨ (f p = r.2 ∧ r.1 ≤ p)
theorem BestP.uniq {f : Int → Int} {xs : List Int} {r r' : Int × Int} (h : BestP f xs r) (h' : BestP f xs r') : r = r' := by
  obtain ⟨a, b⟩ := r
  obtain ⟨a', b'⟩ := r'
  obtain ⟨h1, h2, h3⟩ := h
  obtain ⟨g1, g2, g3⟩ := h'
  simp only at *
  have k1 := h3 a' g1
  have k2 := g3 a h1
  rw [← g2] at k1
  rw [← h2] at k2
  rcases k1 with k1 | ⟨k1, k3⟩
  · rcases k2 with k2 | ⟨k2, k4⟩ <;> omega
  · rcases k2 with k2 | ⟨k2, k4⟩
    · omega
    · obtain rfl : a = a' := by omega
      obtain rfl : b = b' := by omega
      rfl
end Go.Proofs.YtlbgocgocanloaaGreatDoor

/- The fewest depots of the code and of the reference are the same: plain. -/
namespace Go.Proofs.YtlbgocgocanloaaGreatDoor
/-- is a list ahead of another one of the same length -/
def lexB : List Nat → List Nat → Bool
  | x :: l, y :: m => decide (x < y) || (x == y && lexB l m)
  | _, _ => false
/-- fewer, or as many and ahead -/
def ltB (a b : List Nat) : Bool := decide (a.length < b.length) || (a.length == b.length && lexB a b)
def BestS (ok : List Nat → Bool) (xs : List (List Nat)) : Option (List Nat) → Prop
  | none => ∀ x ∈ xs, ok x = false
  | some b => b ∈ xs ∧ ok b = true ∧ ∀ x ∈ xs, ok x = true → ltB x b = false
theorem lexB_total : ∀ (a b : List Nat), a.length = b.length → lexB a b = false → lexB b a = false → a = b
  | [], [], _, _, _ => rfl
  | [], _ :: _, h, _, _ => by simp at h
  | _ :: _, [], h, _, _ => by simp at h
  | x :: l, y :: m, h, h1, h2 => by
    simp only [lexB, Bool.or_eq_false_iff, decide_eq_false_iff_not, Bool.and_eq_false_iff, beq_eq_false_iff_ne] at h1 h2
    obtain rfl : x = y := by omega
    have h3 : lexB l m = false := by rcases h1.2 with h | h <;> simp_all
    have h4 : lexB m l = false := by rcases h2.2 with h | h <;> simp_all
    rw [lexB_total l m (by simpa using h) h3 h4]
theorem ltB_total {a b : List Nat} (h1 : ltB a b = false) (h2 : ltB b a = false) : a = b := by
  simp only [ltB, Bool.or_eq_false_iff, decide_eq_false_iff_not, Bool.and_eq_false_iff, beq_eq_false_iff_ne] at h1 h2
  have hl : a.length = b.length := by omega
  refine lexB_total a b hl ?_ ?_
  · rcases h1.2 with h | h
    · exact absurd hl h
    · exact h
  · rcases h2.2 with h | h
    · exact absurd hl.symm h
    · exact h
theorem BestS.uniq {ok : List Nat → Bool} {xs ys : List (List Nat)} (hm : ∀ x, x ∈ xs ↔ x ∈ ys) {r r' : Option (List Nat)} (h : BestS ok xs r) (h' : BestS ok ys r') : r = r' := by
  cases r with
  | none =>
    cases r' with
    | none => rfl
    | some b =>
      have := h b ((hm b).2 h'.1)
      rw [h'.2.1] at this
      cases this
  | some a =>
    cases r' with
    | none =>
      have := h' a ((hm a).1 h.1)
      rw [h.2.1] at this
      cases this
    | some b =>
      have h1 := h.2.2 b ((hm b).2 h'.1) h'.2.1
      have h2 := h'.2.2 a ((hm a).1 h.1) h.2.1
      rw [ltB_total h2 h1]
end Go.Proofs.YtlbgocgocanloaaGreatDoor

/- cmp.Compare, cmp.Or, slices.Compare at ints. -/
namespace Go.Proofs.YtlbgocgocanloaaGreatDoor
open Go.RowKit
def cmpI (a b : Int) : Int := if a < b then -1 else if b < a then 1 else 0
theorem Compare_any (a b : Int) (w : World) : Calls Tryz.prog 112 #[.int .i64 a, .int .i64 b] w fun e w' => e = .returned (.int .i64 (cmpI a b)) ∧ w = w' := by
  unfold cmpI
  by_cases h1 : a < b
  · rw [if_pos h1]
    go_enter Tryz.func112, Tryz.ntmps112
    go_wp2_with (go_at_call 142; refine (Tryz.cmp_isNaN_int2 _ _).mono ?_; rintro e w' ⟨rfl, rfl⟩)
    go_ret
    exact ⟨rfl, rfl⟩
  · rw [if_neg h1]
    by_cases h2 : b < a
    · rw [if_pos h2]
      go_enter Tryz.func112, Tryz.ntmps112
      go_wp2_with (go_at_call 142; refine (Tryz.cmp_isNaN_int2 _ _).mono ?_; rintro e w' ⟨rfl, rfl⟩)
      go_ret
      exact ⟨rfl, rfl⟩
    · rw [if_neg h2]
      go_enter Tryz.func112, Tryz.ntmps112
      go_wp2_with (go_at_call 142; refine (Tryz.cmp_isNaN_int2 _ _).mono ?_; rintro e w' ⟨rfl, rfl⟩)
      go_ret
      exact ⟨rfl, rfl⟩
theorem cmpI_lt {a b : Int} (h : a < b) : cmpI a b = -1 := if_pos h
theorem cmpI_gt {a b : Int} (h : b < a) : cmpI a b = 1 := by rw [cmpI, if_neg (by omega), if_pos h]
theorem cmpI_eq {a b : Int} (h : a = b) : cmpI a b = 0 := by rw [cmpI, if_neg (by omega), if_neg (by omega)]
end Go.Proofs.YtlbgocgocanloaaGreatDoor

/- The reference's sets: all sets of so many of some numbers. -/
namespace Go.Proofs.YtlbgocgocanloaaGreatDoor
open Go.RowKit
theorem own_cap {w : World} {B e size n c : Nat} {A : Option Addr} {xs : List Value} (h : w.ownsRow B e size (.slice A n c) n xs) : n ≤ c := by
  rcases h.2 with ⟨h1, h2⟩ | ⟨g, cap, cur, h1, _, _, h3, _⟩
  · omega
  · simp only [Value.slice.injEq] at h1
    omega
/-- an append of a whole list to a slice of the call's own -/
theorem wpList_append_on (w : World) {ops : Array Oper} {rest : List Oper} {o : Oper} {a : Act} {Q : Exit → Act → World → Prop} (hgd : o.guard = none) (s x : Operand) (t : TypeId)
    (ho : o.op = .call { callee := .builtin .append, args := #[s, x], argTypes := #[t, t] })
    (base : Nat) (e : TypeId) (i : TypeInfo) (z : Value) (size bytes : Nat) (ht : Tryz.prog.underlying t = some (.slice e)) (hi : Tryz.prog.info? e = some i) (hz : i.zero = some z)
    (hsize : i.size = size) (hby : i.bytes = bytes) (hzs : z.cells.size = size) (hsz : 0 < size)
    (g0 n0 cap0 : Nat) (olds : List Value) (hs : a.eval s = .slice (some ⟨g0, 0, none⟩) n0 cap0) (hown : w.ownsRow base e size (.slice (some ⟨g0, 0, none⟩) n0 cap0) n0 olds)
    (B : Nat) (A : Option Addr) (m c : Nat) (news : List Value) (hx : a.eval x = .slice A m c) (hl : news.length = m * size) (hrd : Rd w B A news) (h1 : ∀ u ∈ news, u.oneCell' = true)
    (h63 : n0 + m ≤ maxLen) (hbytes : (n0 + m) * bytes ≤ 140737488355328) (hbase : base ≤ w.heap.size)
    (h : ∀ g cap w', w'.ownsRow base e size (.slice (some ⟨g, 0, none⟩) (n0 + m) cap) (n0 + m) (olds ++ news) → w.grownBy w' (some g0) → (g0 = g ∨ g = w.heap.size) → wpList Tryz.prog ops Q rest (a.put o.dst (.slice (some ⟨g, 0, none⟩) (n0 + m) cap)) w') : wpList Tryz.prog ops Q (o :: rest) a w := by
  rcases Nat.eq_zero_or_pos m with rfl | hm
  · have hn : news = [] := by simpa using hl
    subst hn
    refine wpList_plain hgd fun K hK' => ?_
    have hr := run_append_nothing (P := Tryz.prog) w t t o.type e i ht hi (some ⟨g0, 0, none⟩) n0 cap0 (own_cap hown) (.slice A 0 c) ?_
    · unfold Oper.wp
      simp [execOp, ho, resolve, invoke, builtin, hs, hx, hr, Result.andThen]
      exact hK' _ _ (h g0 cap0 w (by simpa using hown) ⟨rfl, rfl, rfl, Nat.le_refl _, fun _ _ _ => rfl⟩ (.inl rfl))
    · rw [hsize]
      cases A with
      | none => exact Src.ofNil w ht c
      | some ad => exact Src.ofSlice w ht ad 0 c [] (by simp) (fun j u hu => by simp at hu) (fun u hu => by simp at hu)
  · have hlen : 0 < news.length := by rw [hl]; exact Nat.mul_pos hm hsz
    obtain ⟨b, off, rfl, _, _⟩ := hrd 0 _ (List.getElem?_eq_getElem hlen)
    refine wpList_append_lies w hgd s x t ho base e i z size bytes ht hi hz hsize hby hzs hsz (.slice (some ⟨g0, 0, none⟩) n0 cap0) n0 olds hs hown ⟨b, off, none⟩ m c news hx hl ?_ h1 hm h63 hbytes hbase _ rfl ?_
    · intro j u hu
      obtain ⟨b', off', he, _, hc⟩ := hrd j u hu
      simp only [Option.some.injEq, Addr.mk.injEq, and_true] at he
      obtain ⟨rfl, rfl⟩ := he
      simp only [Addr.add]
      split
      · rename_i hj
        subst hj
        simpa using hc
      · exact hc
    · intro g cap w' hown' hgrow hat _
      refine h g cap w' hown' hgrow ?_
      rcases hat with h2 | h2
      · left
        simpa [Value.ownBlock] using h2
      · exact .inr h2
/-- rows of numbers, each in memory of its own -/
def SetsAt (w : World) (B : Nat) (hs : List Value) (xss : List (List Int)) : Prop :=
  hs.length = xss.length ∧ ∀ (i : Nat) (xs : List Int), xss[i]? = some xs → ∃ v, hs[i]? = some v ∧ w.ownsRow B 3 1 v xs.length (intCells xs)
theorem own_keep {w w' : World} {B e size : Nat} {v : Value} {n : Nat} {xs : List Value} (h : w.ownsRow B e size v n xs) (hk : ∀ (k : Nat) (cur : Array Value), w.heap[k]? = some (Obj.cells cur e (0, 0)) → w'.heap[k]? = w.heap[k]?) : w'.ownsRow B e size v n xs := by
  refine ⟨h.1, ?_⟩
  rcases h.2 with h2 | ⟨g, cap, cur, h1, h2, h3, h4⟩
  · exact .inl h2
  · exact .inr ⟨g, cap, cur, h1, h2, (hk g cur h3).trans h3, h4⟩
theorem SetsAt.keep {w w' : World} {B : Nat} {hs : List Value} {xss : List (List Int)} (h : SetsAt w B hs xss) (hk : ∀ (k : Nat) (cur : Array Value), w.heap[k]? = some (Obj.cells cur 3 (0, 0)) → w'.heap[k]? = w.heap[k]?) : SetsAt w' B hs xss :=
  ⟨h.1, fun i xs hi => by
    obtain ⟨v, h1, h2⟩ := h.2 i xs hi
    exact ⟨v, h1, own_keep h2 hk⟩⟩
theorem SetsAt.below {w w' : World} {B : Nat} {hs : List Value} {xss : List (List Int)} (h : SetsAt w B hs xss) (hb : Below w.heap.size w w') : SetsAt w' B hs xss :=
  h.keep fun k _ hk => hb.block k (lt_of_block hk)
theorem SetsAt.mono {w : World} {B B' : Nat} {hs : List Value} {xss : List (List Int)} (h : SetsAt w B hs xss) (hB : B' ≤ B) : SetsAt w B' hs xss :=
  ⟨h.1, fun i xs hi => by
    obtain ⟨v, h1, h2, h3⟩ := h.2 i xs hi
    refine ⟨v, h1, h2, ?_⟩
    rcases h3 with h3 | ⟨g, cap, cur, h3, h4, h5⟩
    · exact .inl h3
    · exact .inr ⟨g, cap, cur, h3, Nat.le_trans hB h4, h5⟩⟩
theorem Rd.tail {w : World} {B b off : Nat} {l : List Int} (i : Nat) (h : Rd w B (some ⟨b, off, none⟩) (intCells l)) : Rd w B (some ⟨b, off + i, none⟩) (intCells (l.drop i)) := by
  intro k u hk
  have hk2 : (intCells l)[i + k]? = some u := by
    have : intCells (l.drop i) = (intCells l).drop i := by simp [intCells]
    rw [this, List.getElem?_drop] at hk
    exact hk
  obtain ⟨b', o', he, hb, hc⟩ := h (i + k) u hk2
  simp only [Option.some.injEq, Addr.mk.injEq, and_true] at he
  obtain ⟨rfl, rfl⟩ := he
  exact ⟨b, off + i, rfl, hb, by rw [Nat.add_assoc]; exact hc⟩
end Go.Proofs.YtlbgocgocanloaaGreatDoor
