/- A region that draws its order, walked state by state: what only reads or moves is taken as soon as it is ready; what makes memory in every order; then a tail whose order is forced. -/
import Derived.Test.YtmcjnfghlpnghaaDoorR2
namespace Go.Proofs.YtmcjnfghlpnghaaDoor
open Go

section
variable {P : Program} {ops : Array Oper} {md : Region.Mode} {S : World → Prop} {ts : List Nat} {Q : Exit → Act → World → Prop}

def wpE (P : Program) (md : Region.Mode) (ops : Array Oper) (Q : Exit → Act → World → Prop) (S : World → Prop) (ts : List Nat) (n : Nat) (listed : Array Bool) (a : Act) (w : World) : Prop :=
  ClosedL md ops listed → S w → wpAnyL P md ops (onlyNormal Q) S ts n listed a w

theorem wp_region_eager {id : Nat} {a : Act} {w : World} {l : List Oper} (ts : List Nat) (S : World → Prop) (hm : P.follows .mixedOrders = true) (hS : S { w with drawn := w.drawn + 1 })
    (h : wpE P .any l.toArray Q S ts l.toArray.size (Array.replicate l.toArray.size false) a { w with drawn := w.drawn + 1 }) : (Code.region id l.toArray true).wp P Q a w :=
  wp_region_any hm (wpAny_only _ _ _ _ (wpAny_of_L _ _ _ _ (h (closed_replicate _ rfl) hS)))

theorem wpE_reads {m : Nat} {listed : Array Bool} {a : Act} {w : World} (is : List Nat) (g : Nat) (hn : m = is.length + g)
    (hB : (Region.noSelect ops && hoistB md ops is listed && (ts.all fun t => waitsB md ops t is) && (opsAt ops is).all readKind) = true)
    (h : wpQuiet P ops S (fun a' => wpE P md ops Q S ts g (listAll is listed) a' w) (opsAt ops is) a) : wpE P md ops Q S ts m listed a w := by
  intro inv hS
  simp only [Bool.and_eq_true] at hB
  obtain ⟨⟨⟨hsel, h1⟩, h2⟩, h4⟩ := hB
  rw [hn]
  refine wpAnyL_hoist hsel hS is _ a inv h1 (fun t ht i hi => ?_) (fun a' ha' => ha' (closed_listAll is _ inv h1) hS) (wpIf_of_quiet _ _ h4 h)
  have h6 := List.all_eq_true.1 h2 t (by simpa using ht)
  simp only [waitsB, List.all_eq_true] at h6 ⊢
  intro j hj
  have : j = i := by simpa using hj
  subst this
  exact h6 j hi

theorem wpMid_mono {i : Nat} {K K' : Act → World → Prop} {a : Act} {w : World} (hK : ∀ a w, K a w → K' a w) (h : wpMid P ops K i a w) : wpMid P ops K' i a w := by
  have hm : ∀ (l : List Oper) (a : Act) (w : World), wpList P ops (onlyNormal fun _ a' w' => K a' w') l a w → wpList P ops (onlyNormal fun _ a' w' => K' a' w') l a w := by
    intro l
    induction l with
    | nil => intro a w h; exact hK _ _ h
    | cons o l ih =>
      intro a w h
      unfold wpList at h ⊢
      split
      · rename_i hw
        rw [if_pos hw] at h
        rcases h with h | ⟨_, _, _, h⟩
        · exact .inl (Oper_wp_swap (Oper.wp_mono (fun a w h => ih a w h) h))
        · exact absurd h (by simp [onlyNormal])
      · rename_i hw
        rw [if_neg hw] at h
        exact ih _ _ h
  exact hm _ a w h

theorem wpE_step {n : Nat} {listed : Array Bool} {a : Act} {w : World} (hB : (!(Region.ready md ops listed).isEmpty && (Region.ready md ops listed).all fun i => !ts.contains i) = true)
    (h : ∀ i ∈ Region.ready md ops listed, wpMid P ops (fun a' w' => S w' ∧ wpE P md ops Q S ts n (listed.setIfInBounds i true) a' w') i a w) : wpE P md ops Q S ts (n + 1) listed a w := by
  intro inv hS
  simp only [Bool.and_eq_true, Bool.not_eq_true', List.all_eq_true] at hB
  refine ⟨fun h0 => ?_, fun i hi => ?_⟩
  · rw [h0] at hB
    simp at hB
  · obtain ⟨_, oi, hoi, _⟩ := mem_ready.1 hi
    exact wpOp_of_mid hoi (wpMid_mono (fun a' w' h2 => ⟨fun _ => h2.1, h2.2 (inv.set hi) h2.1⟩) (h i hi))

theorem wpE_one {m n i : Nat} {listed : Array Bool} {a : Act} {w : World} (hn : m = n + 1) (hr : Region.ready md ops listed = [i]) (ht : ts.contains i = false)
    (h : wpMid P ops (fun a' w' => S w' ∧ wpE P md ops Q S ts n (listed.setIfInBounds i true) a' w') i a w) : wpE P md ops Q S ts m listed a w := by
  subst hn
  refine wpE_step (by rw [hr]; simp only [List.isEmpty_cons, List.all_cons, List.all_nil, ht]; rfl) (fun j hj => ?_)
  rw [hr] at hj
  have : j = i := by simpa using hj
  subst this
  exact h

theorem wpE_two {m n i k : Nat} {listed : Array Bool} {a : Act} {w : World} (hn : m = n + 1) (hr : Region.ready md ops listed = [i, k]) (ht : ts.contains i = false) (ht' : ts.contains k = false)
    (h : wpMid P ops (fun a' w' => S w' ∧ wpE P md ops Q S ts n (listed.setIfInBounds i true) a' w') i a w)
    (h' : wpMid P ops (fun a' w' => S w' ∧ wpE P md ops Q S ts n (listed.setIfInBounds k true) a' w') k a w) : wpE P md ops Q S ts m listed a w := by
  subst hn
  refine wpE_step (by rw [hr]; simp only [List.isEmpty_cons, List.all_cons, List.all_nil, ht, ht']; rfl) (fun j hj => ?_)
  rw [hr] at hj
  have : j = i ∨ j = k := by simpa using hj
  rcases this with rfl | rfl
  · exact h
  · exact h'

theorem wpE_tail {m : Nat} {listed : Array Bool} {a : Act} {w : World} (hn : m = ts.length) (hB : seqL md ops ts listed = true) (h : wpList P ops (onlyNormal Q) (opsAt ops ts) a w) : wpE P md ops Q S ts m listed a w := by
  intro _ _
  rw [hn]
  exact wpList_L ts listed a w (fun u hu => by simpa using hu) hB h
end
end Go.Proofs.YtmcjnfghlpnghaaDoor
