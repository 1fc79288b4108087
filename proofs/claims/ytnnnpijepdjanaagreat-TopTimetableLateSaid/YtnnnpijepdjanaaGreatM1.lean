/- What becomes of delays, in plain words. What becomes of a day: the actual times are the earliest ones of what is left of the net. The reference: numbers of a list; errors of times. The reference: right times. The reference: errors of delays; a copy of them. The code: a right net opened with right times; right delays. The code: right delays are accepted. The code: events by their times, then by their numbers. -/
import Derived.Test.YtnnnpijepdjanaaGreatT3
import Derived.Test.YtnnnpijepdjanaaGreatT2
import Derived.Test.YtnnnpijepdjanaaGreatH14
import Derived.Test.YtnnnpijepdjanaaGreatD0
import Derived.Sort.Grow
import Derived.Sort.Row
namespace Go.Proofs.YtnnnpijepdjanaaGreat

structure Dl where
  ev : Int
  by_ : Int
def gt (l : List Int) (i : Nat) : Int := (l[i]?).getD 0
theorem gt_set {l : List Int} {i j : Nat} {v : Int} (hi : i < l.length) : gt (l.set i v) j = if j = i then v else gt l j := by
  unfold gt
  rw [List.getElem?_set]
  by_cases h : i = j
  · subst h
    simp [hi]
  · rw [if_neg h, if_neg (Ne.symm h)]
theorem gt_at {l : List Int} {i : Nat} {v : Int} (h : l[i]? = some v) : gt l i = v := by
  unfold gt
  rw [h]
  rfl
theorem gt_some {l : List Int} {i : Nat} (h : i < l.length) : l[i]? = some (gt l i) := by
  unfold gt
  rw [List.getElem?_eq_getElem h]
  rfl
theorem gt_ext {l m : List Int} (h : l.length = m.length) (hg : ∀ i, i < l.length → gt l i = gt m i) : l = m := by
  apply List.ext_getElem h
  intro i h1 h2
  have := hg i h1
  unfold gt at this
  rw [List.getElem?_eq_getElem h1, List.getElem?_eq_getElem h2] at this
  exact this
def addD : List Dl → List Int → List Int
  | [], l => l
  | d :: ds, l => addD ds (l.set d.ev.toNat (gt l d.ev.toNat + d.by_))
theorem addD_len : ∀ (ds : List Dl) (l : List Int), (addD ds l).length = l.length
  | [], _ => rfl
  | d :: ds, l => by rw [addD, addD_len ds, List.length_set]
def DlR (m : Nat) (d : Dl) : Prop := (0 ≤ d.ev ∧ d.ev < m) ∧ (1 ≤ d.by_ ∧ d.by_ ≤ 100000)
structure DlsR (m : Nat) (ds : List Dl) : Prop where
  n : ds.length ≤ 12
  r : ∀ d ∈ ds, DlR m d
  u : ds.Pairwise (fun a b => a.ev ≠ b.ev)
theorem addD_not : ∀ (ds : List Dl) (l : List Int) (v : Nat), (∀ d ∈ ds, DlR l.length d) → (∀ d ∈ ds, d.ev ≠ (v : Int)) → gt (addD ds l) v = gt l v
  | [], _, _, _, _ => rfl
  | d :: ds, l, v, hr, hn => by
    have h1 := hr d (by simp)
    have h2 := hn d (by simp)
    have h3 := h1.1
    rw [addD, addD_not ds _ v (fun x hx => by rw [List.length_set]; exact hr x (by simp [hx])) (fun x hx => hn x (by simp [hx])), gt_set (by omega), if_neg (by omega)]
theorem addD_rng : ∀ (ds : List Dl) (l : List Int) (v : Nat), (∀ d ∈ ds, DlR l.length d) → ds.Pairwise (fun a b => a.ev ≠ b.ev) → gt l v ≤ gt (addD ds l) v ∧ gt (addD ds l) v ≤ gt l v + 100000
  | [], _, _, _, _ => by
    rw [addD]
    omega
  | d :: ds, l, v, hr, hu => by
    have h1 := hr d (by simp)
    have h3 := h1.1
    have h4 := h1.2
    rw [List.pairwise_cons] at hu
    by_cases hv : d.ev = (v : Int)
    · rw [addD, addD_not ds _ v (fun x hx => by rw [List.length_set]; exact hr x (by simp [hx])) (fun x hx => by rw [← hv]; exact (hu.1 x hx).symm), gt_set (by omega), if_pos (by omega), show d.ev.toNat = v by omega]
      omega
    · have ih := addD_rng ds (l.set d.ev.toNat (gt l d.ev.toNat + d.by_)) v (fun x hx => by rw [List.length_set]; exact hr x (by simp [hx])) hu.2
      rw [gt_set (by omega), if_neg (by omega)] at ih
      rw [addD]
      exact ih

/-- a connection that is given up -/
def gone (times A : List Int) (a : Act) : Bool := decide (a.kind = 2) && decide (a.wait < gt A a.src.toNat - gt times a.src.toNat)
def ltStep (times : List Int) (ev i : Nat) (a : Act) (s : List Int × List Int) : List Int × List Int :=
  if a.dst ≠ (ev : Int) then s else if gone times s.1 a = true then (s.1, s.2 ++ [(i : Int)]) else (s.1.set ev (max (gt s.1 ev) (gt s.1 a.src.toNat + a.least)), s.2)
def ltGo (times : List Int) (ev : Nat) : Nat → List Act → List Int × List Int → List Int × List Int
  | _, [], s => s
  | i, a :: rs, s => ltGo times ev (i + 1) rs (ltStep times ev i a s)
def ltOrd (times : List Int) (acts : List Act) : List Nat → List Int × List Int → List Int × List Int
  | [], s => s
  | v :: vs, s => ltOrd times acts vs (ltGo times v 0 acts s)

theorem gone_same {times A B : List Int} {a : Act} (h : gt A a.src.toNat = gt B a.src.toNat) : gone times A a = gone times B a := by
  unfold gone
  rw [h]
/-- one event, all activities that lead to it -/
structure EvF (times : List Int) (v i : Nat) (rs : List Act) (s t : List Int × List Int) : Prop where
  len : t.1.length = s.1.length
  oth : ∀ u, u ≠ v → gt t.1 u = gt s.1 u
  up : gt s.1 v ≤ gt t.1 v
  kp : ∀ a ∈ rs, a.dst = (v : Int) → gone times s.1 a = false → gt s.1 a.src.toNat + a.least ≤ gt t.1 v
  fr : gt t.1 v = gt s.1 v ∨ ∃ a ∈ rs, a.dst = (v : Int) ∧ gone times s.1 a = false ∧ gt t.1 v = gt s.1 a.src.toNat + a.least
  gv : ∀ x, x ∈ t.2 ↔ x ∈ s.2 ∨ ∃ k a, rs[k]? = some a ∧ x = ((i + k : Nat) : Int) ∧ a.dst = (v : Int) ∧ gone times s.1 a = true
theorem ltGo_facts (times : List Int) (v ne : Nat) (hv : v < ne) : ∀ (rs : List Act) (i : Nat) (s : List Int × List Int), s.1.length = ne → (∀ a ∈ rs, actR ne a) → EvF times v i rs s (ltGo times v i rs s)
  | [], i, s, _, _ => ⟨rfl, fun _ _ => rfl, Int.le_refl _, fun _ h => by simp at h, .inl rfl, fun x => ⟨.inl, fun h => by
    rcases h with h | ⟨k, a, h, _⟩
    · exact h
    · simp at h⟩⟩
  | a :: rs, i, s, hl, hR => by
    obtain ⟨_, ⟨hs1, hs2⟩, ⟨hd1, hd2⟩, hne, _⟩ := hR a (by simp)
    have hR' : ∀ x ∈ rs, actR ne x := fun x hx => hR x (by simp [hx])
    rw [ltGo]
    by_cases hd : a.dst = (v : Int)
    case neg =>
      have e1 : ltStep times v i a s = s := by rw [ltStep, if_pos hd]
      rw [e1]
      have ih := ltGo_facts times v ne hv rs (i + 1) s hl hR'
      refine ⟨ih.len, ih.oth, ih.up, ?_, ?_, ?_⟩
      · intro x hx hxd hg
        rcases List.mem_cons.1 hx with rfl | hx
        · exact absurd hxd hd
        · exact ih.kp x hx hxd hg
      · rcases ih.fr with h | ⟨x, hx, h⟩
        · exact .inl h
        · exact .inr ⟨x, by simp [hx], h⟩
      · intro x
        rw [ih.gv]
        constructor
        · rintro (h | ⟨k, b, h1, h2, h3⟩)
          · exact .inl h
          · exact .inr ⟨k + 1, b, by simpa using h1, by rw [h2]; congr 1; omega, h3⟩
        · rintro (h | ⟨k, b, h1, h2, h3⟩)
          · exact .inl h
          · match k with
            | 0 =>
              simp at h1
              subst h1
              exact absurd h3.1 hd
            | k + 1 => exact .inr ⟨k, b, by simpa using h1, by rw [h2]; congr 1; omega, h3⟩
    case pos =>
      by_cases hg : gone times s.1 a = true
      · have e1 : ltStep times v i a s = (s.1, s.2 ++ [(i : Int)]) := by rw [ltStep, if_neg (fun h => h hd), if_pos hg]
        rw [e1]
        have ih := ltGo_facts times v ne hv rs (i + 1) (s.1, s.2 ++ [(i : Int)]) hl hR'
        refine ⟨ih.len, ih.oth, ih.up, ?_, ?_, ?_⟩
        · intro x hx hxd hgx
          rcases List.mem_cons.1 hx with rfl | hx
          · rw [hg] at hgx
            cases hgx
          · exact ih.kp x hx hxd hgx
        · rcases ih.fr with h | ⟨x, hx, h⟩
          · exact .inl h
          · exact .inr ⟨x, by simp [hx], h⟩
        · intro x
          rw [ih.gv]
          simp only [List.mem_append, List.mem_singleton]
          constructor
          · rintro ((h | h) | ⟨k, b, h1, h2, h3⟩)
            · exact .inl h
            · exact .inr ⟨0, a, rfl, by rw [h]; rfl, hd, hg⟩
            · exact .inr ⟨k + 1, b, by simpa using h1, by rw [h2]; congr 1; omega, h3⟩
          · rintro (h | ⟨k, b, h1, h2, h3⟩)
            · exact .inl (.inl h)
            · match k with
              | 0 => exact .inl (.inr (by simpa using h2))
              | k + 1 => exact .inr ⟨k, b, by simpa using h1, by rw [h2]; congr 1; omega, h3⟩
      · have hg' : gone times s.1 a = false := by simpa using hg
        have e1 : ltStep times v i a s = (s.1.set v (max (gt s.1 v) (gt s.1 a.src.toNat + a.least)), s.2) := by rw [ltStep, if_neg (fun h => h hd), if_neg hg]
        rw [e1]
        have ih := ltGo_facts times v ne hv rs (i + 1) (s.1.set v (max (gt s.1 v) (gt s.1 a.src.toNat + a.least)), s.2) (by simpa using hl) hR'
        have hvl : v < s.1.length := by omega
        have gs : ∀ u, gt (s.1.set v (max (gt s.1 v) (gt s.1 a.src.toNat + a.least))) u = if u = v then max (gt s.1 v) (gt s.1 a.src.toNat + a.least) else gt s.1 u := fun u => gt_set hvl
        have gsr : ∀ b, actR ne b → b.dst = (v : Int) → gt (s.1.set v (max (gt s.1 v) (gt s.1 a.src.toNat + a.least))) b.src.toNat = gt s.1 b.src.toNat := fun b hb hbd => by
          obtain ⟨_, hb1, hb2, hb3, _⟩ := hb
          rw [gs, if_neg (by omega)]
        have hup := ih.up
        have hfr := ih.fr
        simp only at hup hfr
        rw [gs, if_pos rfl] at hup hfr
        refine ⟨by rw [ih.len]; simp, fun u hu => by rw [ih.oth u hu]; simp only; rw [gs, if_neg hu], by omega, ?_, ?_, ?_⟩
        · intro x hx hxd hgx
          rcases List.mem_cons.1 hx with rfl | hx
          · omega
          · have h9 := ih.kp x hx hxd (by rw [gone_same (gsr x (hR' x hx) hxd)]; exact hgx)
            simp only at h9
            rw [gsr x (hR' x hx) hxd] at h9
            exact h9
        · rcases hfr with h | ⟨x, hx, h1, h2, h3⟩
          · by_cases hm : gt s.1 v ≤ gt s.1 a.src.toNat + a.least
            · exact .inr ⟨a, by simp, hd, hg', by rw [h]; omega⟩
            · exact .inl (by rw [h]; omega)
          · have h8 := gsr x (hR' x hx) h1
            rw [gone_same h8] at h2
            rw [h8] at h3
            exact .inr ⟨x, by simp [hx], h1, h2, h3⟩
        · intro x
          rw [ih.gv]
          constructor
          · rintro (h | ⟨k, b, h1, h2, h3, h4⟩)
            · exact .inl h
            · exact .inr ⟨k + 1, b, by simpa using h1, by rw [h2]; congr 1; omega, h3, by rw [← gone_same (gsr b (hR' b (List.mem_of_getElem? h1)) h3)]; exact h4⟩
          · rintro (h | ⟨k, b, h1, h2, h3, h4⟩)
            · exact .inl h
            · match k with
              | 0 =>
                simp at h1
                subst h1
                rw [h4] at hg'
                cases hg'
              | k + 1 =>
                have h1' : rs[k]? = some b := by simpa using h1
                exact .inr ⟨k, b, h1', by rw [h2]; congr 1; omega, h3, by rw [gone_same (gsr b (hR' b (List.mem_of_getElem? h1')) h3)]; exact h4⟩
end Go.Proofs.YtnnnpijepdjanaaGreat

namespace Go.Proofs.YtnnnpijepdjanaaGreat

structure LtI (times f : List Int) (acts : List Act) (P : List Nat) (s : List Int × List Int) : Prop where
  out : ∀ v, v ∉ P → gt s.1 v = gt f v
  up : ∀ v, v ∈ P → gt f v ≤ gt s.1 v
  kp : ∀ a ∈ acts, a.dst.toNat ∈ P → gone times s.1 a = false → gt s.1 a.src.toNat + a.least ≤ gt s.1 a.dst.toNat
  fr : ∀ v, v ∈ P → gt s.1 v = gt f v ∨ ∃ a ∈ acts, a.dst = (v : Int) ∧ gone times s.1 a = false ∧ gt s.1 v = gt s.1 a.src.toNat + a.least
  gv : ∀ x, x ∈ s.2 ↔ ∃ k a, acts[k]? = some a ∧ x = ((k : Nat) : Int) ∧ a.dst.toNat ∈ P ∧ gone times s.1 a = true

theorem ltI_step {times f : List Int} {acts : List Act} {ne : Nat} {P : List Nat} {s : List Int × List Int} {v : Nat} (h : LtI times f acts P s) (hl : s.1.length = ne) (hR : ∀ a ∈ acts, actR ne a) (hv : v < ne) (hvP : v ∉ P)
    (hpre : ∀ a ∈ acts, a.dst.toNat ∈ P → a.src.toNat ∈ P) (hsrc : ∀ a ∈ acts, a.dst = (v : Int) → a.src.toNat ∈ P) : LtI times f acts (v :: P) (ltGo times v 0 acts s) := by
  have e := ltGo_facts times v ne hv acts 0 s hl hR
  generalize ltGo times v 0 acts s = t at *
  have hs : ∀ a ∈ acts, a.dst.toNat ∈ v :: P → a.src.toNat ≠ v := fun a ha hd hsv => by
    rcases List.mem_cons.1 hd with h1 | h1
    · have hr := (hR a ha).2.2.1
      exact hvP (by have := hsrc a ha (by omega); rwa [hsv] at this)
    · exact hvP (by have := hpre a ha h1; rwa [hsv] at this)
  have hg : ∀ a ∈ acts, a.dst.toNat ∈ v :: P → gone times t.1 a = gone times s.1 a := fun a ha hd => gone_same (e.oth _ (hs a ha hd))
  have hne : ∀ u, u ∈ P → u ≠ v := fun u hu huv => hvP (huv ▸ hu)
  refine ⟨?_, ?_, ?_, ?_, ?_⟩
  · intro u hu
    have hu1 : u ≠ v := fun h9 => hu (by simp [h9])
    rw [e.oth u hu1]
    exact h.out u fun h9 => hu (by simp [h9])
  · intro u hu
    rcases List.mem_cons.1 hu with rfl | hu
    · rw [← h.out u hvP]
      exact e.up
    · rw [e.oth u (hne u hu)]
      exact h.up u hu
  · intro a ha hd hgn
    have h8 := hs a ha hd
    rw [hg a ha hd] at hgn
    have hr := (hR a ha).2.2.1
    rw [e.oth _ h8]
    rcases List.mem_cons.1 hd with h1 | h1
    · rw [h1]
      exact e.kp a ha (by omega) hgn
    · rw [e.oth _ (hne _ h1)]
      exact h.kp a ha h1 hgn
  · intro u hu
    rcases List.mem_cons.1 hu with rfl | hu
    · rcases e.fr with h1 | ⟨a, ha, h1, h2, h3⟩
      · exact .inl (by rw [h1, h.out u hvP])
      · have hm : a.dst.toNat ∈ u :: P := by rw [h1]; simp
        exact .inr ⟨a, ha, h1, by rw [hg a ha hm]; exact h2, by rw [h3, e.oth _ (hs a ha hm)]⟩
    · rcases h.fr u hu with h1 | ⟨a, ha, h1, h2, h3⟩
      · exact .inl (by rw [e.oth u (hne u hu)]; exact h1)
      · have hm : a.dst.toNat ∈ v :: P := by rw [h1]; simp [hu]
        exact .inr ⟨a, ha, h1, by rw [hg a ha hm]; exact h2, by rw [e.oth u (hne u hu), e.oth _ (hs a ha hm)]; exact h3⟩
  · intro x
    rw [e.gv, h.gv]
    constructor
    · rintro (⟨k, a, h1, h2, h3, h4⟩ | ⟨k, a, h1, h2, h3, h4⟩)
      · have hm : a.dst.toNat ∈ v :: P := by simp [h3]
        exact ⟨k, a, h1, h2, hm, by rw [hg a (List.mem_of_getElem? h1) hm]; exact h4⟩
      · have hm : a.dst.toNat ∈ v :: P := by rw [h3]; simp
        exact ⟨k, a, h1, by rw [h2]; simp, hm, by rw [hg a (List.mem_of_getElem? h1) hm]; exact h4⟩
    · rintro ⟨k, a, h1, h2, h3, h4⟩
      rw [hg a (List.mem_of_getElem? h1) h3] at h4
      rcases List.mem_cons.1 h3 with h5 | h5
      · have hr := (hR a (List.mem_of_getElem? h1)).2.2.1
        exact .inr ⟨k, a, h1, by rw [h2]; simp, by omega, h4⟩
      · exact .inl ⟨k, a, h1, h2, h5, h4⟩
theorem ltGo_len (times : List Int) (v : Nat) : ∀ (rs : List Act) (i : Nat) (s : List Int × List Int), (ltGo times v i rs s).1.length = s.1.length
  | [], _, _ => rfl
  | a :: rs, i, s => by
    rw [ltGo, ltGo_len times v rs]
    unfold ltStep
    split
    · rfl
    · split
      · rfl
      · simp
/-- one ahead of another in the order of times, then of numbers -/
def tmLt (times : List Int) (x y : Nat) : Prop := gt times x < gt times y ∨ (gt times x = gt times y ∧ x < y)
theorem ltOrd_inv {times f : List Int} {acts : List Act} {ne : Nat} (hR : ∀ a ∈ acts, actR ne a) (hright : ∀ a ∈ acts, gt times a.src.toNat < gt times a.dst.toNat) : ∀ (vs P : List Nat) (s : List Int × List Int), LtI times f acts P s → s.1.length = ne →
    vs.Pairwise (tmLt times) → vs.Nodup → (∀ v ∈ vs, v ∉ P ∧ v < ne) → (∀ u, u < ne → u ∈ P ∨ u ∈ vs) → (∀ a ∈ acts, a.dst.toNat ∈ P → a.src.toNat ∈ P) →
    ∃ Q, (∀ u, u < ne → u ∈ Q) ∧ LtI times f acts Q (ltOrd times acts vs s) ∧ (ltOrd times acts vs s).1.length = ne
  | [], P, s, h, hl, _, _, _, hc, _ => ⟨P, fun u hu => by simpa using hc u hu, h, hl⟩
  | v :: vs, P, s, h, hl, hp, hn, hv, hc, hpre => by
    rw [List.pairwise_cons] at hp
    rw [List.nodup_cons] at hn
    have hsrc : ∀ a ∈ acts, a.dst = (v : Int) → a.src.toNat ∈ P := fun a ha hd => by
      obtain ⟨_, hs, _⟩ := hR a ha
      have hr := hright a ha
      rcases hc a.src.toNat (by omega) with h1 | h1
      · exact h1
      · rw [show a.dst.toNat = v by omega] at hr
        rcases List.mem_cons.1 h1 with h2 | h2
        · rw [h2] at hr
          omega
        · rcases hp.1 _ h2 with h3 | ⟨h3, _⟩ <;> omega
    have st := ltI_step h hl hR (hv v (by simp)).2 (hv v (by simp)).1 hpre hsrc
    refine ltOrd_inv hR hright vs (v :: P) _ st (by rw [ltGo_len]; exact hl) hp.2 hn.2 ?_ ?_ ?_
    · intro u hu
      refine ⟨fun h9 => ?_, (hv u (by simp [hu])).2⟩
      rcases List.mem_cons.1 h9 with rfl | h9
      · exact hn.1 hu
      · exact (hv u (by simp [hu])).1 h9
    · intro u hu
      rcases hc u hu with h1 | h1
      · exact .inl (by simp [h1])
      · rcases List.mem_cons.1 h1 with rfl | h1
        · exact .inl (by simp)
        · exact .inr h1
    · intro a ha hd
      rcases List.mem_cons.1 hd with h1 | h1
      · have hr := (hR a ha).2.2.1
        exact List.mem_cons_of_mem _ (hsrc a ha (by omega))
      · exact List.mem_cons_of_mem _ (hpre a ha h1)

structure LateF (times f : List Int) (acts : List Act) (ne : Nat) (X G : List Int) : Prop where
  len : X.length = ne
  up : ∀ v, v < ne → gt f v ≤ gt X v
  kp : ∀ a ∈ acts, gone times X a = false → gt X a.src.toNat + a.least ≤ gt X a.dst.toNat
  fr : ∀ v, v < ne → gt X v = gt f v ∨ ∃ a ∈ acts, a.dst = (v : Int) ∧ gone times X a = false ∧ gt X v = gt X a.src.toNat + a.least
  gv : ∀ x, x ∈ G ↔ ∃ k a, acts[k]? = some a ∧ x = ((k : Nat) : Int) ∧ gone times X a = true
theorem late_facts {times f : List Int} {acts : List Act} {ne : Nat} {ord : List Nat} (hR : ∀ a ∈ acts, actR ne a) (hright : ∀ a ∈ acts, gt times a.src.toNat < gt times a.dst.toNat) (hf : f.length = ne) (hp : ord.Perm (List.range ne)) (ho : ord.Pairwise (tmLt times)) :
    LateF times f acts ne (ltOrd times acts ord (f, [])).1 (ltOrd times acts ord (f, [])).2 := by
  have h0 : LtI times f acts [] (f, []) := ⟨fun _ _ => rfl, fun _ h => by simp at h, fun _ _ h => by simp at h, fun _ h => by simp at h, fun x => ⟨fun h => by simp at h, fun ⟨_, _, _, _, h, _⟩ => by simp at h⟩⟩
  obtain ⟨Q, hQ, hI, hl⟩ := ltOrd_inv hR hright ord [] (f, []) h0 hf ho (hp.nodup_iff.2 List.nodup_range) (fun v hv => ⟨by simp, by simpa using hp.mem_iff.1 hv⟩) (fun u hu => .inr (hp.mem_iff.2 (by simpa using hu))) (fun _ _ h => by simp at h)
  have hd : ∀ a ∈ acts, a.dst.toNat ∈ Q := fun a ha => by
    have hr := (hR a ha).2.2.1
    exact hQ _ (by omega)
  exact ⟨hl, fun v hv => hI.up v (hQ v hv), fun a ha => hI.kp a ha (hd a ha), fun v hv => hI.fr v (hQ v hv), fun x => by
    rw [hI.gv]
    exact ⟨fun ⟨k, a, h1, h2, _, h4⟩ => ⟨k, a, h1, h2, h4⟩, fun ⟨k, a, h1, h2, h4⟩ => ⟨k, a, h1, h2, hd a (List.mem_of_getElem? h1), h4⟩⟩⟩
theorem late_least {times f X G : List Int} {acts : List Act} {ne : Nat} (h : LateF times f acts ne X G) (hR : ∀ a ∈ acts, actR ne a) (hright : ∀ a ∈ acts, gt times a.src.toNat < gt times a.dst.toNat) (q : Nat → Int) (hq : ∀ v, v < ne → gt f v ≤ q v)
    (hk : ∀ a ∈ acts, gone times X a = false → q a.src.toNat + a.least ≤ q a.dst.toNat) (h0 : ∀ v, v < ne → 0 ≤ gt times v) : ∀ v, v < ne → gt X v ≤ q v := by
  suffices ∀ (n v : Nat), v < ne → gt times v < (n : Int) → gt X v ≤ q v from fun v hv => this ((gt times v).toNat + 1) v hv (by have := h0 v hv; omega)
  intro n
  induction n with
  | zero => intro v hv hn; have := h0 v hv; omega
  | succ n ih =>
    intro v hv hn
    rcases h.fr v hv with h1 | ⟨a, ha, h1, h2, h3⟩
    · rw [h1]
      exact hq v hv
    · have hr := hright a ha
      have ⟨_, hs, _⟩ := hR a ha
      have h4 := hk a ha h2
      rw [show a.dst.toNat = v by omega] at hr h4
      have := ih a.src.toNat (by omega) (by omega)
      omega
theorem late_top {times f X G : List Int} {acts : List Act} {ne : Nat} (h : LateF times f acts ne X G) (hR : ∀ a ∈ acts, actR ne a) (hright : ∀ a ∈ acts, gt times a.src.toNat + a.least ≤ gt times a.dst.toNat) (D : Int) (hq : ∀ v, v < ne → gt f v ≤ gt times v + D)
    (h0 : ∀ v, v < ne → 0 ≤ gt times v) : ∀ v, v < ne → gt X v ≤ gt times v + D :=
  late_least h hR (fun a ha => by
    have := hright a ha
    have ⟨_, _, _, _, hl, _⟩ := hR a ha
    omega) (fun v => gt times v + D) hq (fun a ha _ => by
    have := hright a ha
    omega) h0

def openA (a : Act) : Act := ⟨a.kind, a.src, a.dst, a.least, -1, a.wait⟩
/-- what is left of a net -/
def leftM (times X : List Int) (acts : List Act) : List Act := (acts.filter fun a => !gone times X a).map openA
theorem left_mem {times X : List Int} {acts : List Act} {b : Act} : b ∈ leftM times X acts ↔ ∃ a ∈ acts, gone times X a = false ∧ openA a = b := by
  simp [leftM, and_assoc]
theorem left_actR {times X : List Int} {acts : List Act} {ne : Nat} (hR : ∀ a ∈ acts, actR ne a) : ∀ b ∈ leftM times X acts, actR ne b := fun b hb => by
  obtain ⟨a, ha, _, rfl⟩ := left_mem.1 hb
  obtain ⟨h1, h2, h3, h4, h5, _, h7⟩ := hR a ha
  exact ⟨h1, h2, h3, h4, h5, .inl rfl, h7⟩
theorem left_ways {times X : List Int} {acts : List Act} {w : Wy} (h : w ∈ waysM (leftM times X acts)) : ∃ a ∈ acts, gone times X a = false ∧ w = fwdW a := by
  simp only [waysM, List.mem_flatMap] at h
  obtain ⟨b, hb, hw⟩ := h
  obtain ⟨a, ha, hg, rfl⟩ := left_mem.1 hb
  refine ⟨a, ha, hg, ?_⟩
  simpa [waysA, openA, fwdW] using hw
theorem ways_left {times X : List Int} {acts : List Act} {a : Act} (ha : a ∈ acts) (hg : gone times X a = false) : fwdW a ∈ waysM (leftM times X acts) := by
  simp only [waysM, List.mem_flatMap]
  exact ⟨openA a, left_mem.2 ⟨a, ha, hg, rfl⟩, by simp [waysA, openA, fwdW]⟩
theorem farAt_gt {X : List Int} {i : Nat} {u : Int} (h : farAt (X.map some) i = some u) : i < X.length ∧ gt X i = u := by
  unfold farAt at h
  rw [List.getElem?_map] at h
  cases hx : X[i]? with
  | none =>
    rw [hx] at h
    simp at h
  | some y =>
    rw [hx] at h
    simp at h
    subst h
    exact ⟨(List.getElem?_eq_some_iff.1 hx).1, gt_at hx⟩
theorem gt_farAt {X : List Int} {i : Nat} (h : i < X.length) : farAt (X.map some) i = some (gt X i) := by
  unfold farAt
  rw [List.getElem?_map, gt_some h]
  rfl
/-- **The actual times are the earliest right ones of what is left.** -/
theorem late_early {times f X G : List Int} {acts : List Act} {ne : Nat} (h : LateF times f acts ne X G) (hR : ∀ a ∈ acts, actR ne a) (hright : ∀ a ∈ acts, gt times a.src.toNat < gt times a.dst.toNat) (hf : f.length = ne)
    (h0 : ∀ v, v < ne → 0 ≤ gt times v) : longM (waysM (leftM times X acts)) ne (f.map some) = (X.map some, false) := by
  have hw : WaysIn ne (waysM (leftM times X acts)) := ways_in (left_actR hR)
  have hlf : (f.map some).length = ne := by simpa using hf
  have hcl : Closed (waysM (leftM times X acts)) (X.map some) := fun w hw u hu => by
    obtain ⟨a, ha, hg, rfl⟩ := left_ways hw
    obtain ⟨_, h1, h2, _⟩ := hR a ha
    obtain ⟨_, rfl⟩ := farAt_gt hu
    exact ⟨gt X a.dst.toNat, gt_farAt (X := X) (i := a.dst.toNat) (by rw [h.len]; omega), h.kp a ha hg⟩
  have hful : ∀ i, i < ne → ∃ x, farAt (X.map some) i = some x := fun i hi => ⟨_, gt_farAt (by rw [h.len]; exact hi)⟩
  have hb : (longM (waysM (leftM times X acts)) ne (f.map some)).2 = false := long_at ne ne (Nat.le_refl _) (iter_end hlf hw hcl hful (by omega))
  obtain ⟨t, _, hq, hst⟩ := long_iter (ws := waysM (leftM times X acts)) ne (l := f.map some) (q := (longM (waysM (leftM times X acts)) ne (f.map some)).1) (b := (longM (waysM (leftM times X acts)) ne (f.map some)).2) rfl
  have hst' := hst hb
  generalize longM (waysM (leftM times X acts)) ne (f.map some) = r at *
  obtain ⟨q, b⟩ := r
  simp only at hb hq hst'
  subst hb
  have hwl : WaysIn (f.map some).length (waysM (leftM times X acts)) := by rw [hlf]; exact hw
  have hql : q.length = ne := by rw [hq, iterF_len, hlf]
  have hle : leF q (X.map some) := by
    rw [hq]
    refine iterF_le hwl hcl (fun i u hu => ?_) t
    obtain ⟨h1, rfl⟩ := farAt_gt hu
    exact ⟨gt X i, gt_farAt (by rw [h.len, ← hf]; exact h1), h.up i (by rw [← hf]; exact h1)⟩
  have hge : leF (f.map some) q := by
    rw [hq]
    have := iterF_mono (l := f.map some) hwl t 0
    rwa [Nat.zero_add] at this
  have hfull : ∀ i, i < ne → ∃ x, farAt q i = some x ∧ gt f i ≤ x := fun i hi => hge i _ (gt_farAt (by rw [hf]; exact hi))
  have hqc : Closed (waysM (leftM times X acts)) q := fix_closed (by rw [hql]; exact hw) hst'
  have hX := late_least h hR hright (fun v => (farAt q v).getD 0) (fun v hv => by
    obtain ⟨x, hx, hle⟩ := hfull v hv
    simp only [hx, Option.getD_some]
    exact hle) (fun a ha hg => by
    obtain ⟨_, h1, h2, _⟩ := hR a ha
    obtain ⟨x, hx, _⟩ := hfull a.src.toNat (by omega)
    obtain ⟨y, hy, h9⟩ := hqc (fwdW a) (ways_left ha hg) x hx
    have hy' : farAt q a.dst.toNat = some y := hy
    simp only [hx, hy', Option.getD_some]
    exact h9) h0
  have hqX : q = X.map some := by
    refine ext_far (by rw [hql, List.length_map, h.len]) fun i => ?_
    by_cases hi : i < ne
    · obtain ⟨x, hx, _⟩ := hfull i hi
      obtain ⟨y, hy, hxy⟩ := hle i x hx
      obtain ⟨_, rfl⟩ := farAt_gt hy
      have := hX i hi
      simp only [hx, Option.getD_some] at this
      rw [hx, hy, show x = gt X i by omega]
    · unfold farAt
      rw [List.getElem?_eq_none (by omega), List.getElem?_eq_none (by rw [List.length_map, h.len]; omega)]
  rw [hqX]
/-- a second look at the same day -/
theorem late_again {times X X2 G2 : List Int} {acts : List Act} {ne : Nat} (hR : ∀ a ∈ acts, actR ne a) (hk : ∀ a ∈ acts, gone times X a = false → gt X a.src.toNat + a.least ≤ gt X a.dst.toNat) (hX : X.length = ne) (h0 : ∀ v, v < ne → 0 ≤ gt X v)
    (h : LateF X X (leftM times X acts) ne X2 G2) : X2 = X ∧ G2 = [] := by
  have hr : ∀ b ∈ leftM times X acts, gt X b.src.toNat + b.least ≤ gt X b.dst.toNat := fun b hb => by
    obtain ⟨a, ha, hg, rfl⟩ := left_mem.1 hb
    exact hk a ha hg
  have hle := late_least h (left_actR hR) (fun b hb => by
    have := hr b hb
    have ⟨_, _, _, _, hl, _⟩ := left_actR hR b hb
    omega) (gt X) (fun _ _ => Int.le_refl _) (fun b hb _ => hr b hb) h0
  have e1 : X2 = X := gt_ext (by rw [h.len, hX]) fun i hi => by
    rw [h.len] at hi
    have h1 := hle i hi
    have h2 := h.up i hi
    omega
  refine ⟨e1, ?_⟩
  subst e1
  refine List.eq_nil_iff_forall_not_mem.2 fun x hx => ?_
  obtain ⟨k, b, hb, _, hg⟩ := (h.gv x).1 hx
  obtain ⟨_, _, _, _, _, _, hw, _⟩ := left_actR hR b (List.mem_of_getElem? hb)
  simp only [gone, Bool.and_eq_true, decide_eq_true_eq] at hg
  omega
end Go.Proofs.YtnnnpijepdjanaaGreat

namespace Go.Proofs.YtnnnpijepdjanaaGreat
open Go.RowKit

def hasZ : List Int → Int → Bool
  | [], _ => false
  | a :: l, x => (a == x) || hasZ l x
theorem hasZ_iff : ∀ (l : List Int) (x : Int), hasZ l x = true ↔ x ∈ l
  | [], x => by simp [hasZ]
  | a :: l, x => by
    rw [hasZ, Bool.or_eq_true, hasZ_iff l x, List.mem_cons, beq_iff_eq]
    exact ⟨fun h => h.imp Eq.symm id, fun h => h.imp Eq.symm id⟩
theorem Has_any (A : Option Addr) (n c B : Nat) (l : List Int) (x : Int) (w : World) (hn : n ≤ 1000000000) (hl : l.length = n) (h : Rd w B A (intCells l)) :
    Calls Tryz.prog 14 #[.slice A n c, .int .i64 x] w fun e w' => e = .returned (.bool (hasZ l x)) ∧ w = w' := by
  have HL := Lib.hid hl; clear hl
  go_enter Tryz.func14, Tryz.ntmps14
  go_wp2
  go_loop [5] (fun i => ∃ k : Nat, k ≤ n ∧ i = .int .i64 k ∧ hasZ (l.drop k) x = hasZ l x) (fun i => n - (intOf i).toNat)
  case atStart => exact ⟨0, Nat.zero_le _, rfl, rfl⟩
  case round =>
    obtain ⟨k, hk, rfl, he⟩ := hrel
    have HE := Lib.hid he; clear he
    by_cases hlt : k < n
    · have hkl : k < l.length := by rw [HL.out]; exact hlt
      obtain ⟨b, off, rfl, _, hc⟩ := h.at_ (k := k) (u := .int .i64 (l[k]?.getD 0)) (by simp [intCells, hkl])
      have HS := Lib.hid (drop_at l 0 k hkl)
      clear hkl
      generalize l[k]?.getD 0 = y at *
      cases hx : (y == x) with
      | true =>
        have HX := Lib.hid hx
        go_wp2
        go_ret
        exact ⟨by rw [← HE.out, HS.out, hasZ, HX.out]; rfl, rfl⟩
      | false =>
        have HX := Lib.hid hx
        go_wp2
        go_round
        case rel => exact ⟨k + 1, by omega, by go_num, by rw [← HE.out, HS.out, hasZ, HX.out, Bool.false_or]⟩
        case measure => simp [intOf]; omega
    · go_wp2
      go_ret
      have : l.drop k = [] := by rw [List.drop_eq_nil_iff]; rw [HL.out]; omega
      exact ⟨by rw [← HE.out, this]; rfl, rfl⟩

/-- the error of times -/
def timesE (ne : Nat) (l : List Int) : Int := if l.length ≠ ne then 10 else if l.any offT = true then 2 else 0
theorem timesE_zero {ne : Nat} {l : List Int} : timesE ne l = 0 ↔ l.length = ne ∧ ∀ t ∈ l, 0 ≤ t ∧ t ≤ 10000000 := by
  have h9 : l.any offT = false ↔ ∀ t ∈ l, 0 ≤ t ∧ t ≤ 10000000 := by
    rw [List.any_eq_false]
    constructor
    · intro h t ht
      have := h t ht
      simp [offT, withinB] at this
      exact this
    · intro h t ht
      have := h t ht
      simp [offT, withinB]
      exact this
  unfold timesE
  by_cases h : l.length = ne
  · rw [if_neg (fun h2 => h2 h)]
    cases ha : l.any offT
    · simp only [h, Bool.false_eq_true, if_false, true_iff, true_and]
      exact h9.1 ha
    · simp only [if_true]
      constructor
      · intro h2
        cases h2
      · intro h2
        rw [h9.2 h2.2] at ha
        cases ha
  · rw [if_pos h]
    constructor
    · intro h2
      cases h2
    · intro h2
      exact absurd h2.1 h
theorem any_drop {l : List Int} {k : Nat} {x : Int} (h : l[k]? = some x) : (l.drop k).any offT = (offT x || (l.drop (k + 1)).any offT) := by
  obtain ⟨h1, h2⟩ := List.getElem?_eq_some_iff.1 h
  rw [List.drop_eq_getElem_cons h1, List.any_cons, h2]
set_option maxRecDepth 100000 in
theorem TimesErr_any (w : World) (Ae : Option Addr) (ne ce : Nat) (Aa : Option Addr) (na ca : Nat) (B : Nat) (A : Option Addr) (n c : Nat) (l : List Int) (hn : n ≤ 1000000000) (hl : l.length = n) (h : Rd w B A (intCells l)) (hB : B ≤ w.heap.size) :
    Calls Tryz.prog 15 #[netV Ae ne ce Aa na ca, .slice A n c] w fun e w' => e = .returned (.int .i64 (timesE ne l)) ∧ Below w.heap.size w w' := by
  obtain ⟨V, hV⟩ : ∃ V, timesE ne l = V := ⟨_, rfl⟩
  have HV := Lib.hid hV
  have HL := Lib.hid hl
  have hb0 : Below w.heap.size w (w.alloc (.cells #[.slice Ae ne ce, .slice Aa na ca] 25)) := (Below.refl _ _).alloc (Nat.le_refl _) _
  have k0 : (w.alloc (.cells #[.slice Ae ne ce, .slice Aa na ca] 25)).heap[w.heap.size]? = some (.cells #[.slice Ae ne ce, .slice Aa na ca] 25 (0, 0)) := by rw [heapq_alloc, if_pos rfl]
  have h0 := h.below (hb0.mono hB)
  have HB := Lib.hid hb0
  obtain ⟨d0, d1⟩ := cells2 k0
  rw [hV]
  clear hV hl h hb0 k0
  unfold netV
  go_enter Tryz.func15, Tryz.ntmps15
  go_upto_region 1 with (fail)
  generalize w.alloc (.cells #[.slice Ae ne ce, .slice Aa na ca] 25) = w0 at *
  by_cases hnn : n = ne
  case neg =>
    have g1 : ((n : Int) != ne) = true := bne_iff_ne.2 (by omega)
    have g2 : (n != ne) = true := bne_iff_ne.2 hnn
    go_wp2
    go_ret
    exact ⟨by rw [← HV.out, timesE, if_pos (by rw [HL.out]; exact hnn)]; rfl, HB.out⟩
  have HNN := Lib.hid hnn
  have g1 : ((n : Int) != ne) = false := bne_eq_false_iff_eq.2 (by omega)
  have g2 : (n != ne) = false := bne_eq_false_iff_eq.2 hnn
  clear hnn
  go_upto_region 3 with (fail)
  clear d0 d1 g1
  go_wp2
  go_loop [5] (fun i => ∃ k : Nat, k ≤ n ∧ i = .int .i64 k ∧ (l.drop k).any offT = l.any offT) (fun i => n - (intOf i).toNat)
  case atStart => exact ⟨0, Nat.zero_le _, rfl, rfl⟩
  case round =>
    obtain ⟨k, hk, rfl, he⟩ := hrel
    have HE := Lib.hid he; clear he
    by_cases hlt : k < n
    · have hkl : k < l.length := by rw [HL.out]; exact hlt
      obtain ⟨x, hx⟩ : ∃ x, l[k]? = some x := ⟨_, List.getElem?_eq_getElem hkl⟩
      obtain ⟨b, off, rfl, _, hc⟩ := h0.at_ (k := k) (u := .int .i64 x) (by simp [intCells, hx])
      have HS := Lib.hid (any_drop hx)
      clear hkl hx
      obtain ⟨q, hq⟩ : ∃ q, withinB x 0 10000000 = q := ⟨_, rfl⟩
      have WI := fun W => Within_val x 0 10000000 q hq W
      have HX : Hid (offT x = !q) := by rw [Hid, offT, hq]
      clear hq
      cases q with
      | true =>
        go_wp2_with (go_at_call 24; refine (WI _).mono ?_; rintro e w' ⟨rfl, rfl⟩)
        go_round
        case rel => exact ⟨k + 1, by omega, by go_num, by rw [← HE.out, HS.out, HX.out]; rfl⟩
        case measure => simp [intOf]; omega
      | false =>
        go_wp2_with (go_at_call 24; refine (WI _).mono ?_; rintro e w' ⟨rfl, rfl⟩)
        go_ret
        exact ⟨by rw [← HV.out, timesE, if_neg (by rw [HL.out]; exact fun h9 => h9 HNN.out), ← HE.out, HS.out, HX.out]; rfl, HB.out⟩
    · go_wp2
      go_ret
      have : l.drop k = [] := by rw [List.drop_eq_nil_iff]; rw [HL.out]; omega
      exact ⟨by rw [← HV.out, timesE, if_neg (by rw [HL.out]; exact fun h9 => h9 HNN.out), ← HE.out, this]; rfl, HB.out⟩
end Go.Proofs.YtnnnpijepdjanaaGreat

namespace Go.Proofs.YtnnnpijepdjanaaGreat
open Go.RowKit

set_option maxRecDepth 100000 in
set_option maxHeartbeats 4000000 in
theorem Keeps_any (w : World) (ne : Nat) (a : Act) (hR : actR ne a) (B : Nat) (At : Option Addr) (ct : Nat) (l : List Int) (hl : l.length = ne) (ht : Rd w B At (intCells l)) (hB : B ≤ w.heap.size) (hr : ∀ t ∈ l, 0 ≤ t ∧ t ≤ 10000000) :
    Calls Tryz.prog 42 #[actV a, .slice At ne ct] w fun e w' => e = .returned (.bool (!brokenB l a)) ∧ Below w.heap.size w w' := by
  obtain ⟨ak, asr, ads, al, am, aw⟩ := a
  obtain ⟨hk, ⟨hs1, hs2⟩, ⟨hd1, hd2⟩, hne2, hl1, hm1, hw1, hf⟩ := hR
  simp only at hk hs1 hs2 hd1 hd2 hne2 hl1 hm1 hw1 hf
  obtain ⟨sN, rfl⟩ : ∃ n : Nat, asr = n := ⟨asr.toNat, by omega⟩
  obtain ⟨dN, rfl⟩ : ∃ n : Nat, ads = n := ⟨ads.toNat, by omega⟩
  have hsn : sN < ne := by omega
  have hdn : dN < ne := by omega
  obtain ⟨ts, hts⟩ : ∃ t, l[sN]? = some t := ⟨_, List.getElem?_eq_getElem (by omega)⟩
  obtain ⟨td, htd⟩ : ∃ t, l[dN]? = some t := ⟨_, List.getElem?_eq_getElem (by omega)⟩
  obtain ⟨y, hy⟩ : ∃ y, (!brokenB l ⟨ak, sN, dN, al, am, aw⟩) = y := ⟨_, rfl⟩
  have HY : Hid (y = !(decide (td - ts < al) || (decide (am ≠ -1) && decide (am < td - ts)))) := by
    rw [Hid, ← hy, brokenB]
    simp only [Int.toNat_natCast, hts, htd, Option.getD_some]
  rw [hy]
  clear hy
  have hb0 : Below w.heap.size w (w.alloc (.cells #[.int .i64 ak, .int .i64 (sN : Int), .int .i64 (dN : Int), .int .i64 al, .int .i64 am, .int .i64 aw] 43)) := (Below.refl _ _).alloc (Nat.le_refl _) _
  have k0 : (w.alloc (.cells #[.int .i64 ak, .int .i64 (sN : Int), .int .i64 (dN : Int), .int .i64 al, .int .i64 am, .int .i64 aw] 43)).heap[w.heap.size]? = some (.cells #[.int .i64 ak, .int .i64 (sN : Int), .int .i64 (dN : Int), .int .i64 al, .int .i64 am, .int .i64 aw] 43 (0, 0)) := by rw [heapq_alloc, if_pos rfl]
  have ht0 := ht.below (hb0.mono hB)
  have HB := Lib.hid hb0
  have hs := hb0.size
  obtain ⟨bt, ot, hAt, _, e1⟩ := ht0 sN (.int .i64 ts) (by simp [intCells, hts])
  obtain ⟨bt', ot', hAt', _, e2⟩ := ht0 dN (.int .i64 td) (by simp [intCells, htd])
  subst hAt
  cases hAt'
  have hb1 := hr ts (List.mem_of_getElem? hts)
  have hb2 := hr td (List.mem_of_getElem? htd)
  clear hb0 ht ht0 hts htd hr
  unfold actV
  go_enter Tryz.func42, Tryz.ntmps42
  go_upto_region 1 with (fail)
  generalize w.alloc (.cells #[.int .i64 ak, .int .i64 (sN : Int), .int .i64 (dN : Int), .int .i64 al, .int .i64 am, .int .i64 aw] 43) = w0 at *
  obtain ⟨c0, c1, c2, c3, c4, c5⟩ := cells6v k0
  have x0 := fun z : Xt w0 => z.cell c1
  have x1 := fun z : Xt w0 => z.cell c2
  have x3 := fun z : Xt w0 => z.cell e1
  have x4 := fun z : Xt w0 => z.cell e2
  refine wp_region_xt (by kernel_rfl) (by kernel_rfl) ?_
  repeat (go_big_quiet_step (fail))
  refine wpQuiet_nil ?_
  intro w1 hx
  have hb := Xt.below hx
  replace c3 := kept hb c3
  replace c4 := kept hb c4
  have HB1 := Lib.hid (HB.out.trans (hb.mono hs))
  clear hx x0 x1 x3 x4 hb c0 c1 c2 c5 e1 e2
  by_cases h1 : td - ts < al
  · have HV : Hid (y = false) := by rw [Hid, HY.out, decide_eq_true h1]; rfl
    go_wp2
    go_ret
    exact ⟨by rw [HV.out]; rfl, HB1.out⟩
  · have h1' : al ≤ td - ts := by omega
    by_cases h2 : am = -1
    · have HV : Hid (y = true) := by rw [Hid, HY.out, decide_eq_false h1, decide_eq_false (by omega)]; rfl
      subst h2
      go_wp2
      go_ret
      exact ⟨by rw [HV.out]; rfl, HB1.out⟩
    · have h2' : (am == -1) = false := beq_eq_false_iff_ne.2 h2
      by_cases h3 : am < td - ts
      · have HV : Hid (y = false) := by rw [Hid, HY.out, decide_eq_false h1, decide_eq_true (show am ≠ -1 from h2), decide_eq_true h3]; rfl
        have h3' : decide (td - ts ≤ am) = false := decide_eq_false (by omega)
        clear h2
        go_wp2
        go_ret
        exact ⟨by rw [HV.out, ← h3']; rfl, HB1.out⟩
      · have HV : Hid (y = true) := by rw [Hid, HY.out, decide_eq_false h1, decide_eq_false h3]; simp
        have h3' : td - ts ≤ am := by omega
        clear h2
        go_wp2
        go_ret
        exact ⟨by rw [HV.out]; rfl, HB1.out⟩

/-- the error of right times -/
def rightE (ne : Nat) (acts : List Act) (l : List Int) : Int := if timesE ne l ≠ 0 then timesE ne l else if acts.any (brokenB l) = true then 24 else 0
theorem rightE_zero {ne : Nat} {acts : List Act} {l : List Int} : rightE ne acts l = 0 ↔ (l.length = ne ∧ ∀ t ∈ l, 0 ≤ t ∧ t ≤ 10000000) ∧ ∀ a ∈ acts, brokenB l a = false := by
  unfold rightE
  rw [← timesE_zero]
  by_cases h : timesE ne l = 0
  · rw [if_neg (fun h2 => h2 h)]
    cases ha : acts.any (brokenB l)
    · simp only [Bool.false_eq_true, if_false, true_iff]
      exact ⟨h, fun a hm => by simpa using List.any_eq_false.1 ha a hm⟩
    · simp only [if_true]
      constructor
      · intro h2
        cases h2
      · intro h2
        obtain ⟨a, hm, hb⟩ := List.any_eq_true.1 ha
        rw [h2.2 a hm] at hb
        cases hb
  · rw [if_pos h]
    exact ⟨fun h2 => absurd h2 h, fun h2 => absurd h2.1 h⟩
theorem any_dropA {l : List Int} {acts : List Act} {k : Nat} {x : Act} (h : acts[k]? = some x) : (acts.drop k).any (brokenB l) = (brokenB l x || (acts.drop (k + 1)).any (brokenB l)) := by
  obtain ⟨h1, h2⟩ := List.getElem?_eq_some_iff.1 h
  rw [List.drop_eq_getElem_cons h1, List.any_cons, h2]
def RePost (w : World) (V : Int) (e : Ending) (w' : World) : Prop := ∃ i : Int, e = .returned (.tuple #[.int .i64 i, .int .i64 V]) ∧ Below w.heap.size w w'
set_option maxRecDepth 100000 in
set_option maxHeartbeats 4000000 in
theorem refCheckTimes_any (w : World) (B : Nat) (Ae Aa : Option Addr) (ne ce na ca : Nat) (evs : List ByteArray) (acts : List Act) (h : NetAt w B Ae Aa ne ce na evs acts) (hB : B ≤ w.heap.size) (hR : NetR evs acts) (Bt : Nat) (At : Option Addr) (n ct : Nat) (l : List Int) (hn : n ≤ 1000000000) (hl : l.length = n) (ht : Rd w Bt At (intCells l)) (hBt : Bt ≤ w.heap.size) :
    Calls Tryz.prog 22 #[netV Ae ne ce Aa na ca, .slice At n ct] w (RePost w (rightE ne acts l)) := by
  obtain ⟨V, hV⟩ : ∃ V, rightE ne acts l = V := ⟨_, rfl⟩
  obtain ⟨E, hE⟩ : ∃ E, timesE ne l = E := ⟨_, rfl⟩
  have hne2 : ne ≤ 16 := by rw [← h.le]; exact hR.e2
  have hna1 : na ≤ 30 := by rw [← h.la]; exact hR.a1
  have hac : ∀ a ∈ acts, actR ne a := by have h9 := hR.ac; rw [h.le] at h9; exact h9
  have HV : Hid (V = if E ≠ 0 then E else if acts.any (brokenB l) = true then 24 else 0) := by
    rw [Hid, ← hV, rightE, hE]
  have HT : Hid (E = 0 → n = ne ∧ ∀ t ∈ l, 0 ≤ t ∧ t ≤ 10000000) := fun h0 => by
    have := timesE_zero.1 (hE.trans h0)
    rw [hl] at this
    exact this
  have hb0 : Below w.heap.size w (w.alloc (.cells #[.slice Ae ne ce, .slice Aa na ca] 25)) := (Below.refl _ _).alloc (Nat.le_refl _) _
  have k0 : (w.alloc (.cells #[.slice Ae ne ce, .slice Aa na ca] 25)).heap[w.heap.size]? = some (.cells #[.slice Ae ne ce, .slice Aa na ca] 25 (0, 0)) := by rw [heapq_alloc, if_pos rfl]
  have ht0 := ht.below (hb0.mono hBt)
  have hra0 := h.ra.below (hb0.mono hB)
  have TE := fun W (h : Rd W Bt At (intCells l)) hW => TimesErr_any W Ae ne ce Aa na ca Bt At n ct l hn hl h hW
  rw [hE] at TE
  rw [hV]
  have hs := hb0.size
  have HLA := Lib.hid h.la
  have HL := Lib.hid hl
  have HB := Lib.hid hb0
  obtain ⟨d0, d1⟩ := cells2 k0
  clear hV hE h ht hb0 hl hR
  unfold netV at TE ⊢
  go_enter Tryz.func22, Tryz.ntmps22
  go_upto_region 1 with (fail)
  generalize w.alloc (.cells #[.slice Ae ne ce, .slice Aa na ca] 25) = w0 at *
  go_upto_region 2 with (go_at_call 15; refine (TE _ ht0 (Nat.le_trans hBt hs)).mono ?_; rintro e w1 ⟨rfl, hb1⟩)
  replace k0 := blk hb1 k0
  replace ht0 := ht0.below (hb1.mono (Nat.le_trans hBt hs))
  replace hra0 := hra0.below (hb1.mono (Nat.le_trans hB hs))
  have HB1 := Lib.hid (HB.out.trans (hb1.mono hs))
  have hs1 : w.heap.size ≤ w1.heap.size := Nat.le_trans hs hb1.size
  clear hb1 TE d0 d1 hs
  by_cases he : E = 0
  case neg =>
    have he' : (E != 0) = true := bne_iff_ne.2 he
    have HN := Lib.hid he
    clear he k0 ht0 hra0
    go_wp2
    refine bodyPost_ret (v := .tuple #[.int .i64 0, .int .i64 E]) (by simp [results, Tryz.results22, go_sem]) rfl ⟨0, ?_, HB1.out⟩
    rw [HV.out, if_pos HN.out]
  subst he
  obtain ⟨rfl, hrng⟩ := HT.out rfl
  have HV2 : Hid (V = if acts.any (brokenB l) = true then 24 else 0) := by
    have h9 := HV.out
    rwa [if_neg (fun h => h rfl)] at h9
  clear HV HT
  go_wp2
  go_loopw [7] (fun i wr => ∃ k : Nat, k ≤ na ∧ i = .int .i64 k ∧ (acts.drop k).any (brokenB l) = acts.any (brokenB l) ∧ Below w1.heap.size w1 wr) (fun i _ => na - (intOf i).toNat)
  case atStart => exact ⟨0, Nat.zero_le _, rfl, rfl, Below.refl _ _⟩
  case round =>
    obtain ⟨k, hk, rfl, he, hb⟩ := hrel
    have HE := Lib.hid he
    obtain ⟨d0, d1⟩ := cells2 (blk hb k0)
    have htR := ht0.below (hb.mono (Nat.le_trans hBt hs1))
    have hraR := hra0.below (hb.mono (Nat.le_trans hB hs1))
    have HBR := Lib.hid hb
    have hsr := hb.size
    clear he hb
    by_cases hlt : k < na
    · obtain ⟨a, ha⟩ : ∃ a, acts[k]? = some a := ⟨_, List.getElem?_eq_getElem (by rw [HLA.out]; exact hlt)⟩
      obtain ⟨b, off, hA, _, c0, c1, c2, c3, c4, c5⟩ := hraR.act ha
      have HD := Lib.hid (any_dropA (l := l) ha)
      have aR := hac a (List.mem_of_getElem? ha)
      subst hA
      obtain ⟨y, hy⟩ : ∃ y, brokenB l a = y := ⟨_, rfl⟩
      have BK := Keeps_any wr n a aR Bt At ct l HL.out htR (Nat.le_trans hBt (Nat.le_trans hs1 hsr)) hrng
      rw [hy] at BK
      have HYY := Lib.hid hy
      unfold actV at BK
      clear ha hraR htR hy aR
      cases y with
      | true =>
        have BK2 : Calls Tryz.prog 42 _ wr (fun e w' => e = .returned (.bool false) ∧ Below wr.heap.size wr w') := BK
        clear BK
        go_wp2_with (go_at_call 42; refine BK2.mono ?_; rintro e w2 ⟨rfl, hb2⟩)
        refine bodyPost_ret (v := .tuple #[.int .i64 k, .int .i64 24]) (by simp [results, Tryz.results22, go_sem]) rfl ⟨k, ?_, HB1.out.trans ((HBR.out.trans (hb2.mono hsr)).mono hs1)⟩
        rw [HV2.out, ← HE.out, HD.out, HYY.out]
        rfl
      | false =>
        have BK2 : Calls Tryz.prog 42 _ wr (fun e w' => e = .returned (.bool true) ∧ Below wr.heap.size wr w') := BK
        clear BK
        go_wp2_with (go_at_call 42; refine BK2.mono ?_; rintro e w2 ⟨rfl, hb2⟩)
        have HB2 := Lib.hid (HBR.out.trans (hb2.mono hsr))
        clear hb2
        go_roundw
        case rel => exact ⟨k + 1, by omega, by go_num, by rw [← HE.out, HD.out, HYY.out]; rfl, HB2.out⟩
        case measure => simp [intOf]; omega
    · have : acts.drop k = [] := by rw [List.drop_eq_nil_iff]; rw [HLA.out]; omega
      have HN := Lib.hid this
      clear this hraR htR
      go_wp2
      refine bodyPost_ret (v := .tuple #[.int .i64 0, .int .i64 0]) (by simp [results, Tryz.results22, go_sem]) rfl ⟨0, ?_, HB1.out.trans (HBR.out.mono hs1)⟩
      rw [HV2.out, ← HE.out, HN.out]
      rfl
set_option maxRecDepth 100000 in
theorem RightErr_any (w : World) (B : Nat) (Ae Aa : Option Addr) (ne ce na ca : Nat) (evs : List ByteArray) (acts : List Act) (h : NetAt w B Ae Aa ne ce na evs acts) (hB : B ≤ w.heap.size) (hR : NetR evs acts) (Bt : Nat) (At : Option Addr) (n ct : Nat) (l : List Int) (hn : n ≤ 1000000000) (hl : l.length = n) (ht : Rd w Bt At (intCells l)) (hBt : Bt ≤ w.heap.size) :
    Calls Tryz.prog 7 #[netV Ae ne ce Aa na ca, .slice At n ct] w fun e w' => e = .returned (.int .i64 (rightE ne acts l)) ∧ Below w.heap.size w w' := by
  obtain ⟨V, hV⟩ : ∃ V, rightE ne acts l = V := ⟨_, rfl⟩
  have hb0 : Below w.heap.size w (w.alloc (.cells #[.slice Ae ne ce, .slice Aa na ca] 25)) := (Below.refl _ _).alloc (Nat.le_refl _) _
  have k0 : (w.alloc (.cells #[.slice Ae ne ce, .slice Aa na ca] 25)).heap[w.heap.size]? = some (.cells #[.slice Ae ne ce, .slice Aa na ca] 25 (0, 0)) := by rw [heapq_alloc, if_pos rfl]
  have CT := refCheckTimes_any _ B Ae Aa ne ce na ca evs acts (h.below (hb0.mono hB)) (Nat.le_trans hB hb0.size) hR Bt At n ct l hn hl (ht.below (hb0.mono hBt)) (Nat.le_trans hBt hb0.size)
  have HB := Lib.hid hb0
  have hs := hb0.size
  obtain ⟨d0, d1⟩ := cells2 k0
  rw [hV] at CT ⊢
  clear hV h ht hb0 hl hR k0
  unfold netV at CT ⊢
  go_enter Tryz.func7, Tryz.ntmps7
  go_upto_region 1 with (fail)
  generalize w.alloc (.cells #[.slice Ae ne ce, .slice Aa na ca] 25) = w0 at *
  go_wp2_with (go_at_call 22; refine CT.mono ?_; rintro e w1 ⟨i, rfl, hb1⟩)
  go_ret
  exact ⟨rfl, HB.out.trans (hb1.mono hs)⟩
end Go.Proofs.YtnnnpijepdjanaaGreat

namespace Go.Proofs.YtnnnpijepdjanaaGreat
open Go.RowKit

def dlVals (d : Dl) : List Value := [.int .i64 d.ev, .int .i64 d.by_]
def dlCells (l : List Dl) : List Value := l.flatMap dlVals
theorem dlCells_len (l : List Dl) : (dlCells l).length = l.length * 2 := by
  induction l with
  | nil => rfl
  | cons x l ih =>
    rw [dlCells, List.flatMap_cons, List.length_append]
    have : (l.flatMap dlVals).length = l.length * 2 := ih
    rw [this]
    simp [dlVals]
    omega
theorem dlCells_at : ∀ (l : List Dl) (k : Nat) (x : Dl), l[k]? = some x → ∀ j u, (dlVals x)[j]? = some u → (dlCells l)[k * 2 + j]? = some u
  | [], _, _, h, _, _, _ => by simp at h
  | y :: l, 0, x, h, j, u, hu => by
    simp at h
    subst h
    have hj : j < (dlVals y).length := (List.getElem?_eq_some_iff.1 hu).1
    rw [dlCells, List.flatMap_cons, Nat.zero_mul, Nat.zero_add, List.getElem?_append_left hj]
    exact hu
  | y :: l, k + 1, x, h, j, u, hu => by
    have h1 : l[k]? = some x := by simpa using h
    have ih := dlCells_at l k x h1 j u hu
    rw [dlCells, List.flatMap_cons, List.getElem?_append_right (by simp [dlVals]; omega)]
    rw [show (k + 1) * 2 + j - (dlVals y).length = k * 2 + j by simp [dlVals]; omega]
    exact ih
theorem dlCells_one (l : List Dl) : ∀ u ∈ dlCells l, u.oneCell' = true := by
  intro u hu
  simp only [dlCells, List.mem_flatMap, dlVals] at hu
  obtain ⟨d, _, hu⟩ := hu
  simp at hu
  rcases hu with rfl | rfl <;> rfl
theorem Rd.dl {w : World} {B : Nat} {A : Option Addr} {l : List Dl} (h : Rd w B A (dlCells l)) {k : Nat} {x : Dl} (hk : l[k]? = some x) :
    ∃ b off, A = some ⟨b, off, none⟩ ∧ b < B ∧ w.cell? ⟨b, off + k * 2, none⟩ = some (.int .i64 x.ev) ∧ w.cell? ⟨b, off + k * 2 + 1, none⟩ = some (.int .i64 x.by_) := by
  have hat := dlCells_at l k x hk
  obtain ⟨b, off, rfl, hb, c0⟩ := h (k * 2 + 0) _ (hat 0 _ rfl)
  obtain ⟨b', off', h', _, c1⟩ := h (k * 2 + 1) _ (hat 1 _ rfl)
  cases h'
  exact ⟨b, off, rfl, hb, by simpa using c0, by simpa [Nat.add_assoc] using c1⟩

def twice (done : List Dl) (d : Dl) : Bool := done.any fun o => o.ev == d.ev
def delGo (ne : Nat) (done : List Dl) : List Dl → Int
  | [] => 0
  | d :: l => if evtE ne d.ev ≠ 0 then evtE ne d.ev else if withinB d.by_ 1 100000 = false then 2 else if twice done d = true then 26 else delGo ne (done ++ [d]) l
def delE (ne : Nat) (l : List Dl) : Int := if 12 < l.length then 8 else delGo ne [] l
theorem delGo_zero {ne : Nat} : ∀ (l done : List Dl), delGo ne done l = 0 ↔ (∀ d ∈ l, DlR ne d) ∧ l.Pairwise (fun a b => a.ev ≠ b.ev) ∧ ∀ d ∈ l, twice done d = false
  | [], done => by simp [delGo]
  | d :: l, done => by
    have ih := delGo_zero (ne := ne) l (done ++ [d])
    have htw : ∀ x, twice (done ++ [d]) x = false ↔ twice done x = false ∧ d.ev ≠ x.ev := fun x => by
      simp [twice]
    rw [delGo]
    by_cases h1 : evtE ne d.ev = 0
    · rw [if_neg (fun h => h h1)]
      cases h2 : withinB d.by_ 1 100000
      · rw [if_pos rfl]
        constructor
        · intro h
          cases h
        · rintro ⟨h, _⟩
          have := (h d (by simp)).2
          simp [withinB] at h2
          omega
      · rw [if_neg (by simp)]
        cases h3 : twice done d
        · rw [if_neg (by simp), ih]
          simp only [List.mem_cons, List.pairwise_cons]
          have hd : DlR ne d := ⟨evtE_zero.1 h1, by simpa [withinB] using h2⟩
          constructor
          · rintro ⟨a1, a2, a3⟩
            exact ⟨fun x hx => hx.elim (fun h => h ▸ hd) (a1 x), ⟨fun x hx => ((htw x).1 (a3 x hx)).2, a2⟩, fun x hx => hx.elim (fun h => h ▸ h3) fun h => ((htw x).1 (a3 x h)).1⟩
          · rintro ⟨a1, ⟨a2, a3⟩, a4⟩
            exact ⟨fun x hx => a1 x (.inr hx), a3, fun x hx => (htw x).2 ⟨a4 x (.inr hx), a2 x hx⟩⟩
        · rw [if_pos rfl]
          constructor
          · intro h
            cases h
          · rintro ⟨_, _, h⟩
            rw [h d (by simp)] at h3
            cases h3
    · rw [if_pos h1]
      constructor
      · intro h
        exact absurd h h1
      · rintro ⟨h, _⟩
        exact absurd (evtE_zero.2 (h d (by simp)).1) h1
theorem delE_zero {ne : Nat} {l : List Dl} : delE ne l = 0 ↔ DlsR ne l := by
  unfold delE
  by_cases h : 12 < l.length
  · rw [if_pos h]
    constructor
    · intro h2
      cases h2
    · intro h2
      have := h2.n
      omega
  · rw [if_neg h, delGo_zero]
    exact ⟨fun ⟨h1, h2, _⟩ => ⟨by omega, h1, h2⟩, fun h2 => ⟨h2.r, h2.u, fun _ _ => rfl⟩⟩

def DeRel (w0 : World) (ne n : Nat) (l : List Dl) (V : Int) (u : Value) (wr : World) : Prop := ∃ k : Nat, k ≤ n ∧ u = .int .i64 k ∧ delGo ne (l.take k) (l.drop k) = V ∧ Below w0.heap.size w0 wr
theorem twice_drop {l : List Dl} {d x : Dl} {j k : Nat} (hj : l[j]? = some x) (hjk : j < k) : twice ((l.take k).drop j) d = ((x.ev == d.ev) || twice ((l.take k).drop (j + 1)) d) := by
  have h1 : (l.take k)[j]? = some x := by rw [List.getElem?_take, if_pos hjk, hj]
  obtain ⟨h2, h3⟩ := List.getElem?_eq_some_iff.1 h1
  rw [List.drop_eq_getElem_cons h2, twice, List.any_cons, h3]
  rfl
set_option maxRecDepth 100000 in
set_option maxHeartbeats 4000000 in
theorem refDelaysErr_any (w : World) (Ae : Option Addr) (ne ce : Nat) (Aa : Option Addr) (na ca : Nat) (hne : ne ≤ 1000000000) (B : Nat) (A : Option Addr) (n c : Nat) (l : List Dl) (hl : l.length = n) (hn : n ≤ 1000000000) (h : Rd w B A (dlCells l)) (hB : B ≤ w.heap.size) :
    Calls Tryz.prog 8 #[netV Ae ne ce Aa na ca, .slice A n c] w fun e w' => e = .returned (.int .i64 (delE ne l)) ∧ Below w.heap.size w w' := by
  obtain ⟨V, hV⟩ : ∃ V, delE ne l = V := ⟨_, rfl⟩
  have HV : Hid (V = if 12 < n then 8 else delGo ne [] l) := by rw [Hid, ← hV, delE, hl]
  have HL := Lib.hid hl
  have hb0 : Below w.heap.size w (w.alloc (.cells #[.slice Ae ne ce, .slice Aa na ca] 25)) := (Below.refl _ _).alloc (Nat.le_refl _) _
  have k0 : (w.alloc (.cells #[.slice Ae ne ce, .slice Aa na ca] 25)).heap[w.heap.size]? = some (.cells #[.slice Ae ne ce, .slice Aa na ca] 25 (0, 0)) := by rw [heapq_alloc, if_pos rfl]
  have h0 := h.below (hb0.mono hB)
  have hs := hb0.size
  have HB := Lib.hid hb0
  have EV := fun W (i E : Int) (hE : evtE ne i = E) => EventErr_val W Ae ne ce Aa na ca i E hE hne
  rw [hV]
  clear hV hl h hb0
  unfold netV at EV ⊢
  go_enter Tryz.func8, Tryz.ntmps8
  go_upto_region 1 with (fail)
  generalize w.alloc (.cells #[.slice Ae ne ce, .slice Aa na ca] 25) = w0 at *
  by_cases h12 : 12 < n
  · have g1 : (12 : Int) < (n : Int) := by omega
    have HN := Lib.hid h12
    clear h12 k0
    go_wp2
    go_ret
    exact ⟨by rw [HV.out, if_pos HN.out]; rfl, HB.out⟩
  have g1 : ¬ (12 : Int) < (n : Int) := by omega
  have HV2 : Hid (delGo ne [] l = V) := by
    have h9 := HV.out
    rw [if_neg h12] at h9
    exact h9.symm
  clear HV h12
  go_upto_region 3 with (fail)
  clear g1
  go_wp2
  go_loopw [5] (fun u wr => DeRel w0 ne n l V u wr) (fun u _ => n - (intOf u).toNat)
  case atStart => exact ⟨0, Nat.zero_le _, rfl, HV2.out, Below.refl _ _⟩
  case round =>
    obtain ⟨k, hk, rfl, hgo, hb⟩ := hrel
    have HGO := Lib.hid hgo
    have HBW := Lib.hid hb
    have hsz := hb.size
    have hr := h0.below (hb.mono (Nat.le_trans hB hs))
    obtain ⟨d0, d1⟩ := cells2 (blk hb k0)
    clear hgo hb
    by_cases hlt : k < n
    · obtain ⟨x, hx⟩ : ∃ x, l[k]? = some x := ⟨_, List.getElem?_eq_getElem (by rw [HL.out]; exact hlt)⟩
      obtain ⟨b, off, rfl, _, c0, c1⟩ := hr.dl hx
      have HD : Hid (l.drop k = x :: l.drop (k + 1)) := by
        obtain ⟨h1, h2⟩ := List.getElem?_eq_some_iff.1 hx
        rw [Hid, List.drop_eq_getElem_cons h1, h2]
      have HTK : Hid (l.take (k + 1) = l.take k ++ [x]) := by
        rw [Hid, List.take_add_one, hx]
        rfl
      obtain ⟨E, hE⟩ : ∃ E, evtE ne x.ev = E := ⟨_, rfl⟩
      have EV1 := fun W => EV W x.ev E hE
      have HEE := Lib.hid hE
      obtain ⟨q, hq⟩ : ∃ q, withinB x.by_ 1 100000 = q := ⟨_, rfl⟩
      have WI := fun W => Within_val x.by_ 1 100000 q hq W
      have HQ := Lib.hid hq
      have x0 := fun q : Xt wr => q.cell d0
      have x1 := fun q : Xt wr => q.cell d1
      have x2 := fun q : Xt wr => q.cell c0
      have HX := Lib.hid hx
      clear hE hq hx
      go_upto_region 6 with (fail)
      refine wp_region_xt (by kernel_rfl) (by kernel_rfl) ?_
      repeat (go_big_quiet_step (first | (go_at_call 23; exact Xt.calls (EV1 _))))
      refine wpQuiet_nil ?_
      intro w1 hx
      have hb1 := Xt.below hx
      clear hx x0 x1 x2 EV1
      replace c0 := kept hb1 c0
      replace c1 := kept hb1 c1
      replace hr := hr.below (hb1.mono (Nat.le_trans (Nat.le_trans hB hs) hsz))
      have HB1 := Lib.hid (HBW.out.trans (hb1.mono hsz))
      clear hb1 d0 d1
      by_cases he : E = 0
      case neg =>
        have g9 : (E != 0) = true := bne_iff_ne.2 he
        have HF : Hid (E = V) := by
          rw [Hid, ← HGO.out, HD.out, delGo, HEE.out, if_pos he]
        clear HGO
        go_wp2
        go_ret
        exact ⟨by rw [HF.out]; rfl, HB.out.trans (HB1.out.mono hs)⟩
      subst he
      have HGO2 : Hid ((if withinB x.by_ 1 100000 = false then 2 else if twice (l.take k) x = true then 26 else delGo ne (l.take (k + 1)) (l.drop (k + 1))) = V) := by
        rw [Hid, ← HGO.out, HD.out, delGo, if_neg (show ¬ evtE ne x.ev ≠ 0 from fun h => h HEE.out), HTK.out]
      clear HGO
      cases q with
      | false =>
        have HF : Hid ((2 : Int) = V) := by
          have h9 := HGO2.out
          rwa [HQ.out, if_pos rfl] at h9
        clear HGO2
        go_wp2_with (go_at_call 24; refine (WI _).mono ?_; rintro e w' ⟨rfl, rfl⟩)
        go_ret
        exact ⟨by rw [← HF.out]; rfl, HB.out.trans (HB1.out.mono hs)⟩
      | true =>
        have HGO3 : Hid ((if twice (l.take k) x = true then 26 else delGo ne (l.take (k + 1)) (l.drop (k + 1))) = V) := by
          have h9 := HGO2.out
          rwa [HQ.out, if_neg (by simp)] at h9
        clear HGO2
        go_upto_region 11 with (go_at_call 24; refine (WI _).mono ?_; rintro e w' ⟨rfl, rfl⟩)
        clear WI c1
        go_wp2
        have hB1 : B ≤ w1.heap.size := Nat.le_trans (Nat.le_trans hB hs) (HB1.out.size)
        have hsw : w0.heap.size ≤ w1.heap.size := HB1.out.size
        go_loopw [7] (fun u wy => ∃ j : Nat, j ≤ k ∧ u = .int .i64 j ∧ twice ((l.take k).drop j) x = twice (l.take k) x ∧ Below w1.heap.size w1 wy) (fun u _ => k - (intOf u).toNat)
        case atStart => exact ⟨0, Nat.zero_le _, rfl, rfl, Below.refl _ _⟩
        case round =>
          obtain ⟨j, hj, rfl, htw, hby⟩ := hrel
          have HTW := Lib.hid htw
          have HBY := Lib.hid hby
          have hry := hr.below (hby.mono hB1)
          have e0 := kept hby c0
          have hsy := hby.size
          clear htw hby
          by_cases hjk : j < k
          · obtain ⟨y, hy⟩ : ∃ y, l[j]? = some y := ⟨_, List.getElem?_eq_getElem (by rw [HL.out]; omega)⟩
            obtain ⟨b', off', hA, _, f0, _⟩ := hry.dl hy
            cases hA
            have HTD := Lib.hid (twice_drop (d := x) hy hjk)
            cases hyx : (y.ev == x.ev) with
            | true =>
              have HF : Hid ((26 : Int) = V) := by
                have h9 := HGO3.out
                rwa [← HTW.out, HTD.out, hyx, Bool.true_or, if_pos rfl] at h9
              have HYX := Lib.hid hyx
              have x0 := fun q : Xt wr => q.cell e0
              have x1 := fun q : Xt wr => q.cell f0
              clear hy hry HTD HTW HGO3
              go_upto_region 14 with (fail)
              refine wp_region_xt (by kernel_rfl) (by kernel_rfl) ?_
              repeat (go_big_quiet_step (fail))
              refine wpQuiet_nil ?_
              intro w2 hx
              have hb2 := Xt.below hx
              have HB2 := Lib.hid (HB1.out.trans ((HBY.out.trans (hb2.mono hsy)).mono hsw))
              clear hx x0 x1 hb2 e0 f0
              go_wp2
              go_ret
              exact ⟨by rw [← HF.out]; rfl, HB.out.trans (HB2.out.mono hs)⟩
            | false =>
              have HF : Hid (twice ((l.take k).drop (j + 1)) x = twice (l.take k) x) := by
                rw [Hid, ← HTW.out, HTD.out, hyx, Bool.false_or]
              have HYX := Lib.hid hyx
              have x0 := fun q : Xt wr => q.cell e0
              have x1 := fun q : Xt wr => q.cell f0
              clear hy hry HTD HTW
              go_upto_region 14 with (fail)
              refine wp_region_xt (by kernel_rfl) (by kernel_rfl) ?_
              repeat (go_big_quiet_step (fail))
              refine wpQuiet_nil ?_
              intro w2 hx
              have hb2 := Xt.below hx
              have HB2 := Lib.hid (HBY.out.trans (hb2.mono hsy))
              clear hx x0 x1 hb2 e0 f0
              go_wp2
              go_roundw
              case rel => exact ⟨j + 1, by omega, by go_num, HF.out, HB2.out⟩
              case measure => simp [intOf]; omega
          · obtain rfl : j = k := by omega
            have HF : Hid (delGo ne (l.take (j + 1)) (l.drop (j + 1)) = V) := by
              have h9 := HTW.out
              rw [List.drop_eq_nil_iff.2 (by rw [List.length_take]; omega)] at h9
              have h8 := HGO3.out
              rwa [← h9, if_neg (by simp [twice])] at h8
            have HBZ := Lib.hid (HB1.out.trans (HBY.out.mono hsw))
            clear hry HTW HGO3 e0
            go_wp2
            go_roundw
            case rel => exact ⟨j + 1, by omega, by go_num, HF.out, HBZ.out⟩
            case measure => simp [intOf]; omega
    · have HF : Hid ((0 : Int) = V) := by
        rw [Hid, ← HGO.out, List.drop_eq_nil_iff.2 (by rw [HL.out]; omega)]
        rfl
      clear HGO d0 d1 hr
      go_wp2
      go_ret
      exact ⟨by rw [← HF.out]; rfl, HB.out.trans (HBW.out.mono hs)⟩

def DlsPost (w : World) (l : List Dl) (n : Nat) (e : Ending) (w' : World) : Prop := ∃ A c, e = .returned (.slice A n c) ∧ n ≤ c ∧ Rd w' w'.heap.size A (dlCells l) ∧ Below w.heap.size w w'
theorem info46 : (Tryz.prog.info? 46).map (fun i => (i.zero, i.size, i.bytes)) = some (some (.agg #[.int .i64 0, .int .i64 0]), 2, 16) := by kernel_rfl
set_option maxHeartbeats 1000000 in
theorem CopyDelays_any (w : World) (B : Nat) (A : Option Addr) (n c : Nat) (l : List Dl) (hl : l.length = n) (hn : n ≤ 1000000) (h : Rd w B A (dlCells l)) (hB : B ≤ w.heap.size) :
    Calls Tryz.prog 12 #[.slice A n c] w (DlsPost w l n) := by
  obtain ⟨i1, hi1, hy0, hy1, hy2⟩ := info_parts info46
  have HL := Lib.hid hl
  have h' := h.below (((Below.refl _ _).alloc (Nat.le_refl _) (.cells #[] 46) : Below w.heap.size w (w.alloc (.cells #[] 46))).mono hB)
  have hb0 : Below w.heap.size w (w.alloc (.cells #[] 46)) := (Below.refl _ _).alloc (Nat.le_refl _) _
  clear hl
  go_enter Tryz.func12, Tryz.ntmps12
  go_wp2_with (at_builtin; refine stp ?_)
  unfold Stp
  refine wpList_append_copy _ rfl _ _ 27 rfl w.heap.size 46 i1 _ 2 16 Tryz.underlying27 hi1 hy0 hy1 hy2 rfl (by omega) w.heap.size rfl (by rw [heapq_alloc, if_pos rfl]) (Nat.le_refl _) B A n c (dlCells l) rfl (by rw [dlCells_len, HL.out]) h' (dlCells_one l) (by simp only [maxLen]; omega) (by omega) (by simp) ?_
  intro g cap w1 hown hgrow _
  have hb1 : Below w.heap.size w w1 := hb0.grown hgrow (by simp) (fun k hk => by rw [← Option.some.inj hk]; exact Nat.le_refl _)
  have HR := Lib.hid (Rd_of_own hown)
  have HC := Lib.hid (own_cap hown)
  have HB := Lib.hid hb1
  clear hown hgrow hb0 hb1 h h'
  go_wp2
  go_ret
  exact ⟨_, _, rfl, HC.out, HR.out, HB.out⟩
end Go.Proofs.YtnnnpijepdjanaaGreat

namespace Go.Proofs.YtnnnpijepdjanaaGreat
open Go.RowKit

theorem idxGo_none {α : Type} {p : α → Bool} : ∀ (l : List α) (k : Nat), (∀ a ∈ l, p a = false) → idxGo p l k = -1
  | [], _, _ => rfl
  | a :: l, k, h => by
    rw [idxGo, h a (by simp)]
    exact idxGo_none l (k + 1) fun x hx => h x (by simp [hx])
set_option maxRecDepth 100000 in
set_option maxHeartbeats 4000000 in
theorem openTimes_right (w : World) (B : Nat) (Ae Aa : Option Addr) (ne ce na ca : Nat) (evs : List ByteArray) (acts : List Act) (h : NetAt w B Ae Aa ne ce na evs acts) (hB : B ≤ w.heap.size) (hR : NetR evs acts) (Bt : Nat) (At : Option Addr) (ct : Nat) (l : List Int) (hl : l.length = ne) (ht : Rd w Bt At (intCells l)) (hBt : Bt ≤ w.heap.size) (hr : ∀ t ∈ l, 0 ≤ t ∧ t ≤ 10000000) (hk : ∀ a ∈ acts, brokenB l a = false) :
    Calls Tryz.prog 43 #[netV Ae ne ce Aa na ca, .slice At ne ct] w (OpenPost w Ae ne ce Aa na ca) := by
  have hV : idxGo (brokenB l) acts 0 = -1 := idxGo_none acts 0 hk
  have hne2 : ne ≤ 16 := by rw [← h.le]; exact hR.e2
  have OP := fun (W : World) (hb : Below w.heap.size w W) => open_right W B Ae Aa ne ce na ca evs acts (h.below (hb.mono hB)) (Nat.le_trans hB hb.size) hR
  have TE := fun (W : World) (hb : Below w.heap.size w W) => timesErr_right W Bt Ae ne ce Aa na ca At ct l (by omega) hl (ht.below (hb.mono hBt)) (Nat.le_trans hBt hb.size) hr
  have BK := fun (W : World) (hb : Below w.heap.size w W) => broken_any W B Ae Aa ne ce na ca evs acts (h.below (hb.mono hB)) (Nat.le_trans hB hb.size) hR Bt At ct l hl (ht.below (hb.mono hBt)) (Nat.le_trans hBt hb.size) hr
  simp only [hV] at BK
  have hb0 : Below w.heap.size w ((w.alloc (.cells #[.slice Ae ne ce, .slice Aa na ca] 25)).alloc (.cells #[.slice none 0 0, .slice none 0 0] 66)) := ((Below.refl _ _).alloc (Nat.le_refl _) _).alloc (by simp) _
  have k0 : ((w.alloc (.cells #[.slice Ae ne ce, .slice Aa na ca] 25)).alloc (.cells #[.slice none 0 0, .slice none 0 0] 66)).heap[w.heap.size]? = some (.cells #[.slice Ae ne ce, .slice Aa na ca] 25 (0, 0)) := by rw [heapq_alloc, if_neg (by simp), heapq_alloc, if_pos rfl]
  have kr : ((w.alloc (.cells #[.slice Ae ne ce, .slice Aa na ca] 25)).alloc (.cells #[.slice none 0 0, .slice none 0 0] 66)).heap[w.heap.size + 1]? = some (.cells #[.slice none 0 0, .slice none 0 0] 66 (0, 0)) := by rw [heapq_alloc, if_pos (by simp)]
  clear h ht hV hk
  unfold netV at OP ⊢
  unfold OpenPost at OP
  go_enter Tryz.func43, Tryz.ntmps43
  go_upto_region 1 with (fail)
  generalize ((w.alloc (.cells #[.slice Ae ne ce, .slice Aa na ca] 25)).alloc (.cells #[.slice none 0 0, .slice none 0 0] 66)) = w0 at *
  obtain ⟨d0, d1⟩ := cells2 k0
  go_upto_region 2 with (go_at_call 27; refine (OP _ hb0).mono ?_; rintro e w1 ⟨rfl, hb1⟩)
  have hbA := hb0.trans ((hb1.alloc hb1.size (.cells #[.slice Ae ne ce, .slice Aa na ca] 66)).mono hb0.size)
  have k4 : (w1.alloc (.cells #[.slice Ae ne ce, .slice Aa na ca] 66)).heap[w1.heap.size]? = some (.cells #[.slice Ae ne ce, .slice Aa na ca] 66 (0, 0)) := by rw [heapq_alloc, if_pos rfl]
  replace kr := blk (hb1.alloc hb1.size (.cells #[.slice Ae ne ce, .slice Aa na ca] 66)) kr
  clear hb0 hb1 k0 d0 d1 OP
  generalize w1.alloc (.cells #[.slice Ae ne ce, .slice Aa na ca] 66) = w2 at *
  generalize w1.heap.size = g at *
  obtain ⟨d0, d1⟩ := cells2 k4
  have TE2 := TE w2 hbA
  go_upto_region 3 with (first | (go_at_call 29; refine TE2.mono ?_; rintro e w3 ⟨rfl, hb3⟩; have F2 := fun a b => first2 w3 a b) | (go_at_call 28; refine (F2 _ _).mono ?_; rintro e w' ⟨rfl, rfl⟩))
  have hbC := hbA.trans ((hb3.alloc hb3.size (.cells #[.int .i64 0, .int .i64 0] 35)).mono hbA.size)
  replace k4 := blk (hb3.alloc hb3.size (.cells #[.int .i64 0, .int .i64 0] 35)) k4
  replace kr := blk (hb3.alloc hb3.size (.cells #[.int .i64 0, .int .i64 0] 35)) kr
  clear hbA hb3 TE TE2 F2 d0 d1
  generalize w3.alloc (.cells #[.int .i64 0, .int .i64 0] 35) = w4 at *
  obtain ⟨d0, d1⟩ := cells2 k4
  go_upto_region 5 with (fail)
  have x0 := fun z : Xt w4 => z.cell d0
  have x1 := fun z : Xt w4 => z.cell d1
  have hbd : Below w4.heap.size w4 w4.drew := (Below.refl _ _).drew
  refine wp_region_eager [6, 7] (fun w' => ∃ x : Xt w4, w' = x.1) (by kernel_rfl) ⟨⟨w4.drew, hbd⟩, rfl⟩ ?_
  refine wpE_reads5 [0, 1, 2] 5 rfl (by kernel_rfl) ?_
  simp only [opsAt_nil, opsAt_cons, consOpt_some, List.getElem?_toArray, List.getElem?_cons_zero, List.getElem?_cons_succ]
  repeat (go_big_quiet_step (fail))
  refine wpQuiet_nil ?_
  show wpE _ _ _ _ _ _ _ _ _ w4.drew
  have BK4 := BK w4.drew (hbC.trans (hbd.mono hbC.size))
  clear BK x0 x1 d0 d1
  generalize w4.drew = w5 at *
  refine wpE_one (i := 3) rfl (by kernel_rfl) rfl ?_
  unfold wpMid
  simp only [opsAt_nil, opsAt_cons, consOpt_some, List.getElem?_toArray, List.getElem?_cons_zero, List.getElem?_cons_succ]
  go_wp2_with (go_at_call 32; refine BK4.mono ?_; rintro e w6 ⟨rfl, hb6⟩)
  have hb7 := hbd.trans (hb6.mono hbd.size)
  refine onlyNormal_mk ⟨⟨⟨_, hb7⟩, rfl⟩, ?_⟩
  refine wpE_reads5 [4] 3 rfl (by kernel_rfl) ?_
  simp only [opsAt_nil, opsAt_cons, consOpt_some, List.getElem?_toArray, List.getElem?_cons_zero, List.getElem?_cons_succ]
  repeat (go_big_quiet_step (fail))
  refine wpQuiet_nil ?_
  refine wpE_one (i := 5) rfl (by kernel_rfl) rfl ?_
  unfold wpMid
  simp only [opsAt_nil, opsAt_cons, consOpt_some, List.getElem?_toArray, List.getElem?_cons_zero, List.getElem?_cons_succ]
  go_wp2_with (go_at_call 36; refine (unless_any _ _ _).mono ?_; rintro e w' ⟨rfl, rfl⟩)
  refine onlyNormal_mk ⟨⟨⟨_, hb7⟩, rfl⟩, ?_⟩
  refine wpE_tail rfl (by kernel_rfl) ?_
  simp only [opsAt_nil, opsAt_cons, consOpt_some, List.getElem?_toArray, List.getElem?_cons_zero, List.getElem?_cons_succ]
  obtain ⟨r0, r1, q0, q1⟩ := res2 (blk hb7 kr)
  have HBC := Lib.hid (hbC.trans (hb7.mono hbC.size))
  clear hb6 hb7 hbd hbC BK4 kr k4
  go_wp2
  refine onlyNormal_mk ?_
  go_wp2
  refine bodyPost_ret (v := .tuple #[.agg #[.slice Ae ne ce, .slice Aa na ca], .int .i64 0]) (by simp [results, Tryz.results43, go_sem, r0, r1, unlessE]) rfl ⟨rfl, ?_⟩
  exact HBC.out.trans (put2_below _ _ (Nat.le_succ _))
end Go.Proofs.YtnnnpijepdjanaaGreat

namespace Go.Proofs.YtnnnpijepdjanaaGreat
open Go.RowKit

theorem byErr_right (n : Int) (h : 1 ≤ n ∧ n ≤ 100000) (w : World) : Calls Tryz.prog 68 #[.int .i64 n] w fun e w' => e = .returned (.int .i64 0) ∧ w = w' := by
  have WI := fun W => within_val n 1 100000 true (by simp [withinB]; omega) W
  go_enter Tryz.func68, Tryz.ntmps68
  go_wp2_with (first | (go_at_call 53; refine (WI _).mono ?_; rintro e w' ⟨rfl, rfl⟩) | (go_at_call 36; refine (unless_any _ _ _).mono ?_; rintro e w' ⟨rfl, rfl⟩))
  go_ret
  exact ⟨rfl, rfl⟩
set_option maxRecDepth 100000 in
theorem sameEv_no (w : World) (o d : Dl) (x : Nat) (hx : w.heap[x]? = some (.cells #[.int .i64 d.ev, .int .i64 d.by_] 46 (0, 0))) (hne : o.ev ≠ d.ev) :
    Calls Tryz.prog 67 #[.agg #[.int .i64 o.ev, .int .i64 o.by_], .pointer (some ⟨x, 0, none⟩)] w fun e w' => e = .returned (.bool false) ∧ Below w.heap.size w w' := by
  have hb0 : Below w.heap.size w (w.alloc (.cells #[.int .i64 o.ev, .int .i64 o.by_] 46)) := (Below.refl _ _).alloc (Nat.le_refl _) _
  have k0 : (w.alloc (.cells #[.int .i64 o.ev, .int .i64 o.by_] 46)).heap[w.heap.size]? = some (.cells #[.int .i64 o.ev, .int .i64 o.by_] 46 (0, 0)) := by rw [heapq_alloc, if_pos rfl]
  obtain ⟨c0, c1⟩ := cells2 k0
  obtain ⟨e0, e1⟩ := cells2 (blk hb0 hx)
  have g : (o.ev == d.ev) = false := beq_eq_false_iff_ne.2 hne
  have HB := Lib.hid hb0
  clear hb0 k0 hx hne
  go_enter Tryz.func67, Tryz.ntmps67
  go_upto_region 1 with (fail)
  generalize w.alloc (.cells #[.int .i64 o.ev, .int .i64 o.by_] 46) = w0 at *
  go_wp2
  go_ret
  exact ⟨by rw [← g]; rfl, HB.out⟩
set_option maxRecDepth 100000 in
set_option maxHeartbeats 4000000 in
theorem IndexDl_no (w : World) (B : Nat) (A : Option Addr) (n c : Nat) (l : List Dl) (d : Dl) (x : Nat) (hl : l.length = n) (hn : n ≤ 1000) (h : Rd w B A (dlCells l)) (hB : B ≤ w.heap.size) (hx : w.heap[x]? = some (.cells #[.int .i64 d.ev, .int .i64 d.by_] 46 (0, 0))) (hne : ∀ o ∈ l, o.ev ≠ d.ev) :
    Calls Tryz.prog 79 #[.slice A n c, .func (.func 67) #[] #[.pointer (some ⟨x, 0, none⟩)]] w fun e w' => e = .returned (.int .i64 (-1)) ∧ Below w.heap.size w w' := by
  have HL := Lib.hid hl
  clear hl
  go_enter Tryz.func79, Tryz.ntmps79
  go_wp2
  go_loopw [5, 8] (fun _ i wr => ∃ k : Nat, k ≤ n ∧ i = .int .i64 k ∧ Below w.heap.size w wr) (fun _ i _ => n - (intOf i).toNat)
  case atStart => exact ⟨0, Nat.zero_le _, rfl, Below.refl _ _⟩
  case round =>
    obtain ⟨k, hk, rfl, hb⟩ := hrel
    have HBR := Lib.hid hb
    have hsr := hb.size
    have hr := h.below (hb.mono hB)
    have hxR := blk hb hx
    clear hb
    by_cases hlt : k < n
    · obtain ⟨o, ho⟩ : ∃ o, l[k]? = some o := ⟨_, List.getElem?_eq_getElem (by rw [HL.out]; exact hlt)⟩
      obtain ⟨b, off, rfl, _, c0, c1⟩ := hr.dl ho
      have SN := sameEv_no wr o d x hxR (hne o (List.mem_of_getElem? ho))
      clear hxR ho hr
      go_wp2_with (go_at_call 67; refine SN.mono ?_; rintro e w2 ⟨rfl, hb2⟩)
      have HB2 := Lib.hid (HBR.out.trans (hb2.mono hsr))
      clear hb2 c0 c1 SN
      go_roundw
      case rel => exact ⟨k + 1, by omega, by go_num, HB2.out⟩
      case measure => simp [intOf]; omega
    · clear hr hxR
      go_wp2
      go_ret
      exact ⟨rfl, HBR.out⟩
theorem ContainsDl_no (w : World) (B : Nat) (A : Option Addr) (n c : Nat) (l : List Dl) (d : Dl) (x : Nat) (hl : l.length = n) (hn : n ≤ 1000) (h : Rd w B A (dlCells l)) (hB : B ≤ w.heap.size) (hx : w.heap[x]? = some (.cells #[.int .i64 d.ev, .int .i64 d.by_] 46 (0, 0))) (hne : ∀ o ∈ l, o.ev ≠ d.ev) :
    Calls Tryz.prog 66 #[.slice A n c, .func (.func 67) #[] #[.pointer (some ⟨x, 0, none⟩)]] w fun e w' => e = .returned (.bool false) ∧ Below w.heap.size w w' := by
  have IX := IndexDl_no w B A n c l d x hl hn h hB hx hne
  clear h hx hne hl
  go_enter Tryz.func66, Tryz.ntmps66
  go_wp2_with (go_at_call 79; refine IX.mono ?_; rintro e w1 ⟨rfl, hb1⟩)
  go_ret
  exact ⟨rfl, hb1⟩

theorem eventErr_right (W : World) (Ae : Option Addr) (ne ce : Nat) (Aa : Option Addr) (na ca : Nat) (i : Int) (hn : ne ≤ 1000000000) (hi : 0 ≤ i ∧ i < ne) :
    Calls Tryz.prog 35 #[.agg #[.slice Ae ne ce, .slice Aa na ca], .int .i64 i] W fun e w' => e = .returned (.int .i64 0) ∧ Below W.heap.size W w' := by
  have h9 := eventErr_any W Ae ne ce Aa na ca i hn
  rw [show withinB i 0 ((ne : Int) - 1) = true by simp [withinB]; omega] at h9
  exact h9
set_option maxRecDepth 100000 in
set_option maxHeartbeats 8000000 in
theorem delaysErr_right (w : World) (Ae : Option Addr) (ne ce : Nat) (Aa : Option Addr) (na ca : Nat) (hne : ne ≤ 1000000000) (B : Nat) (A : Option Addr) (n c : Nat) (l : List Dl) (hl : l.length = n) (hnc : n ≤ c) (h : Rd w B A (dlCells l)) (hB : B ≤ w.heap.size) (hR : DlsR ne l) :
    Calls Tryz.prog 44 #[.agg #[.slice Ae ne ce, .slice Aa na ca], .slice A n c] w fun e w' => e = .returned (.int .i64 0) ∧ Below w.heap.size w w' := by
  have hn12 : n ≤ 12 := by rw [← hl]; exact hR.n
  have hb0 : Below w.heap.size w (w.alloc (.cells #[.slice Ae ne ce, .slice Aa na ca] 66)) := (Below.refl _ _).alloc (Nat.le_refl _) _
  have k0 : (w.alloc (.cells #[.slice Ae ne ce, .slice Aa na ca] 66)).heap[w.heap.size]? = some (.cells #[.slice Ae ne ce, .slice Aa na ca] 66 (0, 0)) := by rw [heapq_alloc, if_pos rfl]
  have h0 := h.below (hb0.mono hB)
  have hs := hb0.size
  have HB := Lib.hid hb0
  have HL := Lib.hid hl
  clear h hb0 hl
  go_enter Tryz.func44, Tryz.ntmps44
  go_upto_region 1 with (fail)
  generalize w.alloc (.cells #[.slice Ae ne ce, .slice Aa na ca] 66) = w0 at *
  go_wp2
  go_loopw [14] (fun i wr => ∃ k : Nat, k ≤ n ∧ i = .int .i64 k ∧ Below w0.heap.size w0 wr) (fun i _ => n - (intOf i).toNat)
  case atStart => exact ⟨0, Nat.zero_le _, rfl, Below.refl _ _⟩
  case round =>
    obtain ⟨k, hk, rfl, hb⟩ := hrel
    have HBR := Lib.hid hb
    have hsr := hb.size
    have hr := h0.below (hb.mono (Nat.le_trans hB hs))
    have kN := blk hb k0
    clear hb
    by_cases hlt : k < n
    · obtain ⟨d, hd⟩ : ∃ d, l[k]? = some d := ⟨_, List.getElem?_eq_getElem (by rw [HL.out]; exact hlt)⟩
      obtain ⟨b, off, rfl, _, c0, c1⟩ := hr.dl hd
      obtain ⟨hd1, hd2⟩ := hR.r d (List.mem_of_getElem? hd)
      have hno : ∀ o ∈ l.take k, o.ev ≠ d.ev := fun o ho => by
        obtain ⟨j, hj⟩ := List.mem_iff_getElem?.1 ho
        have hjk : j < k := by
          have := (List.getElem?_eq_some_iff.1 hj).1
          rw [List.length_take] at this
          omega
        rw [List.getElem?_take, if_pos hjk] at hj
        obtain ⟨p1, p2⟩ := List.getElem?_eq_some_iff.1 hj
        obtain ⟨p3, p4⟩ := List.getElem?_eq_some_iff.1 hd
        have := List.pairwise_iff_getElem.1 hR.u j k p1 p3 hjk
        rwa [p2, p4] at this
      have hba : Below wr.heap.size wr (wr.alloc (.cells #[.int .i64 d.ev, .int .i64 d.by_] 46)) := (Below.refl _ _).alloc (Nat.le_refl _) _
      have kd : (wr.alloc (.cells #[.int .i64 d.ev, .int .i64 d.by_] 46)).heap[wr.heap.size]? = some (.cells #[.int .i64 d.ev, .int .i64 d.by_] 46 (0, 0)) := by rw [heapq_alloc, if_pos rfl]
      go_upto_region 6 with (fail)
      replace kN := blk hba kN
      have hrA : Rd (wr.alloc (.cells #[.int .i64 d.ev, .int .i64 d.by_] 46)) B (some ⟨b, off, none⟩) (dlCells (l.take k)) := fun j u hu => by
        have h7 : j < (dlCells (l.take k)).length := (List.getElem?_eq_some_iff.1 hu).1
        refine (hr.below (hba.mono (Nat.le_trans (Nat.le_trans hB hs) hsr))) j u ?_
        have h8 : dlCells l = dlCells (l.take k) ++ dlCells (l.drop k) := by
          rw [dlCells, dlCells, dlCells, ← List.flatMap_append, List.take_append_drop]
        rw [h8, List.getElem?_append_left h7]
        exact hu
      have HB1 := Lib.hid (HBR.out.trans (hba.mono hsr))
      have hs1 : w0.heap.size ≤ (wr.alloc (.cells #[.int .i64 d.ev, .int .i64 d.by_] 46)).heap.size := Nat.le_trans hsr hba.size
      clear hba c0 c1 hr
      generalize wr.alloc (.cells #[.int .i64 d.ev, .int .i64 d.by_] 46) = w1 at *
      generalize wr.heap.size = y at *
      have CN := fun cc => ContainsDl_no w1 B (some ⟨b, off, none⟩) k cc (l.take k) d y (by rw [List.length_take, HL.out]; omega) (by omega) hrA (Nat.le_trans (Nat.le_trans hB hs) hs1) kd hno
      clear hno hd hrA
      go_upto_region 7 with (go_at_call 66; refine (CN _).mono ?_; rintro e w2 ⟨rfl, hb2⟩)
      replace kN := blk hb2 kN
      replace kd := blk hb2 kd
      have HB2 := Lib.hid (HB1.out.trans (hb2.mono hs1))
      have hs2 : w0.heap.size ≤ w2.heap.size := Nat.le_trans hs1 hb2.size
      clear hb2 CN
      obtain ⟨n0, n1⟩ := cells2 kN
      obtain ⟨f0, f1⟩ := cells2 kd
      have x0 := fun z : Xt w2 => z.cell n0
      have x1 := fun z : Xt w2 => z.cell n1
      have x2 := fun z : Xt w2 => z.cell f0
      have x3 := fun z : Xt w2 => z.cell f1
      have hbd : Below w2.heap.size w2 w2.drew := (Below.refl _ _).drew
      have EE := fun W => eventErr_right W Ae ne ce Aa na ca d.ev hne hd1
      have BE := fun W => byErr_right d.by_ hd2 W
      refine wp_region_eager [12] (fun w' => ∃ x : Xt w2, w' = x.1) (by kernel_rfl) ⟨⟨w2.drew, hbd⟩, rfl⟩ ?_
      refine wpE_reads5 [0, 1, 2, 4, 5, 7, 8] 6 rfl (by kernel_rfl) ?_
      simp only [opsAt_nil, opsAt_cons, consOpt_some, List.getElem?_toArray, List.getElem?_cons_zero, List.getElem?_cons_succ]
      repeat (go_big_quiet_step (fail))
      refine wpQuiet_nil ?_
      show wpE _ _ _ _ _ _ _ _ _ w2.drew
      clear x0 x1 x2 x3 n0 n1 f0 f1 kN kd
      generalize w2.drew = w3 at *
      refine wpE_one (i := 3) rfl (by kernel_rfl) rfl ?_
      unfold wpMid
      simp only [opsAt_nil, opsAt_cons, consOpt_some, List.getElem?_toArray, List.getElem?_cons_zero, List.getElem?_cons_succ]
      go_wp2_with (go_at_call 35; refine (EE _).mono ?_; rintro e w4 ⟨rfl, hb4⟩)
      have hbe := hbd.trans (hb4.mono hbd.size)
      clear hb4 EE hbd
      refine onlyNormal_mk ⟨⟨⟨_, hbe⟩, rfl⟩, ?_⟩
      refine wpE_one (i := 6) rfl (by kernel_rfl) rfl ?_
      unfold wpMid
      simp only [opsAt_nil, opsAt_cons, consOpt_some, List.getElem?_toArray, List.getElem?_cons_zero, List.getElem?_cons_succ]
      go_wp2_with (go_at_call 68; refine (BE _).mono ?_; rintro e w' ⟨rfl, rfl⟩)
      refine onlyNormal_mk ⟨⟨⟨_, hbe⟩, rfl⟩, ?_⟩
      refine wpE_one (i := 9) rfl (by kernel_rfl) rfl ?_
      unfold wpMid
      simp only [opsAt_nil, opsAt_cons, consOpt_some, List.getElem?_toArray, List.getElem?_cons_zero, List.getElem?_cons_succ]
      go_wp2_with (go_at_call 36; refine (unless_any _ _ _).mono ?_; rintro e w' ⟨rfl, rfl⟩)
      refine onlyNormal_mk ⟨⟨⟨_, hbe⟩, rfl⟩, ?_⟩
      refine wpE_one (i := 10) rfl (by kernel_rfl) rfl ?_
      unfold wpMid
      simp only [opsAt_nil, opsAt_cons, consOpt_some, List.getElem?_toArray, List.getElem?_cons_zero, List.getElem?_cons_succ]
      go_wp2
      have F3 := first3 w4 0 0 0
      have hbf : Below w2.heap.size w2 (w4.alloc (.cells #[.int .i64 0, .int .i64 0, .int .i64 0] 35)) := hbe.alloc hbe.size _
      refine onlyNormal_mk ⟨⟨⟨_, hbf⟩, rfl⟩, ?_⟩
      refine wpE_one (i := 11) rfl (by kernel_rfl) rfl ?_
      unfold wpMid
      simp only [opsAt_nil, opsAt_cons, consOpt_some, List.getElem?_toArray, List.getElem?_cons_zero, List.getElem?_cons_succ]
      go_wp2_with (go_at_call 28; refine F3.mono ?_; rintro e w' ⟨rfl, rfl⟩)
      refine onlyNormal_mk ⟨⟨⟨_, hbf⟩, rfl⟩, ?_⟩
      refine wpE_tail rfl (by kernel_rfl) ?_
      simp only [opsAt_nil, opsAt_cons, consOpt_some, List.getElem?_toArray, List.getElem?_cons_zero, List.getElem?_cons_succ]
      have HBF := Lib.hid (HB2.out.trans (hbf.mono hs2))
      clear hbe hbf F3 BE
      go_wp2
      refine onlyNormal_mk ?_
      go_wp2
      go_roundw
      case rel => exact ⟨k + 1, by omega, by go_num, HBF.out⟩
      case measure => simp [intOf]; omega
    · clear hr kN
      go_wp2
      go_ret
      exact ⟨rfl, HB.out.trans (HBR.out.mono hs)⟩
end Go.Proofs.YtnnnpijepdjanaaGreat

namespace Go.Proofs.YtnnnpijepdjanaaGreat
open Go.RowKit

def orI (a b : Int) : Int := if a = 0 then b else a
theorem Or_any (a b : Int) (g c : Nat) (w : World) (h0 : w.cell? ⟨g, 0, none⟩ = some (.int .i64 a)) (h1 : w.cell? ⟨g, 1, none⟩ = some (.int .i64 b)) :
    Calls Tryz.prog 48 #[.slice (some ⟨g, 0, none⟩) 2 c] w fun e w' => e = .returned (.int .i64 (orI a b)) ∧ w = w' := by
  unfold orI
  by_cases ha : a = 0
  · rw [if_pos ha]
    by_cases hb : b = 0
    · go_enter Tryz.func48, Tryz.ntmps48
      go_wp2
      go_loop [5, 8] (fun _ i => ∃ k : Nat, k ≤ 2 ∧ i = .int .i64 k) (fun _ i => 2 - (intOf i).toNat)
      case atStart => exact ⟨0, Nat.zero_le _, rfl⟩
      case round =>
        obtain ⟨k, hk, rfl⟩ := hrel
        by_cases hlt : k < 2
        · have hc : ∃ v : Int, w.cell? ⟨g, k, none⟩ = some (.int .i64 v) ∧ (v != 0) = false := by
            rcases (by omega : k = 0 ∨ k = 1) with rfl | rfl
            · exact ⟨a, h0, by rw [ha]; rfl⟩
            · exact ⟨b, h1, by rw [hb]; rfl⟩
          obtain ⟨v, hc, hv⟩ := hc
          clear ha hb h0 h1
          go_wp2
          go_round
          case rel => exact ⟨k + 1, by omega, by go_num⟩
          case measure => simp [intOf]; omega
        · go_wp2
          go_ret
          exact ⟨rfl, rfl⟩
    · have hv : (b != 0) = true := bne_iff_ne.2 hb
      have ha' : (a != 0) = false := by rw [ha]; rfl
      have HA := Lib.hid ha
      clear ha hb
      go_enter Tryz.func48, Tryz.ntmps48
      go_wp2
      go_loop [5, 8] (fun _ i => ∃ k : Nat, k ≤ 1 ∧ i = .int .i64 k) (fun _ i => 2 - (intOf i).toNat)
      case atStart => exact ⟨0, Nat.zero_le _, rfl⟩
      case round =>
        obtain ⟨k, hk, rfl⟩ := hrel
        rcases (by omega : k = 0 ∨ k = 1) with rfl | rfl
        · go_wp2
          go_round
          case rel => exact ⟨1, by omega, by go_num⟩
          case measure => simp [intOf]
        · go_wp2
          go_ret
          exact ⟨rfl, rfl⟩
  · rw [if_neg ha]
    have hv : (a != 0) = true := bne_iff_ne.2 ha
    clear ha
    go_enter Tryz.func48, Tryz.ntmps48
    go_wp2
    go_loop [5, 8] (fun _ i => i = .int .i64 0) (fun _ i => 2 - (intOf i).toNat)
    case atStart => rfl
    case round =>
      obtain rfl := hrel
      go_wp2
      go_ret
      exact ⟨rfl, rfl⟩


open Go.Sort in
set_option maxRecDepth 100000 in
set_option maxHeartbeats 4000000 in
theorem byTime_any (w : World) (a b : Nat) (x ne B : Nat) (At : Option Addr) (ct : Nat) (l : List Int) (hl : l.length = ne) (hx : w.heap[x]? = some (.cells #[.slice At ne ct] 26 (0, 0))) (ht : Rd w B At (intCells l)) (ha : a < ne) (hb : b < ne) (hne : ne ≤ 1000) (hr : ∀ t ∈ l, 0 ≤ t ∧ t ≤ 10000000) :
    Calls Tryz.prog 47 #[.int .i64 a, .int .i64 b, .pointer (some ⟨x, 0, none⟩)] w fun e w' => e = .returned (.int .i64 (orI (gt l a - gt l b) ((a : Int) - b))) ∧ ∃ q os', w' = grow (World.drewN w q) os' := by
  obtain ⟨ta, hta⟩ : ∃ t, l[a]? = some t := ⟨_, List.getElem?_eq_getElem (by omega)⟩
  obtain ⟨tb, htb⟩ : ∃ t, l[b]? = some t := ⟨_, List.getElem?_eq_getElem (by omega)⟩
  obtain ⟨bt, ot, hAt, _, e1⟩ := ht a (.int .i64 ta) (by simp [intCells, hta])
  obtain ⟨bt', ot', hAt', _, e2⟩ := ht b (.int .i64 tb) (by simp [intCells, htb])
  subst hAt
  cases hAt'
  have hb1 := hr ta (List.mem_of_getElem? hta)
  have hb2 := hr tb (List.mem_of_getElem? htb)
  rw [gt_at hta, gt_at htb]
  have cx : w.cell? ⟨x, 0, none⟩ = some (.slice (some ⟨bt, ot, none⟩) ne ct) := by rw [cell_of_row _ _ _ _ _ _ hx]; rfl
  have hbd : Below w.heap.size w w.drew := (Below.refl _ _).drew
  clear hta htb hr ht hx hl
  go_enter Tryz.func47, Tryz.ntmps47
  go_upto_region 1 with (fail)
  have x0 := fun z : Xt w => z.cell cx
  have x1 := fun z : Xt w => z.cell e1
  have x2 := fun z : Xt w => z.cell e2
  refine wp_region_eager [14] (fun w' => ∃ x : Xt w, w' = x.1) (by kernel_rfl) ⟨⟨w.drew, hbd⟩, rfl⟩ ?_
  refine wpE_reads5 [0, 1, 2, 3, 4, 5, 6, 7, 8, 9, 10, 11] 3 rfl (by kernel_rfl) ?_
  simp only [opsAt_nil, opsAt_cons, consOpt_some, List.getElem?_toArray, List.getElem?_cons_zero, List.getElem?_cons_succ]
  repeat (go_big_quiet_step (fail))
  refine wpQuiet_nil ?_
  show wpE _ _ _ _ _ _ _ _ _ w.drew
  clear x0 x1 x2 cx e1 e2
  refine wpE_one (i := 12) rfl (by kernel_rfl) rfl ?_
  unfold wpMid
  simp only [opsAt_nil, opsAt_cons, consOpt_some, List.getElem?_toArray, List.getElem?_cons_zero, List.getElem?_cons_succ]
  go_wp2
  have k1 : (w.drew.alloc (.cells #[.int .i64 (ta - tb), .int .i64 ((a : Int) - b)] 3)).heap[w.drew.heap.size]? = some (.cells #[.int .i64 (ta - tb), .int .i64 ((a : Int) - b)] 3 (0, 0)) := by rw [heapq_alloc, if_pos rfl]
  have hbe : Below w.heap.size w (w.drew.alloc (.cells #[.int .i64 (ta - tb), .int .i64 ((a : Int) - b)] 3)) := hbd.alloc hbd.size _
  obtain ⟨c0, c1⟩ := cells2 k1
  have OR := fun c => Or_any (ta - tb) ((a : Int) - b) w.drew.heap.size c _ c0 c1
  refine onlyNormal_mk ⟨⟨⟨_, hbe⟩, rfl⟩, ?_⟩
  refine wpE_one (i := 13) rfl (by kernel_rfl) rfl ?_
  unfold wpMid
  simp only [opsAt_nil, opsAt_cons, consOpt_some, List.getElem?_toArray, List.getElem?_cons_zero, List.getElem?_cons_succ]
  clear k1 c0 c1
  go_wp2_with (go_at_call 48; refine (OR _).mono ?_; rintro e w' ⟨rfl, rfl⟩)
  refine onlyNormal_mk ⟨⟨⟨_, hbe⟩, rfl⟩, ?_⟩
  refine wpE_tail rfl (by kernel_rfl) ?_
  simp only [opsAt_nil, opsAt_cons, consOpt_some, List.getElem?_toArray, List.getElem?_cons_zero, List.getElem?_cons_succ]
  go_wp2
  refine onlyNormal_mk ?_
  go_wp2
  go_ret
  exact ⟨rfl, 1, _, by rw [alloc_eq_grow]; rfl⟩
end Go.Proofs.YtnnnpijepdjanaaGreat
