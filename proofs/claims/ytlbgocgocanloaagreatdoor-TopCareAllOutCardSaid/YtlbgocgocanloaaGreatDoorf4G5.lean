/- All get out: plain: the events that are accepted are told and read back; an alarm and open doors are accepted. -/
import Derived.Test.YtlbgocgocanloaaGreatDoorf4G4
import Derived.Test.YtlbgocgocanloaaGreatDoorf4Y5
namespace Go.Proofs.YtlbgocgocanloaaGreatDoor
open Go.RowKit
theorem run_right {D : Nat} {T S : Int} : ∀ (l : List Ev) (i : Nat) (s s' : Tr), runTr D T S s l i = .inr s' → Right D T S s → Right D T S s'
  | [], _, s, s', h, hs => by
    obtain rfl : s = s' := Sum.inr.inj h
    exact hs
  | e :: l, i, s, s', h, hs => by
    unfold runTr at h
    split at h
    · rename_i h0
      exact run_right l (i + 1) _ s' h (apply_right hs h0)
    · cases h
/-- what is told of events, and read back -/
def toldM (l : List Ev) : List Ev := l.filterMap fun x => parE (fmtE x.1 x.2.1 x.2.2)
theorem evE_fields {D : Nat} {p d : Bool} {pl dr : Int} (hD : D ≤ 6) (h : evE D p d pl dr = 0) : (p = false → pl = 0) ∧ (d = false → dr = 0) ∧ 0 ≤ pl ∧ pl ≤ 1000000000 ∧ 0 ≤ dr ∧ dr ≤ 1000000000 := by
  unfold evE at h
  simp only [firstE_cons, firstE_nil, and_true] at h
  rw [unlessE_zero (by omega), unlessE_zero (by omega), unlessE_zero (by omega)] at h
  obtain ⟨h1, h2, h3⟩ := h
  simp only [isPlaceB, withinB] at h2 h3
  cases p <;> cases d <;> simp at h1 h2 h3 <;> refine ⟨?_, ?_, ?_⟩ <;> (try intro h) <;> first | omega | simp_all
theorem told_one {D : Nat} {T S : Int} {s : Tr} {k pl dr : Int} (hD : D ≤ 6) (h : applyE D T S s k pl dr = 0) : parE (fmtE k pl dr) = some (k, pl, dr) := by
  unfold applyE at h
  split at h
  all_goals first
    | exact absurd h (by decide)
    | (obtain ⟨h1, _⟩ := seqE_zero h
       obtain ⟨a1, a2, a3, a4, a5, a6⟩ := evE_fields hD h1
       exact parE_fmt _ _ _ (by omega) (by omega) (by first | (intro h; exact absurd rfl h) | (intro _; exact a1 rfl)) (by first | (intro h; exact absurd (by omega) h) | (intro _; exact a2 rfl)) a3 a4 a5 a6)
theorem told_all {D : Nat} {T S : Int} (hD : D ≤ 6) : ∀ (l : List Ev) (i : Nat) (s s' : Tr), runTr D T S s l i = .inr s' → toldM l = l
  | [], _, _, _, _ => rfl
  | e :: l, i, s, s', h => by
    unfold runTr at h
    split at h
    · rename_i h0
      have ih := told_all hD l (i + 1) _ s' h
      unfold toldM at ih ⊢
      rw [List.filterMap_cons, told_one hD h0]
      simp only [ih]
    · cases h
theorem chk_right {D : Nat} {T S : Int} {s : Tr} (h0 : doorsE D T S = 0) (h : Right D T S s) : chkE D T S s = 0 := by
  unfold chkE
  rw [if_pos h0]
  exact right_iff.2 h
theorem full_apply {D : Nat} {T S : Int} {s : Tr} {k pl dr : Int} (h0 : doorsE D T S = 0) (h : Right D T S s) : fullE D T S s k pl dr = applyE D T S s k pl dr := by
  unfold fullE
  rw [if_pos (chk_right h0 h), Int.toNat_natCast]
theorem alarm_ok {D : Nat} {T S : Int} {s : Tr} (h : s.al = false) : applyE D T S s 6 0 0 = 0 := by
  have h1 : alarmE s = 0 := by unfold alarmE; rw [h]; rfl
  show seqE (evE D false false 0 0) (alarmE s) = 0
  rw [h1]
  unfold seqE
  split <;> rfl
theorem open_ok {D d : Nat} {T S : Int} {s : Tr} (hd : d < D) (hm : s.mv = false) (ha : s.al = true) (ho : s.doors[d]?.getD false = false) : applyE D T S s 4 0 d = 0 := by
  have h1 : openE T S s d = 0 := by unfold openE; rw [hm, ha, ho]; rfl
  have h2 : evE D false true 0 d = 0 := by
    have : withinB (d : Int) 0 ((D : Int) - 1) = true := by simp only [withinB, Bool.and_eq_true, decide_eq_true_eq]; omega
    unfold evE
    rw [this]
    rfl
  show seqE (evE D false true 0 d) (openE T S s (d : Int).toNat) = 0
  rw [h2, Int.toNat_natCast, h1]
  rfl
theorem doors_le {ds : List Bool} {d : Nat} (hd : d < ds.length) : DoorsLe ds (ds.set d true) := fun i h => by
  rw [getD_set hd]
  split
  · rfl
  · exact h
end Go.Proofs.YtlbgocgocanloaaGreatDoor
