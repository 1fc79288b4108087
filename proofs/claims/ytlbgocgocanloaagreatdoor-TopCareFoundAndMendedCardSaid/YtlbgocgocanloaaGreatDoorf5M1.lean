/- Found, written down, mended: plain. What is found is told back as it was, just the least beams are open, and the first windows are all the first one. -/
import Derived.Test.YtlbgocgocanloaaGreatDoorf5J2
import Derived.Test.YtlbgocgocanloaaGreatDoorf5H5
namespace Go.Proofs.YtlbgocgocanloaaGreatDoor
/-- the job at each beam -/
def jobs (k : Nat) : List Jb := List.replicate k (10, 0, 1)
theorem jobs_len (k : Nat) : (jobs k).length = k := by simp [jobs]
theorem jobs_succ (k : Nat) : jobs (k + 1) = jobs k ++ [(10, 0, 1)] := List.replicate_succ'
theorem place_first : ∀ (k : Nat) (h : Int), 0 ≤ h → placeM (jobs k) [h, 0] = if 10 * (k : Int) ≤ h then some (List.replicate k 0) else none
  | 0, h, h0 => by
    rw [if_pos (by omega)]
    rfl
  | k + 1, h, h0 => by
    have hr : List.range ((1 : Int) + 1 - 0).toNat = [0, 1] := rfl
    have a0 : atI [h, 0] (0 + ((0 : Nat) : Int)) = h := rfl
    have a1 : atI [h, 0] (0 + ((1 : Nat) : Int)) = 0 := rfl
    have t0 : takeI [h, 0] (0 + ((0 : Nat) : Int)) 10 = [h - 10, 0] := rfl
    have e : jobs (k + 1) = (10, 0, 1) :: jobs k := rfl
    rw [e, placeM]
    simp only [hr, List.findSome?_cons, List.findSome?_nil, a0, a1, t0]
    rw [if_pos (show (0 : Int) < 10 by omega)]
    by_cases hh : h < 10
    · rw [if_pos hh, if_neg (by omega)]
    · rw [if_neg hh, place_first k (h - 10) (by omega)]
      by_cases hk : 10 * (k : Int) ≤ h - 10
      · rw [if_pos hk, if_pos (by omega)]
        rfl
      · rw [if_neg hk, if_neg (by omega)]
        rfl
theorem jbGo_jobs : ∀ k, jbGo 2 (jobs k) = 0
  | 0 => rfl
  | k + 1 => by
    have e : jobs (k + 1) = (10, 0, 1) :: jobs k := rfl
    rw [e, jbGo, if_pos (by decide), jbGo_jobs k]
theorem work_ok {k : Nat} {h : Int} (hk : k ≤ 6) (h0 : 0 ≤ h) (h1 : h ≤ 100) : workM [h, 0] (jobs k) = 0 := by
  have hb : [h, 0].any badHr = false := by simp [badHr, withinB]; omega
  have e2 : [h, (0 : Int)].length = 2 := rfl
  unfold workM
  rw [e2, if_pos (by omega), if_pos ⟨by omega, by rw [jobs_len]; exact hk⟩, if_neg (by rw [hb]; simp), jbGo_jobs]
/-- the name in the law's findings -/
def insB : ByteArray := ⟨#[105, 110, 115]⟩
/-- what is found: the first k of the beams -/
def fds (T : List Int) (off : Int) (k : Nat) : List Fd := (List.range k).map fun i => (insB, ((i : Nat) : Int), T[i]?.getD 0, off)
/-- the same, mended: later, and without anything wrong -/
def fds2 (T : List Int) (k : Nat) : List Fd := (List.range k).map fun i => (insB, 100, T[i]?.getD 0, 0)
theorem fds_len (T : List Int) (off : Int) (k : Nat) : (fds T off k).length = k := by simp [fds]
theorem fds2_len (T : List Int) (k : Nat) : (fds2 T k).length = k := by simp [fds2]
theorem fds_succ (T : List Int) (off : Int) (k : Nat) : fds T off (k + 1) = fds T off k ++ [(insB, (k : Int), T[k]?.getD 0, off)] := by simp [fds, List.range_succ]
theorem fds2_succ (T : List Int) (k : Nat) : fds2 T (k + 1) = fds2 T k ++ [(insB, 100, T[k]?.getD 0, 0)] := by simp [fds2, List.range_succ]
theorem fds_map (T : List Int) (off : Int) : (fds T off T.length).map fdF = T.map fun x => (x, off) := by
  refine List.ext_getElem (by simp [fds]) fun i h1 h2 => ?_
  simp [fds, fdF]
  simp at h2
  simp [h2]
theorem fds2_map (T : List Int) : (fds2 T T.length).map fdF = T.map fun x => (x, 0) := by
  refine List.ext_getElem (by simp [fds2]) fun i h1 h2 => ?_
  simp [fds2, fdF]
  simp at h2
  simp [h2]
theorem lastOff_all (o x : Int) : ∀ T : List Int, lastOff (T.map fun y => (y, o)) x = if x ∈ T then some o else none
  | [] => by simp [lastOff]
  | y :: T => by
    rw [List.map_cons, lastOff, lastOff_all o x T]
    by_cases h : x ∈ T
    · simp [h]
    · by_cases h2 : y = x
      · subst h2; simp [h]
      · have h3 : ¬ x = y := fun e => h2 e.symm
        simp [h, h2, h3]
theorem lastOff_app (x : Int) (b : List Fnd) : ∀ a : List Fnd, lastOff (a ++ b) x = (lastOff b x).or (lastOff a x)
  | [] => by simp [lastOff]
  | f :: a => by
    rw [List.cons_append, lastOff, lastOff_app x b a, lastOff, Option.or_assoc]
/-- just the beams that are written down are open -/
theorem open_found {T : List Int} {off : Int} (hs : T.Pairwise (· < ·)) (ho : 1 ≤ off) : openM ((fds T off T.length).map fdF) (off - 1) = T := by
  refine sorted_ext (openM_sorted _ _) hs fun x => openM_mem.trans ?_
  rw [fds_map]
  unfold openB
  rw [lastOff_all]
  by_cases h : x ∈ T
  · simp only [h, iff_true]
    refine ⟨off, rfl, ?_⟩
    unfold sizeI
    omega
  · simp [h]
/-- behind findings without anything wrong nothing is open -/
theorem open_mended {T : List Int} {off : Int} (ho : 1 ≤ off) : openM ((fds T off T.length ++ fds2 T T.length).map fdF) (off - 1) = [] := by
  refine sorted_ext (openM_sorted _ _) List.Pairwise.nil fun x => openM_mem.trans ?_
  rw [List.map_append, fds_map, fds2_map]
  unfold openB
  rw [lastOff_app, lastOff_all, lastOff_all]
  by_cases h : x ∈ T
  · simp [h]
    unfold sizeI
    omega
  · simp [h]
theorem ins_name : nameB insB = true := by decide
theorem fd_ok {d x o : Int} (hd : 0 ≤ d ∧ d ≤ 100000) (hx : 0 ≤ x ∧ x ≤ 100000) (ho : -10000 ≤ o ∧ o ≤ 10000) : fdE (insB, d, x, o) = 0 := by
  unfold fdE
  rw [if_pos ins_name, if_pos (by simp only [rightB, withinB, Bool.and_eq_true, decide_eq_true_eq]; omega)]
theorem fdGo_of : ∀ {l : List Fd}, (∀ x ∈ l, fdE x = 0) → fdGo l = 0
  | [], _ => rfl
  | x :: l, h => by
    rw [fdGo, if_pos (h x (by simp))]
    exact fdGo_of fun y hy => h y (by simp [hy])
theorem getD_in {T : List Int} (hT : ∀ x ∈ T, 0 ≤ x ∧ x ≤ 100000) (i : Nat) : 0 ≤ T[i]?.getD 0 ∧ T[i]?.getD 0 ≤ 100000 := by
  cases h : T[i]? with
  | none => simp
  | some x => exact hT x (List.mem_of_getElem? h)
theorem fds_ok {T : List Int} {off : Int} {k : Nat} (hT : ∀ x ∈ T, 0 ≤ x ∧ x ≤ 100000) (h1 : 1 ≤ off) (h2 : off ≤ 10000) (hk : k ≤ 6) : ∀ x ∈ fds T off k, fdE x = 0 := fun x hx => by
  obtain ⟨i, hi, rfl⟩ := List.mem_map.1 hx
  rw [List.mem_range] at hi
  exact fd_ok (by omega) (getD_in hT i) (by omega)
theorem fds2_ok {T : List Int} {k : Nat} (hT : ∀ x ∈ T, 0 ≤ x ∧ x ≤ 100000) : ∀ x ∈ fds2 T k, fdE x = 0 := fun x hx => by
  obtain ⟨i, hi, rfl⟩ := List.mem_map.1 hx
  exact fd_ok (by omega) (getD_in hT i) (by omega)
theorem fds_size {T : List Int} {off : Int} {k : Nat} : ∀ x ∈ fds T off k, x.1.size ≤ 1000000000 := fun x hx => by
  obtain ⟨i, _, rfl⟩ := List.mem_map.1 hx
  exact (by decide : insB.size ≤ 1000000000)
theorem fds2_size {T : List Int} {k : Nat} : ∀ x ∈ fds2 T k, x.1.size ≤ 1000000000 := fun x hx => by
  obtain ⟨i, _, rfl⟩ := List.mem_map.1 hx
  exact (by decide : insB.size ≤ 1000000000)
theorem openErr_found {l : List Fd} {off : Int} (hl : l.length ≤ 100) (h : ∀ x ∈ l, fdE x = 0) (h1 : 1 ≤ off) (h2 : off ≤ 10000) : openErr l (off - 1) = 0 := by
  unfold openErr fdM
  rw [if_pos hl, fdGo_of h, if_pos rfl, if_pos (by simp only [withinB, Bool.and_eq_true, decide_eq_true_eq]; omega)]
end Go.Proofs.YtlbgocgocanloaaGreatDoor
