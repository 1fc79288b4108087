/- The lines of activities of the fixed text. -/
import Derived.Test.YtnnnpijepdjanaaGreatC6
namespace Go.Proofs.YtnnnpijepdjanaaGreat
open Go.RowKit

theorem wd_at : ∀ (l : List (ByteArray × Nat)) (i : Nat) (e : ByteArray × Nat), l[i]? = some e → (wdCells l)[i * 2]? = some (.string e.1)
  | [], _, _, h => by simp at h
  | x :: l, 0, e, h => by
    cases h
    rfl
  | x :: l, i + 1, e, h => by
    have h1 := wd_at l i e h
    rw [wdCells, List.flatMap_cons, Nat.succ_mul]
    exact h1
structure LnA (k : Nat) (kw fm : ByteArray) (ws : List (ByteArray × Nat)) (vs : List Int) (b2 : Bool) : Prop where
  sp : splitF (exLines.getD k ⟨#[]⟩) = (kw, 1) :: ws
  lw : ws.length = fm.size
  lv : vs.length = fm.size
  f4 : 4 ≤ fm.size
  f5 : fm.size ≤ 5
  ke : (kw.toList == [101, 118, 101, 110, 116]) = false
  kc : (kw.toList == [99, 111, 110, 110, 101, 99, 116]) = b2
  fo : (if b2 then formC else formO) = fm
  kd : numT kindW kw = ((k - 4 : Nat) : Int)
  k6 : k - 4 = 2 → fm.size = 5
  rd : ∀ i < fm.size, readE (fm.data.toList.getD i 0).toNat (ws.getD i (⟨#[]⟩, 0)).1 exEvs = some (vs.getD i 0)
  sz : ∀ i < fm.size, (ws.getD i (⟨#[]⟩, 0)).1.size ≤ 1000000
  ac : (exActs[k - 4]?).map actVals = some [.int .i64 ((k - 4 : Nat) : Int), .int .i64 (vs.getD 0 0), .int .i64 (vs.getD 1 0), .int .i64 (vs.getD 2 0), .int .i64 (vs.getD 3 0), .int .i64 (if k - 4 = 2 then vs.getD 4 0 else 0)]
  li : (strCells (exLines ++ [⟨#[]⟩]))[k]? = some (.string (exLines.getD k ⟨#[]⟩))
  lz : (exLines.getD k ⟨#[]⟩).size ≤ 1000000
theorem ex_lineA : ∀ k, 4 ≤ k → k < 8 → ∃ kw fm ws vs b2, LnA k kw fm ws vs b2 := by
  intro k h4 h8
  match k, h4, h8 with
  | 4, _, _ => exact ⟨⟨#[114, 117, 110]⟩, ⟨#[101, 101, 100, 109]⟩, [(⟨#[97]⟩, 5), (⟨#[98]⟩, 7), (⟨#[49, 48]⟩, 9), (⟨#[50, 48]⟩, 12)], [0, 1, 10, 20], false, by decide +kernel, rfl, rfl, by decide, by decide, by decide +kernel, by decide +kernel, by decide +kernel, by decide +kernel, by decide, by decide +kernel, by decide +kernel, rfl, rfl, by decide +kernel⟩
  | 5, _, _ => exact ⟨⟨#[115, 116, 111, 112]⟩, ⟨#[101, 101, 100, 109]⟩, [(⟨#[98]⟩, 6), (⟨#[99]⟩, 8), (⟨#[53]⟩, 10), (⟨#[45]⟩, 12)], [1, 2, 5, -1], false, by decide +kernel, rfl, rfl, by decide, by decide, by decide +kernel, by decide +kernel, by decide +kernel, by decide +kernel, by decide, by decide +kernel, by decide +kernel, rfl, rfl, by decide +kernel⟩
  | 6, _, _ => exact ⟨⟨#[99, 111, 110, 110, 101, 99, 116]⟩, ⟨#[101, 101, 100, 109, 100]⟩, [(⟨#[99]⟩, 9), (⟨#[100]⟩, 11), (⟨#[51]⟩, 13), (⟨#[45]⟩, 15), (⟨#[52]⟩, 17)], [2, 3, 3, -1, 4], true, by decide +kernel, rfl, rfl, by decide, by decide, by decide +kernel, by decide +kernel, by decide +kernel, by decide +kernel, by decide, by decide +kernel, by decide +kernel, rfl, rfl, by decide +kernel⟩
  | 7, _, _ => exact ⟨⟨#[104, 101, 97, 100, 119, 97, 121]⟩, ⟨#[101, 101, 100, 109]⟩, [(⟨#[97]⟩, 9), (⟨#[100]⟩, 11), (⟨#[51, 48]⟩, 13), (⟨#[52, 48]⟩, 16)], [0, 3, 30, 40], false, by decide +kernel, rfl, rfl, by decide, by decide, by decide +kernel, by decide +kernel, by decide +kernel, by decide +kernel, by decide, by decide +kernel, by decide +kernel, rfl, rfl, by decide +kernel⟩
end Go.Proofs.YtnnnpijepdjanaaGreat
