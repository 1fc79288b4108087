/- The fixed text: its lines, words and what they tell. -/
import Derived.Test.YtnnnpijepdjanaaGreatC5
namespace Go.Proofs.YtnnnpijepdjanaaGreat
open Go.RowKit

def exText : ByteArray := ⟨([101, 118, 101, 110, 116, 32, 97, 10, 101, 118, 101, 110, 116, 32, 98, 10, 101, 118, 101, 110, 116, 32, 99, 10, 101, 118, 101, 110, 116, 32, 100, 10, 114, 117, 110, 32, 97, 32, 98, 32, 49, 48, 32, 50, 48, 10, 115].append [116, 111, 112, 32, 98, 32, 99, 32, 53, 32, 45, 10, 99, 111, 110, 110, 101, 99, 116, 32, 99, 32, 100, 32, 51, 32, 45, 32, 52, 10, 104, 101, 97, 100, 119, 97, 121, 32, 97, 32, 100, 32, 51, 48, 32, 52, 48, 10]).toArray⟩
theorem Text_any (w : World) : Calls Tryz.prog 34 #[] w fun e w' => e = .returned (.string exText) ∧ w = w' := by
  go_enter Tryz.func34, Tryz.ntmps34
  go_wp2
  go_ret
  exact ⟨rfl, rfl⟩
def exEvs : List ByteArray := [⟨#[97]⟩, ⟨#[98]⟩, ⟨#[99]⟩, ⟨#[100]⟩]
def exLines : List ByteArray := [⟨#[101, 118, 101, 110, 116, 32, 97]⟩, ⟨#[101, 118, 101, 110, 116, 32, 98]⟩, ⟨#[101, 118, 101, 110, 116, 32, 99]⟩, ⟨#[101, 118, 101, 110, 116, 32, 100]⟩, ⟨#[114, 117, 110, 32, 97, 32, 98, 32, 49, 48, 32, 50, 48]⟩, ⟨#[115, 116, 111, 112, 32, 98, 32, 99, 32, 53, 32, 45]⟩, ⟨#[99, 111, 110, 110, 101, 99, 116, 32, 99, 32, 100, 32, 51, 32, 45, 32, 52]⟩, ⟨#[104, 101, 97, 100, 119, 97, 121, 32, 97, 32, 100, 32, 51, 48, 32, 52, 48]⟩]
/-- a line: its kind's word, the number of the word, the form, the words with places, what they tell -/
structure Ln where
  kw : ByteArray
  kd : Int
  fm : ByteArray
  ws : List (ByteArray × Nat)
  vs : List Int
def exLn : List Ln := [⟨⟨#[101, 118, 101, 110, 116]⟩, -1, ⟨#[110]⟩, [(⟨#[101, 118, 101, 110, 116]⟩, 1), (⟨#[97]⟩, 7)], [0]⟩, ⟨⟨#[101, 118, 101, 110, 116]⟩, -1, ⟨#[110]⟩, [(⟨#[101, 118, 101, 110, 116]⟩, 1), (⟨#[98]⟩, 7)], [0]⟩, ⟨⟨#[101, 118, 101, 110, 116]⟩, -1, ⟨#[110]⟩, [(⟨#[101, 118, 101, 110, 116]⟩, 1), (⟨#[99]⟩, 7)], [0]⟩, ⟨⟨#[101, 118, 101, 110, 116]⟩, -1, ⟨#[110]⟩, [(⟨#[101, 118, 101, 110, 116]⟩, 1), (⟨#[100]⟩, 7)], [0]⟩, ⟨⟨#[114, 117, 110]⟩, 0, ⟨#[101, 101, 100, 109]⟩, [(⟨#[114, 117, 110]⟩, 1), (⟨#[97]⟩, 5), (⟨#[98]⟩, 7), (⟨#[49, 48]⟩, 9), (⟨#[50, 48]⟩, 12)], [0, 1, 10, 20]⟩, ⟨⟨#[115, 116, 111, 112]⟩, 1, ⟨#[101, 101, 100, 109]⟩, [(⟨#[115, 116, 111, 112]⟩, 1), (⟨#[98]⟩, 6), (⟨#[99]⟩, 8), (⟨#[53]⟩, 10), (⟨#[45]⟩, 12)], [1, 2, 5, -1]⟩, ⟨⟨#[99, 111, 110, 110, 101, 99, 116]⟩, 2, ⟨#[101, 101, 100, 109, 100]⟩, [(⟨#[99, 111, 110, 110, 101, 99, 116]⟩, 1), (⟨#[99]⟩, 9), (⟨#[100]⟩, 11), (⟨#[51]⟩, 13), (⟨#[45]⟩, 15), (⟨#[52]⟩, 17)], [2, 3, 3, -1, 4]⟩, ⟨⟨#[104, 101, 97, 100, 119, 97, 121]⟩, 3, ⟨#[101, 101, 100, 109]⟩, [(⟨#[104, 101, 97, 100, 119, 97, 121]⟩, 1), (⟨#[97]⟩, 9), (⟨#[100]⟩, 11), (⟨#[51, 48]⟩, 13), (⟨#[52, 48]⟩, 16)], [0, 3, 30, 40]⟩]
theorem ex_size : exText.size = 95 := by decide +kernel
instance : DecidableEq ByteArray := inferInstance
theorem ex_cut : cutF exText 10 = exLines ++ [⟨#[]⟩] := by decide +kernel
theorem ex_words : exLines.map splitF = exLn.map Ln.ws := by decide +kernel
theorem ex_kind : exLn.map (fun l => numT kindW l.kw) = exLn.map Ln.kd := by decide +kernel
theorem ex_form : exLn.map (fun l => if (l.kw.toList == [101, 118, 101, 110, 116]) then formE else if (l.kw.toList == [99, 111, 110, 110, 101, 99, 116]) then formC else formO) = exLn.map Ln.fm := by decide +kernel
theorem ex_len : ∀ l ∈ exLn, l.ws.length = l.fm.size + 1 ∧ l.vs.length = l.fm.size ∧ 1 ≤ l.fm.size ∧ l.fm.size ≤ 5 := by decide +kernel
theorem ex_wsize : ∀ l ∈ exLn, ∀ p ∈ l.ws, p.1.size ≤ 12 ∧ p.2 ≤ 100 := by decide +kernel
theorem ex_lsize : ∀ s ∈ exLines, s.size ≤ 100 := by decide +kernel
theorem ex_read4 : ∀ l ∈ exLn.drop 4, (List.range l.fm.size).map (fun i => readE (l.fm.data.toList.getD i 0).toNat ((l.ws.map Prod.fst).getD (i + 1) ⟨#[]⟩) exEvs) = l.vs.map some := by decide +kernel
theorem ex_names : ∀ s ∈ exEvs, nameB s = true := by decide +kernel
end Go.Proofs.YtnnnpijepdjanaaGreat
