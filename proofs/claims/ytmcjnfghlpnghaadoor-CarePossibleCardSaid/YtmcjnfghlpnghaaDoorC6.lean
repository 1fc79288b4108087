/- more: the walk. -/
import Derived.Test.YtmcjnfghlpnghaaDoorC5
namespace Go.Proofs.YtmcjnfghlpnghaaDoor
open Go.RowKit

theorem scanM_len (F : Fl) : ∀ (l : List Nat) (y : List Int) (q : List Nat), (scanM F l y q).1.length = y.length
  | [], y, q => rfl
  | i :: l, y, q => by
    unfold scanM
    split
    · rfl
    · split
      · rw [scanM_len F l]; simp
      · exact scanM_len F l y q
theorem bfsM_len (F : Fl) : ∀ (f : Nat) (y : List Int) (q : List Nat) (r : List Int), bfsM F f y q = some r → r.length = y.length
  | f, y, [], r, h => by unfold bfsM at h; rw [Option.some.inj h]
  | 0, y, n :: q, r, h => by unfold bfsM at h; cases h
  | f + 1, y, n :: q, r, h => by
    unfold bfsM at h
    rw [bfsM_len F f _ _ r h, scanM_len]

def MorePost (w : World) (B g : Nat) (F : Fl) (x : Option Fl) (e : Ending) (w' : World) : Prop :=
  match x with
  | none => e = .returned (.bool false) ∧ FlowAt w' B g F ∧ Below B w w'
  | some F' => e = .returned (.bool true) ∧ FlowAt w' B g F' ∧ Below B w w'

set_option maxRecDepth 100000 in
set_option maxHeartbeats 8000000 in
theorem more_no (w : World) (B g : Nat) (F : Fl) (h : FlowAt w B g F) (ok : FlOk F) (f : Nat) (y : List Int) (hr : bfsM F f (List.replicate F.adj.length (-1)) [F.src] = some y) (hy : y[F.outn]?.getD 0 < 0) :
    Calls Tryd.prog 141 #[.pointer (some ⟨g, 0, none⟩)] w (MorePost w B g F none) := by
  have hlen := bfsM_len F f _ _ y hr
  rw [List.length_replicate] at hlen
  have R := reach_any w B g F h ok f y hr
  obtain ⟨va, ob, rows, h⟩ := h
  have ho := ok.outn
  obtain ⟨yo, hyo⟩ : ∃ x, y[F.outn]? = some x := ⟨y[F.outn]'(by omega), by simp [hlen, ho]⟩
  rw [hyo, Option.getD_some] at hy
  have d1 : decide (yo < 0) = true := by simp; omega
  have i0 : (0 : Int) ≤ (F.outn : Int) := by omega
  have i1 : (F.outn : Int) < (y.length : Int) := by omega
  have HH := Lib.hid h
  have HY := Lib.hid hyo
  clear h hyo hr ok
  go_enter Tryd.func141, Tryd.ntmps141
  go_upto_region 2 with (go_at_call 151; refine R.mono ?_; rintro e w1 ⟨gb, rfl, hgb, hge, hb1⟩)
  have HF := HH.out.keep (fun k hk => hb1.block k hk)
  have g3 := cell_of_row w1 g 3 _ _ _ HF.head
  have e0 := cell_of_row w1 gb F.outn _ _ _ hgb
  simp at g3
  simp only [intCells, List.getElem?_toArray, List.getElem?_map, HY.out, Option.map_some] at e0
  have hb2 : Below B w w1 := hb1.mono (Nat.le_of_lt (Nat.lt_of_le_of_lt HH.out.hB (lt_of_block HH.out.head)))
  have HF' := Lib.hid HF
  clear R HF hb1 hgb
  go_wp2
  go_ret
  exact ⟨rfl, ⟨va, ob, rows, HF'.out⟩, hb2⟩
end Go.Proofs.YtmcjnfghlpnghaaDoor
