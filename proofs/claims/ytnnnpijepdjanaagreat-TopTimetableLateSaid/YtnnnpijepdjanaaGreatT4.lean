/- The timetable, plainly: the example. -/
import Derived.Test.YtnnnpijepdjanaaGreatT3
namespace Go.Proofs.YtnnnpijepdjanaaGreat

def exActs : List Act := [⟨0, 0, 1, 10, 20, 0⟩, ⟨1, 1, 2, 5, -1, 0⟩, ⟨2, 2, 3, 3, -1, 4⟩, ⟨3, 0, 3, 30, 40, 0⟩]
theorem ex_right : ∀ a ∈ exActs, actR 4 a := by decide
theorem ex_early : longM (waysM exActs) 4 [some 0, some 35, some 0, some 0] = ([some 15, some 35, some 40, some 45], false) := by decide +kernel
theorem ex_zero : (longM (waysM exActs) 4 (zerosF 4)).2 = false := by decide +kernel
theorem ex_alone : longM (waysM exActs) 4 (aloneF 4 1) = ([some (-20), some 0, some 5, some 10], false) := by decide +kernel
end Go.Proofs.YtnnnpijepdjanaaGreat
