/- Contracts of the relations, in the program and in the document's answer. -/
import Derived.Test.YteephgpefhodnabGreatA4
namespace Go.Proofs.YteephgpefhodnabGreat
open Go.RowKit Go.Sort Go.Fl
set_option linter.unusedSimpArgs false
set_option linter.unusedVariables false

/-- How one interval lies to another. -/
def isB (r a b c d : Int) : Bool :=
  if r = 0 then decide (a = c ∧ b = d)
  else if r = 1 then decide (b < a ∨ (c ≤ a ∧ b ≤ d))
  else if r = 2 then decide (b < a ∨ (¬ d < c ∧ (c < a ∨ c = -PI) ∧ (b < d ∨ d = PI)))
  else if r = 3 then decide (b < a ∨ d < c ∨ b < c ∨ d < a)
  else if r = 4 then decide ((b < a ∧ d < c) ∨ (¬ b < a ∧ ¬ d < c ∧ a ≤ c ∧ b ≤ d))
  else if r = 5 then decide (b < a ∨ d < c ∨ b ≤ c)
  else false

theorem isB_0 (a b c d : Int) : isB 0 a b c d = decide (a = c ∧ b = d) := rfl
theorem isB_1 (a b c d : Int) : isB 1 a b c d = decide (b < a ∨ (c ≤ a ∧ b ≤ d)) := rfl
theorem isB_2 (a b c d : Int) : isB 2 a b c d = decide (b < a ∨ (¬ d < c ∧ (c < a ∨ c = -PI) ∧ (b < d ∨ d = PI))) := rfl
theorem isB_3 (a b c d : Int) : isB 3 a b c d = decide (b < a ∨ d < c ∨ b < c ∨ d < a) := rfl
theorem isB_4 (a b c d : Int) : isB 4 a b c d = decide ((b < a ∧ d < c) ∨ (¬ b < a ∧ ¬ d < c ∧ a ≤ c ∧ b ≤ d)) := rfl
theorem isB_5 (a b c d : Int) : isB 5 a b c d = decide (b < a ∨ d < c ∨ b ≤ c) := rfl
theorem isB_no {r : Int} (h : r < 0 ∨ 5 < r) (a b c d : Int) : isB r a b c d = false := by
  unfold isB
  rw [if_neg (by omega), if_neg (by omega), if_neg (by omega), if_neg (by omega), if_neg (by omega), if_neg (by omega)]

theorem meet_rg {a b c d : Int} (h : Iv a b) (h' : Iv c d) : Rg (meetLo a b c d) ∧ Rg (meetHi a b c d) := by
  unfold meetLo meetHi
  split
  · exact ⟨Rg_PI, Rg_MI⟩
  · exact ⟨rg_max h.1 h'.1, rg_min h.2.1 h'.2.1⟩

end Go.Proofs.YteephgpefhodnabGreat
