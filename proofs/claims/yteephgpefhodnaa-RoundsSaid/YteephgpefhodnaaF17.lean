/- Every real that is cut has its rounded numbers; the range. -/
import Derived.Test.YteephgpefhodnaaF16
namespace Go.Fl
set_option linter.unusedVariables false

theorem rd_find (c : Int → Int) : ∀ n : Nat, ∃ k : Int, -PI ≤ k ∧ k ≤ -PI + n ∧ (k ≠ -PI → 0 ≤ c k) ∧ (k ≠ -PI + n → c (k + 1) < 0) := by
  intro n
  induction n with
  | zero => exact ⟨-PI, by omega, by omega, fun h => absurd rfl h, fun h => by omega⟩
  | succ n ih =>
    by_cases h : 0 ≤ c (-PI + ((n : Int) + 1))
    · exact ⟨-PI + ((n : Int) + 1), by omega, by omega, fun _ => h, fun hh => by omega⟩
    · obtain ⟨k, h1, h2, h3, h4⟩ := ih
      refine ⟨k, h1, by omega, h3, fun _ => ?_⟩
      by_cases e : k = -PI + n
      · rw [e, show -PI + (n : Int) + 1 = -PI + ((n : Int) + 1) by omega]; omega
      · exact h4 e
theorem rd_exists (c : Int → Int) : ∃ k, RD c k := by
  have hP := PI_pos
  obtain ⟨k, h1, h2, h3, h4⟩ := rd_find c (2 * PI - 1).toNat
  exact ⟨k, h1, by omega, h3, fun _ => h4 (by omega)⟩
theorem ru_exists (c : Int → Int) : ∃ k, RU c k := by
  obtain ⟨k, h1, h2, h3, h4⟩ := rd_exists (fun k => -c (-k))
  refine ⟨-k, by omega, by omega, fun h => ?_, fun h => ?_⟩
  · have : 0 ≤ -c (-k) := h3 (by omega)
    omega
  · have : -c (-(k + 1)) < 0 := h4 (by omega)
    rw [show -(k + 1) = -k - 1 by omega] at this
    omega
theorem rnd_exists (up : Bool) (c : Int → Int) : ∃ k, Rnd up c k := by
  cases up
  · exact rd_exists c
  · exact ru_exists c
theorem rnd_spec (up : Bool) (c : Int → Int) : Rnd up c (rnd up c) := Classical.epsilon_spec (rnd_exists up c)
theorem rnd_rg (up : Bool) (c : Int → Int) : Rg (rnd up c) := Rnd_rg (rnd_spec up c)
theorem rd_spec (c : Int → Int) : RD c (rnd false c) := rnd_spec false c
theorem ru_spec (c : Int → Int) : RU c (rnd true c) := rnd_spec true c

end Go.Fl
