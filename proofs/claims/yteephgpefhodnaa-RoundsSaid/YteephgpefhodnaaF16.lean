/- Sums and products where one word is an infinity. -/
import Derived.Test.YteephgpefhodnaaF15
namespace Go.Fl
open Ieee
set_option linter.unusedVariables false

theorem read_PI : double.read (ofKey PI) = .infinity false := by decide
theorem read_MI : double.read (ofKey (-PI)) = .infinity true := by decide
theorem write_PI : double.write (.infinity false) = ofKey PI := by decide
theorem write_MI : double.write (.infinity true) = ofKey (-PI) := by decide

theorem fin_ofKey {k : Int} (h1 : -PI < k) (h2 : k < PI) : fin (ofKey k) := by
  have := key_ofKey (k := k) ⟨by omega, by omega⟩
  rw [fin_key, this, ← PI_INF]; exact ⟨h1, h2⟩
theorem neg_ofKey {k : Int} (h1 : -PI ≤ k) (h2 : k ≤ PI) : neg (ofKey k) = decide (k < 0) := by
  have hP : PI = 9218868437227405312 := rfl
  unfold neg ofKey
  by_cases h : 0 ≤ k
  · rw [if_pos h, decide_eq_false (by omega)]
    rw [show k.toNat / 2 ^ 63 % 2 = 0 by omega]; rfl
  · rw [if_neg h, decide_eq_true (by omega)]
    rw [show (2 ^ 63 + (-k).toNat) / 2 ^ 63 % 2 = 1 by omega]; rfl
theorem mag_ofKey {k : Int} (h1 : -PI ≤ k) (h2 : k ≤ PI) (h0 : k ≠ 0) : mag (ofKey k) ≠ 0 := by
  have hP : PI = 9218868437227405312 := rfl
  have hr : rung (ofKey k) = k.natAbs := (ofKey_facts (k := k) (by have := PI_INF; omega) (by have := PI_INF; omega)).2.2.2
  unfold mag
  rw [hr]
  split <;> omega

theorem add_infk {a b : Int} (ha : Rg a) (hb : Rg b) (hi : a = PI ∨ a = -PI ∨ b = PI ∨ b = -PI) (h1 : ¬ (a = PI ∧ b = -PI)) (h2 : ¬ (a = -PI ∧ b = PI)) :
    FloatKind.f64.format.add (ofKey a) (ofKey b) = some (ofKey (if a = PI ∨ b = PI then PI else -PI)) := by
  have hP := PI_pos
  have q1 := ha.1; have q2 := ha.2; have q3 := hb.1; have q4 := hb.2
  rw [fmt]
  unfold Format.add
  by_cases c1 : a = PI
  · subst c1
    rw [read_PI, if_pos (.inl rfl), ← write_PI]
    by_cases c2 : b = PI
    · subst c2; rw [read_PI]; rfl
    · rw [read_fin (fin_ofKey (k := b) (by omega) (by omega))]; rfl
  · by_cases c2 : a = -PI
    · subst c2
      rw [read_MI, if_neg (by omega), ← write_MI]
      by_cases c3 : b = -PI
      · subst c3; rw [read_MI]; rfl
      · rw [read_fin (fin_ofKey (k := b) (by omega) (by omega))]; rfl
    · rw [read_fin (fin_ofKey (k := a) (by omega) (by omega))]
      by_cases c3 : b = PI
      · subst c3; rw [read_PI, if_pos (.inr rfl), ← write_PI]; rfl
      · obtain rfl : b = -PI := by omega
        rw [read_MI, if_neg (by omega), ← write_MI]; rfl
/-- The product of what is not nought, one of them infinite. -/
def infSign (a b : Int) : Int := if (0 < a ∧ 0 < b) ∨ (a < 0 ∧ b < 0) then PI else -PI
theorem write_inf (s : Bool) : double.write (.infinity s) = ofKey (if s = true then -PI else PI) := by
  cases s
  · exact write_PI
  · exact write_MI
theorem mul_infk {a b : Int} (ha : Rg a) (hb : Rg b) (hi : a = PI ∨ a = -PI ∨ b = PI ∨ b = -PI) (h1 : a ≠ 0) (h2 : b ≠ 0) :
    FloatKind.f64.format.mul (ofKey a) (ofKey b) = some (ofKey (infSign a b)) := by
  have hP := PI_pos
  have q1 := ha.1; have q2 := ha.2; have q3 := hb.1; have q4 := hb.2
  have key : ∀ s : Bool, (s = true ↔ ¬ ((0 < a ∧ 0 < b) ∨ (a < 0 ∧ b < 0))) → some (double.write (.infinity s)) = some (ofKey (infSign a b)) := by
    intro s hs
    rw [write_inf]
    unfold infSign
    by_cases h : (0 < a ∧ 0 < b) ∨ (a < 0 ∧ b < 0)
    · rw [if_pos h, if_neg (by rw [hs]; exact fun hh => hh h)]
    · rw [if_neg h, if_pos (hs.2 h)]
  rw [fmt]
  unfold Format.mul
  by_cases c1 : a = PI
  · subst c1
    rw [read_PI]
    by_cases c2 : b = PI
    · subst c2; rw [read_PI]; exact key _ (by simp; omega)
    · by_cases c3 : b = -PI
      · subst c3; rw [read_MI]; exact key _ (by simp; omega)
      · rw [read_fin (fin_ofKey (k := b) (by omega) (by omega))]
        simp only [Datum.product]
        rw [if_neg (mag_ofKey q3 q4 h2), neg_ofKey q3 q4]
        exact key _ (by simp; omega)
  · by_cases c1' : a = -PI
    · subst c1'
      rw [read_MI]
      by_cases c2 : b = PI
      · subst c2; rw [read_PI]; exact key _ (by simp; omega)
      · by_cases c3 : b = -PI
        · subst c3; rw [read_MI]; exact key _ (by simp; omega)
        · rw [read_fin (fin_ofKey (k := b) (by omega) (by omega))]
          simp only [Datum.product]
          rw [if_neg (mag_ofKey q3 q4 h2), neg_ofKey q3 q4]
          exact key _ (by simp; omega)
    · rw [read_fin (fin_ofKey (k := a) (by omega) (by omega))]
      by_cases c2 : b = PI
      · subst c2; rw [read_PI]
        simp only [Datum.product]
        rw [if_neg (mag_ofKey q1 q2 h1), neg_ofKey q1 q2]
        exact key _ (by simp; omega)
      · obtain rfl : b = -PI := by omega
        rw [read_MI]
        simp only [Datum.product]
        rw [if_neg (mag_ofKey q1 q2 h1), neg_ofKey q1 q2]
        exact key _ (by simp; omega)

end Go.Fl
