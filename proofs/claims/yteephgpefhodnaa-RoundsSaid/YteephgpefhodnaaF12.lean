/- A quotient of a word times 2^64 by a word whose first digit is at the top, by half words. -/
import Derived.Test.YteephgpefhodnaaF11
namespace Go.Fl
set_option linter.unusedVariables false

/-- The digit q is not too small yet; r is what it leaves of un at the divisor's upper half. -/
def Dig (un y q r : Nat) : Prop := q * (y / 2 ^ 32) + r = un ∧ un * 2 ^ 32 / y ≤ q ∧ q ≤ 2 ^ 32 + 1

theorem dig_init {un y : Nat} (h1 : 2 ^ 63 ≤ y) (h2 : y < 2 ^ 64) (hu : un < y) : Dig un y (un / (y / 2 ^ 32)) (un % (y / 2 ^ 32)) ∧ un % (y / 2 ^ 32) < 2 ^ 32 := by
  have hv : 0 < y / 2 ^ 32 := by omega
  have e := Nat.div_add_mod un (y / 2 ^ 32)
  have hm := Nat.mod_lt un hv
  refine ⟨⟨by rw [Nat.mul_comm]; exact e, ?_, ?_⟩, by omega⟩
  · refine Nat.le_of_lt_succ ?_
    rw [Nat.div_lt_iff_lt_mul (by omega)]
    have hl : un < (un / (y / 2 ^ 32) + 1) * (y / 2 ^ 32) := by
      rw [Nat.add_mul, Nat.one_mul, Nat.mul_comm]; omega
    generalize un / (y / 2 ^ 32) = q at *
    have h3 : y / 2 ^ 32 * 2 ^ 32 ≤ y := by omega
    calc un * 2 ^ 32 < (q + 1) * (y / 2 ^ 32) * 2 ^ 32 := Nat.mul_lt_mul_of_pos_right hl (by omega)
      _ = (q + 1) * (y / 2 ^ 32 * 2 ^ 32) := Nat.mul_assoc _ _ _
      _ ≤ (q + 1) * y := Nat.mul_le_mul_left _ h3
  · refine Nat.le_of_lt_succ ?_
    rw [Nat.div_lt_iff_lt_mul hv]
    omega

theorem dig_val {un y q r : Nat} (h : q * (y / 2 ^ 32) + r = un) : q * y + r * 2 ^ 32 = un * 2 ^ 32 + q * (y % 2 ^ 32) := by
  have e := Nat.div_add_mod y (2 ^ 32)
  generalize y / 2 ^ 32 = a at *
  generalize y % 2 ^ 32 = b at *
  rw [← h, ← e, Nat.mul_add, Nat.add_mul, Nat.mul_left_comm, Nat.mul_comm (2 ^ 32)]
  omega

theorem dig_lt {un y : Nat} (h1 : 2 ^ 63 ≤ y) (hu : un < y) : un * 2 ^ 32 / y < 2 ^ 32 := by
  rw [Nat.div_lt_iff_lt_mul (by omega), Nat.mul_comm]
  omega

theorem dig_step {un y q r : Nat} (h1 : 2 ^ 63 ≤ y) (hu : un < y) (h : Dig un y q r) (hc : 2 ^ 32 ≤ q ∨ 2 ^ 32 * r < q * (y % 2 ^ 32)) : 1 ≤ q ∧ Dig un y (q - 1) (r + y / 2 ^ 32) ∧ q - 1 ≤ 2 ^ 32 := by
  obtain ⟨a, b, c⟩ := h
  have hlt := dig_lt h1 hu
  have hq : un * 2 ^ 32 / y < q := by
    rcases hc with hc | hc
    · omega
    · rw [Nat.div_lt_iff_lt_mul (by omega)]
      have := dig_val a
      omega
  have hq1 : 1 ≤ q := Nat.le_trans (Nat.succ_le_succ (Nat.zero_le _)) hq
  have hq2 := Nat.le_sub_one_of_lt hq
  clear hlt hc b hq
  refine ⟨hq1, ⟨?_, hq2, by omega⟩, by omega⟩
  clear hq2
  obtain ⟨p, rfl⟩ : ∃ p, q = p + 1 := ⟨q - 1, by omega⟩
  rw [Nat.add_mul] at a
  rw [Nat.add_sub_cancel]
  omega

theorem dig_exit {un y q r : Nat} (h1 : 2 ^ 63 ≤ y) (h : Dig un y q r) (hc : q * (y % 2 ^ 32) ≤ 2 ^ 32 * r) : q = un * 2 ^ 32 / y := by
  obtain ⟨a, b, c⟩ := h
  have := dig_val a
  have h2 : q ≤ un * 2 ^ 32 / y := by
    rw [Nat.le_div_iff_mul_le (by omega)]; omega
  omega

theorem dig_break {un y q r : Nat} (h1 : 2 ^ 63 ≤ y) (h : Dig un y q r) (hq : q ≤ 2 ^ 32) (hr : 2 ^ 32 ≤ r) : q = un * 2 ^ 32 / y := by
  refine dig_exit h1 h ?_
  have h3 : y % 2 ^ 32 ≤ 2 ^ 32 := Nat.le_of_lt (Nat.mod_lt _ (by omega))
  calc q * (y % 2 ^ 32) ≤ 2 ^ 32 * 2 ^ 32 := Nat.mul_le_mul hq h3
    _ ≤ 2 ^ 32 * r := Nat.mul_le_mul_left _ hr

/-- The rest is a word again. -/
theorem dig_rest {un y : Nat} : un * 2 ^ 32 - un * 2 ^ 32 / y * y = un * 2 ^ 32 % y := by
  have := Nat.div_add_mod (un * 2 ^ 32) y
  rw [Nat.mul_comm] at this
  omega

/-- Both digits. -/
theorem dig_two {un y B C : Nat} (hy : 0 < y) (hC : C = B * B) : un * B / y * B + un * B % y * B / y = un * C / y ∧ un * B % y * B % y = un * C % y := by
  have e := Nat.div_add_mod (un * B) y
  have e2 : un * C = un * B % y * B + un * B / y * B * y := by
    rw [hC, ← Nat.mul_assoc]
    conv => lhs; rw [← e]
    rw [Nat.add_mul, Nat.mul_comm y, Nat.mul_right_comm]
    omega
  rw [e2, Nat.add_mul_div_right _ _ hy, Nat.add_mul_mod_self_right]
  exact ⟨by omega, rfl⟩
theorem dig_both {un y : Nat} (hy : 0 < y) : un * 2 ^ 32 / y * 2 ^ 32 + un * 2 ^ 32 % y * 2 ^ 32 / y = un * 2 ^ 64 / y ∧ un * 2 ^ 32 % y * 2 ^ 32 % y = un * 2 ^ 64 % y := dig_two hy (by decide)

end Go.Fl
