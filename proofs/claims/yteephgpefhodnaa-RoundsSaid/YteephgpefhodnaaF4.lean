/- Neighbours of a word; its size; a sum that is no number. -/
import Derived.Test.YteephgpefhodnaaW0
import Derived.Laws.BitsAllLaws
namespace Go.Fl
open Ieee Go.RowKit
set_option linter.unusedVariables false
set_option linter.unusedSimpArgs false

def absw (x : Nat) : Nat := x % 2 ^ 63
theorem absw_facts (x : Nat) : Wd (absw x) ∧ (nan (absw x) ↔ nan x) ∧ key (absw x) = (rung x : Int) := by
  unfold absw Wd nan key rung neg
  refine ⟨by omega, by rw [Nat.mod_mod], ?_⟩
  rw [show x % 2 ^ 63 / 2 ^ 63 = 0 by omega]
  simp
@[go_sem] theorem wd_absw (x : Nat) : Wd (absw x) := (absw_facts x).1
@[go_sem] theorem nn_absw (x : Nat) : nan (absw x) = nan x := propext (absw_facts x).2.1
theorem rung_key (x : Nat) : (rung x : Int) = key x ∨ (rung x : Int) = -key x := by unfold key; split <;> omega
theorem key_absw (x : Nat) : key (absw x) = if 0 ≤ key x then key x else -key x := by
  rw [(absw_facts x).2.2]
  have := rung_key x
  split <;> omega

theorem key_pos {x : Nat} (hw : Wd x) (h : 0 < key x) : x < 2 ^ 63 ∧ key x = x := by
  unfold key rung neg at *
  unfold Wd at hw
  by_cases hs : x / 2 ^ 63 % 2 = 1
  · rw [show (x / 2 ^ 63 % 2 == 1) = true by simpa using hs] at h
    simp only [if_true] at h
    omega
  · rw [show (x / 2 ^ 63 % 2 == 1) = false by simpa using hs]
    simp only [Bool.false_eq_true, if_false]
    omega
theorem key_neg' {x : Nat} (hw : Wd x) (h : key x < 0) : 2 ^ 63 < x ∧ key x = -((x : Int) - 2 ^ 63) := by
  unfold key rung neg at *
  unfold Wd at hw
  by_cases hs : x / 2 ^ 63 % 2 = 1
  · rw [show (x / 2 ^ 63 % 2 == 1) = true by simpa using hs]
    simp only [if_true]
    omega
  · rw [show (x / 2 ^ 63 % 2 == 1) = false by simpa using hs] at h
    simp only [Bool.false_eq_true, if_false] at h
    omega
theorem key_low {x : Nat} (h : x < 2 ^ 63) : key x = x := by
  unfold key rung neg
  rw [show x / 2 ^ 63 = 0 by omega]
  simp; omega
theorem key_high {x : Nat} (h : x < 2 ^ 63) : key (2 ^ 63 + x) = -(x : Int) := by
  unfold key rung neg
  rw [show (2 ^ 63 + x) / 2 ^ 63 = 1 by omega]
  simp; omega
theorem nan_low {x : Nat} (h : x < 2 ^ 63) : nan x ↔ INF < x := by
  unfold nan rung; rw [Nat.mod_eq_of_lt h]
theorem nan_high {x : Nat} (h : x < 2 ^ 63) : nan (2 ^ 63 + x) ↔ INF < x := by
  unfold nan rung; rw [show (2 ^ 63 + x) % 2 ^ 63 = x by omega]

/-- The word above one above nought. -/
theorem up_pos {x : Nat} (hw : Wd x) (h : 0 < key x) (h1 : key x < PI) : Wd (x + 1) ∧ ¬ nan (x + 1) ∧ key (x + 1) = key x + 1 := by
  obtain ⟨a, b⟩ := key_pos hw h
  have e := PI_eq
  have h0 := INF_eq
  rw [nan_low (by omega), key_low (by omega)]
  refine ⟨by unfold Wd; omega, by omega, by omega⟩
/-- The word below one above nought. -/
theorem down_pos {x : Nat} (hw : Wd x) (h : 0 < key x) (h1 : key x ≤ PI) : Wd (x - 1) ∧ ¬ nan (x - 1) ∧ key (x - 1) = key x - 1 ∧ 1 ≤ x := by
  obtain ⟨a, b⟩ := key_pos hw h
  have e := PI_eq
  have h0 := INF_eq
  rw [nan_low (by omega), key_low (by omega)]
  refine ⟨by unfold Wd; omega, by omega, by omega, by omega⟩
/-- The word above one below nought. -/
theorem up_neg {x : Nat} (hw : Wd x) (h : key x < 0) (h1 : -PI ≤ key x) : Wd (x - 1) ∧ ¬ nan (x - 1) ∧ key (x - 1) = key x + 1 ∧ 1 ≤ x := by
  obtain ⟨a, b⟩ := key_neg' hw h
  have e := PI_eq
  have h0 := INF_eq
  unfold Wd at hw
  obtain ⟨y, rfl⟩ : ∃ y, x = 2 ^ 63 + y + 1 := ⟨x - 2 ^ 63 - 1, by omega⟩
  rw [show 2 ^ 63 + y + 1 - 1 = 2 ^ 63 + y by omega, nan_high (by omega), key_high (by omega)]
  refine ⟨by unfold Wd; omega, by omega, by omega, by omega⟩

def NANW : Nat := 9221120237041090561
theorem nan_NANW : nan NANW := by decide
theorem wd_NANW : Wd NANW := by unfold Wd NANW; omega

/-- What comes out of a sum that is no number. -/
def nanw (w : World) (x y : Nat) : Nat := (Question.nanBits .f64 x y).cut (w.tape w.drawn (.nanBits .f64 x y))
@[go_sem] theorem nan_nanw (w : World) (x y : Nat) : nan (nanw w x y) = True := by
  refine eq_true ?_
  unfold nanw Question.cut nan rung
  have h0 := INF_eq
  simp only
  generalize w.tape w.drawn (.nanBits .f64 x y) = t
  have h1 := Nat.mod_lt (t / 2) (show 2 ^ 52 - 1 > 0 by omega)
  have h2 := Nat.mod_lt t (show 2 > 0 by omega)
  generalize t / 2 % (2 ^ 52 - 1) = u at *
  generalize t % 2 = v at *
  omega
@[go_sem] theorem wd_nanw (w : World) (x y : Nat) : Wd (nanw w x y) := by
  unfold nanw Question.cut Wd
  simp only
  generalize w.tape w.drawn (.nanBits .f64 x y) = t
  have h1 := Nat.mod_lt (t / 2) (show 2 ^ 52 - 1 > 0 by omega)
  have h2 := Nat.mod_lt t (show 2 > 0 by omega)
  generalize t / 2 % (2 ^ 52 - 1) = u at *
  generalize t % 2 = v at *
  omega
@[go_sem] theorem run_add_nan {P : Program} {w : World} {t : TypeId} {x y : Nat} (hx : nan x) : (binOp .add t (.float .f64 x) (.float .f64 y)).run P w = .ok (.float .f64 (nanw w x y)) w.drew := by
  simp [binOp, Op.floatArith, add_nan (x := x) (y := y) (.inl hx), Question.forced, nanw]

theorem u64_top (x : Nat) (h : Wd x) : bits BinOp.andNot IntKind.u64 (x : Int) 9223372036854775808 = ((absw x : Nat) : Int) := by
  unfold Wd at h
  rw [u64_andNot (x : Int) 9223372036854775808 (by omega) (by omega) (by omega) (by omega)]
  congr 1
  rw [Int.toNat_natCast]
  unfold absw
  rw [← Nat.and_two_pow_sub_one_eq_mod]
  rfl
theorem u64_sign (x : Nat) (h : Wd x) : bits BinOp.and IntKind.u64 (x : Int) 9223372036854775808 = ((x / 2 ^ 63 * 2 ^ 63 : Nat) : Int) := by
  unfold Wd at h
  rw [u64_and (x : Int) 9223372036854775808 (by omega) (by omega) (by omega) (by omega)]
  congr 1
  rw [Int.toNat_natCast]
  have h1 : (x &&& 2 ^ 63) % 2 ^ 63 = 0 := by rw [Nat.and_mod_two_pow]; simp
  have h2 : (x &&& 2 ^ 63) / 2 ^ 63 = x / 2 ^ 63 := by
    rw [Nat.and_div_two_pow]
    have : x / 2 ^ 63 = 0 ∨ x / 2 ^ 63 = 1 := by omega
    rcases this with h | h <;> rw [h] <;> rfl
  have h3 : (x &&& Int.toNat 9223372036854775808) = x &&& 2 ^ 63 := rfl
  rw [h3]
  omega
theorem u64_or_low (x y : Nat) (hx : x < 2 ^ 63) (hy : y ≤ 1) : bits BinOp.or IntKind.u64 (x : Int) ((y * 2 ^ 63 : Nat) : Int) = ((y * 2 ^ 63 + x : Nat) : Int) := by
  rw [u64_or (x : Int) ((y * 2 ^ 63 : Nat) : Int) (by omega) (by omega) (by omega) (by omega)]
  congr 1
  rw [Int.toNat_natCast, Int.toNat_natCast, Nat.mul_comm y, Nat.or_comm]
  rw [← Nat.two_pow_add_eq_or_of_lt hx]
theorem u64_succ {x : Nat} (h : Wd (x + 1)) : IntKind.u64.wrap ((x : Int) + 1) = ((x + 1 : Nat) : Int) := by
  unfold Wd at h
  rw [IntKind.wrap_u64]; omega
theorem u64_pred {x : Nat} (h : Wd x) (h1 : 1 ≤ x) : IntKind.u64.wrap ((x : Int) - 1) = ((x - 1 : Nat) : Int) := by
  unfold Wd at h
  rw [IntKind.wrap_u64]; omega
theorem u64_top_bit {x : Nat} (h : Wd x) : (x : Int) / 9223372036854775808 = ((x / 2 ^ 63 : Nat) : Int) := by omega
end Go.Fl
