/- The fields of a word; a whole number as a word; magnitudes times a power of two. -/
import Derived.Test.YteephgpefhodnaaF8
namespace Go.Fl
open Ieee
set_option linter.unusedVariables false
set_option linter.unusedSimpArgs false

theorem u64_frac (x : Nat) (h : Wd x) : bits BinOp.and IntKind.u64 (x : Int) 4503599627370495 = ((x % 2 ^ 52 : Nat) : Int) := by
  unfold Wd at h
  rw [u64_and (x : Int) 4503599627370495 (by omega) (by omega) (by omega) (by omega)]
  congr 1
  rw [Int.toNat_natCast, ← Nat.and_two_pow_sub_one_eq_mod]
  rfl
theorem u64_field (x : Nat) (h : x < 2 ^ 64) : bits BinOp.and IntKind.u64 (x : Int) 2047 = ((x % 2 ^ 11 : Nat) : Int) := by
  rw [u64_and (x : Int) 2047 (by omega) (by omega) (by omega) (by omega)]
  congr 1
  rw [Int.toNat_natCast, ← Nat.and_two_pow_sub_one_eq_mod]
  rfl
theorem u64_or52 (x : Nat) (h : x < 2 ^ 52) : bits BinOp.or IntKind.u64 (x : Int) 4503599627370496 = ((2 ^ 52 + x : Nat) : Int) := by
  rw [u64_or (x : Int) 4503599627370496 (by omega) (by omega) (by omega) (by omega)]
  congr 1
  rw [Int.toNat_natCast, Nat.or_comm]
  have := Nat.two_pow_add_eq_or_of_lt h 1
  rw [Nat.mul_one] at this
  exact this.symm

/-- Sign, digits and place of a word. -/
theorem word_parts (x : Nat) (h : Wd x) : mgr (rung x) = (if x / 2 ^ 52 % 2 ^ 11 = 0 then x % 2 ^ 52 else 2 ^ 52 + x % 2 ^ 52) ∧ (plr (rung x) : Int) = (if x / 2 ^ 52 % 2 ^ 11 = 0 then 0 else ((x / 2 ^ 52 % 2 ^ 11 : Nat) : Int) - 1) := by
  unfold mgr plr rung
  by_cases h0 : x / 2 ^ 52 % 2 ^ 11 = 0
  · rw [if_pos h0, if_pos h0, if_pos (by omega)]
    exact ⟨by omega, by omega⟩
  · rw [if_neg h0, if_neg h0, if_neg (by omega)]
    exact ⟨by omega, by omega⟩

/-- A normal magnitude, so many binades on. -/
theorem M_binades {r : Nat} (h : 2 ^ 52 ≤ r) (k : Nat) : M (r + k * 2 ^ 52) = M r * 2 ^ k := by
  unfold M
  rw [if_neg (by omega), if_neg (by omega)]
  rw [show (r + k * 2 ^ 52) % 2 ^ 52 = r % 2 ^ 52 by omega, show (r + k * 2 ^ 52) / 2 ^ 52 - 1 = (r / 2 ^ 52 - 1) + k by omega, Nat.pow_add, Nat.mul_assoc]
theorem M_inj {r s : Nat} (h : M r = M s) : r = s := by
  have a := M_le_iff.1 (Nat.le_of_eq h); have b := M_le_iff.1 (Nat.le_of_eq h.symm); omega

/-- A whole number of at most 53 digits is written exactly. -/
theorem nearest_nat (q : Nat) (h : q ≤ 2 ^ 53) (h0 : 0 < q) : ∃ r : Nat, FloatKind.f64.nearest (q : Int) = r ∧ r < INF ∧ M r = q * 2 ^ X74 := by
  obtain ⟨r, hr⟩ := rep_key X74 q h
  have hX := X74_eq
  have hlt : r < INF := by
    refine M_lt_iff.1 ?_
    obtain ⟨c, hc⟩ : ∃ c : Nat, c = 2044 := ⟨_, rfl⟩
    rw [hr, INF_M c hc]
    have e1 : q * 2 ^ X74 ≤ 2 ^ 53 * 2 ^ X74 := Nat.mul_le_mul_right _ h
    obtain ⟨d, hd⟩ : ∃ d : Nat, d + X74 = c := ⟨970, by omega⟩
    have e2 : (2 : Nat) ^ c = 2 ^ d * 2 ^ X74 := by rw [← Nat.pow_add, hd]
    have e3 : 2 ^ 1 ≤ 2 ^ d := Nat.pow_le_pow_right (by omega) (by omega)
    have e4 : 2 * 2 ^ X74 ≤ 2 ^ d * 2 ^ X74 := Nat.mul_le_mul_right _ (by omega)
    rw [e2]
    have e5 : 0 < 2 ^ X74 := Nat.two_pow_pos _
    generalize (2 : Nat) ^ d * 2 ^ X74 = u at *
    generalize (2 : Nat) ^ X74 = v at *
    omega
  refine ⟨r, ?_, hlt, hr⟩
  have e : FloatKind.f64.nearest (q : Int) = double.nearest false q 0 := by
    show double.write (.number (decide ((q : Int) < 0)) (q : Int).natAbs 0) = _
    rw [show decide ((q : Int) < 0) = false from decide_eq_false (by omega), Int.natAbs_natCast]
    rfl
  rw [e]
  obtain ⟨hn, hs, hw, hN⟩ := write_near false q 0 h0
  have hI := INF_eq
  have hk := near_exact hN (m := (r : Int)) (by omega) (by omega) (by
    rw [V_nat, hr]
    rw [show ((0 : Int) + 1074).toNat = X74 by omega, show (-((0 : Int) + 1074)).toNat = 0 by omega]
    simp)
  have hk0 : key (double.nearest false q 0) ≠ 0 := by
    rw [hk]
    intro h1
    obtain rfl : r = 0 := by omega
    rw [M_zero] at hr
    have := Nat.mul_pos h0 (Nat.two_pow_pos X74)
    omega
  rw [word_of_key hw hk0, hk]
  unfold ofKey
  rw [if_pos (by omega)]
  omega

end Go.Fl
