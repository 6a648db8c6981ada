/- A whole number times a power of two, by the exponent's field. -/
import Derived.Test.YteephgpefhodnaaF9
namespace Go.Fl
set_option linter.unusedVariables false

theorem F_range {q F : Nat} (h0 : 0 < q) (hq : q ≤ 2 ^ 53) (hF : M F = q * 2 ^ X74) : 1023 * 2 ^ 52 ≤ F ∧ F ≤ 1076 * 2 ^ 52 := by
  have hX := X74_eq
  obtain ⟨c, hc⟩ : ∃ c : Nat, c = 1022 := ⟨_, rfl⟩
  have e1 := M_at c (2 ^ 52) (.inr (by omega)) (by omega)
  have e2 := M_at (c + 53) (2 ^ 52) (.inr (by omega)) (by omega)
  have p1 : (2 : Nat) ^ 52 * 2 ^ c = 2 ^ X74 := by rw [← Nat.pow_add]; exact congrArg (fun t => 2 ^ t) (by omega)
  have p2 : (2 : Nat) ^ 52 * 2 ^ (c + 53) = 2 ^ 53 * 2 ^ X74 := by rw [← Nat.pow_add, ← Nat.pow_add]; exact congrArg (fun t => 2 ^ t) (by omega)
  rw [p1] at e1
  rw [p2] at e2
  constructor
  · have : M (c * 2 ^ 52 + 2 ^ 52) ≤ M F := by
      rw [e1, hF]
      have := Nat.mul_le_mul_right (2 ^ X74) h0
      omega
    have := M_le_iff.1 this
    omega
  · have : M F ≤ M ((c + 53) * 2 ^ 52 + 2 ^ 52) := by rw [e2, hF]; exact Nat.mul_le_mul_right _ hq
    have := M_le_iff.1 this
    omega

variable {q F r : Nat} {p : Int}
/-- r's magnitude and F's, p places apart. -/
theorem MF_up (hF : M F = q * 2 ^ X74) (hr : M r = q * 2 ^ (p + 1074).toNat) (hp : 0 ≤ p) : M r = M F * 2 ^ p.toNat := by
  have hX := X74_eq
  rw [hr, hF, Nat.mul_assoc, ← Nat.pow_add]; congr 2; omega
theorem MF_down (hF : M F = q * 2 ^ X74) (hr : M r = q * 2 ^ (p + 1074).toNat) (hp : p ≤ 0) (h1 : -1074 ≤ p) : M F = M r * 2 ^ (-p).toNat := by
  have hX := X74_eq
  rw [hr, hF, Nat.mul_assoc, ← Nat.pow_add]; congr 2; omega

/-- The exponent's field stays within the normal numbers. -/
theorem ld_norm (hF : M F = q * 2 ^ X74) (hr : M r = q * 2 ^ (p + 1074).toNat) (h1 : -1074 ≤ p) (hf : 2 ^ 52 ≤ F) (hE : 1 ≤ p + ((F / 2 ^ 52 : Nat) : Int)) : (r : Int) = (p + ((F / 2 ^ 52 : Nat) : Int)) * 2 ^ 52 + ((F % 2 ^ 52 : Nat) : Int) := by
  rcases Int.le_total 0 p with hp | hp
  · have h := MF_up hF hr hp
    rw [← M_binades hf] at h
    have := M_inj h
    omega
  · have h := MF_down hF hr hp h1
    obtain ⟨k, hk⟩ : ∃ k : Nat, k = (-p).toNat := ⟨_, rfl⟩
    rw [← hk] at h
    obtain ⟨W, hW⟩ : ∃ W : Nat, W + k * 2 ^ 52 = F := ⟨F - k * 2 ^ 52, by omega⟩
    have hW2 : 2 ^ 52 ≤ W := by omega
    rw [← hW, M_binades hW2] at h
    have := M_inj (Nat.eq_of_mul_eq_mul_right (Nat.two_pow_pos k) h)
    omega

theorem ld_inf (h0 : 0 < q) (hq : q ≤ 2 ^ 53) (hF : M F = q * 2 ^ X74) (hr : M r = q * 2 ^ (p + 1074).toNat) (hrI : r ≤ INF) (hE : 1023 < p + ((F / 2 ^ 52 : Nat) : Int) - 1023) : r = INF := by
  obtain ⟨f1, f2⟩ := F_range h0 hq hF
  have hp : 0 ≤ p := by omega
  have h := MF_up hF hr hp
  rw [← M_binades (by omega)] at h
  have := M_inj h
  have hI := INF_eq
  omega

/-- Below the normal numbers: one 53 places on, times 2^-53. -/
theorem ld_den (h0 : 0 < q) (hF : M F = q * 2 ^ X74) (hr : M r = q * 2 ^ (p + 1074).toNat) (h1 : -1074 ≤ p) (hp : p ≤ -53) (hf : 1023 * 2 ^ 52 ≤ F) :
    ∃ W : Nat, (W : Int) = (p + 53 + ((F / 2 ^ 52 : Nat) : Int)) * 2 ^ 52 + ((F % 2 ^ 52 : Nat) : Int) ∧ M W * M 4368491638549381120 = M r * 2 ^ X74 := by
  have hX := X74_eq
  obtain ⟨k, hk⟩ : ∃ k : Nat, k = (-(p + 53)).toNat := ⟨_, rfl⟩
  obtain ⟨W, hW⟩ : ∃ W : Nat, W + k * 2 ^ 52 = F := ⟨F - k * 2 ^ 52, by omega⟩
  refine ⟨W, by omega, ?_⟩
  have hW2 : 2 ^ 52 ≤ W := by omega
  have h := MF_down hF hr (by omega) h1
  rw [← hW, M_binades hW2] at h
  have e : (2 : Nat) ^ (-p).toNat = 2 ^ 53 * 2 ^ k := by rw [← Nat.pow_add]; congr 1; omega
  rw [e, ← Nat.mul_assoc] at h
  have h2 := Nat.eq_of_mul_eq_mul_right (Nat.two_pow_pos k) h
  obtain ⟨c, hc⟩ : ∃ c : Nat, c = 969 := ⟨_, rfl⟩
  have e2 : M 4368491638549381120 = 2 ^ 52 * 2 ^ c := by
    have := M_at c (2 ^ 52) (.inr (by omega)) (by omega)
    rw [← this]; exact congrArg M (by omega)
  have e3 : (2 : Nat) ^ 53 * (2 ^ 52 * 2 ^ c) = 2 ^ X74 := by
    rw [← Nat.pow_add, ← Nat.pow_add]; exact congrArg (fun t => 2 ^ t) (by omega)
  rw [e2, h2, Nat.mul_assoc, e3]

theorem mul_exact {x y r : Nat} (hx : x < INF) (hy : y < INF) (h0 : 0 < r) (hr : r < INF) (h : M x * M y = M r * 2 ^ X74) : FloatKind.f64.format.mul x y = some r := by
  have hI := INF_eq
  have fx : fin x := by unfold fin rung; omega
  have fy : fin y := by unfold fin rung; omega
  obtain ⟨z, h1, h2, h3, h4⟩ := mul_fin fx fy
  rw [key_low (x := x) (by omega), key_low (x := y) (by omega), V_nat, V_nat] at h4
  have hk := near_exact h4 (m := (r : Int)) (by omega) (by omega) (by
    rw [V_nat, E74_eq, ← Int.natCast_mul, h, Int.natCast_mul, Int.natCast_pow]; rfl)
  rw [h1]
  congr 1
  rw [word_of_key h3 (by rw [hk]; omega), hk]
  unfold ofKey
  rw [if_pos (by omega)]
  omega
theorem mul_one {r : Nat} (h0 : 0 < r) (hr : r < INF) : FloatKind.f64.format.mul 4607182418800017408 r = some r := by
  refine mul_exact (by decide) hr h0 hr ?_
  have hX := X74_eq
  obtain ⟨c, hc⟩ : ∃ c : Nat, c = 1022 := ⟨_, rfl⟩
  have e2 : M 4607182418800017408 = 2 ^ 52 * 2 ^ c := by
    have := M_at c (2 ^ 52) (.inr (by omega)) (by omega)
    rw [← this]; exact congrArg M (by omega)
  have e3 : (2 : Nat) ^ 52 * 2 ^ c = 2 ^ X74 := by rw [← Nat.pow_add]; exact congrArg (fun t => 2 ^ t) (by omega)
  rw [e2, e3, Nat.mul_comm]
theorem mul_c53 {W r : Nat} (hW : W < INF) (h0 : 0 < r) (hr : r < INF) (h : M W * M 4368491638549381120 = M r * 2 ^ X74) : FloatKind.f64.format.mul 4368491638549381120 W = some r :=
  mul_exact (by decide) hW h0 hr (by rw [Nat.mul_comm]; exact h)

theorem i64_field (x : Nat) (h : x < 2 ^ 11) : bits BinOp.and IntKind.i64 (x : Int) 2047 = (x : Int) := by
  have h1 : (BitVec.ofInt 64 (x : Int)).toNat = x := by
    rw [BitVec.ofInt_natCast, BitVec.toNat_ofNat]; exact Nat.mod_eq_of_lt (by omega)
  have h2 : (BitVec.ofInt 64 (2047 : Int)).toNat = 2047 := by decide
  show IntKind.i64.wrap ((BitVec.ofInt 64 (x : Int) &&& BitVec.ofInt 64 (2047 : Int)).toNat : Int) = _
  rw [BitVec.toNat_and, h1, h2, IntKind.wrap_i64]
  have : x &&& 2047 = x := by
    have := Nat.and_two_pow_sub_one_eq_mod x 11
    rw [Nat.mod_eq_of_lt h] at this
    exact this
  rw [this]
  omega
theorem u64_nofield (x : Nat) (h : x < 2 ^ 63) : bits BinOp.andNot IntKind.u64 (x : Int) 9218868437227405312 = ((x % 2 ^ 52 : Nat) : Int) := by
  rw [u64_andNot (x : Int) 9218868437227405312 (by omega) (by omega) (by omega) (by omega)]
  congr 1
  rw [Int.toNat_natCast]
  have e : (18446744073709551615 - Int.toNat 9218868437227405312 : Nat) = 2 ^ 63 * 1 + (2 ^ 52 - 1) := by decide
  have e2 : (2 ^ 63 * 1 + (2 ^ 52 - 1) : Nat) = 2 ^ 63 * 1 ||| (2 ^ 52 - 1) := Nat.two_pow_add_eq_or_of_lt (by omega) 1
  rw [e, e2, Nat.and_or_distrib_left, Nat.and_two_pow_sub_one_eq_mod]
  have e3 : x &&& 2 ^ 63 * 1 = 0 := by
    have h1 : (x &&& 2 ^ 63 * 1) % 2 ^ 63 = 0 := by rw [Nat.and_mod_two_pow]; simp
    have h2 : (x &&& 2 ^ 63 * 1) / 2 ^ 63 = 0 := by
      rw [Nat.and_div_two_pow, show x / 2 ^ 63 = 0 by omega]; rfl
    omega
  rw [e3, Nat.zero_or]
theorem u64_or_field (m k : Nat) (hm : m < 2 ^ 52) (hk : k < 2 ^ 11) : bits BinOp.or IntKind.u64 (m : Int) ((k * 2 ^ 52 : Nat) : Int) = ((k * 2 ^ 52 + m : Nat) : Int) := by
  rw [u64_or (m : Int) ((k * 2 ^ 52 : Nat) : Int) (by omega) (by omega) (by omega) (by omega)]
  congr 1
  rw [Int.toNat_natCast, Int.toNat_natCast, Nat.mul_comm k, Nat.or_comm, ← Nat.two_pow_add_eq_or_of_lt hm]

end Go.Fl
