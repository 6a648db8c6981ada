/- A real given by two words: its first 64 digits, and what is left. -/
import Derived.Test.YteephgpefhodnaaF10
import Derived.Laws.MathBits
namespace Go.Fl
set_option linter.unusedVariables false
set_option linter.unusedSimpArgs false

/-- The real N / D (in units of the least number) is (hi * 2^64 + lo) * 2^e, and less than one unit of lo more (nothing more, if not rest). -/
def Wide (hi lo : Nat) (e : Int) (rest : Bool) (N D : Nat) : Prop :=
  (hi * 2 ^ 64 + lo) * 2 ^ (e + 1074).toNat * D ≤ N * 2 ^ (-(e + 1074)).toNat ∧
  N * 2 ^ (-(e + 1074)).toNat < (hi * 2 ^ 64 + lo + 1) * 2 ^ (e + 1074).toNat * D ∧
  (N * 2 ^ (-(e + 1074)).toNat = (hi * 2 ^ 64 + lo) * 2 ^ (e + 1074).toNat * D ↔ rest = false)

theorem shift_eq {hi lo n : Nat} (hn : n ≤ 63) (hl : lo < 2 ^ 64) :
    (hi * 2 ^ 64 + lo) * 2 ^ n = (hi * 2 ^ n + lo / 2 ^ (64 - n)) * 2 ^ 64 + lo * 2 ^ n % 2 ^ 64 := by
  have e1 : lo * 2 ^ n / 2 ^ 64 = lo / 2 ^ (64 - n) := by
    have e : (2 : Nat) ^ 64 = 2 ^ (64 - n) * 2 ^ n := by rw [← Nat.pow_add]; exact congrArg (fun t => 2 ^ t) (by omega)
    rw [e, Nat.mul_div_mul_right _ _ (Nat.two_pow_pos n)]
  have e2 := Nat.div_add_mod (lo * 2 ^ n) (2 ^ 64)
  rw [e1] at e2
  have e3 : (hi * 2 ^ 64 + lo) * 2 ^ n = hi * 2 ^ n * 2 ^ 64 + lo * 2 ^ n := by
    rw [Nat.add_mul, Nat.mul_right_comm]
  rw [e3, Nat.add_mul]
  omega
theorem shift_room {lo n : Nat} (hn : n ≤ 63) : lo * 2 ^ n % 2 ^ 64 + 2 ^ n ≤ 2 ^ 64 := by
  have e : (2 : Nat) ^ 64 = 2 ^ (64 - n) * 2 ^ n := by rw [← Nat.pow_add]; exact congrArg (fun t => 2 ^ t) (by omega)
  have h := Nat.mod_lt lo (Nat.two_pow_pos (64 - n))
  calc lo * 2 ^ n % 2 ^ 64 + 2 ^ n = lo % 2 ^ (64 - n) * 2 ^ n + 2 ^ n := by rw [e, Nat.mul_mod_mul_right]
    _ = (lo % 2 ^ (64 - n) + 1) * 2 ^ n := by rw [Nat.add_mul, Nat.one_mul]
    _ ≤ 2 ^ (64 - n) * 2 ^ n := Nat.mul_le_mul_right _ h
    _ = 2 ^ 64 := e.symm

theorem wide_core {hi lo : Nat} {e : Int} {rest : Bool} {N D n H L : Nat} (hW : Wide hi lo e rest N D) (hD : 0 < D)
    (hT : (hi * 2 ^ 64 + lo) * 2 ^ n = H * 2 ^ 64 + L) (hr : L + 2 ^ n ≤ 2 ^ 64) {first : Int} (hf : first = e + 127 - n) :
    H * 2 ^ (first + 1011).toNat * D ≤ N * 2 ^ (-(first + 1011)).toNat ∧ N * 2 ^ (-(first + 1011)).toNat < (H + 1) * 2 ^ (first + 1011).toNat * D ∧
    (N * 2 ^ (-(first + 1011)).toNat = H * 2 ^ (first + 1011).toNat * D ↔ (rest || decide (L ≠ 0)) = false) := by
  unfold Wide at hW
  obtain ⟨T, hTe⟩ : ∃ T, T = hi * 2 ^ 64 + lo := ⟨_, rfl⟩
  rw [← hTe] at hW hT
  clear hTe
  obtain ⟨w1, w2, w3⟩ := hW
  have hexp : (first + 1011).toNat + (-(e + 1074)).toNat + n = (e + 1074).toNat + ((-(first + 1011)).toNat + 64) := by omega
  generalize (first + 1011).toNat = a at *
  generalize (-(first + 1011)).toNat = b at *
  generalize (e + 1074).toNat = a0 at *
  generalize (-(e + 1074)).toNat = b0 at *
  clear hf
  -- everything times 2^(b0 + 64)
  have hB : 0 < 2 ^ (b0 + 64) := Nat.two_pow_pos _
  have hC : 0 < 2 ^ (b + 64) := Nat.two_pow_pos _
  have hU : 0 < 2 ^ (a + b0) * D := Nat.mul_pos (Nat.two_pow_pos _) hD
  have eN : N * 2 ^ b * 2 ^ (b0 + 64) = N * 2 ^ b0 * 2 ^ (b + 64) := by
    rw [Nat.mul_assoc, Nat.mul_assoc, ← Nat.pow_add, ← Nat.pow_add]; congr 2; omega
  have eX : ∀ X, X * 2 ^ a * D * 2 ^ (b0 + 64) = X * 2 ^ 64 * (2 ^ (a + b0) * D) := by
    intro X
    rw [Nat.pow_add 2 b0, Nat.pow_add 2 a]
    simp only [Nat.mul_assoc, Nat.mul_comm, Nat.mul_left_comm]
  have eT : ∀ X, X * 2 ^ a0 * D * 2 ^ (b + 64) = X * 2 ^ n * (2 ^ (a + b0) * D) := by
    intro X
    have h1 : X * 2 ^ a0 * D * 2 ^ (b + 64) = X * (2 ^ a0 * 2 ^ (b + 64)) * D := by simp only [Nat.mul_assoc, Nat.mul_comm, Nat.mul_left_comm]
    have h2 : X * 2 ^ n * (2 ^ (a + b0) * D) = X * (2 ^ (a + b0) * 2 ^ n) * D := by simp only [Nat.mul_assoc, Nat.mul_comm, Nat.mul_left_comm]
    rw [h1, h2, ← Nat.pow_add, ← Nat.pow_add, hexp]
  generalize hU2 : 2 ^ (a + b0) * D = U at *
  have v1 : T * 2 ^ n * U ≤ N * 2 ^ b0 * 2 ^ (b + 64) := by rw [← eT]; exact Nat.mul_le_mul_right _ w1
  have v2 : N * 2 ^ b0 * 2 ^ (b + 64) < (T + 1) * 2 ^ n * U := by rw [← eT]; exact Nat.mul_lt_mul_of_pos_right w2 hC
  rw [← eN] at v1 v2
  have u1 : H * 2 ^ 64 * U ≤ T * 2 ^ n * U := Nat.mul_le_mul_right _ (by omega)
  have u2 : (T + 1) * 2 ^ n * U ≤ (H + 1) * 2 ^ 64 * U := Nat.mul_le_mul_right _ (by rw [Nat.add_mul, hT, Nat.add_mul]; omega)
  have k1 : H * 2 ^ a * D ≤ N * 2 ^ b := Nat.le_of_mul_le_mul_right (show H * 2 ^ a * D * 2 ^ (b0 + 64) ≤ _ by rw [eX]; omega) hB
  refine ⟨k1, Nat.lt_of_mul_lt_mul_right (show N * 2 ^ b * 2 ^ (b0 + 64) < _ by rw [eX]; omega), ?_⟩
  constructor
  · intro hh
    have h2 : N * 2 ^ b * 2 ^ (b0 + 64) = H * 2 ^ 64 * U := by rw [← eX, hh]
    have h3 : T * 2 ^ n * U = H * 2 ^ 64 * U := by omega
    have h4 := Nat.eq_of_mul_eq_mul_right hU h3
    have h5 : N * 2 ^ b0 * 2 ^ (b + 64) = T * 2 ^ a0 * D * 2 ^ (b + 64) := by rw [← eN, eT]; omega
    have h6 := w3.1 (Nat.eq_of_mul_eq_mul_right hC h5)
    rw [h6, Bool.false_or, decide_eq_false_iff_not]
    omega
  · intro hh
    rw [Bool.or_eq_false_iff, decide_eq_false_iff_not] at hh
    obtain ⟨h1, h2⟩ := hh
    have h3 := w3.2 h1
    refine Nat.eq_of_mul_eq_mul_right hB ?_
    rw [eN, h3, eT, eX, hT, show L = 0 by omega, Nat.add_zero]

/-- The unit's digits that are not kept. -/
theorem low_digits {H k : Nat} (hk : k ≤ 53) (hH : H < 2 ^ 64) : (H * 2 ^ k % 2 ^ 64 ≠ 0) ↔ (H % 2 ^ (64 - k) ≠ 0) := by
  have e : (2 : Nat) ^ 64 = 2 ^ (64 - k) * 2 ^ k := by rw [← Nat.pow_add]; exact congrArg (fun t => 2 ^ t) (by omega)
  have hp : 0 < 2 ^ k := Nat.two_pow_pos k
  rw [e, Nat.mul_mod_mul_right]
  constructor
  · intro h h2; rw [h2, Nat.zero_mul] at h; exact h rfl
  · intro h h2
    rcases Nat.mul_eq_zero.1 h2 with h3 | h3
    · exact h h3
    · omega
theorem wrap_low {H k : Nat} (hk : k ≤ 53) (hH : H < 2 ^ 64) : (IntKind.u64.wrap ((H : Int) * 2 ^ k) != 0) = decide (H % 2 ^ (64 - k) ≠ 0) := by
  have h := low_digits hk hH
  have e1 : (H : Int) * 2 ^ k = ((H * 2 ^ k : Nat) : Int) := by rw [Int.natCast_mul, Int.natCast_pow]; rfl
  rw [Bool.eq_iff_iff, bne_iff_ne, decide_eq_true_iff, ← h, e1, IntKind.wrap_u64]
  generalize H * 2 ^ k = y
  omega

/-- The first digits by the operators. -/
theorem first_word {hi lo n : Nat} (hn : n ≤ 63) (h : hi < 2 ^ (64 - n)) (hl : lo < 2 ^ 64) :
    bits BinOp.or IntKind.u64 (IntKind.u64.wrap ((hi : Int) * 2 ^ n)) ((lo : Int) / 2 ^ (64 - n)) = ((hi * 2 ^ n + lo / 2 ^ (64 - n) : Nat) : Int) := by
  have e : (2 : Nat) ^ 64 = 2 ^ (64 - n) * 2 ^ n := by rw [← Nat.pow_add]; exact congrArg (fun t => 2 ^ t) (by omega)
  have e1 : (hi : Int) * 2 ^ n = ((hi * 2 ^ n : Nat) : Int) := by rw [Int.natCast_mul, Int.natCast_pow]; rfl
  have e2 : (lo : Int) / 2 ^ (64 - n) = ((lo / 2 ^ (64 - n) : Nat) : Int) := by rw [Int.natCast_ediv, Int.natCast_pow]; rfl
  have h1 : hi * 2 ^ n < 2 ^ 64 := by rw [e]; exact Nat.mul_lt_mul_of_pos_right h (Nat.two_pow_pos n)
  have h2 : lo / 2 ^ (64 - n) < 2 ^ n := by
    rw [Nat.div_lt_iff_lt_mul (Nat.two_pow_pos _), Nat.mul_comm, ← e]; exact hl
  have h3 : lo / 2 ^ (64 - n) < 2 ^ 64 := Nat.lt_of_le_of_lt (Nat.div_le_self _ _) hl
  have e3 : IntKind.u64.wrap ((hi * 2 ^ n : Nat) : Int) = ((hi * 2 ^ n : Nat) : Int) := by
    rw [IntKind.wrap_u64]; generalize hi * 2 ^ n = y at *; omega
  have e4 := Nat.two_pow_add_eq_or_of_lt h2 hi
  rw [e1, e2, e3]
  generalize lo / 2 ^ (64 - n) = z at *
  rw [Nat.mul_comm (2 ^ n)] at e4
  generalize hi * 2 ^ n = y at *
  rw [u64_or (y : Int) (z : Int) (by omega) (by omega) (by omega) (by omega), Int.toNat_natCast, Int.toNat_natCast, ← e4]

/-- The first digit is moved to the top. -/
theorem top_digit {hi lo n b : Nat} (h0 : hi ≠ 0) (hi2 : hi < 2 ^ 64) (hb : hi < 2 ^ b ∧ (hi ≠ 0 → 2 ^ (b - 1) ≤ hi)) (hl : lo < 2 ^ 64) (hb2 : b ≤ 64) (hn : n = 64 - b) :
    n ≤ 63 ∧ hi < 2 ^ (64 - n) ∧ 2 ^ 63 ≤ hi * 2 ^ n + lo / 2 ^ (64 - n) ∧ hi * 2 ^ n + lo / 2 ^ (64 - n) < 2 ^ 64 := by
  obtain ⟨b1, b2⟩ := hb
  have b2 := b2 h0
  have hb0 : b ≠ 0 := by
    intro h
    rw [h] at b1
    omega
  have e : (2 : Nat) ^ 64 = 2 ^ (64 - n) * 2 ^ n := by rw [← Nat.pow_add]; exact congrArg (fun t => 2 ^ t) (by omega)
  have e6 : (2 : Nat) ^ 63 = 2 ^ (b - 1) * 2 ^ n := by rw [← Nat.pow_add]; exact congrArg (fun t => 2 ^ t) (by omega)
  have h2 : lo / 2 ^ (64 - n) < 2 ^ n := by
    rw [Nat.div_lt_iff_lt_mul (Nat.two_pow_pos _), Nat.mul_comm, ← e]; exact hl
  have e7 : 64 - n = b := by omega
  refine ⟨by omega, by rw [e7]; exact b1, ?_, ?_⟩
  · have := Nat.mul_le_mul_right (2 ^ n) b2
    rw [← e6] at this
    exact Nat.le_trans this (Nat.le_add_right _ _)
  · have h3 : (hi + 1) * 2 ^ n ≤ 2 ^ (64 - n) * 2 ^ n := Nat.mul_le_mul_right _ (by rw [e7]; exact b1)
    rw [Nat.add_mul, ← e] at h3
    omega

end Go.Fl
