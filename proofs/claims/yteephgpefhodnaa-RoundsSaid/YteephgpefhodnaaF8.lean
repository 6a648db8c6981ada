/- A real given by its first 64 binary digits and what is left, rounded to a rung; its sign. -/
import Derived.Test.YteephgpefhodnaaF7
namespace Go.Fl
set_option linter.unusedVariables false
set_option linter.unusedSimpArgs false

/-- r is the real N / D (from 0 on) rounded towards 0; away from it. -/
def MagD (r N D : Nat) : Prop := r < INF ∧ M r * D ≤ N ∧ (r + 1 ≠ INF → N < M (r + 1) * D)
def MagU (r N D : Nat) : Prop := r ≤ INF ∧ (r ≠ INF → N ≤ M r * D) ∧ (r ≠ 0 → M (r - 1) * D < N)

theorem magD_pos {r N D : Nat} {c : Int → Int} (hc : ∀ k, c k = (N : Int) - V k * D) (h : MagD r N D) : RD c r := by
  obtain ⟨h1, h2, h3⟩ := h
  have hI := PI_INF
  refine ⟨by omega, by omega, fun _ => ?_, fun hne => ?_⟩
  · rw [hc, V_nat]; have : ((M r * D : Nat) : Int) ≤ N := by omega
    push_cast at this; omega
  · have := h3 (by omega)
    rw [hc, show (r : Int) + 1 = ((r + 1 : Nat) : Int) by omega, V_nat]
    have : (N : Int) < ((M (r + 1) * D : Nat) : Int) := by omega
    rw [Int.natCast_mul] at this; omega
theorem magU_pos {r N D : Nat} {c : Int → Int} (hD : 0 < D) (hc : ∀ k, c k = (N : Int) - V k * D) (h : MagU r N D) : RU c r := by
  obtain ⟨h1, h2, h3⟩ := h
  have hI := PI_INF
  refine ⟨by have := PI_pos; omega, by omega, fun hne => ?_, fun hne => ?_⟩
  · have := h2 (by omega)
    rw [hc, V_nat]; have : (N : Int) ≤ ((M r * D : Nat) : Int) := by omega
    rw [Int.natCast_mul] at this; omega
  · by_cases h0 : r = 0
    · subst h0
      rw [hc, show ((0 : Nat) : Int) - 1 = -1 by omega, show V (-1) = -1 by decide]; omega
    · have := h3 h0
      rw [hc, show (r : Int) - 1 = ((r - 1 : Nat) : Int) by omega, V_nat]
      have : ((M (r - 1) * D : Nat) : Int) < (N : Int) := by omega
      rw [Int.natCast_mul] at this; omega
theorem magU_neg {r N D : Nat} {c : Int → Int} (hD : 0 < D) (hc : ∀ k, c k = -(N : Int) - V k * D) (h : MagU r N D) : RD c (-(r : Int)) := by
  obtain ⟨h1, h2, h3⟩ := h
  have hI := PI_INF
  refine ⟨by omega, by have := PI_pos; omega, fun hne => ?_, fun hne => ?_⟩
  · have := h2 (by omega)
    rw [hc, V_neg, V_nat, Int.neg_mul]; have : (N : Int) ≤ ((M r * D : Nat) : Int) := by omega
    rw [Int.natCast_mul] at this; omega
  · by_cases h0 : r = 0
    · subst h0
      rw [hc, show -((0 : Nat) : Int) + 1 = 1 by omega, show V 1 = 1 by decide]; omega
    · have := h3 h0
      rw [hc, show -(r : Int) + 1 = -((r - 1 : Nat) : Int) by omega, V_neg, V_nat, Int.neg_mul]
      have : ((M (r - 1) * D : Nat) : Int) < (N : Int) := by omega
      rw [Int.natCast_mul] at this; omega
theorem magD_neg {r N D : Nat} {c : Int → Int} (hc : ∀ k, c k = -(N : Int) - V k * D) (h : MagD r N D) : RU c (-(r : Int)) := by
  obtain ⟨h1, h2, h3⟩ := h
  have hI := PI_INF
  refine ⟨by omega, by have := PI_pos; omega, fun _ => ?_, fun hne => ?_⟩
  · rw [hc, V_neg, V_nat, Int.neg_mul]; have : ((M r * D : Nat) : Int) ≤ N := by omega
    rw [Int.natCast_mul] at this; omega
  · have := h3 (by omega)
    rw [hc, show -(r : Int) - 1 = -((r + 1 : Nat) : Int) by omega, V_neg, V_nat, Int.neg_mul]
    have : (N : Int) < ((M (r + 1) * D : Nat) : Int) := by omega
    rw [Int.natCast_mul] at this; omega

/-- The number of digits that are kept, of a real whose first digit has this exponent. -/
def keepOf (first : Int) : Nat := if first < -1022 then (first + 1075).toNat else 53
/-- The place of the last digit kept, from the least number's on. -/
def placeOf (first : Int) : Nat := if first < -1022 then 0 else (first + 1022).toNat

theorem mag_of {H N D : Nat} {first : Int} {x : Bool} (hH1 : 2 ^ 63 ≤ H) (hH2 : H < 2 ^ 64) (hD : 0 < D) (hf : first ≤ 1023)
    (h1 : H * 2 ^ (first + 1011).toNat * D ≤ N * 2 ^ (-(first + 1011)).toNat) (h2 : N * 2 ^ (-(first + 1011)).toNat < (H + 1) * 2 ^ (first + 1011).toNat * D)
    (hx : N * 2 ^ (-(first + 1011)).toNat = H * 2 ^ (first + 1011).toNat * D ↔ x = false) :
    MagD (placeOf first * 2 ^ 52 + H / 2 ^ (64 - keepOf first)) N D ∧
    MagU (placeOf first * 2 ^ 52 + H / 2 ^ (64 - keepOf first) + (if x = true ∨ H % 2 ^ (64 - keepOf first) ≠ 0 then 1 else 0)) N D := by
  generalize hl : placeOf first = l
  generalize hk : keepOf first = keep
  have hk53 : keep ≤ 53 := by unfold keepOf at hk; split at hk <;> omega
  generalize hg : 64 - keep = g
  generalize ha : (first + 1011).toNat = a at *
  generalize hb : (-(first + 1011)).toNat = b at *
  -- the unit of the digit kept, in units of what is left
  have hG : 0 < 2 ^ g := Nat.two_pow_pos g
  have hB : 0 < 2 ^ b := Nat.two_pow_pos b
  have hA : 0 < 2 ^ a := Nat.two_pow_pos a
  have hL : 0 < 2 ^ l := Nat.two_pow_pos l
  generalize hq : H / 2 ^ g = q
  have hqm := Nat.div_add_mod H (2 ^ g)
  rw [hq] at hqm
  have hrm := Nat.mod_lt H hG
  generalize hr : H % 2 ^ g = r at *
  -- 2^l is 2^(g + a - b), or (where nothing is kept) more
  have hexp : l + b = g + a ∨ (keep = 0 ∧ l + b > g + a ∧ l = 0) := by
    unfold placeOf at hl; unfold keepOf at hk
    split at hl <;> split at hk <;> omega
  have hq53 : q < 2 ^ 53 := by
    rw [← hq, Nat.div_lt_iff_lt_mul hG, ← Nat.pow_add]
    exact Nat.lt_of_lt_of_le hH2 (Nat.pow_le_pow_right (by omega) (by omega))
  have hq52 : l = 0 ∨ 2 ^ 52 ≤ q := by
    unfold placeOf at hl
    split at hl
    · left; omega
    · right
      unfold keepOf at hk
      rw [if_neg (by assumption)] at hk
      rw [← hq, show g = 11 by omega]
      omega
  have m0 := M_at l q hq52 (by omega)
  have m1 := M_at l (q + 1) (by omega) (by omega)
  have hrI : l * 2 ^ 52 + q < INF := by
    have h0 := INF_eq
    unfold placeOf at hl
    split at hl <;> omega
  -- the real lies from q on, below q + 1 (in units of the last digit kept)
  have key : q * 2 ^ l * D ≤ N ∧ N < (q + 1) * 2 ^ l * D ∧ (N = q * 2 ^ l * D ↔ (x = false ∧ r = 0)) := by
    rcases hexp with he | ⟨k0, he, l0⟩
    · have hp : 2 ^ l * 2 ^ b = 2 ^ g * 2 ^ a := by rw [← Nat.pow_add, ← Nat.pow_add, he]
      have e1 : q * 2 ^ l * D * 2 ^ b = 2 ^ g * q * 2 ^ a * D := by
        have : q * 2 ^ l * D * 2 ^ b = q * (2 ^ l * 2 ^ b) * D := by simp only [Nat.mul_assoc, Nat.mul_comm, Nat.mul_left_comm]
        rw [this, hp]; simp only [Nat.mul_assoc, Nat.mul_comm, Nat.mul_left_comm]
      have e2 : (q + 1) * 2 ^ l * D * 2 ^ b = 2 ^ g * (q + 1) * 2 ^ a * D := by
        have : (q + 1) * 2 ^ l * D * 2 ^ b = (q + 1) * (2 ^ l * 2 ^ b) * D := by simp only [Nat.mul_assoc, Nat.mul_comm, Nat.mul_left_comm]
        rw [this, hp]; simp only [Nat.mul_assoc, Nat.mul_comm, Nat.mul_left_comm]
      have e3 : 2 ^ g * q * 2 ^ a * D ≤ H * 2 ^ a * D := Nat.mul_le_mul_right _ (Nat.mul_le_mul_right _ (by omega))
      have e4 : (H + 1) * 2 ^ a * D ≤ 2 ^ g * (q + 1) * 2 ^ a * D := Nat.mul_le_mul_right _ (Nat.mul_le_mul_right _ (by rw [Nat.mul_add]; omega))
      refine ⟨Nat.le_of_mul_le_mul_right (show q * 2 ^ l * D * 2 ^ b ≤ N * 2 ^ b by rw [e1]; omega) hB, Nat.lt_of_mul_lt_mul_right (show N * 2 ^ b < (q + 1) * 2 ^ l * D * 2 ^ b by rw [e2]; omega), ?_⟩
      constructor
      · intro hN
        have e5 : 2 ^ g * q * 2 ^ a * D = N * 2 ^ b := by rw [← e1, ← hN]
        have e6 : N * 2 ^ b = H * 2 ^ a * D := by omega
        have e7 : 2 ^ g * q * 2 ^ a * D = H * 2 ^ a * D := by omega
        have e8 : 2 ^ g * q = H := Nat.eq_of_mul_eq_mul_right hA (Nat.eq_of_mul_eq_mul_right hD e7)
        exact ⟨hx.1 e6, by omega⟩
      · rintro ⟨hx0, hr0⟩
        have e6 := hx.2 hx0
        have e8 : 2 ^ g * q = H := by omega
        refine Nat.eq_of_mul_eq_mul_right hB ?_
        rw [e6, e1, e8]
    · have g64 : g = 64 := by omega
      have q0 : q = 0 := by rw [← hq, g64]; exact Nat.div_eq_of_lt hH2
      have hrH : r = H := by rw [← hr, g64]; exact Nat.mod_eq_of_lt hH2
      rw [q0, l0]
      simp only [Nat.zero_mul, Nat.zero_add, Nat.pow_zero, Nat.one_mul]
      have e1 : 0 < H * 2 ^ a * D := Nat.mul_pos (Nat.mul_pos (by omega) hA) hD
      have hN0 : 0 < N := by
        rcases Nat.eq_zero_or_pos N with h | h
        · rw [h, Nat.zero_mul] at h1; omega
        · exact h
      have e2 : (H + 1) * 2 ^ a * D ≤ 2 ^ b * D := by
        refine Nat.mul_le_mul_right _ ?_
        refine Nat.le_trans (Nat.mul_le_mul_right _ (show H + 1 ≤ 2 ^ 64 by omega)) ?_
        rw [← Nat.pow_add]
        exact Nat.pow_le_pow_right (by omega) (by omega)
      refine ⟨by omega, ?_, ⟨fun h => by omega, fun h => by omega⟩⟩
      refine Nat.lt_of_mul_lt_mul_right (a := 2 ^ b) ?_
      rw [Nat.mul_comm D]; omega
  obtain ⟨k1, k2, k3⟩ := key
  refine ⟨⟨hrI, by rw [m0]; exact k1, fun _ => by rw [Nat.add_assoc, m1]; exact k2⟩, ?_⟩
  by_cases hz : x = true ∨ r ≠ 0
  · rw [if_pos hz]
    refine ⟨by omega, fun _ => by rw [Nat.add_assoc, m1]; omega, fun _ => ?_⟩
    rw [Nat.add_sub_cancel, m0]
    have : N ≠ q * 2 ^ l * D := fun h => by
      obtain ⟨z1, z2⟩ := k3.1 h
      rcases hz with z | z
      · rw [z1] at z; cases z
      · exact z z2
    omega
  · rw [if_neg hz]
    have hx0 : x = false := by
      cases x
      · rfl
      · exact absurd (.inl rfl) hz
    have hr0 : r = 0 := Decidable.byContradiction fun h => hz (.inr h)
    have hN := k3.2 ⟨hx0, hr0⟩
    refine ⟨by omega, fun _ => by rw [Nat.add_zero, m0]; omega, fun hne => ?_⟩
    rw [Nat.add_zero] at hne ⊢
    have hlt := Nat.mul_lt_mul_of_pos_right (M_lt (show l * 2 ^ 52 + q - 1 < l * 2 ^ 52 + q by omega)) hD
    rw [m0] at hlt
    omega

/-- A real beyond the greatest number. -/
theorem mag_over {H N D : Nat} {first : Int} (hH1 : 2 ^ 63 ≤ H) (hD : 0 < D) (hf : 1023 < first)
    (h1 : H * 2 ^ (first + 1011).toNat * D ≤ N * 2 ^ (-(first + 1011)).toNat) : MagD (INF - 1) N D ∧ MagU INF N D := by
  have hI : 1 < INF := by decide
  rw [show (-(first + 1011)).toNat = 0 by omega, Nat.pow_zero, Nat.mul_one] at h1
  have hM : M INF * D ≤ N := by
    refine Nat.le_trans (Nat.mul_le_mul_right _ ?_) h1
    obtain ⟨c, hc⟩ : ∃ c : Nat, c = 2044 := ⟨_, rfl⟩
    rw [INF_M c hc]
    obtain ⟨d, hd⟩ : ∃ d : Nat, d = 2035 := ⟨_, rfl⟩
    have e0 : (2 : Nat) ^ c = 2 ^ d * 2 ^ 9 := by rw [← Nat.pow_add]; congr 1; omega
    have e1 : 2 ^ d ≤ 2 ^ ((first + 1011).toNat) := Nat.pow_le_pow_right (by omega) (by omega)
    have e2 : 2 ^ 63 * 2 ^ d ≤ H * 2 ^ ((first + 1011).toNat) := Nat.mul_le_mul hH1 e1
    rw [e0]
    generalize (2 : Nat) ^ d = u at *
    omega
  have hlt := Nat.mul_lt_mul_of_pos_right (M_lt (show INF - 1 < INF by omega)) hD
  refine ⟨⟨by omega, by omega, fun h => by omega⟩, ⟨Nat.le_refl _, fun h => absurd rfl h, fun _ => by omega⟩⟩

end Go.Fl
