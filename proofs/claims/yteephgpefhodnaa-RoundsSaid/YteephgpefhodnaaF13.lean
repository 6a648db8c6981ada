/- A rung rounded from a size, with its sign; the real of a product and of a quotient in two words. -/
import Derived.Test.YteephgpefhodnaaF12
namespace Go.Fl
set_option linter.unusedVariables false

/-- Rounded away from nought, or towards it. -/
def MagR (away : Bool) (r N D : Nat) : Prop := if away = true then MagU r N D else MagD r N D

theorem magR_le {away : Bool} {r N D : Nat} (h : MagR away r N D) : r ≤ INF := by
  unfold MagR at h
  cases away
  · exact Nat.le_of_lt h.1
  · exact h.1

theorem signed_rnd {ng up : Bool} {r N D : Nat} {c : Int → Int} (hD : 0 < D) (hc : ∀ k, c k = (if ng = true then -(N : Int) else (N : Int)) - V k * D) (h : MagR (ng != up) r N D) : Rnd up c (if ng = true then -(r : Int) else (r : Int)) := by
  unfold MagR at h
  unfold Rnd
  cases ng <;> cases up
  · exact magD_pos hc h
  · exact magU_pos hD hc h
  · exact magU_neg hD hc h
  · exact magD_neg hc h

theorem magR_zero {away : Bool} {D : Nat} (hD : 0 < D) : MagR away 0 0 D := by
  unfold MagR MagU MagD
  have hI := INF_eq
  have h1 : M 0 < M (0 + 1) := M_lt_succ 0
  have h2 : 0 < M (0 + 1) * D := Nat.mul_pos (by omega) hD
  cases away
  · simp only [Bool.false_eq_true, if_false]
    exact ⟨by omega, by rw [M_zero, Nat.zero_mul]; exact Nat.le_refl _, fun _ => h2⟩
  · simp only [if_true]
    exact ⟨by omega, fun _ => Nat.zero_le _, fun h => absurd rfl h⟩

theorem E74_nat : E74 = ((2 ^ X74 : Nat) : Int) := by rw [E74_eq, Int.natCast_pow]; rfl

theorem mul_cut (x y : Nat) (k : Int) : cMul (key x) (key y) k = (if (neg x != neg y) = true then -((M (rung x) * M (rung y) : Nat) : Int) else ((M (rung x) * M (rung y) : Nat) : Int)) - V k * ((2 ^ X74 : Nat) : Int) := by
  unfold cMul
  rw [key_of_neg, key_of_neg, E74_nat, Int.natCast_mul]
  cases neg x <;> cases neg y <;> simp [Int.neg_mul, Int.mul_neg]

theorem div_cut (x y : Nat) (hy : key y ≠ 0) (k : Int) : cDiv (key x) (key y) k = (if (neg x != neg y) = true then -((M (rung x) * 2 ^ X74 : Nat) : Int) else ((M (rung x) * 2 ^ X74 : Nat) : Int)) - V k * ((M (rung y) : Nat) : Int) := by
  have hp : (0 < key y ↔ neg y = false) := by
    unfold key at *
    cases hn : neg y
    · rw [hn] at hy
      simp at hy ⊢
      omega
    · rw [hn] at hy
      simp at hy ⊢
  unfold cDiv
  rw [E74_nat, Int.natCast_mul]
  by_cases h : 0 < key y
  · rw [if_pos h, key_of_neg, key_of_neg, hp.1 h]
    cases neg x <;> simp [Int.neg_mul]
  · have hn : neg y = true := by
      cases hn : neg y
      · exact absurd (hp.2 hn) h
      · rfl
    rw [if_neg h, key_of_neg, key_of_neg, hn]
    cases neg x <;> simp [Int.neg_mul, Int.mul_neg] <;> omega

/-- A product, in two words. -/
theorem exact_wide {hi lo mn pl j : Nat} {p : Int} (hT : hi * 2 ^ 64 + lo = mn * 2 ^ j) (hp : p + j + 2148 = pl) : Wide hi lo p false (mn * 2 ^ pl) (2 ^ X74) := by
  have heq : mn * 2 ^ pl * 2 ^ (-(p + 1074)).toNat = (hi * 2 ^ 64 + lo) * 2 ^ (p + 1074).toNat * 2 ^ X74 := by
    have hX := X74_eq
    rw [hT, Nat.mul_assoc, Nat.mul_assoc mn, Nat.mul_assoc mn, ← Nat.pow_add, ← Nat.pow_add, ← Nat.pow_add]
    exact congrArg (fun t => mn * 2 ^ t) (by omega)
  refine ⟨Nat.le_of_eq heq.symm, ?_, fun _ => rfl, fun _ => heq⟩
  rw [heq]
  exact Nat.mul_lt_mul_of_pos_right (Nat.mul_lt_mul_of_pos_right (Nat.lt_succ_self _) (Nat.two_pow_pos _)) (Nat.two_pow_pos _)

/-- The real's first word is given, its first digit at the top: the rest is less than a unit of it. -/
def Top (hi lo : Nat) (e : Int) (rest : Bool) (N D : Nat) : Prop :=
  2 ^ 63 ≤ hi ∧ lo = 0 ∧ hi * 2 ^ (e + 127 + 1011).toNat * D ≤ N * 2 ^ (-(e + 127 + 1011)).toNat ∧ N * 2 ^ (-(e + 127 + 1011)).toNat < (hi + 1) * 2 ^ (e + 127 + 1011).toNat * D ∧
    (N * 2 ^ (-(e + 127 + 1011)).toNat = hi * 2 ^ (e + 127 + 1011).toNat * D ↔ rest = false)

/-- A quotient. -/
theorem top_div {m n k l px py q rem : Nat} {E : Int} {rest : Bool} (hq : 2 ^ 63 ≤ q) (hdiv : m * 2 ^ k * 2 ^ 64 = q * (n * 2 ^ l) + rem) (hr : rem < n * 2 ^ l) (hE : E = (px : Int) - k - (py - l) - 128) (hk : k ≤ 64) (hrest : rest = false ↔ rem = 0) :
    Top q 0 E rest (m * 2 ^ px * 2 ^ X74) (n * 2 ^ py) := by
  have hX := X74_eq
  obtain ⟨a, ha⟩ : ∃ a, a = (E + 127 + 1011).toNat := ⟨_, rfl⟩
  obtain ⟨b, hb⟩ : ∃ b, b = (-(E + 127 + 1011)).toNat := ⟨_, rfl⟩
  obtain ⟨s, hs⟩ : ∃ s, s = a + py - l := ⟨_, rfl⟩
  have e1 : m * 2 ^ px * 2 ^ X74 * 2 ^ b = (q * (n * 2 ^ l) + rem) * 2 ^ s := by
    rw [← hdiv, Nat.mul_assoc, Nat.mul_assoc, ← Nat.pow_add, ← Nat.pow_add, Nat.mul_assoc m, ← Nat.pow_add, Nat.mul_assoc m, ← Nat.pow_add]
    exact congrArg (fun t => m * 2 ^ t) (by omega)
  have e2 : ∀ z : Nat, z * 2 ^ a * (n * 2 ^ py) = z * (n * 2 ^ l) * 2 ^ s := by
    intro z
    have : (2 : Nat) ^ a * 2 ^ py = 2 ^ l * 2 ^ s := by rw [← Nat.pow_add, ← Nat.pow_add]; exact congrArg (fun t => 2 ^ t) (by omega)
    calc z * 2 ^ a * (n * 2 ^ py) = z * n * (2 ^ a * 2 ^ py) := by simp only [Nat.mul_assoc, Nat.mul_comm, Nat.mul_left_comm]
      _ = z * n * (2 ^ l * 2 ^ s) := by rw [this]
      _ = z * (n * 2 ^ l) * 2 ^ s := by simp only [Nat.mul_assoc]
  have hp : 0 < 2 ^ s := Nat.two_pow_pos s
  unfold Top
  rw [← ha, ← hb, e1, e2, e2]
  refine ⟨hq, rfl, Nat.mul_le_mul_right _ (Nat.le_add_right _ _), Nat.mul_lt_mul_of_pos_right ?_ hp, ?_⟩
  · rw [Nat.add_mul q 1, Nat.one_mul]; omega
  · rw [hrest]
    constructor
    · intro h
      have := Nat.eq_of_mul_eq_mul_right hp h
      omega
    · intro h; rw [h, Nat.add_zero]

/-- The quotient's first digit stands at the top. -/
theorem top_quot {m' n' : Nat} (hn : 0 < n') (h1 : n' ≤ 2 * m') (h2 : m' < n') : 2 ^ 63 ≤ m' * 2 ^ 64 / n' ∧ m' * 2 ^ 64 / n' < 2 ^ 64 := by
  constructor
  · rw [Nat.le_div_iff_mul_le hn]; omega
  · rw [Nat.div_lt_iff_lt_mul hn]; omega

/-- The four reals, rounded. -/
noncomputable def mulK (x y : Int) (up : Bool) : Int := rnd up (cMul x y)
noncomputable def divK (x y : Int) (up : Bool) : Int := rnd up (cDiv x y)
noncomputable def sqrtK (x : Int) (up : Bool) : Int := rnd up (cSqrt x)

end Go.Fl
