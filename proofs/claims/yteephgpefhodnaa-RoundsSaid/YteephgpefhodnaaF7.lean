/- Rounded down, rounded up: by the sign of what the real is above a word. The sum. -/
import Derived.Test.YteephgpefhodnaaF6
namespace Go.Fl
set_option linter.unusedVariables false

/-- 'c k' has the sign of the real less the value of key k. -/
def Cut (c : Int → Int) : Prop := ∀ j k, j < k → (0 ≤ c k → 0 < c j) ∧ (c j ≤ 0 → c k < 0)
def RD (c : Int → Int) (k : Int) : Prop := -PI ≤ k ∧ k < PI ∧ (k ≠ -PI → 0 ≤ c k) ∧ (k + 1 ≠ PI → c (k + 1) < 0)
def RU (c : Int → Int) (k : Int) : Prop := -PI < k ∧ k ≤ PI ∧ (k ≠ PI → c k ≤ 0) ∧ (k - 1 ≠ -PI → 0 < c (k - 1))

theorem RD_one {c : Int → Int} (hc : Cut c) {j k : Int} (hj : RD c j) (hk : RD c k) : j = k := by
  obtain ⟨j1, j2, j3, j4⟩ := hj
  obtain ⟨k1, k2, k3, k4⟩ := hk
  rcases Int.lt_trichotomy j k with h | h | h
  · exfalso
    have a := k3 (by omega)
    have b := j4 (by omega)
    by_cases e : j + 1 = k
    · rw [e] at b; omega
    · have := (hc (j + 1) k (by omega)).1 a; omega
  · exact h
  · exfalso
    have a := j3 (by omega)
    have b := k4 (by omega)
    by_cases e : k + 1 = j
    · rw [e] at b; omega
    · have := (hc (k + 1) j (by omega)).1 a; omega
theorem RU_one {c : Int → Int} (hc : Cut c) {j k : Int} (hj : RU c j) (hk : RU c k) : j = k := by
  obtain ⟨j1, j2, j3, j4⟩ := hj
  obtain ⟨k1, k2, k3, k4⟩ := hk
  rcases Int.lt_trichotomy j k with h | h | h
  · exfalso
    have a := j3 (by omega)
    have b := k4 (by omega)
    by_cases e : j = k - 1
    · rw [e] at a; omega
    · have := (hc j (k - 1) (by omega)).2 a; omega
  · exact h
  · exfalso
    have a := k3 (by omega)
    have b := j4 (by omega)
    by_cases e : k = j - 1
    · rw [e] at a; omega
    · have := (hc k (j - 1) (by omega)).2 a; omega

def Rnd (up : Bool) (c : Int → Int) (k : Int) : Prop := if up then RU c k else RD c k
/-- THE real, rounded. -/
noncomputable def rnd (up : Bool) (c : Int → Int) : Int := Classical.epsilon (Rnd up c)
theorem rnd_eq {up : Bool} {c : Int → Int} (hc : Cut c) {k : Int} (h : Rnd up c k) : rnd up c = k := by
  have h1 : Rnd up c (rnd up c) := Classical.epsilon_spec ⟨k, h⟩
  cases up
  · exact RD_one hc h1 h
  · exact RU_one hc h1 h
theorem Rnd_rg {up : Bool} {c : Int → Int} {k : Int} (h : Rnd up c k) : Rg k := by
  cases up
  · exact ⟨h.1, Int.le_of_lt h.2.1⟩
  · exact ⟨Int.le_of_lt h.1, h.2.1⟩

/-! The four reals. -/
def cAdd (x y k : Int) : Int := V x + V y - V k
def cMul (x y k : Int) : Int := V x * V y - V k * E74
def cDiv (x y k : Int) : Int := if 0 < y then V x * E74 - V k * V y else V k * V y - V x * E74
def cSqrt (x k : Int) : Int := if k < 0 then 1 else V x * E74 - V k * V k

theorem cut_add (x y : Int) : Cut (cAdd x y) := by
  intro j k h
  have := V_lt h
  unfold cAdd
  exact ⟨fun _ => by omega, fun _ => by omega⟩
theorem cut_mul (x y : Int) : Cut (cMul x y) := by
  intro j k h
  have := Int.mul_lt_mul_of_pos_right (V_lt h) E74_pos
  unfold cMul
  exact ⟨fun _ => by omega, fun _ => by omega⟩
theorem cut_div (x y : Int) (hy : y ≠ 0) : Cut (cDiv x y) := by
  intro j k h
  unfold cDiv
  by_cases h0 : 0 < y
  · have hv : 0 < V y := by rw [← V_zero]; exact V_lt h0
    have := Int.mul_lt_mul_of_pos_right (V_lt h) hv
    rw [if_pos h0, if_pos h0]
    exact ⟨fun _ => by omega, fun _ => by omega⟩
  · have hv : V y < 0 := by rw [← V_zero]; exact V_lt (by omega)
    have := Int.mul_lt_mul_of_neg_right (V_lt h) hv
    rw [if_neg h0, if_neg h0]
    exact ⟨fun _ => by omega, fun _ => by omega⟩
theorem cut_sqrt (x : Int) : Cut (cSqrt x) := by
  intro j k h
  unfold cSqrt
  by_cases hj : j < 0
  · rw [if_pos hj]
    exact ⟨fun _ => by omega, fun hh => by omega⟩
  · rw [if_neg hj, if_neg (by omega)]
    have h0 : 0 ≤ V j := by rw [← V_zero]; exact V_le (by omega)
    have := Int.mul_self_lt_mul_self h0 (V_lt h)
    exact ⟨fun _ => by omega, fun _ => by omega⟩

/-! The sum, as the program works it out. -/
theorem PI_INF : PI = (INF : Int) := rfl

/-- The last difference has the sign of what is missing. -/
theorem rest_sign {r N : Int} (h : Near r N 1) : (0 < r ↔ 0 < N) ∧ (r < 0 ↔ N < 0) := by
  obtain ⟨h1, h2, h3⟩ := h
  have hI : (1 : Int) < INF := by decide
  have v0 := h3 0 (by omega) (by omega)
  have v1 := h3 1 (by omega) (by omega)
  have w1 := h3 (-1) (by omega) (by omega)
  have e1 : V 1 = 1 := by decide
  have e2 : V (-1) = -1 := by decide
  rw [V_zero] at v0
  rw [e1] at v1
  rw [e2] at w1
  refine ⟨⟨fun h => by have := v0.1 h; omega, fun h => ?_⟩, ⟨fun h => by have := v0.2 h; omega, fun h => ?_⟩⟩
  · rcases Int.lt_or_le 0 r with g | g
    · exact g
    · have := v1.2 (by omega); omega
  · rcases Int.lt_or_le r 0 with g | g
    · exact g
    · have := w1.1 (by omega); omega

theorem sum_fin {x y s : Int} (h : Near s (V x + V y) 1) (h1 : -PI < s) (h2 : s < PI) (up : Bool) :
    Rnd up (cAdd x y) (if 0 < V x + V y - V s ∧ up = true then s + 1 else if V x + V y - V s < 0 ∧ up = false then s - 1 else s) := by
  have hI := PI_INF
  obtain ⟨_, _, h3⟩ := h
  have hup := h3 (s + 1) (by omega) (by omega)
  have hdn := h3 (s - 1) (by omega) (by omega)
  have m1 := V_lt (show s < s + 1 by omega)
  have m2 := V_lt (show s - 1 < s by omega)
  cases up
  · rw [if_neg (by simp)]
    by_cases hn : V x + V y - V s < 0
    · rw [if_pos ⟨hn, rfl⟩]
      refine ⟨by omega, by omega, fun _ => ?_, fun _ => ?_⟩
      · unfold cAdd; have := hdn.1 (by omega); omega
      · unfold cAdd; rw [show s - 1 + 1 = s by omega]; omega
    · rw [if_neg (by intro hh; exact hn hh.1)]
      refine ⟨by omega, by omega, fun _ => by unfold cAdd; omega, fun _ => ?_⟩
      unfold cAdd; have := hup.2 (by omega); omega
  · by_cases hn : 0 < V x + V y - V s
    · rw [if_pos ⟨hn, rfl⟩]
      refine ⟨by omega, by omega, fun _ => ?_, fun _ => ?_⟩
      · unfold cAdd; have := hup.2 (by omega); omega
      · unfold cAdd; rw [show s + 1 - 1 = s by omega]; omega
    · rw [if_neg (by intro hh; exact hn hh.1), if_neg (by simp)]
      refine ⟨by omega, by omega, fun _ => by unfold cAdd; omega, fun _ => ?_⟩
      unfold cAdd; have := hdn.1 (by omega); omega
theorem sum_inf {x y s : Int} (h : Near s (V x + V y) 1) (hs : s = PI ∨ s = -PI) (up : Bool) :
    Rnd up (cAdd x y) (if (decide (0 < s) == up) = true then s else if 0 < s then PI - 1 else 1 - PI) := by
  have hI := PI_INF
  have hP := PI_pos
  obtain ⟨_, _, h3⟩ := h
  rcases hs with rfl | rfl
  · have hdn := (h3 (PI - 1) (by omega) (by omega)).1 (by omega)
    cases up
    · rw [show decide (0 < PI) = true from decide_eq_true (by omega)]
      simp only [Bool.true_beq, Bool.false_eq_true, if_false]
      rw [if_pos (by omega)]
      refine ⟨by omega, by omega, fun _ => by unfold cAdd; omega, fun hh => by omega⟩
    · rw [show decide (0 < PI) = true from decide_eq_true (by omega)]
      simp only [Bool.true_beq, if_true]
      refine ⟨by omega, by omega, fun hh => by omega, fun _ => by unfold cAdd; omega⟩
  · have hup := (h3 (-PI + 1) (by omega) (by omega)).2 (by omega)
    cases up
    · rw [show decide (0 < -PI) = false from decide_eq_false (by omega)]
      simp only [BEq.rfl, if_true]
      refine ⟨by omega, by omega, fun hh => by omega, fun _ => by unfold cAdd; omega⟩
    · rw [show decide (0 < -PI) = false from decide_eq_false (by omega)]
      simp only [Bool.false_beq, Bool.not_true, Bool.false_eq_true, if_false]
      rw [if_neg (by omega)]
      refine ⟨by omega, by omega, fun _ => ?_, fun hh => by omega⟩
      unfold cAdd; rw [show 1 - PI = -PI + 1 by omega]; omega

end Go.Fl
