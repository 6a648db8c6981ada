/- Plain arithmetic of 64-bit floating-point words: keys, magnitudes, order. No program in sight. -/
import Derived.Laws.FloatArith
namespace Go.Fl
open Ieee

/-- The rung of infinity. -/
def INF : Nat := 9218868437227405312
theorem INF_eq : INF = 2047 * 2 ^ 52 := by decide
theorem infRung_eq : double.infRung = INF := by decide
theorem signWeight_eq : double.signWeight = 2 ^ 63 := by decide
theorem binade_eq : double.binade = 2 ^ 52 := by decide
theorem leastPlace_eq : double.leastPlace = -1074 := by decide

def rung (x : Nat) : Nat := x % 2 ^ 63
def neg (x : Nat) : Bool := x / 2 ^ 63 % 2 == 1
def key (x : Nat) : Int := if neg x then -(rung x : Int) else (rung x : Int)
def nan (x : Nat) : Prop := INF < rung x
def fin (x : Nat) : Prop := rung x < INF
instance (x : Nat) : Decidable (nan x) := by unfold nan; infer_instance
instance (x : Nat) : Decidable (fin x) := by unfold fin; infer_instance
/-- The word of a key. -/
def ofKey (k : Int) : Nat := if 0 ≤ k then k.toNat else 2 ^ 63 + (-k).toNat

/-- Spacing above a rung, and the magnitude of a rung, in units of the least number. -/
def ulp (r : Nat) : Nat := 2 ^ (r / 2 ^ 52 - 1)
def M (r : Nat) : Nat := if r < 2 ^ 52 then r else (2 ^ 52 + r % 2 ^ 52) * 2 ^ (r / 2 ^ 52 - 1)
def V (k : Int) : Int := if 0 ≤ k then (M k.toNat : Int) else -(M (-k).toNat : Int)

theorem ulp_pos (r : Nat) : 0 < ulp r := Nat.two_pow_pos _

theorem M_succ (r : Nat) : M (r + 1) = M r + ulp r := by
  unfold M ulp
  by_cases h : r < 2 ^ 52
  · by_cases h1 : r + 1 < 2 ^ 52
    · rw [if_pos h1, if_pos h, show r / 2 ^ 52 = 0 by omega]
    · have h2 : r + 1 = 2 ^ 52 := by omega
      rw [if_neg h1, if_pos h, h2, show r / 2 ^ 52 = 0 by omega]
      omega
  · rw [if_neg h, if_neg (by omega)]
    by_cases h1 : r % 2 ^ 52 + 1 < 2 ^ 52
    · rw [show (r + 1) / 2 ^ 52 = r / 2 ^ 52 by omega, show (r + 1) % 2 ^ 52 = r % 2 ^ 52 + 1 by omega]
      rw [← Nat.add_assoc, Nat.add_mul _ 1, Nat.one_mul]
    · rw [show (r + 1) / 2 ^ 52 = (r / 2 ^ 52 - 1) + 1 + 1 by omega, show (r + 1) % 2 ^ 52 = 0 by omega]
      rw [show r / 2 ^ 52 - 1 + 1 + 1 - 1 = r / 2 ^ 52 - 1 + 1 by omega, show 2 ^ (r / 2 ^ 52 - 1 + 1) = 2 ^ (r / 2 ^ 52 - 1) * 2 from Nat.pow_succ _ _]
      generalize 2 ^ (r / 2 ^ 52 - 1) = u
      rw [show r % 2 ^ 52 = 2 ^ 52 - 1 by omega]
      omega

theorem M_lt_succ (r : Nat) : M r < M (r + 1) := by rw [M_succ]; have := ulp_pos r; omega

theorem M_lt {r s : Nat} (h : r < s) : M r < M s := by
  induction s with
  | zero => omega
  | succ s ih =>
    by_cases e : r = s
    · subst e; exact M_lt_succ r
    · exact Nat.lt_trans (ih (by omega)) (M_lt_succ s)

theorem M_le {r s : Nat} (h : r ≤ s) : M r ≤ M s := by
  by_cases e : r = s
  · subst e; exact Nat.le_refl _
  · exact Nat.le_of_lt (M_lt (by omega))

theorem M_lt_iff {r s : Nat} : M r < M s ↔ r < s := by
  constructor
  · intro h; by_cases e : r < s
    · exact e
    · have := M_le (show s ≤ r by omega); omega
  · exact M_lt
theorem M_le_iff {r s : Nat} : M r ≤ M s ↔ r ≤ s := by
  constructor
  · intro h; by_cases e : r ≤ s
    · exact e
    · have := M_lt (show s < r by omega); omega
  · exact M_le
theorem M_zero : M 0 = 0 := by simp [M]
theorem V_nat (r : Nat) : V (r : Int) = (M r : Int) := by simp [V]
theorem V_neg (k : Int) : V (-k) = -V k := by
  unfold V
  by_cases h : 0 ≤ k
  · by_cases h0 : k = 0
    · subst h0; simp [M_zero]
    · rw [if_neg (by omega), if_pos h]; simp
  · rw [if_pos (by omega), if_neg h]; simp
theorem V_lt {j k : Int} (h : j < k) : V j < V k := by
  unfold V
  by_cases hj : 0 ≤ j
  · rw [if_pos hj, if_pos (by omega)]
    have := M_lt (show j.toNat < k.toNat by omega); omega
  · rw [if_neg hj]
    by_cases hk : 0 ≤ k
    · rw [if_pos hk]
      have := M_lt (show 0 < (-j).toNat by omega); rw [M_zero] at this; omega
    · rw [if_neg hk]
      have := M_lt (show (-k).toNat < (-j).toNat by omega); omega
theorem V_le {j k : Int} (h : j ≤ k) : V j ≤ V k := by
  by_cases e : j = k
  · subst e; exact Int.le_refl _
  · exact Int.le_of_lt (V_lt (by omega))
theorem V_lt_iff {j k : Int} : V j < V k ↔ j < k := by
  constructor
  · intro h; by_cases e : j < k
    · exact e
    · have := V_le (show k ≤ j by omega); omega
  · exact V_lt
theorem V_le_iff {j k : Int} : V j ≤ V k ↔ j ≤ k := by
  constructor
  · intro h; by_cases e : j ≤ k
    · exact e
    · have := V_lt (show k < j by omega); omega
  · exact V_le
theorem V_inj {j k : Int} : V j = V k ↔ j = k := by
  constructor
  · intro h
    have h1 := V_le_iff.1 (Int.le_of_eq h); have h2 := V_le_iff.1 (Int.le_of_eq h.symm); omega
  · intro h; rw [h]
theorem V_zero : V 0 = 0 := by simp [V, M_zero]

/-- What a finite word reads as. -/
def mag (x : Nat) : Nat := if rung x < 2 ^ 52 then rung x else 2 ^ 52 + rung x % 2 ^ 52
def pl (x : Nat) : Nat := rung x / 2 ^ 52 - 1
theorem mag_pl (x : Nat) : mag x * 2 ^ pl x = M (rung x) := by
  unfold mag pl M
  by_cases h : rung x < 2 ^ 52
  · rw [if_pos h, if_pos h, show rung x / 2 ^ 52 = 0 by omega]; simp
  · rw [if_neg h, if_neg h]
theorem read_fin {x : Nat} (h : fin x) : double.read x = .number (neg x) (mag x) ((pl x : Int) - 1074) := by
  unfold fin at h
  unfold Format.read
  rw [signWeight_eq, binade_eq, infRung_eq, leastPlace_eq]
  unfold mag pl neg
  unfold rung at *
  simp only
  by_cases h1 : x % 2 ^ 63 < 2 ^ 52
  · rw [if_pos h1, if_pos h1, show x % 2 ^ 63 / 2 ^ 52 = 0 by omega]
    rfl
  · rw [if_neg h1, if_neg h1, if_pos h, Int.add_comm]
    rfl
theorem read_inf {x : Nat} (h : rung x = INF) : double.read x = .infinity (neg x) := by
  have h0 := INF_eq
  unfold Format.read
  rw [signWeight_eq, binade_eq, infRung_eq, leastPlace_eq]
  unfold neg
  unfold rung at *
  simp only
  rw [if_neg (by omega), if_neg (by omega), if_pos h]
theorem read_nan {x : Nat} (h : nan x) : ∃ t, double.read x = .nan (neg x) t := by
  have h0 := INF_eq
  unfold nan at h
  unfold Format.read
  rw [signWeight_eq, binade_eq, infRung_eq, leastPlace_eq]
  unfold neg
  unfold rung at *
  simp only
  rw [if_neg (by omega), if_neg (by omega), if_neg (by omega)]
  exact ⟨_, rfl⟩

theorem fmt : FloatKind.f64.format = double := rfl

theorem signed_val (s : Bool) (m : Nat) (p b : Int) (hb : b ≤ p) (hb0 : -1074 ≤ b) :
    Ieee.signed s m (p - b).toNat * (2 : Int) ^ (b + 1074).toNat = (if s then -1 else 1) * ((m * 2 ^ (p + 1074).toNat : Nat) : Int) := by
  unfold Ieee.signed
  have e : (p + 1074).toNat = (p - b).toNat + (b + 1074).toNat := by omega
  rw [e, Nat.pow_add, Nat.shiftLeft_eq]
  cases s <;> simp [Int.natCast_mul, Int.mul_assoc, Int.neg_mul]

theorem key_of_neg {x : Nat} : V (key x) = (if neg x then -1 else 1) * (M (rung x) : Int) := by
  unfold key
  cases neg x
  · simp [V_nat]
  · simp [V_neg, V_nat]

theorem compare_mul (a b c : Int) (hc : 0 < c) : compare (a * c) (b * c) = compare a b := by
  simp only [compare, compareOfLessAndEq]
  have h1 : a * c < b * c ↔ a < b := Int.mul_lt_mul_right hc
  have h2 : a * c = b * c ↔ a = b := Int.mul_eq_mul_right_iff (by omega)
  simp [h1, h2]

theorem compare_V (j k : Int) : compare (V j) (V k) = compare j k := by
  simp only [compare, compareOfLessAndEq, V_lt_iff, V_inj]

theorem order_fin {x y : Nat} (hx : fin x) (hy : fin y) : double.order x y = some (compare (key x) (key y)) := by
  unfold Format.order
  rw [read_fin hx, read_fin hy]
  simp only [Datum.order]
  congr 1
  have hb0 : -1074 ≤ min ((pl x : Int) - 1074) ((pl y : Int) - 1074) := by omega
  have h1 := signed_val (neg x) (mag x) ((pl x : Int) - 1074) (min ((pl x : Int) - 1074) ((pl y : Int) - 1074)) (by omega) hb0
  have h2 := signed_val (neg y) (mag y) ((pl y : Int) - 1074) (min ((pl x : Int) - 1074) ((pl y : Int) - 1074)) (by omega) hb0
  have hp : (0 : Int) < 2 ^ (min ((pl x : Int) - 1074) ((pl y : Int) - 1074) + 1074).toNat := Int.pow_pos (by omega)
  rw [← compare_mul _ _ _ hp, h1, h2]
  rw [show ((pl x : Int) - 1074 + 1074).toNat = pl x by omega, show ((pl y : Int) - 1074 + 1074).toNat = pl y by omega, mag_pl, mag_pl, ← key_of_neg, ← key_of_neg, compare_V]

theorem order_nan_left {x y : Nat} (hx : nan x) : double.order x y = none := by
  obtain ⟨t, ht⟩ := read_nan hx
  unfold Format.order; rw [ht]; rfl
theorem order_nan_right {x y : Nat} (hy : nan y) : double.order x y = none := by
  obtain ⟨t, ht⟩ := read_nan hy
  unfold Format.order; rw [ht]; cases double.read x <;> rfl

theorem order_key {x y : Nat} (hx : ¬ nan x) (hy : ¬ nan y) : double.order x y = some (compare (key x) (key y)) := by
  unfold nan at hx hy
  by_cases fx : fin x
  · by_cases fy : fin y
    · exact order_fin fx fy
    · have ry : rung y = INF := by unfold fin at fy; omega
      unfold Format.order
      rw [read_fin fx, read_inf ry]
      unfold fin at fx
      have h1 : (key x < INF) ∧ (-INF < key x) := by unfold key; split <;> omega
      have h2 : key y = if neg y then -(INF : Int) else INF := by unfold key; rw [ry]
      simp only [Datum.order, compare, compareOfLessAndEq, h2]
      cases neg y
      · simp only [Bool.false_eq_true, if_false]; rw [if_pos h1.1]
      · simp only [if_true]; rw [if_neg (by omega), if_neg (by omega)]
  · have rx : rung x = INF := by unfold fin at fx; omega
    by_cases fy : fin y
    · unfold Format.order
      rw [read_fin fy, read_inf rx]
      unfold fin at fy
      have h1 : (key y < INF) ∧ (-INF < key y) := by unfold key; split <;> omega
      have h2 : key x = if neg x then -(INF : Int) else INF := by unfold key; rw [rx]
      simp only [Datum.order, compare, compareOfLessAndEq, h2]
      cases neg x
      · simp only [Bool.false_eq_true, if_false]; rw [if_neg (by omega), if_neg (by omega)]
      · simp only [if_true]; rw [if_pos h1.2]
    · have ry : rung y = INF := by unfold fin at fy; omega
      unfold Format.order
      rw [read_inf rx, read_inf ry]
      simp only [Datum.order, key, rx, ry, compare, compareOfLessAndEq]
      cases neg x <;> cases neg y <;> simp [INF]

end Go.Fl
