/- A word made whole, downwards. -/
import Derived.Test.YteephgpefhodnabF17
namespace Go.Fl
open Ieee
set_option linter.unusedVariables false

theorem cut_down (s : Bool) (m drop : Nat) : Toward.down.cut s m drop = m / 2 ^ drop + (s && (m % 2 ^ drop != 0)).toNat := by
  unfold Toward.cut
  simp only [Nat.one_shiftLeft]
  by_cases h : drop ≤ m.log2 + 2
  · rw [Nat.min_eq_left h]
  · rw [Nat.min_eq_right (by omega)]
    have h1 : m < 2 ^ (m.log2 + 1) := Nat.lt_log2_self
    have h2 : (2 : Nat) ^ (m.log2 + 1) ≤ 2 ^ (m.log2 + 2) := Nat.pow_le_pow_right (by omega) (by omega)
    have h3 : (2 : Nat) ^ (m.log2 + 2) ≤ 2 ^ drop := Nat.pow_le_pow_right (by omega) (by omega)
    rw [Nat.div_eq_of_lt (by omega), Nat.div_eq_of_lt (by omega), Nat.mod_eq_of_lt (by omega), Nat.mod_eq_of_lt (by omega)]

def floorW (x : Nat) : Nat := double.write ((double.read x).integral .down)
def floorK (k : Int) : Int := key (floorW (ofKey k))
theorem floorW_PI : floorW (ofKey PI) = ofKey PI := by decide
theorem floorW_MI : floorW (ofKey (-PI)) = ofKey (-PI) := by decide

/-- A whole number of at most 53 digits times a power of two, written: exact. -/
theorem write_whole {s : Bool} {q : Nat} {i : Int} (hq : q ≤ 2 ^ 53) (h0 : q ≠ 0) (hi : 0 ≤ i) (hi2 : i ≤ 970) :
    ∃ t : Int, ¬ nan (double.write (.number s q i)) ∧ double.write (.number s q i) = ofKey t ∧ Rg t ∧ V t = (if s = true then -1 else 1) * ((q * 2 ^ (i + 1074).toNat : Nat) : Int) := by
  obtain ⟨r1, r2, r3, r4⟩ := write_near s q i (by omega)
  have hw : double.write (.number s q i) = double.nearest s q i := rfl
  rw [hw]
  generalize double.nearest s q i = c at *
  obtain ⟨p, hp⟩ : ∃ p, p = (i + 1074).toNat := ⟨_, rfl⟩
  rw [← hp] at r4 ⊢
  rw [show (-(i + 1074)).toNat = 0 by omega] at r4
  obtain ⟨t, t1, t2, t3⟩ := rep_int (d := (if s = true then -1 else 1) * ((q * 2 ^ p : Nat) : Int)) (p := p)
    (by rw [Int.natCast_mul, ← Int.mul_assoc]; exact Int.dvd_mul_left _ _)
    (by
      have : ((if s = true then (-1 : Int) else 1) * ((q * 2 ^ p : Nat) : Int)).natAbs = q * 2 ^ p := by
        generalize q * 2 ^ p = z
        cases s
        · simp only [Bool.false_eq_true, if_false]; omega
        · simp only [if_true]; omega
      rw [this]
      exact Nat.mul_le_mul_right _ hq) (by omega)
  have hk : key c = t := near_exact r4 t1 t2 (by rw [t3]; simp)
  have hv0 : V t ≠ 0 := by
    rw [t3]
    have : 0 < q * 2 ^ p := Nat.mul_pos (by omega) (Nat.two_pow_pos _)
    generalize q * 2 ^ p = z at *
    cases s
    · simp only [Bool.false_eq_true, if_false]; omega
    · simp only [if_true]; omega
  have hk0 : key c ≠ 0 := by
    intro h
    rw [hk] at h
    rw [h, V_zero] at hv0
    exact hv0 rfl
  exact ⟨t, r1, by rw [← hk]; exact word_of_key r3 hk0, ⟨by have := PI_INF; omega, by have := PI_INF; omega⟩, t3⟩

theorem floor_facts {k : Int} (h1 : -PI < k) (h2 : k < PI) :
    floorW (ofKey k) = ofKey (floorK k) ∧ Rg (floorK k) ∧ E74 ∣ V (floorK k) ∧ V (floorK k) ≤ V k ∧ V k < V (floorK k) + E74 := by
  have hP := PI_pos
  have hX := X74_eq
  have hr : Rg k := ⟨by omega, by omega⟩
  by_cases h0 : k = 0
  · subst h0
    have e : floorW (ofKey 0) = 0 := by decide
    have e2 : floorK 0 = 0 := by unfold floorK; rw [e, key_zero]
    rw [e2, V_zero]
    exact ⟨by rw [e]; exact zero_ofKey, Rg_zero, ⟨0, by simp⟩, by omega, by have := E74_pos; omega⟩
  · suffices h : ∃ t, floorW (ofKey k) = ofKey t ∧ Rg t ∧ E74 ∣ V t ∧ V t ≤ V k ∧ V k < V t + E74 by
      obtain ⟨t, a, b, c⟩ := h
      have e : floorK k = t := by unfold floorK; rw [a, key_ofKey b]
      rw [e]
      exact ⟨a, b, c⟩
    have fx := fin_ofKey h1 h2
    have hm0 := mag_ofKey hr.1 hr.2 h0
    have hVk : V k = (if neg (ofKey k) = true then -1 else 1) * (M (rung (ofKey k)) : Int) := by rw [← key_of_neg, key_ofKey hr]
    rw [← mag_pl] at hVk
    have hm53 : mag (ofKey k) < 2 ^ 53 := mgr_lt _
    have hpl : pl (ofKey k) ≤ 2045 := plr_fin fx
    have hbig : 1074 ≤ pl (ofKey k) → pl (ofKey k) - 1074 ≤ 970 ∨ 970 < pl (ofKey k) - 1074 := fun _ => by omega
    unfold floorW
    rw [read_fin fx]
    simp only [Datum.integral]
    generalize neg (ofKey k) = s at *
    generalize mag (ofKey k) = m at *
    generalize hpe : pl (ofKey k) = p at *
    rw [cut_down]
    rcases Nat.lt_or_ge p 1074 with hp | hp
    · obtain ⟨d, hd⟩ : ∃ d, d = 1074 - p := ⟨_, rfl⟩
      rw [show ((p : Int) - 1074).toNat = 0 by omega, show (-((p : Int) - 1074)).toNat = d by omega, Nat.shiftLeft_eq, Nat.pow_zero, Nat.mul_one]
      have hdm := Nat.div_add_mod m (2 ^ d)
      have hml := Nat.mod_lt m (Nat.two_pow_pos d)
      have hd1 : 2 ≤ 2 ^ d := by
        have : (2 : Nat) ^ 1 ≤ 2 ^ d := Nat.pow_le_pow_right (by omega) (by omega)
        omega
      have hq53 : m / 2 ^ d + 1 ≤ 2 ^ 53 := by
        have : m / 2 ^ d ≤ m / 2 := Nat.div_le_div_left hd1 (by omega)
        omega
      have hE : (E74 : Int) = ((2 ^ d * 2 ^ p : Nat) : Int) := by
        rw [E74_nat, ← Nat.pow_add]
        exact congrArg (fun t => ((2 ^ t : Nat) : Int)) (by omega)
      obtain ⟨q, hq⟩ : ∃ q, q = m / 2 ^ d + (s && (m % 2 ^ d != 0)).toNat := ⟨_, rfl⟩
      rw [← hq]
      -- the whole number and the word's
      have hcmp : (s = false → q * 2 ^ d ≤ m ∧ m < (q + 1) * 2 ^ d) ∧ (s = true → m ≤ q * 2 ^ d ∧ q * 2 ^ d < m + 2 ^ d) := by
        have e1 : ∀ z : Nat, z * 2 ^ d = 2 ^ d * z := fun z => Nat.mul_comm _ _
        constructor
        · intro hs
          rw [hs] at hq
          simp at hq
          rw [hq, Nat.add_mul, e1]
          omega
        · intro hs
          rw [hs] at hq
          by_cases hz : m % 2 ^ d = 0
          · rw [hz] at hq; simp at hq
            rw [hq, e1]; omega
          · have : (m % 2 ^ d != 0) = true := by simpa using hz
            rw [this] at hq; simp at hq
            rw [hq, Nat.add_mul, e1]; omega
      have hval : ∀ t, V t = (if s = true then -1 else 1) * ((q * 2 ^ (2 ^ 0 * 0 + 1074) : Nat) : Int) ∨ True := fun _ => .inr trivial
      have hfin : ∀ t, V t = (if s = true then -1 else 1) * ((q * (2 ^ d * 2 ^ p) : Nat) : Int) → E74 ∣ V t ∧ V t ≤ V k ∧ V k < V t + E74 := by
        intro t ht
        rw [ht, hVk, hE]
        have a1 : q * (2 ^ d * 2 ^ p) = q * 2 ^ d * 2 ^ p := (Nat.mul_assoc _ _ _).symm
        have hpp : 0 < 2 ^ p := Nat.two_pow_pos p
        refine ⟨by
          rw [Int.natCast_mul q]
          exact Int.dvd_mul_of_dvd_right (Int.dvd_mul_left _ _), ?_, ?_⟩
        · rw [a1]
          cases s
          · have := Nat.mul_le_mul_right (2 ^ p) (hcmp.1 rfl).1
            simp only [Bool.false_eq_true, if_false]; omega
          · have := Nat.mul_le_mul_right (2 ^ p) (hcmp.2 rfl).1
            simp only [if_true]; omega
        · rw [a1]
          cases s
          · have := Nat.mul_lt_mul_of_pos_right (hcmp.1 rfl).2 hpp
            rw [Nat.add_mul, Nat.one_mul, Nat.add_mul] at this
            simp only [Bool.false_eq_true, if_false]; omega
          · have := Nat.mul_lt_mul_of_pos_right (hcmp.2 rfl).2 hpp
            rw [Nat.add_mul] at this
            simp only [if_true]; omega
      have hqb : q ≤ 2 ^ 53 := by
        rw [hq]
        have : (s && (m % 2 ^ d != 0)).toNat ≤ 1 := by cases (s && (m % 2 ^ d != 0)) <;> simp
        omega
      by_cases hq0 : q = 0
      · have hs : s = false := by
          cases s
          · rfl
          · exfalso
            have := (hcmp.2 rfl).1
            rw [hq0, Nat.zero_mul] at this
            omega
        subst hs
        rw [hq0] at hfin ⊢
        refine ⟨0, by decide, Rg_zero, hfin 0 (by rw [V_zero]; simp)⟩
      · obtain ⟨t, t1, t2, t3, t4⟩ := write_whole (s := s) (i := 0) hqb hq0 (by omega) (by omega)
        refine ⟨t, t2, t3, hfin t ?_⟩
        rw [t4]
        have : (2 : Nat) ^ ((0 : Int) + 1074).toNat = 2 ^ d * 2 ^ p := by
          rw [← Nat.pow_add]
          exact congrArg (fun t => 2 ^ t) (by omega)
        rw [this]
    · -- a whole number already
      obtain ⟨j, hj⟩ : ∃ j, j = p - 1074 := ⟨_, rfl⟩
      rw [show ((p : Int) - 1074).toNat = j by omega, show (-((p : Int) - 1074)).toNat = 0 by omega, Nat.shiftLeft_eq, Nat.pow_zero, Nat.div_one, Nat.mod_one]
      have e0 : (s && (0 != 0 : Bool)).toNat = 0 := by cases s <;> rfl
      rw [e0, Nat.add_zero]
      refine ⟨k, ?_, hr, ?_⟩
      · obtain ⟨r1, r2, r3, r4⟩ := write_near s (m * 2 ^ j) 0 (Nat.mul_pos (by omega) (Nat.two_pow_pos _))
        show double.nearest s (m * 2 ^ j) 0 = ofKey k
        generalize double.nearest s (m * 2 ^ j) 0 = c at *
        have e : m * 2 ^ j * 2 ^ ((0 : Int) + 1074).toNat = m * 2 ^ p := by
          rw [Nat.mul_assoc, ← Nat.pow_add]
          exact congrArg (fun t => m * 2 ^ t) (by omega)
        rw [e, ← hVk, show (-((0 : Int) + 1074)).toNat = 0 by omega] at r4
        have hk : key c = k := near_exact r4 (by have := PI_INF; omega) (by have := PI_INF; omega) (by simp)
        rw [word_of_key r3 (by omega), hk]
      · refine ⟨?_, by omega, by have := E74_pos; omega⟩
        rw [hVk, E74_nat, Int.natCast_mul, ← Int.mul_assoc]
        refine Int.dvd_trans ?_ (Int.dvd_mul_left _ _)
        exact Int.natCast_dvd_natCast.2 (Nat.pow_dvd_pow 2 (by omega))

theorem floor_PI : floorK PI = PI := by unfold floorK; rw [floorW_PI, key_ofKey Rg_PI]
theorem floor_MI : floorK (-PI) = -PI := by unfold floorK; rw [floorW_MI, key_ofKey Rg_MI]
theorem floorK_all {k : Int} (h : Rg k) : floorW (ofKey k) = ofKey (floorK k) ∧ Rg (floorK k) := by
  have h1 := h.1; have h2 := h.2
  by_cases a : k = PI
  · subst a; rw [floor_PI, floorW_PI]; exact ⟨rfl, Rg_PI⟩
  · by_cases b : k = -PI
    · subst b; rw [floor_MI, floorW_MI]; exact ⟨rfl, Rg_MI⟩
    · have := floor_facts (k := k) (by omega) (by omega)
      exact ⟨this.1, this.2.1⟩
theorem floorK_rg {k : Int} (h : Rg k) : Rg (floorK k) := (floorK_all h).2

end Go.Fl
