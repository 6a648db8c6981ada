/- Rounding: the nearest word is one of the two neighbours of the real. -/
import Derived.Test.YteephgpefhodnaaF1
namespace Go.Fl
open Ieee

theorem M_at (l kept : Nat) (h : l = 0 ∨ 2 ^ 52 ≤ kept) (h1 : kept ≤ 2 ^ 53) : M (l * 2 ^ 52 + kept) = kept * 2 ^ l := by
  unfold M
  rcases Nat.lt_or_ge kept (2 ^ 52) with h2 | h2
  · obtain rfl : l = 0 := by omega
    rw [if_pos (by omega)]; simp
  · rw [if_neg (by omega)]
    rcases Nat.lt_or_ge kept (2 ^ 53) with h3 | h3
    · rw [show (l * 2 ^ 52 + kept) % 2 ^ 52 = kept - 2 ^ 52 by omega, show (l * 2 ^ 52 + kept) / 2 ^ 52 - 1 = l by omega]
      rw [show 2 ^ 52 + (kept - 2 ^ 52) = kept by omega]
    · obtain rfl : kept = 2 ^ 53 := by omega
      rw [show (l * 2 ^ 52 + 2 ^ 53) % 2 ^ 52 = 0 by omega, show (l * 2 ^ 52 + 2 ^ 53) / 2 ^ 52 - 1 = l + 1 by omega]
      rw [show 2 ^ (l + 1) = 2 ^ l * 2 from Nat.pow_succ _ _, Nat.mul_comm (2 ^ l), ← Nat.mul_assoc]

theorem cut_even (s : Bool) (m drop : Nat) (hm : 0 < m) :
    Toward.even.cut s m drop = m / 2 ^ drop ∨ (Toward.even.cut s m drop = m / 2 ^ drop + 1 ∧ m % 2 ^ drop ≠ 0) := by
  unfold Toward.cut
  simp only [Nat.one_shiftLeft]
  by_cases h : drop ≤ m.log2 + 2
  · rw [Nat.min_eq_left h]
    generalize hb : (decide (2 ^ drop < 2 * (m % 2 ^ drop)) || (2 ^ drop == 2 * (m % 2 ^ drop) && m / 2 ^ drop % 2 == 1)) = b
    cases b
    · left; simp
    · right
      refine ⟨by simp, fun h0 => ?_⟩
      rw [h0] at hb
      have := Nat.two_pow_pos drop
      simp at hb
  · left
    rw [Nat.min_eq_right (by omega)]
    have h1 : m < 2 ^ (m.log2 + 1) := Nat.lt_log2_self
    have h2 : (2 : Nat) ^ (m.log2 + 2) = 2 ^ (m.log2 + 1) * 2 := Nat.pow_succ _ _
    have h3 : m < 2 ^ drop := Nat.lt_of_lt_of_le h1 (Nat.pow_le_pow_right (by omega) (by omega))
    rw [Nat.div_eq_of_lt (by omega), Nat.mod_eq_of_lt (by omega), Nat.div_eq_of_lt h3]
    have h4 : decide (2 ^ (m.log2 + 2) < 2 * m) = false := by simp; omega
    have h5 : (2 ^ (m.log2 + 2) == 2 * m) = false := by simp; omega
    rw [h4, h5]; simp

/-- 'r' is a rung next to the real n / d, or on it. -/
def NearN (r n d : Nat) : Prop := r ≤ INF ∧ ∀ j, j ≤ INF → (j < r → M j * d < n) ∧ (r < j → n < M j * d)

theorem nearN_low {r n d : Nat} (hd : 0 < d) (h1 : M r * d ≤ n) (h2 : n < M (r + 1) * d) : NearN (min r INF) n d := by
  refine ⟨Nat.min_le_right _ _, fun j hj => ⟨fun h => ?_, fun h => ?_⟩⟩
  · exact Nat.lt_of_lt_of_le (Nat.mul_lt_mul_of_pos_right (M_lt (by omega)) hd) h1
  · exact Nat.lt_of_lt_of_le h2 (Nat.mul_le_mul_right _ (M_le (by omega)))
theorem nearN_high {r n d : Nat} (hd : 0 < d) (h1 : M r * d < n) (h2 : n ≤ M (r + 1) * d) : NearN (min (r + 1) INF) n d := by
  refine ⟨Nat.min_le_right _ _, fun j hj => ⟨fun h => ?_, fun h => ?_⟩⟩
  · exact Nat.lt_of_le_of_lt (Nat.mul_le_mul_right _ (M_le (by omega))) h1
  · exact Nat.lt_of_le_of_lt h2 (Nat.mul_lt_mul_of_pos_right (M_lt (by omega)) hd)

theorem nearest_eq (s : Bool) (m : Nat) (place : Int) (hm : 0 < m) :
    ∃ r, double.nearest s m place = double.word s r ∧ NearN r (m * 2 ^ (place + 1074).toNat) (2 ^ (-(place + 1074)).toNat) := by
  unfold Format.nearest
  rw [if_neg (by omega), leastPlace_eq, binade_eq, infRung_eq]
  simp only
  refine ⟨_, rfl, ?_⟩
  have hfb : (double.fractionBits : Int) = 52 := by decide
  rw [hfb]
  generalize hlast : max (place + (m.log2 : Int) - 52) (-1074) = last
  generalize hl : (last - -1074).toNat = l
  generalize hsh : (place - last).toNat = sh
  generalize hdr : (last - place).toNat = drop
  rw [Nat.shiftLeft_eq]
  generalize ha : (place + 1074).toNat = a
  generalize hb : (-(place + 1074)).toNat = b
  have hexp : a + drop = sh + l + b := by omega
  have hne : 0 < m * 2 ^ sh := Nat.mul_pos hm (Nat.two_pow_pos _)
  have hL1 : 2 ^ m.log2 ≤ m := Nat.log2_self_le (by omega)
  have hL2 : m < 2 ^ (m.log2 + 1) := Nat.lt_log2_self
  have hcut := cut_even s (m * 2 ^ sh) drop hne
  generalize Toward.even.cut s (m * 2 ^ sh) drop = kept at hcut ⊢
  have hq1 : m * 2 ^ sh / 2 ^ drop * 2 ^ drop ≤ m * 2 ^ sh := Nat.div_mul_le_self _ _
  have hq2 : m * 2 ^ sh < (m * 2 ^ sh / 2 ^ drop + 1) * 2 ^ drop := by
    rw [Nat.mul_comm (m * 2 ^ sh / 2 ^ drop + 1)]; exact Nat.lt_mul_div_succ _ (Nat.two_pow_pos _)
  have hq3 : m * 2 ^ sh % 2 ^ drop ≠ 0 → m * 2 ^ sh / 2 ^ drop * 2 ^ drop < m * 2 ^ sh := by
    intro h
    have := Nat.div_add_mod (m * 2 ^ sh) (2 ^ drop)
    rw [Nat.mul_comm] at this
    omega
  -- how great the quotient is
  have hqb : m * 2 ^ sh / 2 ^ drop < 2 ^ 53 := by
    rw [Nat.div_lt_iff_lt_mul (Nat.two_pow_pos _)]
    have e1 : m * 2 ^ sh < 2 ^ (m.log2 + 1) * 2 ^ sh := Nat.mul_lt_mul_of_pos_right hL2 (Nat.two_pow_pos _)
    refine Nat.lt_of_lt_of_le e1 ?_
    rw [← Nat.pow_add, ← Nat.pow_add]
    exact Nat.pow_le_pow_right (by omega) (by omega)
  have hqa : l = 0 ∨ 2 ^ 52 ≤ m * 2 ^ sh / 2 ^ drop := by
    by_cases h0 : l = 0
    · exact .inl h0
    · right
      rw [Nat.le_div_iff_mul_le (Nat.two_pow_pos _)]
      refine Nat.le_trans ?_ (Nat.mul_le_mul_right _ hL1)
      rw [← Nat.pow_add, ← Nat.pow_add]
      exact Nat.pow_le_pow_right (by omega) (by omega)
  generalize hq : m * 2 ^ sh / 2 ^ drop = q at *
  have hd : 0 < 2 ^ b := Nat.two_pow_pos _
  have hA : 0 < 2 ^ drop := Nat.two_pow_pos _
  have hid : m * 2 ^ a * 2 ^ drop = m * 2 ^ sh * (2 ^ l * 2 ^ b) := by
    rw [Nat.mul_assoc, Nat.mul_assoc, ← Nat.pow_add, ← Nat.pow_add, ← Nat.pow_add, hexp, Nat.add_assoc]
  have hlow : q * 2 ^ l * 2 ^ b ≤ m * 2 ^ a := by
    refine Nat.le_of_mul_le_mul_right ?_ hA
    rw [hid, Nat.mul_assoc q, Nat.mul_right_comm q]
    exact Nat.mul_le_mul_right _ hq1
  have hhigh : m * 2 ^ a < (q + 1) * 2 ^ l * 2 ^ b := by
    refine Nat.lt_of_mul_lt_mul_right (a := 2 ^ drop) ?_
    rw [hid, Nat.mul_assoc (q + 1), Nat.mul_right_comm (q + 1)]
    exact Nat.mul_lt_mul_of_pos_right hq2 (Nat.mul_pos (Nat.two_pow_pos _) hd)
  have hstrict : m * 2 ^ sh % 2 ^ drop ≠ 0 → q * 2 ^ l * 2 ^ b < m * 2 ^ a := by
    intro h
    refine Nat.lt_of_mul_lt_mul_right (a := 2 ^ drop) ?_
    rw [hid, Nat.mul_assoc q, Nat.mul_right_comm q]
    exact Nat.mul_lt_mul_of_pos_right (hq3 h) (Nat.mul_pos (Nat.two_pow_pos _) hd)
  have m0 := M_at l q hqa (by omega)
  have m1 := M_at l (q + 1) (by omega) (by omega)
  rcases hcut with h | ⟨h, h0⟩
  · rw [h]
    exact nearN_low hd (by rw [m0]; exact hlow) (by rw [Nat.add_assoc, m1]; exact hhigh)
  · rw [h]
    have e : l * 2 ^ 52 + (q + 1) = l * 2 ^ 52 + q + 1 := by omega
    rw [e] at m1 ⊢
    exact nearN_high (r := l * 2 ^ 52 + q) hd (by rw [m0]; exact hstrict h0) (by rw [m1]; exact Nat.le_of_lt hhigh)

/-! Signed. -/
/-- The key 'k' lies next to the real N / D, or on it. -/
def Near (k N D : Int) : Prop := -(INF : Int) ≤ k ∧ k ≤ INF ∧ ∀ j : Int, -(INF : Int) ≤ j → j ≤ INF → (j < k → V j * D < N) ∧ (k < j → N < V j * D)

theorem Near.neg {k N D : Int} (h : Near k N D) : Near (-k) (-N) D := by
  obtain ⟨h1, h2, h3⟩ := h
  refine ⟨by omega, by omega, fun j a b => ?_⟩
  have := h3 (-j) (by omega) (by omega)
  rw [V_neg, Int.neg_mul] at this
  exact ⟨fun h => by have := this.2 (by omega); omega, fun h => by have := this.1 (by omega); omega⟩

theorem nearN_near {r n d : Nat} (h : NearN r n d) (hn : 0 < n) : Near (r : Int) n d := by
  obtain ⟨h1, h3⟩ := h
  refine ⟨by omega, by omega, fun j a b => ⟨fun h => ?_, fun h => ?_⟩⟩
  · by_cases hj : 0 ≤ j
    · obtain ⟨j, rfl⟩ := Int.eq_ofNat_of_zero_le hj
      have := (h3 j (by omega)).1 (by omega)
      rw [V_nat]; exact_mod_cast this
    · have e : V j ≤ 0 := by rw [← V_zero]; exact V_le (by omega)
      have := Int.mul_nonpos_of_nonpos_of_nonneg e (show (0 : Int) ≤ d by omega)
      omega
  · obtain ⟨j, rfl⟩ := Int.eq_ofNat_of_zero_le (show 0 ≤ j by omega)
    have := (h3 j (by omega)).2 (by omega)
    rw [V_nat]; exact_mod_cast this

theorem word_key {s : Bool} {r : Nat} (h : r ≤ INF) : rung (double.word s r) = r ∧ neg (double.word s r) = s ∧ double.word s r < 2 ^ 64 := by
  have h0 := INF_eq
  unfold rung neg Format.word
  rw [signWeight_eq]
  cases s
  · simp only [Bool.false_eq_true, if_false]
    exact ⟨by omega, by rw [show r / 2 ^ 63 = 0 by omega]; rfl, by omega⟩
  · simp only [if_true]
    exact ⟨by omega, by rw [show (2 ^ 63 + r) / 2 ^ 63 = 1 by omega]; rfl, by omega⟩

/-- What is written of a number with a sign. -/
theorem write_near (s : Bool) (m : Nat) (place : Int) (hm : 0 < m) :
    ¬ nan (double.nearest s m place) ∧ neg (double.nearest s m place) = s ∧ double.nearest s m place < 2 ^ 64 ∧
    Near (key (double.nearest s m place)) ((if s then -1 else 1) * ((m * 2 ^ (place + 1074).toNat : Nat) : Int)) ((2 ^ (-(place + 1074)).toNat : Nat) : Int) := by
  obtain ⟨r, h, hr⟩ := nearest_eq s m place hm
  obtain ⟨h1, h2, h3⟩ := word_key (s := s) hr.1
  have hn := nearN_near hr (Nat.mul_pos hm (Nat.two_pow_pos _))
  rw [h]
  refine ⟨by unfold nan; rw [h1]; have := hr.1; omega, h2, h3, ?_⟩
  unfold key
  rw [h1, h2]
  cases s
  · simpa using hn
  · have := hn.neg
    simpa using this

theorem write_zero (s : Bool) (place : Int) : double.nearest s 0 place = double.word s 0 := by
  unfold Format.nearest; rw [if_pos rfl]

theorem near_exact {k N D : Int} (h : Near k N D) {m : Int} (h1 : -(INF : Int) < m) (h2 : m < INF) (hN : N = V m * D) : k = m := by
  have := h.2.2 m (Int.le_of_lt h1) (Int.le_of_lt h2)
  rcases Int.lt_trichotomy m k with a | a | a
  · have := this.1 a; omega
  · exact a.symm
  · have := this.2 a; omega

/-! The canonical word of a key. -/
theorem ofKey_word {k : Int} : ofKey k = double.word (decide (k < 0)) k.natAbs := by
  unfold ofKey Format.word
  rw [signWeight_eq]
  by_cases h0 : 0 ≤ k
  · rw [if_pos h0, show decide (k < 0) = false by simp; omega]; simp; omega
  · rw [if_neg h0, show decide (k < 0) = true by simp; omega]; simp; omega
theorem ofKey_facts {k : Int} (h1 : -(INF : Int) ≤ k) (h2 : k ≤ INF) : key (ofKey k) = k ∧ ¬ nan (ofKey k) ∧ ofKey k < 2 ^ 64 ∧ rung (ofKey k) = k.natAbs := by
  have h0 := INF_eq
  by_cases hk : k = 0
  · subst hk; exact ⟨by decide, by decide, by decide, by decide⟩
  · rw [ofKey_word]
    obtain ⟨a, b, c⟩ := word_key (s := decide (k < 0)) (r := k.natAbs) (by omega)
    refine ⟨?_, by unfold nan; omega, c, a⟩
    unfold key
    rw [a, b]
    by_cases hk : k < 0
    · simp [hk]; omega
    · simp [hk]; omega
theorem key_range {x : Nat} (h : ¬ nan x) : -(INF : Int) ≤ key x ∧ key x ≤ INF := by
  unfold nan at h; unfold key; split <;> omega
theorem fin_key {x : Nat} : fin x ↔ -(INF : Int) < key x ∧ key x < INF := by
  unfold fin key; split <;> omega
theorem word_of_key {x : Nat} (hx : x < 2 ^ 64) (h0 : key x ≠ 0) : x = ofKey (key x) := by
  unfold ofKey key rung neg at *
  by_cases h : x / 2 ^ 63 % 2 = 1
  · rw [show (x / 2 ^ 63 % 2 == 1) = true by simpa using h] at h0 ⊢
    simp only [if_true] at h0 ⊢
    rw [if_neg (by omega)]; omega
  · rw [show (x / 2 ^ 63 % 2 == 1) = false by simpa using h] at h0 ⊢
    simp only [Bool.false_eq_true, if_false] at h0 ⊢
    rw [if_pos (by omega)]; omega

end Go.Fl
