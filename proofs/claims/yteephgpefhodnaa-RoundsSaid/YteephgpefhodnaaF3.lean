/- Operations on words, said of keys: order, sign, sum with nought. -/
import Derived.Test.YteephgpefhodnaaF2
namespace Go.Fl
open Ieee

/-- The key of infinity, behind a name. -/
def PI : Int := 9218868437227405312
theorem PI_eq : PI = (INF : Int) := rfl
theorem PI_pos : 4503599627370496 < PI := by decide
def Rg (k : Int) : Prop := -PI ≤ k ∧ k ≤ PI
theorem Rg.lo {k : Int} (h : Rg k) : -PI ≤ k := h.1
theorem Rg.hi {k : Int} (h : Rg k) : k ≤ PI := h.2
theorem Rg_PI : Rg PI := ⟨by decide, by decide⟩
theorem Rg_MI : Rg (-PI) := ⟨by decide, by decide⟩
theorem Rg_zero : Rg 0 := ⟨by decide, by decide⟩
theorem Rg_neg {k : Int} (h : Rg k) : Rg (-k) := ⟨by have := h.2; omega, by have := h.1; omega⟩
theorem Rg_key {x : Nat} (h : ¬ nan x) : Rg (key x) := key_range h

theorem key_ofKey {k : Int} (h : Rg k) : key (ofKey k) = k := (ofKey_facts h.1 h.2).1
theorem not_nan_ofKey {k : Int} (h : Rg k) : ¬ nan (ofKey k) := (ofKey_facts h.1 h.2).2.1
theorem ofKey_lt {k : Int} (h : Rg k) : ofKey k < 2 ^ 64 := (ofKey_facts h.1 h.2).2.2.1
theorem ofKey_inj {j k : Int} (hj : Rg j) (hk : Rg k) (h : ofKey j = ofKey k) : j = k := by
  rw [← key_ofKey hj, ← key_ofKey hk, h]
theorem zero_ofKey : (0 : Nat) = ofKey 0 := by decide
theorem key_zero : key 0 = 0 := by decide

theorem ord_key {x y : Nat} (hx : ¬ nan x) (hy : ¬ nan y) : FloatKind.f64.format.order x y = some (compare (key x) (key y)) := order_key hx hy
theorem ord_nan_left {x y : Nat} (hx : nan x) : FloatKind.f64.format.order x y = none := order_nan_left hx
theorem ord_nan_right {x y : Nat} (hy : nan y) : FloatKind.f64.format.order x y = none := order_nan_right hy
theorem ord_ofKey {a b : Int} (ha : Rg a) (hb : Rg b) : FloatKind.f64.format.order (ofKey a) (ofKey b) = some (compare a b) := by
  rw [ord_key (not_nan_ofKey ha) (not_nan_ofKey hb), key_ofKey ha, key_ofKey hb]
theorem ord_ofKey_zero {a : Int} (ha : Rg a) : FloatKind.f64.format.order (ofKey a) 0 = some (compare a 0) := by
  rw [zero_ofKey]; exact ord_ofKey ha Rg_zero

theorem cmp_lt (a b : Int) : (some (compare a b) == some Ordering.lt) = decide (a < b) := by
  simp only [compare, compareOfLessAndEq]
  by_cases h : a < b
  · simp [h]
  · by_cases h' : a = b
    · subst h'; simp
    · simp [h, h']
theorem cmp_eq (a b : Int) : (some (compare a b) == some Ordering.eq) = decide (a = b) := by
  simp only [compare, compareOfLessAndEq]
  by_cases h : a < b
  · have : a ≠ b := by omega
    simp [h, this]
  · by_cases h' : a = b
    · subst h'; simp
    · simp [h, h']
theorem cmp_gt (a b : Int) : (some (compare a b) == some Ordering.gt) = decide (b < a) := by
  simp only [compare, compareOfLessAndEq]
  by_cases h : a < b
  · have : ¬ b < a := by omega
    simp [h, this]
  · by_cases h' : a = b
    · subst h'; simp
    · have : b < a := by omega
      simp [h, h', this]
theorem cmp_ne (a b : Int) : (some (compare a b) != some Ordering.eq) = !decide (a = b) := by
  rw [bne, cmp_eq]
theorem cmp_le (a b : Int) : (some (compare a b) == some Ordering.lt || some (compare a b) == some Ordering.eq) = decide (a ≤ b) := by
  rw [cmp_lt, cmp_eq, ← Bool.decide_or]; congr 1; simp only [eq_iff_iff]; omega
theorem cmp_ge (a b : Int) : (some (compare a b) == some Ordering.gt || some (compare a b) == some Ordering.eq) = decide (b ≤ a) := by
  rw [cmp_gt, cmp_eq, ← Bool.decide_or]; congr 1; simp only [eq_iff_iff]; omega

/-! The sign. -/
def fneg (x : Nat) : Nat := Op.negFloat .f64 x
theorem xor_top (x : Nat) (h : x < 2 ^ 64) : x ^^^ 2 ^ 63 = if x < 2 ^ 63 then x + 2 ^ 63 else x - 2 ^ 63 := by
  have h1 : (x ^^^ 2 ^ 63) % 2 ^ 63 = x % 2 ^ 63 := by
    rw [Nat.xor_mod_two_pow]; simp
  have h2 : (x ^^^ 2 ^ 63) / 2 ^ 63 = (x / 2 ^ 63) ^^^ 1 := by
    rw [Nat.xor_div_two_pow]
  by_cases hc : x < 2 ^ 63
  · rw [if_pos hc]
    rw [show x / 2 ^ 63 = 0 by omega] at h2
    have : (0 ^^^ 1 : Nat) = 1 := rfl
    omega
  · rw [if_neg hc]
    rw [show x / 2 ^ 63 = 1 by omega] at h2
    have : (1 ^^^ 1 : Nat) = 0 := rfl
    omega
theorem fneg_eq {x : Nat} (h : x < 2 ^ 64) : fneg x = if x < 2 ^ 63 then x + 2 ^ 63 else x - 2 ^ 63 := by
  unfold fneg Op.negFloat
  have e : FloatKind.f64.format.exponentBits + FloatKind.f64.format.fractionBits = 63 := by decide
  rw [e]
  exact xor_top x h
theorem fneg_facts {x : Nat} (h : x < 2 ^ 64) : fneg x < 2 ^ 64 ∧ rung (fneg x) = rung x ∧ neg (fneg x) = !neg x := by
  rw [fneg_eq h]
  unfold rung neg
  by_cases hc : x < 2 ^ 63
  · rw [if_pos hc]
    refine ⟨by omega, by omega, ?_⟩
    rw [show (x + 2 ^ 63) / 2 ^ 63 = 1 by omega, show x / 2 ^ 63 = 0 by omega]; rfl
  · rw [if_neg hc]
    refine ⟨by omega, by omega, ?_⟩
    rw [show (x - 2 ^ 63) / 2 ^ 63 = 0 by omega, show x / 2 ^ 63 = 1 by omega]; rfl
theorem key_fneg {x : Nat} (h : x < 2 ^ 64) : key (fneg x) = -key x := by
  obtain ⟨_, h2, h3⟩ := fneg_facts h
  unfold key
  rw [h2, h3]
  cases neg x <;> simp
theorem nan_fneg {x : Nat} (h : x < 2 ^ 64) : nan (fneg x) ↔ nan x := by
  obtain ⟨_, h2, _⟩ := fneg_facts h
  unfold nan; rw [h2]
theorem fneg_ofKey {k : Int} (h : Rg k) (h0 : k ≠ 0) : fneg (ofKey k) = ofKey (-k) := by
  have h1 := ofKey_lt h
  have := word_of_key (x := fneg (ofKey k)) (fneg_facts h1).1 (by rw [key_fneg h1, key_ofKey h]; omega)
  rw [this, key_fneg h1, key_ofKey h]

/-! Writing an exact sum. -/
theorem near_of_exact {m : Int} {D : Int} (hD : 0 < D) (h1 : -(INF : Int) ≤ m) (h2 : m ≤ INF) : Near m (V m * D) D :=
  ⟨h1, h2, fun _ _ _ => ⟨fun h => Int.mul_lt_mul_of_pos_right (V_lt h) hD, fun h => Int.mul_lt_mul_of_pos_right (V_lt h) hD⟩⟩
theorem near_congr {k N D N' D' : Int} (hD : 0 < D) (hD' : 0 < D') (h : N * D' = N' * D) (hn : Near k N D) : Near k N' D' := by
  refine ⟨hn.1, hn.2.1, fun j a b => ?_⟩
  have hj := hn.2.2 j a b
  have e : V j * D * D' = V j * D' * D := by rw [Int.mul_assoc, Int.mul_comm D, ← Int.mul_assoc]
  constructor
  · intro hk
    have h1 := Int.mul_lt_mul_of_pos_right (hj.1 hk) hD'
    rw [h, e] at h1
    exact Int.lt_of_mul_lt_mul_right h1 (Int.le_of_lt hD)
  · intro hk
    have h1 := Int.mul_lt_mul_of_pos_right (hj.2 hk) hD'
    rw [h, e] at h1
    exact Int.lt_of_mul_lt_mul_right h1 (Int.le_of_lt hD)

theorem write_real (s0 : Bool) (total : Int) (place : Int) :
    ¬ nan (double.write (.number (if total = 0 then s0 else decide (total < 0)) total.natAbs place)) ∧
    double.write (.number (if total = 0 then s0 else decide (total < 0)) total.natAbs place) < 2 ^ 64 ∧
    Near (key (double.write (.number (if total = 0 then s0 else decide (total < 0)) total.natAbs place))) (total * 2 ^ (place + 1074).toNat) (2 ^ (-(place + 1074)).toNat) := by
  unfold Format.write
  simp only
  have hp : (0 : Int) < 2 ^ (-(place + 1074)).toNat := Int.pow_pos (by omega)
  by_cases h : total = 0
  · subst h
    simp only [if_true, Int.natAbs_zero, write_zero]
    obtain ⟨h1, h2, h3⟩ := word_key (s := s0) (r := 0) (by omega)
    refine ⟨by unfold nan; rw [h1]; omega, h3, ?_⟩
    have hk : key (double.word s0 0) = 0 := by unfold key; rw [h1]; simp
    rw [hk, Int.zero_mul]
    have := near_of_exact (m := 0) hp (by omega) (by omega)
    rw [V_zero, Int.zero_mul] at this
    exact this
  · rw [if_neg h]
    obtain ⟨h1, _, h3, h4⟩ := write_near (decide (total < 0)) total.natAbs place (by omega)
    refine ⟨h1, h3, ?_⟩
    have e : (if decide (total < 0) = true then (-1 : Int) else 1) * ((total.natAbs * 2 ^ (place + 1074).toNat : Nat) : Int) = total * 2 ^ (place + 1074).toNat := by
      rw [Int.natCast_mul, Int.natCast_pow, ← Int.mul_assoc]
      congr 1
      by_cases hn : total < 0
      · simp [hn]; omega
      · simp [hn]; omega
    rw [e] at h4
    simpa using h4

theorem key_val {x : Nat} (b : Int) (hb : b ≤ (pl x : Int) - 1074) (hb0 : -1074 ≤ b) :
    Ieee.signed (neg x) (mag x) (((pl x : Int) - 1074) - b).toNat * (2 : Int) ^ (b + 1074).toNat = V (key x) := by
  rw [signed_val (neg x) (mag x) _ b hb hb0, show ((pl x : Int) - 1074 + 1074).toNat = pl x by omega, mag_pl, ← key_of_neg]

/-- The sum of two finite words. -/
theorem add_fin {x y : Nat} (hx : fin x) (hy : fin y) :
    ∃ r, FloatKind.f64.format.add x y = some r ∧ ¬ nan r ∧ r < 2 ^ 64 ∧ Near (key r) (V (key x) + V (key y)) 1 := by
  rw [fmt]
  unfold Format.add
  rw [read_fin hx, read_fin hy]
  simp only [Datum.sum, Option.map_some]
  generalize hbase : min ((pl x : Int) - 1074) ((pl y : Int) - 1074) = base
  have h1 := key_val (x := x) base (by omega) (by omega)
  have h2 := key_val (x := y) base (by omega) (by omega)
  generalize Ieee.signed (neg x) (mag x) (((pl x : Int) - 1074) - base).toNat = A at *
  generalize Ieee.signed (neg y) (mag y) (((pl y : Int) - 1074) - base).toNat = B at *
  obtain ⟨a, b, c⟩ := write_real (neg x && neg y) (A + B) base
  refine ⟨_, rfl, a, b, ?_⟩
  rw [Int.add_mul, h1, h2, show (-(base + 1074)).toNat = 0 by omega] at c
  exact c

theorem add_zero_ofKey {x : Nat} (hx : fin x) : FloatKind.f64.format.add x 0 = some (ofKey (key x)) := by
  obtain ⟨r, h1, h2, h3, h4⟩ := add_fin hx (y := 0) (by decide)
  rw [key_zero, V_zero, Int.add_zero] at h4
  have hk := fin_key.1 hx
  have e := near_exact h4 hk.1 hk.2 (by omega)
  rw [h1]
  by_cases h0 : key x = 0
  · rw [fmt] at h1
    unfold Format.add at h1
    rw [read_fin hx, read_fin (x := 0) (by decide)] at h1
    simp only [Datum.sum, Option.map_some] at h1
    generalize hbase : min ((pl x : Int) - 1074) ((pl 0 : Int) - 1074) = base at h1
    have hp0 : pl 0 = 0 := by decide
    have e1 := key_val (x := x) base (by omega) (by omega)
    have e2 := key_val (x := 0) base (by omega) (by omega)
    rw [h0, V_zero] at e1
    rw [key_zero, V_zero] at e2
    have hpp : (2 : Int) ^ (base + 1074).toNat ≠ 0 := Int.ne_of_gt (Int.pow_pos (by omega))
    have z1 := (Int.mul_eq_zero.1 e1).resolve_right hpp
    have z2 := (Int.mul_eq_zero.1 e2).resolve_right hpp
    rw [z1, z2] at h1
    have hn0 : neg 0 = false := by decide
    rw [hn0] at h1
    simp [Format.write, write_zero] at h1
    rw [← h1, h0]
    decide
  · congr 1
    rw [word_of_key h3 (by rw [e]; exact h0), e]

theorem add_inf_left {x y : Nat} (hx : rung x = INF) (hy : fin y) (hl : x < 2 ^ 64) : FloatKind.f64.format.add x y = some x := by
  rw [fmt]
  unfold Format.add
  rw [read_inf hx, read_fin hy]
  simp only [Datum.sum, Option.map_some, Format.write, infRung_eq, Option.some.injEq]
  have h0 := INF_eq
  unfold rung at hx
  unfold Format.word neg
  rw [signWeight_eq]
  by_cases h : x < 2 ^ 63
  · rw [show x / 2 ^ 63 = 0 by omega]; simp; omega
  · rw [show x / 2 ^ 63 = 1 by omega]; simp; omega

/-- A number and nought: the number's canonical word. -/
theorem add_zero {x : Nat} (hx : ¬ nan x) (hl : x < 2 ^ 64) : FloatKind.f64.format.add x 0 = some (ofKey (key x)) := by
  by_cases hf : fin x
  · exact add_zero_ofKey hf
  · have hi : rung x = INF := by unfold nan at hx; unfold fin at hf; omega
    rw [add_inf_left hi (by decide) hl]
    congr 1
    refine word_of_key hl ?_
    have h0 := INF_eq
    unfold key; split <;> omega

theorem add_nan {x y : Nat} (hx : nan x ∨ nan y) : FloatKind.f64.format.add x y = none := by
  rw [fmt]
  unfold Format.add
  rcases hx with h | h
  · obtain ⟨t, ht⟩ := read_nan h; rw [ht]; rfl
  · obtain ⟨t, ht⟩ := read_nan h; rw [ht]; cases double.read x <;> rfl

end Go.Fl
