/- Differences, products and fused products of words; what rounded down and rounded up are. -/
import Derived.Test.YteephgpefhodnaaF4
namespace Go.Fl
open Ieee
set_option linter.unusedVariables false

theorem signed_neg (s : Bool) (m u : Nat) : Ieee.signed (!s) m u = -Ieee.signed s m u := by
  unfold Ieee.signed; cases s <;> simp

/-- The difference of two finite words. -/
theorem sub_fin {x y : Nat} (hx : fin x) (hy : fin y) :
    ∃ r, FloatKind.f64.format.sub x y = some r ∧ ¬ nan r ∧ r < 2 ^ 64 ∧ Near (key r) (V (key x) - V (key y)) 1 := by
  rw [fmt]
  unfold Format.sub
  rw [read_fin hx, read_fin hy]
  simp only [Datum.sum, Datum.opposite, Option.map_some, signed_neg]
  generalize hbase : min ((pl x : Int) - 1074) ((pl y : Int) - 1074) = base
  have h1 := key_val (x := x) base (by omega) (by omega)
  have h2 := key_val (x := y) base (by omega) (by omega)
  generalize Ieee.signed (neg x) (mag x) (((pl x : Int) - 1074) - base).toNat = A at *
  generalize Ieee.signed (neg y) (mag y) (((pl y : Int) - 1074) - base).toNat = B at *
  obtain ⟨a, b, c⟩ := write_real (neg x && !neg y) (A + -B) base
  refine ⟨_, rfl, a, b, ?_⟩
  rw [Int.add_mul, Int.neg_mul, h1, h2, show (-(base + 1074)).toNat = 0 by omega] at c
  exact c

def X74 : Nat := 1074
theorem X74_eq : X74 = 1074 := rfl
def E74 : Int := 2 ^ X74
theorem E74_pos : 0 < E74 := Int.pow_pos (by omega)
theorem E74_eq : E74 = (2 : Int) ^ X74 := rfl

theorem sgn_mul (a b : Bool) : (if (a ^^ b) = true then (-1 : Int) else 1) = (if a = true then -1 else 1) * (if b = true then -1 else 1) := by
  cases a <;> cases b <;> rfl

/-- The exact product's numerator. -/
theorem prod_val (x y : Nat) : (if (neg x ^^ neg y) = true then (-1 : Int) else 1) * ((mag x * mag y * 2 ^ (pl x + pl y) : Nat) : Int) = V (key x) * V (key y) := by
  rw [key_of_neg, key_of_neg, ← mag_pl x, ← mag_pl y, sgn_mul, Nat.pow_add]
  push_cast
  generalize (if neg x = true then (-1 : Int) else 1) = s
  generalize (if neg y = true then (-1 : Int) else 1) = t
  generalize (2 : Int) ^ pl x = p
  generalize (2 : Int) ^ pl y = q
  grind

theorem mul_fin {x y : Nat} (hx : fin x) (hy : fin y) :
    ∃ r, FloatKind.f64.format.mul x y = some r ∧ ¬ nan r ∧ r < 2 ^ 64 ∧ Near (key r) (V (key x) * V (key y)) E74 := by
  rw [fmt]
  unfold Format.mul
  rw [read_fin hx, read_fin hy]
  simp only [Datum.product, Option.map_some]
  have hv := prod_val x y
  generalize hs : (neg x ^^ neg y) = s at *
  generalize hm : mag x * mag y = m at *
  by_cases h0 : m = 0
  · subst h0
    unfold Format.write
    simp only [write_zero]
    obtain ⟨h1, h2, h3⟩ := word_key (s := s) (r := 0) (by omega)
    refine ⟨_, rfl, by unfold nan; rw [h1]; omega, h3, ?_⟩
    have hk : key (double.word s 0) = 0 := by unfold key; rw [h1]; simp
    rw [hk, ← hv]
    have := near_of_exact (m := 0) E74_pos (by omega) (by omega)
    rw [V_zero, Int.zero_mul] at this
    simpa using this
  · obtain ⟨h1, _, h3, h4⟩ := write_near s m (((pl x : Int) - 1074) + ((pl y : Int) - 1074)) (by omega)
    refine ⟨_, rfl, h1, h3, ?_⟩
    unfold Format.write
    simp only
    have hp : (0 : Int) < ((2 ^ (-(((pl x : Int) - 1074) + ((pl y : Int) - 1074) + 1074)).toNat : Nat) : Int) := by
      have := Nat.two_pow_pos (-(((pl x : Int) - 1074) + ((pl y : Int) - 1074) + 1074)).toNat
      omega
    refine near_congr hp E74_pos ?_ h4
    rw [← hv, E74_eq]
    generalize (if s = true then (-1 : Int) else 1) = t
    have he : ((((pl x : Int) - 1074) + ((pl y : Int) - 1074) + 1074).toNat) + X74 = (pl x + pl y) + (-(((pl x : Int) - 1074) + ((pl y : Int) - 1074) + 1074)).toNat := by have := X74_eq; omega
    have hpow : (2 : Int) ^ (((pl x : Int) - 1074) + ((pl y : Int) - 1074) + 1074).toNat * 2 ^ X74 = 2 ^ (pl x + pl y) * 2 ^ (-(((pl x : Int) - 1074) + ((pl y : Int) - 1074) + 1074)).toNat := by
      rw [← Int.pow_add, ← Int.pow_add, he]
    push_cast
    rw [Int.mul_assoc, Int.mul_assoc, hpow, Int.mul_assoc, Int.mul_assoc]

/-- The fused product of finite words. -/
theorem fma_fin {x y z : Nat} (hx : fin x) (hy : fin y) (hz : fin z) :
    ∃ r, FloatKind.f64.format.fma x y z = some r ∧ ¬ nan r ∧ r < 2 ^ 64 ∧ Near (key r) (V (key x) * V (key y) + V (key z) * E74) E74 := by
  rw [fmt]
  unfold Format.fma
  rw [read_fin hx, read_fin hy, read_fin hz]
  simp only [Datum.product, Option.bind_some, Datum.sum, Option.map_some]
  have hv := prod_val x y
  have hz2 := key_of_neg (x := z)
  rw [← mag_pl z] at hz2
  generalize hi : ((pl x : Int) - 1074) + ((pl y : Int) - 1074) = i
  generalize hbase : min i ((pl z : Int) - 1074) = base
  have e1 : Ieee.signed (neg x ^^ neg y) (mag x * mag y) (i - base).toNat * (2 : Int) ^ (base + 2148).toNat = V (key x) * V (key y) := by
    rw [← hv]
    unfold Ieee.signed
    rw [Nat.shiftLeft_eq]
    have he : (i - base).toNat + (base + 2148).toNat = pl x + pl y := by omega
    rw [← he, Nat.pow_add]
    cases (neg x ^^ neg y) <;> simp [Int.natCast_mul, Int.mul_assoc, Int.neg_mul]
  have e2 : Ieee.signed (neg z) (mag z) (((pl z : Int) - 1074) - base).toNat * (2 : Int) ^ (base + 2148).toNat = V (key z) * E74 := by
    rw [hz2, E74_eq]
    unfold Ieee.signed
    rw [Nat.shiftLeft_eq]
    have he : (((pl z : Int) - 1074) - base).toNat + (base + 2148).toNat = pl z + X74 := by have := X74_eq; omega
    have hp : (2 : Int) ^ (((pl z : Int) - 1074) - base).toNat * 2 ^ (base + 2148).toNat = 2 ^ pl z * 2 ^ X74 := by rw [← Int.pow_add, ← Int.pow_add, he]
    cases neg z
    · simp only [Bool.false_eq_true, if_false]; push_cast; rw [Int.mul_assoc, hp]; grind
    · simp only [if_true]; push_cast; rw [Int.neg_mul, Int.mul_assoc, hp]; grind
  generalize Ieee.signed (neg x ^^ neg y) (mag x * mag y) (i - base).toNat = A at *
  generalize Ieee.signed (neg z) (mag z) (((pl z : Int) - 1074) - base).toNat = B at *
  obtain ⟨a, b, c⟩ := write_real ((neg x ^^ neg y) && neg z) (A + B) base
  refine ⟨_, rfl, a, b, ?_⟩
  have hp : (0 : Int) < 2 ^ (-(base + 1074)).toNat := Int.pow_pos (by omega)
  refine near_congr hp E74_pos ?_ c
  rw [← e1, ← e2, ← Int.add_mul, Int.mul_assoc, Int.mul_assoc, E74_eq, ← Int.pow_add, ← Int.pow_add]
  congr 2
  have := X74_eq
  omega

end Go.Fl
