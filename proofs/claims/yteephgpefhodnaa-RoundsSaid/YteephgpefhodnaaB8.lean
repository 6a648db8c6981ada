/- bits.Div64 of a word times 2^64 by a divisor whose first digit is at the top. -/
import Derived.Test.YteephgpefhodnaaB7
import Derived.LoopTactic
namespace Go.Proofs.Yteephgpefhodnaa
open Go.RowKit Go.Sort Go.Fl
set_option linter.unusedSimpArgs false
set_option linter.unusedVariables false

theorem ret_uu {a b c d : Int} (h : a = c) (h' : b = d) : Ending.returned (.tuple #[.int .u64 a, .int .u64 b]) = .returned (.tuple #[.int .u64 c, .int .u64 d]) := by rw [h, h']
theorem bitlen_top {y : Nat} (h1 : 2 ^ 63 ≤ y) (h2 : y < 2 ^ 64) : Lib.bitLen y = 64 := by
  obtain ⟨_, x2, x3⟩ := Lib.bitLenAux_bounds 64 y h2 (by omega)
  have x3 : y < 2 ^ Lib.bitLen y := x3
  have x2 : 2 ^ (Lib.bitLen y - 1) ≤ y := x2
  rcases Nat.lt_trichotomy (Lib.bitLen y) 64 with h | h | h
  · have : (2 : Nat) ^ Lib.bitLen y ≤ 2 ^ 63 := Nat.pow_le_pow_right (by omega) (by omega)
    omega
  · exact h
  · have : (2 : Nat) ^ 64 ≤ 2 ^ (Lib.bitLen y - 1) := Nat.pow_le_pow_right (by omega) (by omega)
    omega

theorem u64_or0 (u : Nat) (h : u < 2 ^ 64) : bits BinOp.or IntKind.u64 (u : Int) 0 = (u : Int) := by
  rw [u64_or (u : Int) 0 (by omega) (by omega) (by omega) (by omega)]
  simp
theorem u64_low32 (u : Nat) (h : u < 2 ^ 64) : bits BinOp.and IntKind.u64 (u : Int) 4294967295 = ((u % 2 ^ 32 : Nat) : Int) := by
  rw [u64_and (u : Int) 4294967295 (by omega) (by omega) (by omega) (by omega)]
  congr 1
  exact Nat.and_two_pow_sub_one_eq_mod u 32

/-- The first guess of a digit. -/
theorem guess {un y v1 : Nat} (h1 : 2 ^ 63 ≤ y) (h2 : y < 2 ^ 64) (hu : un < y) (hv : y / 2 ^ 32 = v1) : ∃ q r : Nat, IntKind.u64.wrap ((un : Int) / (v1 : Int)) = q ∧ IntKind.u64.wrap ((un : Int) - IntKind.u64.wrap ((q : Int) * (v1 : Int))) = r ∧ Dig un y q r ∧ r < 2 ^ 32 ∧ (q : Int) ≤ 18446744073709551615 := by
  obtain ⟨i1, i2⟩ := dig_init h1 h2 hu
  rw [hv] at i1 i2
  refine ⟨un / v1, un % v1, ?_, ?_, i1, i2, ?_⟩
  · have hl : un / v1 ≤ un := Nat.div_le_self _ _
    rw [← Int.natCast_ediv, IntKind.wrap_u64]
    generalize un / v1 = z at *
    omega
  · have h := i1.1
    rw [hv] at h
    rw [← Int.natCast_mul, IntKind.wrap_u64, IntKind.wrap_u64]
    generalize un / v1 * v1 = z at *
    omega
  · have h := i1.2.2
    omega
/-- What is left behind a digit. -/
theorem left {un y q : Nat} (h1 : 2 ^ 63 ≤ y) (h2 : y < 2 ^ 64) (hu : un < y) (hq : q = un * 2 ^ 32 / y) (z : Int) (hz : z = q) :
    ∃ A B u2 : Nat, IntKind.u64.wrap ((un : Int) * 4294967296) = A ∧ IntKind.u64.wrap (z * (y : Int)) = B ∧ IntKind.u64.wrap ((A : Int) - (B : Int)) = u2 ∧ (A : Int) ≤ 18446744073709551615 ∧ (B : Int) ≤ 18446744073709551615 ∧ u2 = un * 2 ^ 32 % y ∧ u2 < y := by
  subst hz
  have e := Nat.div_add_mod (un * 2 ^ 32) y
  rw [← hq, Nat.mul_comm] at e
  have hm := Nat.mod_lt (un * 2 ^ 32) (show y > 0 by omega)
  refine ⟨un * 2 ^ 32 % 2 ^ 64, q * y % 2 ^ 64, un * 2 ^ 32 % y, ?_, ?_, ?_, by omega, by omega, rfl, hm⟩
  · rw [IntKind.wrap_u64]; omega
  · rw [← Int.natCast_mul, IntKind.wrap_u64]; omega
  · rw [IntKind.wrap_u64]
    generalize un * 2 ^ 32 % y = z at *
    generalize q * y = t at *
    omega

/-- A round's numbers. -/
theorem round_facts {un y q r v1 v0 : Nat} (hV1 : y / 2 ^ 32 = v1) (hV0 : y % 2 ^ 32 = v0) (h1 : 2 ^ 63 ≤ y) (hu : un < y) (hD : Dig un y q r) (hr : r < 2 ^ 32) :
    ∃ p : Nat, IntKind.u64.wrap ((q : Int) * (v0 : Int)) = (p : Int) ∧ (p : Int) ≤ 18446744073709551615 ∧ (q : Int) ≤ 4294967297 ∧ (r : Int) ≤ 4294967295 ∧
      (((4294967296 : Int) ≤ q ∨ (4294967296 : Int) * r < p) → (1 : Int) ≤ q ∧ Dig un y (q - 1) (r + v1) ∧ ((4294967296 : Int) ≤ r + v1 → q - 1 = un * 2 ^ 32 / y)) ∧
      (¬ ((4294967296 : Int) ≤ q) → ¬ ((4294967296 : Int) * r < p) → q = un * 2 ^ 32 / y) := by
  have hb := hD.2.2
  have hv0 : v0 < 2 ^ 32 := by omega
  refine ⟨q * v0, ?_, ?_, by omega, by omega, ?_, ?_⟩
  · have : q * v0 < 18446744073709551616 := Nat.lt_of_le_of_lt (Nat.mul_le_mul hb (show v0 ≤ 2 ^ 32 - 1 by omega)) (by decide)
    rw [← Int.natCast_mul, IntKind.wrap_u64]
    generalize q * v0 = p at *
    omega
  · have : q * v0 < 18446744073709551616 := Nat.lt_of_le_of_lt (Nat.mul_le_mul hb (show v0 ≤ 2 ^ 32 - 1 by omega)) (by decide)
    generalize q * v0 = p at *
    omega
  · intro hc
    have := dig_step h1 hu hD (by rw [hV0]; generalize q * v0 = p at *; omega)
    rw [hV1] at this
    refine ⟨by omega, this.2.1, fun hh => dig_break h1 this.2.1 this.2.2 (by omega)⟩
  · intro a b
    refine dig_exit h1 hD ?_
    rw [hV0]
    generalize q * v0 = p at *
    omega

set_option maxHeartbeats 4000000 in
theorem div64_any (u y : Nat) (h0 : 0 < u) (h1 : 2 ^ 63 ≤ y) (h2 : y < 2 ^ 64) (hu : u < y) (Z R : Int) (hZ : Z = ((u * 2 ^ 64 / y : Nat) : Int)) (hR : R = ((u * 2 ^ 64 % y : Nat) : Int)) (w : World) :
    Calls Try.prog 103 #[.int .u64 u, .int .u64 0, .int .u64 y] w fun e w' => e = .returned (.tuple #[.int .u64 Z, .int .u64 R]) ∧ w = w' := by
  have hz := Try.bits_LeadingZeros64 (y : Int)
  have hz0 : 64 - (Lib.bitLen y : Int) = 0 := by rw [bitlen_top h1 h2]; rfl
  have hy0 : ¬ (y : Int) = 0 := by omega
  have hyu : ¬ (y : Int) ≤ u := by omega
  have hu0 : ¬ (u : Int) = 0 := by omega
  have c1 : (9223372036854775808 : Int) ≤ y := by omega
  have c2 : (y : Int) ≤ 18446744073709551615 := by omega
  have c3 : (u : Int) < y := by omega
  have c4 : (0 : Int) < u := by omega
  have o1 := u64_or0 u (by omega)
  have o2 := u64_low32 y h2
  have o3 : bits BinOp.and IntKind.u64 0 4294967295 = 0 := rfl
  have e1 : (y : Int) / 4294967296 = ((y / 2 ^ 32 : Nat) : Int) := by omega
  have hv : (0 : Int) < ((y / 2 ^ 32 : Nat) : Int) := by omega
  have n4 : ((y / 2 ^ 32 : Nat) : Int) ≤ 4294967295 := by omega
  have n5 : (2147483648 : Int) ≤ ((y / 2 ^ 32 : Nat) : Int) := by omega
  generalize hV1 : y / 2 ^ 32 = v1 at *
  generalize hV0 : y % 2 ^ 32 = v0 at *
  obtain ⟨q, r, e2, e3, hD, hr, hqb⟩ := guess h1 h2 hu hV1
  have HQ := Lib.hid (show Dig u y q r ∧ r < 2 ^ 32 from ⟨hD, hr⟩)
  have HV := Lib.hid (show 2 ^ 63 ≤ y ∧ y < 2 ^ 64 ∧ u < y ∧ y / 2 ^ 32 = v1 ∧ y % 2 ^ 32 = v0 from ⟨h1, h2, hu, hV1, hV0⟩)
  have HB := Lib.hid (dig_both (un := u) (y := y) (by omega))
  have HZ := Lib.hid hz
  have HZR := Lib.hid (And.intro hZ hR)
  clear hZ hR hz hD hr h1 h2 hu hV1 hV0
  go_enter Try.func103, Try.ntmps103
  go_wp2_with (go_at_call 102; refine (HZ.out _ (by omega) (by omega)).mono ?_; rintro e w' ⟨rfl, rfl⟩; rw [Int.toNat_natCast, hz0])
  go_loop [15, 16] (fun a b => ∃ q r : Nat, a = .int .u64 q ∧ b = .int .u64 r ∧ Dig u y q r ∧ r < 2 ^ 32) (fun a _ => (intOf a).toNat)
  case atStart => exact ⟨q, r, rfl, rfl, HQ.out.1, HQ.out.2⟩
  case round =>
    clear e2 e3 HQ hqb
    obtain ⟨q, r, rfl, rfl, hD, hr⟩ := hrel
    obtain ⟨p, m1, n1, n2, n3, hs, hx⟩ := round_facts HV.out.2.2.2.1 HV.out.2.2.2.2 HV.out.1 HV.out.2.2.1 hD hr
    clear hD hr
    by_cases hc : (4294967296 : Int) ≤ q
    · obtain ⟨s1, s2, s3⟩ := hs (.inl hc)
      clear hs hx
      by_cases hb : (4294967296 : Int) ≤ r + v1
      · have hQ := s3 hb
        clear s3 s2
        have hql : ((q : Int) - 1 : Int) ≤ 4294967295 := by
          have := dig_lt HV.out.1 HV.out.2.2.1
          rw [← hQ] at this
          omega
        obtain ⟨A, B, u2, a1, a2, a3, a4, a5, a6, a7⟩ := left HV.out.1 HV.out.2.1 HV.out.2.2.1 hQ ((q : Int) - 1) (by omega)
        obtain ⟨q', r', e2, e3, hD', hr', hqb'⟩ := guess HV.out.1 HV.out.2.1 a7 HV.out.2.2.2.1
        have b7 : (u2 : Int) < y := by omega
        have HR := Lib.hid (show (q - 1) = u * 2 ^ 32 / y ∧ u2 = u * 2 ^ 32 % y ∧ u2 < y from ⟨hQ, a6, a7⟩)
        have HQ := Lib.hid (show Dig u2 y q' r' ∧ r' < 2 ^ 32 from ⟨hD', hr'⟩)
        clear hQ a6 a7 hD' hr'
        go_wp2
        go_loop [18, 16] (fun a b => ∃ q r : Nat, a = .int .u64 q ∧ b = .int .u64 r ∧ Dig u2 y q r ∧ r < 2 ^ 32) (fun a _ => (intOf a).toNat)
        case atStart => exact ⟨q', r', rfl, rfl, HQ.out.1, HQ.out.2⟩
        case round =>
          clear e2 e3 HQ hqb' a1 a2 a3 a4 a5
          obtain ⟨q', r', rfl, rfl, hD, hr⟩ := hrel
          obtain ⟨p', m1', n1', n2', n3', hs, hx⟩ := round_facts HV.out.2.2.2.1 HV.out.2.2.2.2 HV.out.1 HR.out.2.2 hD hr
          clear hD hr
          by_cases hc' : (4294967296 : Int) ≤ q'
          · obtain ⟨s1', s2, s3⟩ := hs (.inl hc')
            clear hs hx
            by_cases hb' : (4294967296 : Int) ≤ r' + v1
            · have hQ := s3 hb'
              clear s3 s2
              have hpl : ((q' : Int) - 1 : Int) ≤ 4294967295 := by
                have := dig_lt HV.out.1 HR.out.2.2
                rw [← hQ] at this
                omega
              obtain ⟨A', B', u3, a1', a2', a3', a4', a5', a6', a7'⟩ := left HV.out.1 HV.out.2.1 HR.out.2.2 hQ ((q' : Int) - 1) (by omega)
              have b8 : (u3 : Int) < y := by omega
              have HL := Lib.hid (show (q' - 1) = u2 * 2 ^ 32 / y ∧ u3 = u2 * 2 ^ 32 % y from ⟨hQ, a6'⟩)
              clear hQ a6' a7'
              go_wp2
              go_ret2
              obtain ⟨d1, d2⟩ := HB.out
              obtain ⟨x1, x2, x3⟩ := HR.out
              obtain ⟨x4, x5⟩ := HL.out
              rw [← x2, ← x1, ← x4] at d1
              rw [← x2, ← x5] at d2
              obtain ⟨r1, r2⟩ := HZR.out
              rw [← d1] at r1
              rw [← d2] at r2
              exact ⟨ret_uu (by omega) (by omega), rfl⟩
            · have S2 := Lib.hid s2
              clear s3 s2
              go_wp2
              exact ⟨⟨q' - 1, r' + v1, congrArg _ (by omega), congrArg _ (by omega), S2.out, by omega⟩, by simp only [intOf]; omega⟩
          · by_cases hd' : (4294967296 : Int) * r' < p'
            · obtain ⟨s1', s2, s3⟩ := hs (.inr hd')
              clear hs hx
              by_cases hb' : (4294967296 : Int) ≤ r' + v1
              · have hQ := s3 hb'
                clear s3 s2
                have hpl : ((q' : Int) - 1 : Int) ≤ 4294967295 := by
                  have := dig_lt HV.out.1 HR.out.2.2
                  rw [← hQ] at this
                  omega
                obtain ⟨A', B', u3, a1', a2', a3', a4', a5', a6', a7'⟩ := left HV.out.1 HV.out.2.1 HR.out.2.2 hQ ((q' : Int) - 1) (by omega)
                have b8 : (u3 : Int) < y := by omega
                have HL := Lib.hid (show (q' - 1) = u2 * 2 ^ 32 / y ∧ u3 = u2 * 2 ^ 32 % y from ⟨hQ, a6'⟩)
                clear hQ a6' a7'
                go_wp2
                go_ret2
                obtain ⟨d1, d2⟩ := HB.out
                obtain ⟨x1, x2, x3⟩ := HR.out
                obtain ⟨x4, x5⟩ := HL.out
                rw [← x2, ← x1, ← x4] at d1
                rw [← x2, ← x5] at d2
                obtain ⟨r1, r2⟩ := HZR.out
                rw [← d1] at r1
                rw [← d2] at r2
                exact ⟨ret_uu (by omega) (by omega), rfl⟩
              · have S2 := Lib.hid s2
                clear s3 s2
                go_wp2
                exact ⟨⟨q' - 1, r' + v1, congrArg _ (by omega), congrArg _ (by omega), S2.out, by omega⟩, by simp only [intOf]; omega⟩
            · have hQ := hx hc' hd'
              clear hs hx
              have hpl : ((q' : Int) : Int) ≤ 4294967295 := by
                have := dig_lt HV.out.1 HR.out.2.2
                rw [← hQ] at this
                omega
              obtain ⟨A', B', u3, a1', a2', a3', a4', a5', a6', a7'⟩ := left HV.out.1 HV.out.2.1 HR.out.2.2 hQ ((q' : Int)) (by omega)
              have b8 : (u3 : Int) < y := by omega
              have HL := Lib.hid (show (q') = u2 * 2 ^ 32 / y ∧ u3 = u2 * 2 ^ 32 % y from ⟨hQ, a6'⟩)
              clear hQ a6' a7'
              go_wp2
              go_ret2
              obtain ⟨d1, d2⟩ := HB.out
              obtain ⟨x1, x2, x3⟩ := HR.out
              obtain ⟨x4, x5⟩ := HL.out
              rw [← x2, ← x1, ← x4] at d1
              rw [← x2, ← x5] at d2
              obtain ⟨r1, r2⟩ := HZR.out
              rw [← d1] at r1
              rw [← d2] at r2
              exact ⟨ret_uu (by omega) (by omega), rfl⟩
      · have S2 := Lib.hid s2
        clear s3 s2
        go_wp2
        exact ⟨⟨q - 1, r + v1, congrArg _ (by omega), congrArg _ (by omega), S2.out, by omega⟩, by simp only [intOf]; omega⟩
    · by_cases hd : (4294967296 : Int) * r < p
      · obtain ⟨s1, s2, s3⟩ := hs (.inr hd)
        clear hs hx
        by_cases hb : (4294967296 : Int) ≤ r + v1
        · have hQ := s3 hb
          clear s3 s2
          have hql : ((q : Int) - 1 : Int) ≤ 4294967295 := by
            have := dig_lt HV.out.1 HV.out.2.2.1
            rw [← hQ] at this
            omega
          obtain ⟨A, B, u2, a1, a2, a3, a4, a5, a6, a7⟩ := left HV.out.1 HV.out.2.1 HV.out.2.2.1 hQ ((q : Int) - 1) (by omega)
          obtain ⟨q', r', e2, e3, hD', hr', hqb'⟩ := guess HV.out.1 HV.out.2.1 a7 HV.out.2.2.2.1
          have b7 : (u2 : Int) < y := by omega
          have HR := Lib.hid (show (q - 1) = u * 2 ^ 32 / y ∧ u2 = u * 2 ^ 32 % y ∧ u2 < y from ⟨hQ, a6, a7⟩)
          have HQ := Lib.hid (show Dig u2 y q' r' ∧ r' < 2 ^ 32 from ⟨hD', hr'⟩)
          clear hQ a6 a7 hD' hr'
          go_wp2
          go_loop [18, 16] (fun a b => ∃ q r : Nat, a = .int .u64 q ∧ b = .int .u64 r ∧ Dig u2 y q r ∧ r < 2 ^ 32) (fun a _ => (intOf a).toNat)
          case atStart => exact ⟨q', r', rfl, rfl, HQ.out.1, HQ.out.2⟩
          case round =>
            clear e2 e3 HQ hqb' a1 a2 a3 a4 a5
            obtain ⟨q', r', rfl, rfl, hD, hr⟩ := hrel
            obtain ⟨p', m1', n1', n2', n3', hs, hx⟩ := round_facts HV.out.2.2.2.1 HV.out.2.2.2.2 HV.out.1 HR.out.2.2 hD hr
            clear hD hr
            by_cases hc' : (4294967296 : Int) ≤ q'
            · obtain ⟨s1', s2, s3⟩ := hs (.inl hc')
              clear hs hx
              by_cases hb' : (4294967296 : Int) ≤ r' + v1
              · have hQ := s3 hb'
                clear s3 s2
                have hpl : ((q' : Int) - 1 : Int) ≤ 4294967295 := by
                  have := dig_lt HV.out.1 HR.out.2.2
                  rw [← hQ] at this
                  omega
                obtain ⟨A', B', u3, a1', a2', a3', a4', a5', a6', a7'⟩ := left HV.out.1 HV.out.2.1 HR.out.2.2 hQ ((q' : Int) - 1) (by omega)
                have b8 : (u3 : Int) < y := by omega
                have HL := Lib.hid (show (q' - 1) = u2 * 2 ^ 32 / y ∧ u3 = u2 * 2 ^ 32 % y from ⟨hQ, a6'⟩)
                clear hQ a6' a7'
                go_wp2
                go_ret2
                obtain ⟨d1, d2⟩ := HB.out
                obtain ⟨x1, x2, x3⟩ := HR.out
                obtain ⟨x4, x5⟩ := HL.out
                rw [← x2, ← x1, ← x4] at d1
                rw [← x2, ← x5] at d2
                obtain ⟨r1, r2⟩ := HZR.out
                rw [← d1] at r1
                rw [← d2] at r2
                exact ⟨ret_uu (by omega) (by omega), rfl⟩
              · have S2 := Lib.hid s2
                clear s3 s2
                go_wp2
                exact ⟨⟨q' - 1, r' + v1, congrArg _ (by omega), congrArg _ (by omega), S2.out, by omega⟩, by simp only [intOf]; omega⟩
            · by_cases hd' : (4294967296 : Int) * r' < p'
              · obtain ⟨s1', s2, s3⟩ := hs (.inr hd')
                clear hs hx
                by_cases hb' : (4294967296 : Int) ≤ r' + v1
                · have hQ := s3 hb'
                  clear s3 s2
                  have hpl : ((q' : Int) - 1 : Int) ≤ 4294967295 := by
                    have := dig_lt HV.out.1 HR.out.2.2
                    rw [← hQ] at this
                    omega
                  obtain ⟨A', B', u3, a1', a2', a3', a4', a5', a6', a7'⟩ := left HV.out.1 HV.out.2.1 HR.out.2.2 hQ ((q' : Int) - 1) (by omega)
                  have b8 : (u3 : Int) < y := by omega
                  have HL := Lib.hid (show (q' - 1) = u2 * 2 ^ 32 / y ∧ u3 = u2 * 2 ^ 32 % y from ⟨hQ, a6'⟩)
                  clear hQ a6' a7'
                  go_wp2
                  go_ret2
                  obtain ⟨d1, d2⟩ := HB.out
                  obtain ⟨x1, x2, x3⟩ := HR.out
                  obtain ⟨x4, x5⟩ := HL.out
                  rw [← x2, ← x1, ← x4] at d1
                  rw [← x2, ← x5] at d2
                  obtain ⟨r1, r2⟩ := HZR.out
                  rw [← d1] at r1
                  rw [← d2] at r2
                  exact ⟨ret_uu (by omega) (by omega), rfl⟩
                · have S2 := Lib.hid s2
                  clear s3 s2
                  go_wp2
                  exact ⟨⟨q' - 1, r' + v1, congrArg _ (by omega), congrArg _ (by omega), S2.out, by omega⟩, by simp only [intOf]; omega⟩
              · have hQ := hx hc' hd'
                clear hs hx
                have hpl : ((q' : Int) : Int) ≤ 4294967295 := by
                  have := dig_lt HV.out.1 HR.out.2.2
                  rw [← hQ] at this
                  omega
                obtain ⟨A', B', u3, a1', a2', a3', a4', a5', a6', a7'⟩ := left HV.out.1 HV.out.2.1 HR.out.2.2 hQ ((q' : Int)) (by omega)
                have b8 : (u3 : Int) < y := by omega
                have HL := Lib.hid (show (q') = u2 * 2 ^ 32 / y ∧ u3 = u2 * 2 ^ 32 % y from ⟨hQ, a6'⟩)
                clear hQ a6' a7'
                go_wp2
                go_ret2
                obtain ⟨d1, d2⟩ := HB.out
                obtain ⟨x1, x2, x3⟩ := HR.out
                obtain ⟨x4, x5⟩ := HL.out
                rw [← x2, ← x1, ← x4] at d1
                rw [← x2, ← x5] at d2
                obtain ⟨r1, r2⟩ := HZR.out
                rw [← d1] at r1
                rw [← d2] at r2
                exact ⟨ret_uu (by omega) (by omega), rfl⟩
        · have S2 := Lib.hid s2
          clear s3 s2
          go_wp2
          exact ⟨⟨q - 1, r + v1, congrArg _ (by omega), congrArg _ (by omega), S2.out, by omega⟩, by simp only [intOf]; omega⟩
      · have hQ := hx hc hd
        clear hs hx
        have hql : ((q : Int) : Int) ≤ 4294967295 := by
          have := dig_lt HV.out.1 HV.out.2.2.1
          rw [← hQ] at this
          omega
        obtain ⟨A, B, u2, a1, a2, a3, a4, a5, a6, a7⟩ := left HV.out.1 HV.out.2.1 HV.out.2.2.1 hQ ((q : Int)) (by omega)
        obtain ⟨q', r', e2, e3, hD', hr', hqb'⟩ := guess HV.out.1 HV.out.2.1 a7 HV.out.2.2.2.1
        have b7 : (u2 : Int) < y := by omega
        have HR := Lib.hid (show (q) = u * 2 ^ 32 / y ∧ u2 = u * 2 ^ 32 % y ∧ u2 < y from ⟨hQ, a6, a7⟩)
        have HQ := Lib.hid (show Dig u2 y q' r' ∧ r' < 2 ^ 32 from ⟨hD', hr'⟩)
        clear hQ a6 a7 hD' hr'
        go_wp2
        go_loop [18, 16] (fun a b => ∃ q r : Nat, a = .int .u64 q ∧ b = .int .u64 r ∧ Dig u2 y q r ∧ r < 2 ^ 32) (fun a _ => (intOf a).toNat)
        case atStart => exact ⟨q', r', rfl, rfl, HQ.out.1, HQ.out.2⟩
        case round =>
          clear e2 e3 HQ hqb' a1 a2 a3 a4 a5
          obtain ⟨q', r', rfl, rfl, hD, hr⟩ := hrel
          obtain ⟨p', m1', n1', n2', n3', hs, hx⟩ := round_facts HV.out.2.2.2.1 HV.out.2.2.2.2 HV.out.1 HR.out.2.2 hD hr
          clear hD hr
          by_cases hc' : (4294967296 : Int) ≤ q'
          · obtain ⟨s1', s2, s3⟩ := hs (.inl hc')
            clear hs hx
            by_cases hb' : (4294967296 : Int) ≤ r' + v1
            · have hQ := s3 hb'
              clear s3 s2
              have hpl : ((q' : Int) - 1 : Int) ≤ 4294967295 := by
                have := dig_lt HV.out.1 HR.out.2.2
                rw [← hQ] at this
                omega
              obtain ⟨A', B', u3, a1', a2', a3', a4', a5', a6', a7'⟩ := left HV.out.1 HV.out.2.1 HR.out.2.2 hQ ((q' : Int) - 1) (by omega)
              have b8 : (u3 : Int) < y := by omega
              have HL := Lib.hid (show (q' - 1) = u2 * 2 ^ 32 / y ∧ u3 = u2 * 2 ^ 32 % y from ⟨hQ, a6'⟩)
              clear hQ a6' a7'
              go_wp2
              go_ret2
              obtain ⟨d1, d2⟩ := HB.out
              obtain ⟨x1, x2, x3⟩ := HR.out
              obtain ⟨x4, x5⟩ := HL.out
              rw [← x2, ← x1, ← x4] at d1
              rw [← x2, ← x5] at d2
              obtain ⟨r1, r2⟩ := HZR.out
              rw [← d1] at r1
              rw [← d2] at r2
              exact ⟨ret_uu (by omega) (by omega), rfl⟩
            · have S2 := Lib.hid s2
              clear s3 s2
              go_wp2
              exact ⟨⟨q' - 1, r' + v1, congrArg _ (by omega), congrArg _ (by omega), S2.out, by omega⟩, by simp only [intOf]; omega⟩
          · by_cases hd' : (4294967296 : Int) * r' < p'
            · obtain ⟨s1', s2, s3⟩ := hs (.inr hd')
              clear hs hx
              by_cases hb' : (4294967296 : Int) ≤ r' + v1
              · have hQ := s3 hb'
                clear s3 s2
                have hpl : ((q' : Int) - 1 : Int) ≤ 4294967295 := by
                  have := dig_lt HV.out.1 HR.out.2.2
                  rw [← hQ] at this
                  omega
                obtain ⟨A', B', u3, a1', a2', a3', a4', a5', a6', a7'⟩ := left HV.out.1 HV.out.2.1 HR.out.2.2 hQ ((q' : Int) - 1) (by omega)
                have b8 : (u3 : Int) < y := by omega
                have HL := Lib.hid (show (q' - 1) = u2 * 2 ^ 32 / y ∧ u3 = u2 * 2 ^ 32 % y from ⟨hQ, a6'⟩)
                clear hQ a6' a7'
                go_wp2
                go_ret2
                obtain ⟨d1, d2⟩ := HB.out
                obtain ⟨x1, x2, x3⟩ := HR.out
                obtain ⟨x4, x5⟩ := HL.out
                rw [← x2, ← x1, ← x4] at d1
                rw [← x2, ← x5] at d2
                obtain ⟨r1, r2⟩ := HZR.out
                rw [← d1] at r1
                rw [← d2] at r2
                exact ⟨ret_uu (by omega) (by omega), rfl⟩
              · have S2 := Lib.hid s2
                clear s3 s2
                go_wp2
                exact ⟨⟨q' - 1, r' + v1, congrArg _ (by omega), congrArg _ (by omega), S2.out, by omega⟩, by simp only [intOf]; omega⟩
            · have hQ := hx hc' hd'
              clear hs hx
              have hpl : ((q' : Int) : Int) ≤ 4294967295 := by
                have := dig_lt HV.out.1 HR.out.2.2
                rw [← hQ] at this
                omega
              obtain ⟨A', B', u3, a1', a2', a3', a4', a5', a6', a7'⟩ := left HV.out.1 HV.out.2.1 HR.out.2.2 hQ ((q' : Int)) (by omega)
              have b8 : (u3 : Int) < y := by omega
              have HL := Lib.hid (show (q') = u2 * 2 ^ 32 / y ∧ u3 = u2 * 2 ^ 32 % y from ⟨hQ, a6'⟩)
              clear hQ a6' a7'
              go_wp2
              go_ret2
              obtain ⟨d1, d2⟩ := HB.out
              obtain ⟨x1, x2, x3⟩ := HR.out
              obtain ⟨x4, x5⟩ := HL.out
              rw [← x2, ← x1, ← x4] at d1
              rw [← x2, ← x5] at d2
              obtain ⟨r1, r2⟩ := HZR.out
              rw [← d1] at r1
              rw [← d2] at r2
              exact ⟨ret_uu (by omega) (by omega), rfl⟩

end Go.Proofs.Yteephgpefhodnaa
