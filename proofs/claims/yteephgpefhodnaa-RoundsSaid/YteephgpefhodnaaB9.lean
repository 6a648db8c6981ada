/- The quotient, rounded down and up. -/
import Derived.Test.YteephgpefhodnaaB8
namespace Go.Proofs.Yteephgpefhodnaa
open Go.RowKit Go.Sort Go.Fl
set_option linter.unusedSimpArgs false
set_option linter.unusedVariables false

/-- The first digit is moved to the top. -/
theorem to_top {m : Nat} (h0 : 0 < m) (hm : m < 2 ^ 53) : ∃ k m1 : Nat, 64 - (Lib.bitLen m : Int) = k ∧ 11 ≤ k ∧ k ≤ 63 ∧ m1 = m * 2 ^ k ∧ 2 ^ 63 ≤ m1 ∧ m1 < 2 ^ 64 ∧ IntKind.u64.wrap ((m : Int) * 2 ^ k) = (m1 : Int) := by
  obtain ⟨_, x2, x3⟩ := Lib.bitLenAux_bounds 64 m (by omega) (by omega)
  have x3 : m < 2 ^ Lib.bitLen m := x3
  have x2 : 2 ^ (Lib.bitLen m - 1) ≤ m := x2
  have hb : Lib.bitLen m ≤ 53 := by
    rcases Nat.lt_or_ge 53 (Lib.bitLen m) with h | h
    · have : (2 : Nat) ^ 53 ≤ 2 ^ (Lib.bitLen m - 1) := Nat.pow_le_pow_right (by omega) (by omega)
      omega
    · exact h
  have hb0 : 0 < Lib.bitLen m := by
    rcases Nat.eq_zero_or_pos (Lib.bitLen m) with h | h
    · rw [h] at x3; omega
    · exact h
  generalize Lib.bitLen m = b at *
  obtain ⟨k, hk⟩ : ∃ k, k = 64 - b := ⟨_, rfl⟩
  have e1 : (2 : Nat) ^ 64 = 2 ^ b * 2 ^ k := by rw [← Nat.pow_add]; exact congrArg (fun t => 2 ^ t) (by omega)
  have e2 : (2 : Nat) ^ 63 = 2 ^ (b - 1) * 2 ^ k := by rw [← Nat.pow_add]; exact congrArg (fun t => 2 ^ t) (by omega)
  have l1 : 2 ^ 63 ≤ m * 2 ^ k := by rw [e2]; exact Nat.mul_le_mul_right _ x2
  have l2 : m * 2 ^ k < 2 ^ 64 := by rw [e1]; exact Nat.mul_lt_mul_of_pos_right x3 (Nat.two_pow_pos _)
  refine ⟨k, m * 2 ^ k, by omega, by omega, by omega, rfl, l1, l2, ?_⟩
  have : ((m : Int) * 2 ^ k) = ((m * 2 ^ k : Nat) : Int) := by rw [Int.natCast_mul, Int.natCast_pow]; rfl
  rw [this, IntKind.wrap_u64]
  generalize m * 2 ^ k = z at *
  omega

theorem ne_zero_bool (r : Nat) : ((r : Int) != 0) = false ↔ r = 0 := by
  simp [bne_eq_false_iff_eq]

theorem divK_zero (y : Int) (hy : y ≠ 0) (up : Bool) : divK 0 y up = 0 := by
  have hP := PI_pos
  refine rnd_eq (cut_div 0 y hy) ?_
  have hc : ∀ k, cDiv 0 y k = if 0 < y then -(V k * V y) else V k * V y := by
    intro k
    unfold cDiv
    rw [V_zero, Int.zero_mul, Int.zero_sub, Int.sub_zero]
  have v1 : V 1 = 1 := by decide
  have w1 : V (-1) = -1 := by decide
  by_cases h : 0 < y
  · have hv : 0 < V y := by rw [← V_zero]; exact V_lt h
    cases up
    · refine ⟨by omega, by omega, fun _ => by rw [hc, if_pos h, V_zero]; omega, fun _ => by rw [hc, if_pos h, show (0 : Int) + 1 = 1 from rfl, v1]; omega⟩
    · refine ⟨by omega, by omega, fun _ => by rw [hc, if_pos h, V_zero]; omega, fun _ => by rw [hc, if_pos h, show (0 : Int) - 1 = -1 from rfl, w1]; omega⟩
  · have hv : V y < 0 := by rw [← V_zero]; exact V_lt (by omega)
    cases up
    · refine ⟨by omega, by omega, fun _ => by rw [hc, if_neg h, V_zero]; omega, fun _ => by rw [hc, if_neg h, show (0 : Int) + 1 = 1 from rfl, v1]; omega⟩
    · refine ⟨by omega, by omega, fun _ => by rw [hc, if_neg h, V_zero]; omega, fun _ => by rw [hc, if_neg h, show (0 : Int) - 1 = -1 from rfl, w1]; omega⟩

/-- The method signed at a quotient. -/
theorem signed_quot {x y : Nat} {up : Bool} (hx : fin x) (hy : fin y) (hy0 : key y ≠ 0) {m n k l m2 n1 : Nat} (hm : m = mgr (rung x)) (hn : n = mgr (rung y)) (hm2 : m2 = m * 2 ^ k) (hn1 : n1 = n * 2 ^ l) (h0 : 0 < n1) (h1 : n1 ≤ 2 * m2) (h2 : m2 < n1) (hk : k ≤ 63) (hl : l ≤ 63)
    {E : Int} (hE : E = (plr (rung x) : Int) - k - ((plr (rung y) : Int) - l) - 128) (Q R : Int) (hQ : Q = ((m2 * 2 ^ 64 / n1 : Nat) : Int)) (hR : R = ((m2 * 2 ^ 64 % n1 : Nat) : Int)) (w : World) :
    Calls Try.prog 101 #[.agg #[.int .u64 Q, .int .u64 0, .int .i64 E, .bool (R != 0)], .bool (neg x != neg y), .bool up] w fun e w' => e = .returned (.float .f64 (ofKey (divK (key x) (key y) up))) ∧ Below w.heap.size w w' := by
  subst hQ hR
  have hp := plr_fin hx
  have hq := plr_fin hy
  obtain ⟨q1, q2⟩ := top_quot h0 h1 h2
  have hdm := Nat.div_add_mod (m2 * 2 ^ 64) n1
  have hml := Nat.mod_lt (m2 * 2 ^ 64) h0
  have hry : 0 < M (rung y) := by
    rcases Nat.eq_zero_or_pos (M (rung y)) with h | h
    · exfalso
      have : key y = 0 := by
        have : rung y = 0 := M_inj (by rw [h, M_zero])
        unfold key; rw [this]; simp
      exact hy0 this
    · exact h
  have hT : Top (m2 * 2 ^ 64 / n1) 0 E (((m2 * 2 ^ 64 % n1 : Nat) : Int) != 0) (M (rung x) * 2 ^ X74) (M (rung y)) := by
    rw [M_eq (rung x), M_eq (rung y), ← hm, ← hn]
    refine top_div (k := k) (l := l) (rem := m2 * 2 ^ 64 % n1) q1 ?_ (by rw [← hn1]; exact hml) hE (by omega) (ne_zero_bool _)
    rw [← hm2, ← hn1, Nat.mul_comm (m2 * 2 ^ 64 / n1)]
    exact hdm.symm
  generalize m2 * 2 ^ 64 / n1 = q at *
  generalize (((m2 * 2 ^ 64 % n1 : Nat) : Int) != 0) = b at *
  refine signed_real q 0 E b (neg x != neg y) up _ _ hry _ (cut_div _ _ hy0) (div_cut x y hy0) ?_ w
  exact number_up q 0 E b _ _ _ q2 (by omega) (by omega) (by omega) (by omega) hry (.inr hT)

set_option maxHeartbeats 2000000 in
theorem fpdiv_any (x y : Nat) (up : Bool) (hx : fin x) (hy : fin y) (hwx : Wd x) (hwy : Wd y) (hy0 : key y ≠ 0) (w : World) :
    Calls Try.prog 85 #[.float .f64 x, .float .f64 y, .bool up] w fun e w' => e = .returned (.float .f64 (ofKey (divK (key x) (key y) up))) ∧ Below w.heap.size w w' := by
  have hm := mgr_lt (rung x)
  have hn := mgr_lt (rung y)
  have hp := plr_fin hx
  have hq := plr_fin hy
  have hn0 : 0 < mgr (rung y) := by
    rcases Nat.eq_zero_or_pos (mgr (rung y)) with h | h
    · exfalso
      have h2 : M (rung y) = M 0 := by rw [M_eq, h, Nat.zero_mul, M_zero]
      have h3 := M_inj h2
      apply hy0
      unfold key; rw [h3]; simp
    · exact h
  have PX := Lib.hid (parts_any x hwx)
  have PY := Lib.hid (parts_any y hwy)
  have b1 : (0 : Int) ≤ plr (rung x) := by omega
  have b2 : (plr (rung x) : Int) ≤ 2045 := by omega
  have b3 : (0 : Int) ≤ plr (rung y) := by omega
  have b4 : (plr (rung y) : Int) ≤ 2045 := by omega
  rcases Nat.eq_zero_or_pos (mgr (rung x)) with hm0 | hm0
  · have hk : key x = 0 := by
      have h2 : M (rung x) = M 0 := by rw [M_eq, hm0, Nat.zero_mul, M_zero]
      have h3 := M_inj h2
      unfold key; rw [h3]; simp
    rw [hk, divK_zero _ hy0]
    rw [hm0] at PX
    generalize mgr (rung y) = n at *
    generalize (plr (rung x) : Int) = px at *
    generalize (plr (rung y) : Int) = py at *
    clear hm hn hn0 hm0
    go_enter Try.func85, Try.ntmps85
    go_wp2_with (go_at_call 99; (first | (with_reducible refine (PX.out _).mono ?_) | (with_reducible refine (PY.out _).mono ?_)); rintro e w' ⟨rfl, rfl⟩)
    all_goals go_ret
    all_goals exact ⟨rfl, Below.refl _ _⟩
  · obtain ⟨k, m1, k1, k2, k3, k4, k5, k6, k7⟩ := to_top hm0 hm
    obtain ⟨l, n1, l1, l2, l3, l4, l5, l6, l7⟩ := to_top hn0 hn
    have zm := Try.bits_LeadingZeros64 (mgr (rung x) : Int)
    have zn := Try.bits_LeadingZeros64 (mgr (rung y) : Int)
    have ZM := Lib.hid zm
    have ZN := Lib.hid zn
    have K1 := Lib.hid k1
    have L1 := Lib.hid l1
    clear zm zn
    have c0 : ¬ ((mgr (rung x) : Nat) : Int) = 0 := by omega
    have c1 : (0 : Int) ≤ k := by omega
    have c2 : (k : Int) ≤ 63 := by omega
    have c3 : (0 : Int) ≤ l := by omega
    have c4 : (l : Int) ≤ 63 := by omega
    have c5 : (m1 : Int) ≤ 18446744073709551615 := by omega
    have c7 : ((mgr (rung x) : Nat) : Int) ≤ 9007199254740991 := by omega
    have c8 : ((mgr (rung y) : Nat) : Int) ≤ 9007199254740991 := by omega
    have c6 : (n1 : Int) ≤ 18446744073709551615 := by omega
    rcases Nat.lt_or_ge m1 n1 with hc | hc
    · have hS := fun w => signed_quot (up := up) hx hy hy0 rfl rfl k4 l4 (by omega) (by omega) hc k3 l3 (E := (plr (rung x) : Int) - 1074 - k - ((plr (rung y) : Int) - 1074 - l) - 128) (by omega) _ _ rfl rfl w
      have hD := fun Z R hZ hR w => div64_any m1 n1 (by omega) l5 l6 hc Z R hZ hR w
      obtain ⟨Q, hQ⟩ : ∃ Q, Q = ((m1 * 2 ^ 64 / n1 : Nat) : Int) := ⟨_, rfl⟩
      obtain ⟨R, hR⟩ : ∃ R, R = ((m1 * 2 ^ 64 % n1 : Nat) : Int) := ⟨_, rfl⟩
      have hD := hD Q R hQ hR
      rw [← hQ, ← hR] at hS
      have HS := Lib.hid hS
      have HD := Lib.hid hD
      have d1 : ¬ (n1 : Int) ≤ m1 := by omega
      clear hS hD hQ hR k1 k2 k3 k4 k5 k6 l1 l2 l3 l4 l5 l6 hc hm0 hn0 hm hn
      generalize mgr (rung x) = m at *
      generalize mgr (rung y) = n at *
      generalize (plr (rung x) : Int) = px at *
      generalize (plr (rung y) : Int) = py at *
      go_enter Try.func85, Try.ntmps85
      go_wp2_with (first | (go_at_call 99; (first | (with_reducible refine (PX.out _).mono ?_) | (with_reducible refine (PY.out _).mono ?_)); rintro e w' ⟨rfl, rfl⟩) | (go_at_call 102; (first | (with_reducible refine (ZM.out _ (by omega) (by omega)).mono ?_) | (with_reducible refine (ZN.out _ (by omega) (by omega)).mono ?_)); rintro e w' ⟨rfl, rfl⟩; (first | rw [Int.toNat_natCast, K1.out] | rw [Int.toNat_natCast, L1.out])) | (go_at_call 103; refine (HD.out _).mono ?_; rintro e w' ⟨rfl, rfl⟩) | (go_at_call 101; refine (HS.out _).mono ?_; rintro e w1 ⟨rfl, hbw1⟩; skip))
      all_goals go_ret
      all_goals exact ⟨rfl, hbw1⟩
    · obtain ⟨m2, hm2⟩ : ∃ m2, m2 = m1 / 2 := ⟨_, rfl⟩
      have hm3 : m2 = mgr (rung x) * 2 ^ (k - 1) := by
        have : 2 ^ k = 2 ^ (k - 1) * 2 := by rw [← Nat.pow_succ]; exact congrArg (fun t => 2 ^ t) (by omega)
        rw [this, ← Nat.mul_assoc] at k4
        generalize mgr (rung x) * 2 ^ (k - 1) = z at *
        omega
      have hm4 : 2 * m2 = m1 := by
        have : 2 ^ k = 2 ^ (k - 1) * 2 := by rw [← Nat.pow_succ]; exact congrArg (fun t => 2 ^ t) (by omega)
        rw [this, ← Nat.mul_assoc] at k4
        generalize mgr (rung x) * 2 ^ (k - 1) = z at *
        omega
      have hS := fun w => signed_quot (up := up) hx hy hy0 rfl rfl hm3 l4 (by omega) (by omega) (by omega) (by omega) l3 (E := (plr (rung x) : Int) - 1074 - k + 1 - ((plr (rung y) : Int) - 1074 - l) - 128) (by omega) _ _ rfl rfl w
      have hD := fun Z R hZ hR w => div64_any m2 n1 (by omega) l5 l6 (by omega) Z R hZ hR w
      obtain ⟨Q, hQ⟩ : ∃ Q, Q = ((m2 * 2 ^ 64 / n1 : Nat) : Int) := ⟨_, rfl⟩
      obtain ⟨R, hR⟩ : ∃ R, R = ((m2 * 2 ^ 64 % n1 : Nat) : Int) := ⟨_, rfl⟩
      have hD := hD Q R hQ hR
      rw [← hQ, ← hR] at hS
      have HS := Lib.hid hS
      have HD := Lib.hid hD
      have d1 : (n1 : Int) ≤ m1 := by omega
      have d2 : (m1 : Int) / 2 = m2 := by omega
      clear hm2 hm3 hm4
      clear hS hD hQ hR k1 k2 k3 k4 k5 k6 l1 l2 l3 l4 l5 l6 hc hm0 hn0 hm hn
      generalize mgr (rung x) = m at *
      generalize mgr (rung y) = n at *
      generalize (plr (rung x) : Int) = px at *
      generalize (plr (rung y) : Int) = py at *
      go_enter Try.func85, Try.ntmps85
      go_wp2_with (first | (go_at_call 99; (first | (with_reducible refine (PX.out _).mono ?_) | (with_reducible refine (PY.out _).mono ?_)); rintro e w' ⟨rfl, rfl⟩) | (go_at_call 102; (first | (with_reducible refine (ZM.out _ (by omega) (by omega)).mono ?_) | (with_reducible refine (ZN.out _ (by omega) (by omega)).mono ?_)); rintro e w' ⟨rfl, rfl⟩; (first | rw [Int.toNat_natCast, K1.out] | rw [Int.toNat_natCast, L1.out])) | (go_at_call 103; refine (HD.out _).mono ?_; rintro e w' ⟨rfl, rfl⟩) | (go_at_call 101; refine (HS.out _).mono ?_; rintro e w1 ⟨rfl, hbw1⟩; skip))
      all_goals go_ret
      all_goals exact ⟨rfl, hbw1⟩

end Go.Proofs.Yteephgpefhodnaa
