/- Ldexp of a whole number, exact. -/
import Derived.Test.YteephgpefhodnaaB2
import Derived.Test.YteephgpefhodnaaF10
namespace Go.Proofs.Yteephgpefhodnaa
open Go.RowKit Go.Sort Go.Fl
set_option linter.unusedSimpArgs false
set_option linter.unusedVariables false

theorem normalize_any (F : Nat) (h1 : 2 ^ 52 ≤ F) (h2 : F < INF) (w : World) :
    Calls Try.prog 145 #[.float .f64 F] w fun e w' => e = .returned (.tuple #[.float .f64 F, .int .i64 0]) ∧ w = w' := by
  have hI := INF_eq
  have hw : Wd F := by unfold Wd; omega
  have nF : ¬ nan F := by rw [nan_low (by omega)]; omega
  have na : ¬ nan (absw F) := by rw [nn_absw]; exact nF
  have n2 : ¬ nan 4503599627370496 := by decide
  have k2 : key 4503599627370496 = 4503599627370496 := by decide
  have ho : (FloatKind.f64.format.order (absw F) 4503599627370496 == some .lt) = false := by
    rw [o_lt na n2, k2, key_absw, key_low (by omega)]
    exact decide_eq_false (by rw [if_pos (by omega)]; omega)
  clear k2 n2
  go_enter Try.func145, Try.ntmps145
  go_wp2_with (go_at_call 75; refine (mathabs_any _ hw _).mono ?_; rintro e w' ⟨rfl, rfl⟩)
  go_ret2
  exact ⟨rfl, rfl⟩

theorem ldexp_any (q F r : Nat) (p : Int) (h0 : 0 < q) (hq : q ≤ 2 ^ 53) (hF : M F = q * 2 ^ X74) (hFI : F < INF) (hr : M r = q * 2 ^ (p + 1074).toNat) (hrI : r ≤ INF) (hp1 : -1074 ≤ p) (hp2 : p ≤ 971) (w : World) :
    Calls Try.prog 142 #[.float .f64 F, .int .i64 p] w fun e w' => e = .returned (.float .f64 r) ∧ w = w' := by
  have hI := INF_eq
  obtain ⟨f1, f2⟩ := F_range h0 hq hF
  have hw : Wd F := by unfold Wd; omega
  have nF : ¬ nan F := by rw [nan_low (by omega)]; omega
  have hk : key F = (F : Int) := key_low (by omega)
  have d0 : decide (key F = 0) = false := decide_eq_false (by omega)
  have d1 : decide (key F = PI) = false := decide_eq_false (by have := PI_INF; omega)
  have d2 : decide (key F = -PI) = false := decide_eq_false (by have := PI_INF; omega)
  have d3 : decide (key F < 0) = false := decide_eq_false (by omega)
  have ht := run_tobits
  have hf := run_frombits
  clear hk
  generalize hfe : F / 2 ^ 52 = fe at *
  have e1 : (F : Int) / 4503599627370496 = (fe : Int) := by rw [← hfe]; omega
  have b1 : (1023 : Int) ≤ fe := by omega
  have b2 : (fe : Int) ≤ 1076 := by omega
  have h3 := i64_field fe (by omega)
  have hnf := u64_nofield F (by omega)
  have hor := fun k (hk : k < 2 ^ 11) => u64_or_field (F % 2 ^ 52) k (Nat.mod_lt _ (by omega)) hk
  have hE := ld_inf h0 hq hF hr hrI
  have hN := ld_norm hF hr hp1 (by omega)
  have hD := ld_den h0 hF hr hp1
  rw [hfe] at hE hN hD
  have hinf := mathinf_pos 1 (by omega)
  rcases Int.lt_or_le 1023 (p + (fe : Int) - 1023) with c1 | c1
  · have hri := hE c1
    have hi := Lib.hid hinf
    clear hE hN hD hor hnf hinf hr hF hrI f1 f2 hI hfe
    go_enter Try.func142, Try.ntmps142
    go_wp2_with (first | (go_at_call 49; refine (isinf0_any _ nF hw _).mono ?_; rintro e w' ⟨rfl, rfl⟩) | (go_at_call 96; refine (isnan_no _ nF _).mono ?_; rintro e w' ⟨rfl, rfl⟩) | (go_at_call 145; refine (normalize_any _ (by omega) hFI _).mono ?_; rintro e w' ⟨rfl, rfl⟩) | (go_at_call 74; refine (hi.out _).mono ?_; rintro e w' ⟨rfl, rfl⟩))
    go_ret
    exact ⟨by rw [hri]; rfl, rfl⟩
  · rcases Int.lt_or_le (p + (fe : Int) - 1023) (-1022) with c2 | c2
    · obtain ⟨W, hW1, hW2⟩ := hD (by omega) (by omega)
      obtain ⟨k, hk⟩ : ∃ k : Nat, (k : Int) = p + 53 + fe := ⟨(p + 53 + fe).toNat, by omega⟩
      have ho := hor k (by omega)
      have hr0 : 0 < r := by
        rcases Nat.eq_zero_or_pos r with h | h
        · rw [h, M_zero] at hr
          have := Nat.mul_pos h0 (Nat.two_pow_pos (p + 1074).toNat)
          omega
        · exact h
      have hrI' : r < INF := by
        have hd := MF_down hF hr (by omega) hp1
        have h2 : M r ≤ M F := by rw [hd]; exact Nat.le_mul_of_pos_right _ (Nat.two_pow_pos _)
        have := M_le_iff.1 h2
        omega
      have hm := mul_c53 (W := W) (r := r) (by omega) hr0 hrI' hW2
      have hrk : k * 2 ^ 52 + F % 2 ^ 52 = W := by omega
      rw [hrk] at ho
      have rm := fun (w : World) (t : TypeId) => run_float_arith (P := Try.prog) w .mul t .f64 _ _ _ hm
      clear hW2 hm hr hF
      have ho' : bits BinOp.or IntKind.u64 ((F % 2 ^ 52 : Nat) : Int) ((p + ((fe : Int) - 1023) + 53 + 1023) * 4503599627370496) = (W : Int) := by
        rw [← ho]; congr 1; omega
      generalize hFm : F % 2 ^ 52 = m at *
      have x1 : (0 : Int) ≤ p + (fe - 1023) + 53 + 1023 := by omega
      have x2 : p + (fe - 1023) + 53 + 1023 ≤ 2046 := by omega
      clear hE hN hD hor hinf hrI hrk hFm ho hW1 hr0 hrI'
      go_enter Try.func142, Try.ntmps142
      go_wp2_with (first | (go_at_call 49; refine (isinf0_any _ nF hw _).mono ?_; rintro e w' ⟨rfl, rfl⟩) | (go_at_call 96; refine (isnan_no _ nF _).mono ?_; rintro e w' ⟨rfl, rfl⟩) | (go_at_call 145; refine (normalize_any _ (by omega) hFI _).mono ?_; rintro e w' ⟨rfl, rfl⟩))
      go_ret
      exact ⟨rfl, rfl⟩
    · have hri := hN (by omega)
      obtain ⟨k, hk⟩ : ∃ k : Nat, (k : Int) = p + fe := ⟨(p + fe).toNat, by omega⟩
      have ho := hor k (by omega)
      have hm := mul_one (r := r) (by omega) (by omega)
      have hrk : k * 2 ^ 52 + F % 2 ^ 52 = r := by omega
      rw [hrk] at ho
      have rm := fun (w : World) (t : TypeId) => run_float_arith (P := Try.prog) w .mul t .f64 _ _ _ hm
      have ho' : bits BinOp.or IntKind.u64 ((F % 2 ^ 52 : Nat) : Int) ((p + ((fe : Int) - 1023) + 1023) * 4503599627370496) = (r : Int) := by
        rw [← ho]; congr 1; omega
      generalize hFm : F % 2 ^ 52 = m at *
      have x1 : (0 : Int) ≤ p + (fe - 1023) + 1023 := by omega
      have x2 : p + (fe - 1023) + 1023 ≤ 2046 := by omega
      clear hE hN hD hor hinf hr hF hrI hm hrk hri hFm ho
      go_enter Try.func142, Try.ntmps142
      go_wp2_with (first | (go_at_call 49; refine (isinf0_any _ nF hw _).mono ?_; rintro e w' ⟨rfl, rfl⟩) | (go_at_call 96; refine (isnan_no _ nF _).mono ?_; rintro e w' ⟨rfl, rfl⟩) | (go_at_call 145; refine (normalize_any _ (by omega) hFI _).mono ?_; rintro e w' ⟨rfl, rfl⟩))
      go_ret
      exact ⟨rfl, rfl⟩

theorem mathldexp_any (q F r : Nat) (p : Int) (h0 : 0 < q) (hq : q ≤ 2 ^ 53) (hF : M F = q * 2 ^ X74) (hFI : F < INF) (hr : M r = q * 2 ^ (p + 1074).toNat) (hrI : r ≤ INF) (hp1 : -1074 ≤ p) (hp2 : p ≤ 971) (w : World) :
    Calls Try.prog 139 #[.float .f64 F, .int .i64 p] w fun e w' => e = .returned (.float .f64 r) ∧ w = w' := by
  have hc := ldexp_any q F r p h0 hq hF hFI hr hrI hp1 hp2
  have HC := Lib.hid hc
  clear hc hF hr
  go_enter Try.func139, Try.ntmps139
  go_wp2_with (go_at_call 142; refine (HC.out _).mono ?_; rintro e w' ⟨rfl, rfl⟩)
  go_ret
  exact ⟨rfl, rfl⟩
theorem mathldexp_zero (p : Int) (w : World) :
    Calls Try.prog 139 #[.float .f64 0, .int .i64 p] w fun e w' => e = .returned (.float .f64 0) ∧ w = w' := by
  have hc : ∀ w, Calls Try.prog 142 #[.float .f64 0, .int .i64 p] w fun e w' => e = .returned (.float .f64 0) ∧ w = w' := by
    intro w
    go_enter Try.func142, Try.ntmps142
    go_wp2_with fail
    go_ret
    exact ⟨rfl, rfl⟩
  have HC := Lib.hid hc
  clear hc
  go_enter Try.func139, Try.ntmps139
  go_wp2_with (go_at_call 142; refine (HC.out _).mono ?_; rintro e w' ⟨rfl, rfl⟩)
  go_ret
  exact ⟨rfl, rfl⟩

end Go.Proofs.Yteephgpefhodnaa
