/- The root, rounded down and up. -/
import Derived.Test.YteephgpefhodnaaB9
import Derived.Test.YteephgpefhodnaaF15
namespace Go.Proofs.Yteephgpefhodnaa
open Go.RowKit Go.Sort Go.Fl
set_option linter.unusedSimpArgs false
set_option linter.unusedVariables false

theorem run_sqrt (x c : Nat) (h : FloatKind.f64.format.sqrt x = some c) (w : World) : (callFunc 129 #[.float .f64 x]).run Try.prog w = .ok (.value (.float .f64 c)) w := by
  rw [run_callFunc_extern Try.func129 (by kernel_rfl) (by kernel_rfl) (by kernel_rfl) (by kernel_rfl : Extern.find _ = some Extern.MathSqrt.sqrt)]
  have e : Extern.MathSqrt.sqrt #[.float .f64 x] = (match FloatKind.f64.format.sqrt x with | some r => pure (.float .f64 r) | none => do pure (.float .f64 (← choose (.nanBits .f64 x x)))) := rfl
  rw [e, h]
  rfl
theorem run_fma (x y z r : Nat) (h : FloatKind.f64.format.fma x y z = some r) (w : World) : (callFunc 105 #[.float .f64 x, .float .f64 y, .float .f64 z]).run Try.prog w = .ok (.value (.float .f64 r)) w := by
  rw [run_callFunc_extern Try.func105 (by kernel_rfl) (by kernel_rfl) (by kernel_rfl) (by kernel_rfl : Extern.find _ = some Extern.MathFMA.fma)]
  have e : Extern.MathFMA.fma #[.float .f64 x, .float .f64 y, .float .f64 z] = (match FloatKind.f64.format.fma x y z with | some r => pure (.float .f64 r) | none => do
      let (a, b) := if Extern.MathFMA.isNaN x then (x, y) else if Extern.MathFMA.isNaN y then (y, z) else (z, z)
      pure (.float .f64 (← choose (.nanBits .f64 a b)))) := rfl
  rw [e, h]
  rfl
theorem mathsqrt_any (x c : Nat) (h : FloatKind.f64.format.sqrt x = some c) (w : World) :
    Calls Try.prog 104 #[.float .f64 x] w fun e w' => e = .returned (.float .f64 c) ∧ w = w' := by
  have hr := run_sqrt x c h
  go_enter Try.func104, Try.ntmps104
  go_wp2
  go_ret
  exact ⟨rfl, rfl⟩
/-- Down, of a number above nought. -/
theorem nextafter_down (x : Nat) (hx : 0 < x) (hI : x < INF) (w : World) :
    Calls Try.prog 73 #[.float .f64 x, .float .f64 0] w fun e w' => e = .returned (.float .f64 (x - 1 : Nat)) ∧ w = w' := by
  have hIe := INF_eq
  have hw : Wd x := by unfold Wd; omega
  have hk : key x = x := key_low (by omega)
  have nx : ¬ nan x := by rw [nan_low (by omega)]; omega
  have n0 : ¬ nan 0 := by decide
  have hf := run_frombits
  have ht := run_tobits
  have hu := u64_pred hw hx
  have d1 : decide (key x < 0) = false := decide_eq_false (by omega)
  have d2 : decide (0 < key x) = true := decide_eq_true (by omega)
  have d3 : decide (key x = 0) = false := decide_eq_false (by omega)
  clear hk
  go_enter Try.func73, Try.ntmps73
  go_wp2_with (first | (go_at_call 96; refine (isnan_no _ (by first | exact nx | exact n0) _).mono ?_; rintro e w' ⟨rfl, rfl⟩))
  go_ret
  exact ⟨by simp, rfl⟩
theorem nextafter_up_pos (x : Nat) (hx : 0 < x) (hI : x < INF) (w : World) :
    Calls Try.prog 73 #[.float .f64 x, .float .f64 (ofKey (PI))] w fun e w' => e = .returned (.float .f64 (x + 1 : Nat)) ∧ w = w' := by
  have hIe := INF_eq
  have hP := PI_INF
  have hw : Wd x := by unfold Wd; omega
  have hk : key x = x := key_low (by omega)
  have nx : ¬ nan x := by rw [nan_low (by omega)]; omega
  have e : nextW x = x + 1 := by unfold nextW; rw [if_neg (by omega), if_neg (by omega), if_pos (by omega)]
  rw [← e]
  exact nextafter_up x nx hw w

theorem fpsqrt_zero (x : Nat) (up : Bool) (hw : Wd x) (h0 : key x = 0) (w : World) :
    Calls Try.prog 86 #[.float .f64 x, .bool up] w fun e w' => e = .returned (.float .f64 (ofKey (sqrtK (key x) up))) ∧ w = w' := by
  rw [h0, sqrt_zero_rnd]
  have hx : x = 0 ∨ x = 9223372036854775808 := by
    unfold Wd at hw
    unfold key rung neg at h0
    split at h0 <;> omega
  have s0 : FloatKind.f64.format.sqrt 0 = some 0 := by decide
  have s1 : FloatKind.f64.format.sqrt 9223372036854775808 = some 9223372036854775808 := by decide
  have c0 := mathsqrt_any _ _ s0
  have c1 := mathsqrt_any _ _ s1
  have m0 := fun (w : World) (t : TypeId) => run_float_arith (P := Try.prog) w .mul t .f64 0 5507902344274116608 0 (by decide)
  have m1 := fun (w : World) (t : TypeId) => run_float_arith (P := Try.prog) w .mul t .f64 9223372036854775808 5507902344274116608 9223372036854775808 (by decide)
  have m2 := fun (w : World) (t : TypeId) => run_float_arith (P := Try.prog) w .mul t .f64 0 4156822456062967808 0 (by decide)
  have m3 := fun (w : World) (t : TypeId) => run_float_arith (P := Try.prog) w .mul t .f64 9223372036854775808 4156822456062967808 9223372036854775808 (by decide)
  have g0 : Op.negFloat .f64 0 = 9223372036854775808 := by decide
  have g1 : Op.negFloat .f64 9223372036854775808 = 0 := by decide
  have q0 := run_fma 9223372036854775808 0 0 0 (by decide)
  have q1 := run_fma 0 9223372036854775808 9223372036854775808 9223372036854775808 (by decide)
  have n0 : ¬ nan 0 := by decide
  have n1 : ¬ nan 9223372036854775808 := by decide
  have k1 : key 9223372036854775808 = 0 := by decide
  have nw : ¬ nan 553942754166571008 := by decide
  have kw : key 553942754166571008 = 553942754166571008 := by decide
  have w1 : Wd 9223372036854775808 := by unfold Wd; omega
  have C0 := Lib.hid c0
  have C1 := Lib.hid c1
  clear c0 c1 s0 s1 hw
  rcases hx with rfl | rfl
  all_goals
    clear h0
    cases up
    all_goals
      go_enter Try.func86, Try.ntmps86
      go_wp2_with (first | (go_at_call 104; (first | (with_reducible refine (C0.out _).mono ?_) | (with_reducible refine (C1.out _).mono ?_)); rintro e w' ⟨rfl, rfl⟩))
      all_goals go_ret
      all_goals exact ⟨rfl, rfl⟩

set_option maxHeartbeats 1000000 in
theorem fpsqrt_fin (x : Nat) (up : Bool) (hx : x < INF) (h0 : 553942754166571008 ≤ x) (w : World) :
    Calls Try.prog 86 #[.float .f64 x, .bool up] w fun e w' => e = .returned (.float .f64 (ofKey (sqrtK (key x) up))) ∧ w = w' := by
  have hI := INF_eq
  have hP := PI_INF
  have kx : key x = x := key_low (by omega)
  have nx : ¬ nan x := by rw [nan_low (by omega)]; omega
  have nw : ¬ nan 553942754166571008 := by decide
  have kw : key 553942754166571008 = 553942754166571008 := by decide
  have fx : fin x := by unfold fin rung; omega
  have gx : neg x = false := by unfold neg; rw [show x / 2 ^ 63 = 0 by omega]; rfl
  have rx : rung x = x := by unfold rung; omega
  obtain ⟨c, s1, hR, hpl⟩ := sqrt_fin fx gx (by
    rw [rx]
    have h2 : M (123 * 2 ^ 52) = 2 ^ 52 * 2 ^ 122 := M_two 122
    have h3 := M_le (show 123 * 2 ^ 52 ≤ x by omega)
    rw [h2, ← Nat.pow_add] at h3
    exact h3)
  rw [rx] at hR
  obtain ⟨c0, c1, c2, c3⟩ := hR
  obtain ⟨r, f1, nr, wr, hsg1, hsg2⟩ := fma_rest (by omega) hx hpl
  have hv := root_real (x := key x) (by rw [kx, V_nat, Int.natCast_mul, ← E74_nat]) ⟨c0, c1, c2, c3⟩
  clear c2 c3
  simp only [← hsg1, ← hsg2] at hv
  have SQ := Lib.hid (mathsqrt_any x c s1)
  have q := run_fma _ _ _ _ f1
  have NU := Lib.hid (nextafter_up_pos c c0 (by omega))
  have ND := Lib.hid (nextafter_down c c0 (by omega))
  have IP := Lib.hid (mathinf_pos 1 (by omega))
  have mc : ∀ z : Nat, 0 < z → z < INF → ∀ (w : World) (t : TypeId), (binOp .mul t (.float .f64 z) (.float .f64 4607182418800017408)).run Try.prog w = .ok (.float .f64 z) w := fun z h1 h2 w t => run_float_arith (P := Try.prog) w .mul t .f64 z 4607182418800017408 z (scale_one h1 h2)
  have wr : Wd r := wr
  have n0 : ¬ nan 0 := by decide
  have dx : decide (key x < (553942754166571008 : Int)) = false := decide_eq_false (by omega)
  have hc2 : 2 ≤ c := by unfold plr at hpl; omega
  clear f1 s1 hsg1 hsg2 rx gx fx hpl
  have lc : ¬ nan c ∧ Wd c ∧ key c = c := ⟨by rw [nan_low (by omega)]; omega, by unfold Wd; omega, key_low (by omega)⟩
  have lu : ¬ nan (c + 1) ∧ Wd (c + 1) ∧ key (c + 1) = ((c + 1 : Nat) : Int) := ⟨by rw [nan_low (by omega)]; omega, by unfold Wd; omega, key_low (by omega)⟩
  have ld : ¬ nan (c - 1) ∧ Wd (c - 1) ∧ key (c - 1) = ((c - 1 : Nat) : Int) := ⟨by rw [nan_low (by omega)]; omega, by unfold Wd; omega, key_low (by omega)⟩
  cases up
  · by_cases hp : key r < 0
    · have d1 : decide (key r < 0) = true := decide_eq_true hp
      have d2 : decide (0 < key r) = false := decide_eq_false (by omega)
      obtain ⟨l1, l2, l3⟩ := ld
      have m := mc (c - 1) (by omega) (by omega)
      have hc1 : 1 ≤ c := c0
      rw [show sqrtK (key x) false = (((c - 1) : Nat) : Int) by rw [hv]; rw [if_neg (by simp), if_pos ⟨hp, rfl⟩]; omega]
      clear hv mc hc1 hc2 hx c0 c1 h0 hI hP
      have L3 := Lib.hid l3
      clear l3 kx
      try clear lc
      try clear lu
      try clear ld
      go_enter Try.func86, Try.ntmps86
      go_wp2_with (first | (go_at_call 104; refine (SQ.out _).mono ?_; rintro e w' ⟨rfl, rfl⟩) | (go_at_call 74; refine (IP.out _).mono ?_; rintro e w' ⟨rfl, rfl⟩) | (go_at_call 73; (first | (with_reducible refine (NU.out _).mono ?_) | (with_reducible refine (ND.out _).mono ?_)); rintro e w' ⟨rfl, rfl⟩))
      all_goals go_ret
      all_goals exact ⟨ret_w (by rw [L3.out]), rfl⟩
    · have d1 : decide (key r < 0) = false := decide_eq_false hp
      obtain ⟨l1, l2, l3⟩ := lc
      have m := mc c (by omega) (by omega)
      have hc1 : 1 ≤ c := c0
      rw [show sqrtK (key x) false = ((c : Nat) : Int) by rw [hv]; rw [if_neg (by simp), if_neg (by intro h; exact hp h.1)]]
      clear hv mc hc1 hc2 hx c0 c1 h0 hI hP
      have L3 := Lib.hid l3
      clear l3 kx
      try clear lc
      try clear lu
      try clear ld
      go_enter Try.func86, Try.ntmps86
      go_wp2_with (first | (go_at_call 104; refine (SQ.out _).mono ?_; rintro e w' ⟨rfl, rfl⟩) | (go_at_call 74; refine (IP.out _).mono ?_; rintro e w' ⟨rfl, rfl⟩) | (go_at_call 73; (first | (with_reducible refine (NU.out _).mono ?_) | (with_reducible refine (ND.out _).mono ?_)); rintro e w' ⟨rfl, rfl⟩))
      all_goals go_ret
      all_goals exact ⟨ret_w (by rw [L3.out]), rfl⟩
  · by_cases hp : 0 < key r
    · have d1 : decide (0 < key r) = true := decide_eq_true hp
      obtain ⟨l1, l2, l3⟩ := lu
      have m := mc (c + 1) (by omega) (by omega)
      have hc1 : 1 ≤ c := c0
      rw [show sqrtK (key x) true = (((c + 1) : Nat) : Int) by rw [hv]; rw [if_pos ⟨hp, rfl⟩]; omega]
      clear hv mc hc1 hc2 hx c0 c1 h0 hI hP
      have L3 := Lib.hid l3
      clear l3 kx
      try clear lc
      try clear lu
      try clear ld
      go_enter Try.func86, Try.ntmps86
      go_wp2_with (first | (go_at_call 104; refine (SQ.out _).mono ?_; rintro e w' ⟨rfl, rfl⟩) | (go_at_call 74; refine (IP.out _).mono ?_; rintro e w' ⟨rfl, rfl⟩) | (go_at_call 73; (first | (with_reducible refine (NU.out _).mono ?_) | (with_reducible refine (ND.out _).mono ?_)); rintro e w' ⟨rfl, rfl⟩))
      all_goals go_ret
      all_goals exact ⟨ret_w (by rw [L3.out]), rfl⟩
    · have d1 : decide (0 < key r) = false := decide_eq_false hp
      obtain ⟨l1, l2, l3⟩ := lc
      have m := mc c (by omega) (by omega)
      have hc1 : 1 ≤ c := c0
      rw [show sqrtK (key x) true = ((c : Nat) : Int) by rw [hv]; rw [if_neg (by intro h; exact hp h.1), if_neg (by simp)]]
      clear hv mc hc1 hc2 hx c0 c1 h0 hI hP
      have L3 := Lib.hid l3
      clear l3 kx
      try clear lc
      try clear lu
      try clear ld
      go_enter Try.func86, Try.ntmps86
      go_wp2_with (first | (go_at_call 104; refine (SQ.out _).mono ?_; rintro e w' ⟨rfl, rfl⟩) | (go_at_call 74; refine (IP.out _).mono ?_; rintro e w' ⟨rfl, rfl⟩) | (go_at_call 73; (first | (with_reducible refine (NU.out _).mono ?_) | (with_reducible refine (ND.out _).mono ?_)); rintro e w' ⟨rfl, rfl⟩))
      all_goals go_ret
      all_goals exact ⟨ret_w (by rw [L3.out]), rfl⟩

set_option maxHeartbeats 1000000 in
theorem fpsqrt_low (x : Nat) (up : Bool) (h1 : 0 < x) (h0 : x < 553942754166571008) (w : World) :
    Calls Try.prog 86 #[.float .f64 x, .bool up] w fun e w' => e = .returned (.float .f64 (ofKey (sqrtK (key x) up))) ∧ w = w' := by
  have hI := INF_eq
  have hP := PI_INF
  have kx : key x = x := key_low (by omega)
  have nx : ¬ nan x := by rw [nan_low (by omega)]; omega
  have nw : ¬ nan 553942754166571008 := by decide
  have kw : key 553942754166571008 = 553942754166571008 := by decide
  obtain ⟨x', y0, yI, yM, yb, ym⟩ := scale_up h1 (by omega)
  have mx := fun (w : World) (t : TypeId) => run_float_arith (P := Try.prog) w .mul t .f64 x 5507902344274116608 x' ym
  have hx : x' < INF := yI
  have fx : fin x' := by unfold fin rung; omega
  have gx : neg x' = false := by unfold neg; rw [show x' / 2 ^ 63 = 0 by omega]; rfl
  have rx : rung x' = x' := by unfold rung; omega
  obtain ⟨c, s1, hR, hpl⟩ := sqrt_fin fx gx (by rw [rx]; exact yb)
  rw [rx] at hR
  have ca : c + 1 < INF := hR.2.1
  obtain ⟨r, f1, nr, wr, hsg1, hsg2⟩ := fma_rest (by omega) hx hpl
  rw [yM, Nat.mul_right_comm] at hR hsg1 hsg2
  obtain ⟨d, hd, hR2, q1, q2, hd2⟩ := root_scale rfl hpl hR
  rw [q1] at hsg1
  rw [q2] at hsg2
  have hv := root_real (x := key x) (by rw [kx, V_nat, Int.natCast_mul, ← E74_nat]) hR2
  have c0 : 0 < c := by omega
  clear hR hR2 q1 q2
  simp only [← hsg1, ← hsg2] at hv
  have SQ := Lib.hid (mathsqrt_any x' c s1)
  have q := run_fma _ _ _ _ f1
  have NU := Lib.hid (nextafter_up_pos c c0 (by omega))
  have ND := Lib.hid (nextafter_down c c0 (by omega))
  have IP := Lib.hid (mathinf_pos 1 (by omega))
  have mc : ∀ z y : Nat, z = y + 100 * 2 ^ 52 → 2 ^ 52 ≤ y → z < INF → ∀ (w : World) (t : TypeId), (binOp .mul t (.float .f64 z) (.float .f64 4156822456062967808)).run Try.prog w = .ok (.float .f64 y) w := by
    intro z y hz h1 h2 w t
    subst hz
    exact run_float_arith (P := Try.prog) w .mul t .f64 _ 4156822456062967808 y (scale_down rfl h1 h2)
  have wr : Wd r := wr
  have n0 : ¬ nan 0 := by decide
  have dx : decide (key x < (553942754166571008 : Int)) = true := decide_eq_true (by omega)
  have lc : ¬ nan d ∧ Wd d ∧ key d = d := ⟨by rw [nan_low (by omega)]; omega, by unfold Wd; omega, key_low (by omega)⟩
  have lu : ¬ nan (d + 1) ∧ Wd (d + 1) ∧ key (d + 1) = ((d + 1 : Nat) : Int) := ⟨by rw [nan_low (by omega)]; omega, by unfold Wd; omega, key_low (by omega)⟩
  have ld : ¬ nan (d - 1) ∧ Wd (d - 1) ∧ key (d - 1) = ((d - 1 : Nat) : Int) := ⟨by rw [nan_low (by omega)]; omega, by unfold Wd; omega, key_low (by omega)⟩
  have hc2 : 2 ≤ c := by omega
  clear f1 s1 hsg1 hsg2 rx gx fx hpl ym yM yb
  have c1 := hd2
  cases up
  · by_cases hp : key r < 0
    · have d1 : decide (key r < 0) = true := decide_eq_true hp
      have d2 : decide (0 < key r) = false := decide_eq_false (by omega)
      obtain ⟨l1, l2, l3⟩ := ld
      have m := mc (c - 1) (d - 1) (by omega) (by omega) (by omega)
      have hc1 : 1 ≤ c := c0
      rw [show sqrtK (key x) false = (((d - 1) : Nat) : Int) by rw [hv]; rw [if_neg (by simp), if_pos ⟨hp, rfl⟩]; omega]
      clear hv mc hc1 hc2 hx c0 c1 h0 hI hP h1 y0 yI hd hd2 ca
      have L3 := Lib.hid l3
      clear l3 kx
      try clear lc
      try clear lu
      try clear ld
      go_enter Try.func86, Try.ntmps86
      go_wp2_with (first | (go_at_call 104; refine (SQ.out _).mono ?_; rintro e w' ⟨rfl, rfl⟩) | (go_at_call 74; refine (IP.out _).mono ?_; rintro e w' ⟨rfl, rfl⟩) | (go_at_call 73; (first | (with_reducible refine (NU.out _).mono ?_) | (with_reducible refine (ND.out _).mono ?_)); rintro e w' ⟨rfl, rfl⟩))
      all_goals go_ret
      all_goals exact ⟨ret_w (by rw [L3.out]), rfl⟩
    · have d1 : decide (key r < 0) = false := decide_eq_false hp
      obtain ⟨l1, l2, l3⟩ := lc
      have m := mc c d (by omega) (by omega) (by omega)
      have hc1 : 1 ≤ c := c0
      rw [show sqrtK (key x) false = ((d : Nat) : Int) by rw [hv]; rw [if_neg (by simp), if_neg (by intro h; exact hp h.1)]]
      clear hv mc hc1 hc2 hx c0 c1 h0 hI hP h1 y0 yI hd hd2 ca
      have L3 := Lib.hid l3
      clear l3 kx
      try clear lc
      try clear lu
      try clear ld
      go_enter Try.func86, Try.ntmps86
      go_wp2_with (first | (go_at_call 104; refine (SQ.out _).mono ?_; rintro e w' ⟨rfl, rfl⟩) | (go_at_call 74; refine (IP.out _).mono ?_; rintro e w' ⟨rfl, rfl⟩) | (go_at_call 73; (first | (with_reducible refine (NU.out _).mono ?_) | (with_reducible refine (ND.out _).mono ?_)); rintro e w' ⟨rfl, rfl⟩))
      all_goals go_ret
      all_goals exact ⟨ret_w (by rw [L3.out]), rfl⟩
  · by_cases hp : 0 < key r
    · have d1 : decide (0 < key r) = true := decide_eq_true hp
      obtain ⟨l1, l2, l3⟩ := lu
      have m := mc (c + 1) (d + 1) (by omega) (by omega) (by omega)
      have hc1 : 1 ≤ c := c0
      rw [show sqrtK (key x) true = (((d + 1) : Nat) : Int) by rw [hv]; rw [if_pos ⟨hp, rfl⟩]; omega]
      clear hv mc hc1 hc2 hx c0 c1 h0 hI hP h1 y0 yI hd hd2 ca
      have L3 := Lib.hid l3
      clear l3 kx
      try clear lc
      try clear lu
      try clear ld
      go_enter Try.func86, Try.ntmps86
      go_wp2_with (first | (go_at_call 104; refine (SQ.out _).mono ?_; rintro e w' ⟨rfl, rfl⟩) | (go_at_call 74; refine (IP.out _).mono ?_; rintro e w' ⟨rfl, rfl⟩) | (go_at_call 73; (first | (with_reducible refine (NU.out _).mono ?_) | (with_reducible refine (ND.out _).mono ?_)); rintro e w' ⟨rfl, rfl⟩))
      all_goals go_ret
      all_goals exact ⟨ret_w (by rw [L3.out]), rfl⟩
    · have d1 : decide (0 < key r) = false := decide_eq_false hp
      obtain ⟨l1, l2, l3⟩ := lc
      have m := mc c d (by omega) (by omega) (by omega)
      have hc1 : 1 ≤ c := c0
      rw [show sqrtK (key x) true = ((d : Nat) : Int) by rw [hv]; rw [if_neg (by intro h; exact hp h.1), if_neg (by simp)]]
      clear hv mc hc1 hc2 hx c0 c1 h0 hI hP h1 y0 yI hd hd2 ca
      have L3 := Lib.hid l3
      clear l3 kx
      try clear lc
      try clear lu
      try clear ld
      go_enter Try.func86, Try.ntmps86
      go_wp2_with (first | (go_at_call 104; refine (SQ.out _).mono ?_; rintro e w' ⟨rfl, rfl⟩) | (go_at_call 74; refine (IP.out _).mono ?_; rintro e w' ⟨rfl, rfl⟩) | (go_at_call 73; (first | (with_reducible refine (NU.out _).mono ?_) | (with_reducible refine (ND.out _).mono ?_)); rintro e w' ⟨rfl, rfl⟩))
      all_goals go_ret
      all_goals exact ⟨ret_w (by rw [L3.out]), rfl⟩

theorem fpsqrt_any (x : Nat) (up : Bool) (hx : fin x) (hw : Wd x) (h0 : 0 ≤ key x) (w : World) :
    Calls Try.prog 86 #[.float .f64 x, .bool up] w fun e w' => e = .returned (.float .f64 (ofKey (sqrtK (key x) up))) ∧ w = w' := by
  by_cases h : key x = 0
  · exact fpsqrt_zero x up hw h w
  · obtain ⟨h1, h2⟩ := key_pos hw (by omega)
    have hI := INF_eq
    have hx : x < INF := by unfold fin rung at hx; omega
    rcases Nat.lt_or_ge x 553942754166571008 with h3 | h3
    · exact fpsqrt_low x up (by omega) h3 w
    · exact fpsqrt_fin x up hx h3 w

end Go.Proofs.Yteephgpefhodnaa
