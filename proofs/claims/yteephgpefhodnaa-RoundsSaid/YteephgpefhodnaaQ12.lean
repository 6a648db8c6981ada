/- The document's Round: near. -/
import Derived.Test.YteephgpefhodnaaB10
import Derived.Lib.Hide
namespace Go.Proofs.Yteephgpefhodnaa
open Go.RowKit Go.Sort Go.Fl
set_option linter.unusedSimpArgs false
set_option linter.unusedVariables false

open Ieee in
theorem write_any (s : Bool) (m : Nat) (place : Int) : ¬ nan (double.write (.number s m place)) ∧ Wd (double.write (.number s m place)) := by
  unfold Format.write
  simp only
  by_cases h : m = 0
  · subst h
    rw [write_zero]
    obtain ⟨h1, h2, h3⟩ := word_key (s := s) (r := 0) (by omega)
    exact ⟨by unfold nan; rw [h1]; omega, h3⟩
  · obtain ⟨h1, _, h3, h4⟩ := write_near s m place (by omega)
    exact ⟨h1, h3⟩
theorem mag_zero {x : Nat} (h : mag x = 0) : key x = 0 := by
  have := mag_pl x
  rw [h, Nat.zero_mul] at this
  have hr : rung x = 0 := by
    refine Nat.eq_zero_of_not_pos fun hp => ?_
    have := M_lt hp
    rw [M_zero] at this
    omega
  unfold key
  rw [hr]
  cases neg x <;> rfl
open Ieee in
theorem div_some {x y : Nat} (hx : fin x) (hy : fin y) (h0 : key y ≠ 0) : ∃ r, FloatKind.f64.format.div x y = some r ∧ ¬ nan r ∧ Wd r := by
  rw [fmt]
  unfold Format.div
  rw [read_fin hx, read_fin hy]
  unfold Datum.quotient
  simp only
  rw [if_neg (fun e => h0 (mag_zero e))]
  exact ⟨_, rfl, write_any _ _ _⟩
open Ieee in
theorem sqrt_some {x : Nat} (hx : fin x) (h0 : 0 ≤ key x) : ∃ r, FloatKind.f64.format.sqrt x = some r ∧ ¬ nan r ∧ Wd r := by
  rw [fmt]
  unfold Format.sqrt
  rw [read_fin hx]
  unfold Datum.root
  simp only
  by_cases hm : mag x = 0
  · rw [if_pos hm]
    exact ⟨_, rfl, write_any _ _ _⟩
  · rw [if_neg hm]
    have hn : neg x = false := by
      cases h : neg x
      · rfl
      · exfalso
        have hr : 0 < rung x := Nat.pos_of_ne_zero (fun e => hm (by unfold mag; rw [if_pos (by omega)]; exact e))
        unfold key at h0
        rw [if_pos h] at h0
        omega
    rw [hn]
    simp only [Bool.false_eq_true, if_false]
    exact ⟨_, rfl, write_any _ _ _⟩
theorem most_key : key 9218868437227405311 = PI - 1 := by decide
theorem most_nn : ¬ nan 9218868437227405311 := by decide
theorem least_key : key 18442240474082181119 = -(PI - 1) := by decide
theorem least_nn : ¬ nan 18442240474082181119 := by decide
theorem near_6 (x y : Nat) (hx : fin x) (hy : fin y) (wx : Wd x) (wy : Wd y) : ∃ c : Nat, fin c ∧ Wd c ∧ ∀ w, Calls Try.prog 87 #[.int .i64 6, .float .f64 x, .float .f64 y] w fun e w' => e = .returned (.float .f64 c) ∧ w = w' := by
  have k1 := most_key
  have k2 := most_nn
  have k3 := least_key
  have k4 := least_nn
  have hP := PI_pos
  obtain ⟨r0, a1, a2, a3, a4⟩ := add_fin hx hy
  have ha := fun (w : World) (t : TypeId) => run_float_arith (P := Try.prog) w .add t .f64 x y r0 a1
  clear a4
  obtain ⟨r, hr, nr, wr⟩ : ∃ r, r = r0 ∧ ¬ nan r ∧ Wd r := ⟨_, rfl, a2, a3⟩
  subst hr
  have rk := Rg_key nr
  by_cases h1 : PI - 1 < key r
  · refine ⟨9218868437227405311, by decide, by unfold Wd; omega, fun w => ?_⟩
    go_enter Try.func87, Try.ntmps87
    go_wp2
    go_ret
    exact ⟨rfl, rfl⟩
  · by_cases h2 : key r < -(PI - 1)
    · refine ⟨18442240474082181119, by decide, by unfold Wd; omega, fun w => ?_⟩
      go_enter Try.func87, Try.ntmps87
      go_wp2
      go_ret
      exact ⟨rfl, rfl⟩
    · refine ⟨r, by rw [fin_key]; have hPI : PI = (INF : Int) := rfl; omega, wr, fun w => ?_⟩
      go_enter Try.func87, Try.ntmps87
      go_wp2
      go_ret
      exact ⟨rfl, rfl⟩
theorem near_7 (x y : Nat) (hx : fin x) (hy : fin y) (wx : Wd x) (wy : Wd y) : ∃ c : Nat, fin c ∧ Wd c ∧ ∀ w, Calls Try.prog 87 #[.int .i64 7, .float .f64 x, .float .f64 y] w fun e w' => e = .returned (.float .f64 c) ∧ w = w' := by
  have k1 := most_key
  have k2 := most_nn
  have k3 := least_key
  have k4 := least_nn
  have hP := PI_pos
  obtain ⟨r0, a1, a2, a3, a4⟩ := add_fin hx hy
  have ha := fun (w : World) (t : TypeId) => run_float_arith (P := Try.prog) w .add t .f64 x y r0 a1
  clear a4
  obtain ⟨r, hr, nr, wr, _⟩ := sub_fin hx hy
  have hb := fun (w : World) (t : TypeId) => run_float_arith (P := Try.prog) w .sub t .f64 x y r hr
  have rk := Rg_key nr
  by_cases h1 : PI - 1 < key r
  · refine ⟨9218868437227405311, by decide, by unfold Wd; omega, fun w => ?_⟩
    go_enter Try.func87, Try.ntmps87
    go_wp2
    go_ret
    exact ⟨rfl, rfl⟩
  · by_cases h2 : key r < -(PI - 1)
    · refine ⟨18442240474082181119, by decide, by unfold Wd; omega, fun w => ?_⟩
      go_enter Try.func87, Try.ntmps87
      go_wp2
      go_ret
      exact ⟨rfl, rfl⟩
    · refine ⟨r, by rw [fin_key]; have hPI : PI = (INF : Int) := rfl; omega, wr, fun w => ?_⟩
      go_enter Try.func87, Try.ntmps87
      go_wp2
      go_ret
      exact ⟨rfl, rfl⟩
theorem near_8 (x y : Nat) (hx : fin x) (hy : fin y) (wx : Wd x) (wy : Wd y) : ∃ c : Nat, fin c ∧ Wd c ∧ ∀ w, Calls Try.prog 87 #[.int .i64 8, .float .f64 x, .float .f64 y] w fun e w' => e = .returned (.float .f64 c) ∧ w = w' := by
  have k1 := most_key
  have k2 := most_nn
  have k3 := least_key
  have k4 := least_nn
  have hP := PI_pos
  obtain ⟨r0, a1, a2, a3, a4⟩ := add_fin hx hy
  have ha := fun (w : World) (t : TypeId) => run_float_arith (P := Try.prog) w .add t .f64 x y r0 a1
  clear a4
  obtain ⟨r, hr, nr, wr, _⟩ := mul_fin hx hy
  have hb := fun (w : World) (t : TypeId) => run_float_arith (P := Try.prog) w .mul t .f64 x y r hr
  have rk := Rg_key nr
  by_cases h1 : PI - 1 < key r
  · refine ⟨9218868437227405311, by decide, by unfold Wd; omega, fun w => ?_⟩
    go_enter Try.func87, Try.ntmps87
    go_wp2
    go_ret
    exact ⟨rfl, rfl⟩
  · by_cases h2 : key r < -(PI - 1)
    · refine ⟨18442240474082181119, by decide, by unfold Wd; omega, fun w => ?_⟩
      go_enter Try.func87, Try.ntmps87
      go_wp2
      go_ret
      exact ⟨rfl, rfl⟩
    · refine ⟨r, by rw [fin_key]; have hPI : PI = (INF : Int) := rfl; omega, wr, fun w => ?_⟩
      go_enter Try.func87, Try.ntmps87
      go_wp2
      go_ret
      exact ⟨rfl, rfl⟩
theorem near_9 (x y : Nat) (hx : fin x) (hy : fin y) (wx : Wd x) (wy : Wd y) (h0 : key y ≠ 0) : ∃ c : Nat, fin c ∧ Wd c ∧ ∀ w, Calls Try.prog 87 #[.int .i64 9, .float .f64 x, .float .f64 y] w fun e w' => e = .returned (.float .f64 c) ∧ w = w' := by
  have k1 := most_key
  have k2 := most_nn
  have k3 := least_key
  have k4 := least_nn
  have hP := PI_pos
  obtain ⟨r0, a1, a2, a3, a4⟩ := add_fin hx hy
  have ha := fun (w : World) (t : TypeId) => run_float_arith (P := Try.prog) w .add t .f64 x y r0 a1
  clear a4
  obtain ⟨r, hr, nr, wr⟩ := div_some hx hy h0
  have hb := fun (w : World) (t : TypeId) => run_float_arith (P := Try.prog) w .quo t .f64 x y r hr
  have rk := Rg_key nr
  by_cases h1 : PI - 1 < key r
  · refine ⟨9218868437227405311, by decide, by unfold Wd; omega, fun w => ?_⟩
    go_enter Try.func87, Try.ntmps87
    go_wp2
    go_ret
    exact ⟨rfl, rfl⟩
  · by_cases h2 : key r < -(PI - 1)
    · refine ⟨18442240474082181119, by decide, by unfold Wd; omega, fun w => ?_⟩
      go_enter Try.func87, Try.ntmps87
      go_wp2
      go_ret
      exact ⟨rfl, rfl⟩
    · refine ⟨r, by rw [fin_key]; have hPI : PI = (INF : Int) := rfl; omega, wr, fun w => ?_⟩
      go_enter Try.func87, Try.ntmps87
      go_wp2
      go_ret
      exact ⟨rfl, rfl⟩
theorem near_3 (x y : Nat) (hx : fin x) (hy : fin y) (wx : Wd x) (wy : Wd y) (h0 : 0 ≤ key x) : ∃ c : Nat, fin c ∧ Wd c ∧ ∀ w, Calls Try.prog 87 #[.int .i64 3, .float .f64 x, .float .f64 y] w fun e w' => e = .returned (.float .f64 c) ∧ w = w' := by
  have k1 := most_key
  have k2 := most_nn
  have k3 := least_key
  have k4 := least_nn
  have hP := PI_pos
  obtain ⟨r0, a1, a2, a3, a4⟩ := add_fin hx hy
  have ha := fun (w : World) (t : TypeId) => run_float_arith (P := Try.prog) w .add t .f64 x y r0 a1
  clear a4
  obtain ⟨r, hr, nr, wr⟩ := sqrt_some hx h0
  have SQ := Lib.hid (fun w => mathsqrt_any x r hr w)
  have rk := Rg_key nr
  by_cases h1 : PI - 1 < key r
  · refine ⟨9218868437227405311, by decide, by unfold Wd; omega, fun w => ?_⟩
    go_enter Try.func87, Try.ntmps87
    go_wp2_with (go_at_call 104; refine (SQ.out _).mono ?_; rintro e w' ⟨rfl, rfl⟩)
    go_ret
    exact ⟨rfl, rfl⟩
  · by_cases h2 : key r < -(PI - 1)
    · refine ⟨18442240474082181119, by decide, by unfold Wd; omega, fun w => ?_⟩
      go_enter Try.func87, Try.ntmps87
      go_wp2_with (go_at_call 104; refine (SQ.out _).mono ?_; rintro e w' ⟨rfl, rfl⟩)
      go_ret
      exact ⟨rfl, rfl⟩
    · refine ⟨r, by rw [fin_key]; have hPI : PI = (INF : Int) := rfl; omega, wr, fun w => ?_⟩
      go_enter Try.func87, Try.ntmps87
      go_wp2_with (go_at_call 104; refine (SQ.out _).mono ?_; rintro e w' ⟨rfl, rfl⟩)
      go_ret
      exact ⟨rfl, rfl⟩
end Go.Proofs.Yteephgpefhodnaa
