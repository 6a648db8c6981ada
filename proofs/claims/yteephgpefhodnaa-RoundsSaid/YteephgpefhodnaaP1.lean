/- Plain laws of the real rounded: its order, its signs. -/
import Derived.Test.YteephgpefhodnaaF17
namespace Go.Proofs.Yteephgpefhodnaa
open Go.Fl

theorem rnd_two {c : Int → Int} (hc : Cut c) : rnd false c ≤ rnd true c ∧ rnd true c ≤ rnd false c + 1 := by
  obtain ⟨d1, d2, d3, d4⟩ := rd_spec c
  obtain ⟨u1, u2, u3, u4⟩ := ru_spec c
  generalize rnd false c = k at *
  generalize rnd true c = j at *
  constructor
  · refine Int.not_lt.1 fun h => ?_
    have a := d3 (by omega)
    have b := (hc j k h).1 a
    have e := u3 (by omega)
    omega
  · refine Int.not_lt.1 fun h => ?_
    have a := d4 (by omega)
    have b := u4 (by omega)
    by_cases he : j - 1 = k + 1
    · rw [he] at b; omega
    · have := (hc (k + 1) (j - 1) (by omega)).2 (by omega)
      omega
theorem rnd_mono {c c' : Int → Int} (hc : Cut c') (h : ∀ k, 0 ≤ c k → 0 ≤ c' k) (h2 : ∀ k, 0 < c k → 0 < c' k) (up : Bool) : rnd up c ≤ rnd up c' := by
  cases up
  · obtain ⟨d1, d2, d3, d4⟩ := rd_spec c
    obtain ⟨e1, e2, e3, e4⟩ := rd_spec c'
    generalize rnd false c = k at *
    generalize rnd false c' = j at *
    refine Int.not_lt.1 fun hl => ?_
    have a := h k (d3 (by omega))
    have b := e4 (by omega)
    by_cases he : j + 1 = k
    · rw [he] at b; omega
    · have := (hc (j + 1) k (by omega)).2 (by omega)
      omega
  · obtain ⟨d1, d2, d3, d4⟩ := ru_spec c
    obtain ⟨e1, e2, e3, e4⟩ := ru_spec c'
    generalize rnd true c = k at *
    generalize rnd true c' = j at *
    refine Int.not_lt.1 fun hl => ?_
    have a := e3 (by omega)
    have b := h2 (k - 1) (d4 (by omega))
    by_cases he : k - 1 = j
    · rw [he] at b; omega
    · have := (hc j (k - 1) (by omega)).2 (by omega)
      omega
theorem rnd_exact {c : Int → Int} (hc : Cut c) {k : Int} (h : c k = 0) (h1 : -PI < k) (h2 : k < PI) (up : Bool) : rnd up c = k := by
  refine rnd_eq hc ?_
  have a := (hc k (k + 1) (by omega)).2 (by omega)
  have b := (hc (k - 1) k (by omega)).1 (by omega)
  cases up
  · exact ⟨by omega, by omega, fun _ => by omega, fun _ => a⟩
  · exact ⟨by omega, by omega, fun _ => by omega, fun _ => b⟩
theorem rnd_flip {c c' : Int → Int} (hc : Cut c') (h : ∀ k, c' k = -c (-k)) (up : Bool) : rnd (!up) c' = -rnd up c := by
  refine rnd_eq hc ?_
  cases up
  · obtain ⟨d1, d2, d3, d4⟩ := rd_spec c
    generalize rnd false c = k at *
    refine ⟨by omega, by omega, fun hk => ?_, fun hk => ?_⟩
    · have := d3 (by omega)
      rw [h, Int.neg_neg]; omega
    · have := d4 (by omega)
      rw [h, show -(-k - 1) = k + 1 by omega]; omega
  · obtain ⟨d1, d2, d3, d4⟩ := ru_spec c
    generalize rnd true c = k at *
    refine ⟨by omega, by omega, fun hk => ?_, fun hk => ?_⟩
    · have := d3 (by omega)
      rw [h, Int.neg_neg]; omega
    · have := d4 (by omega)
      rw [h, show -(-k + 1) = k - 1 by omega]; omega

theorem V_nn {k : Int} (h : 0 ≤ k) : 0 ≤ V k := by rw [← V_zero]; exact V_le h
theorem V_np {k : Int} (h : k ≤ 0) : V k ≤ 0 := by rw [← V_zero]; exact V_le h
theorem V_ps {k : Int} (h : 0 < k) : 0 < V k := by rw [← V_zero]; exact V_lt h
theorem V_ng {k : Int} (h : k < 0) : V k < 0 := by rw [← V_zero]; exact V_lt h

/-! ## Sums -/
theorem cAdd_comm (x y : Int) : cAdd x y = cAdd y x := by funext k; unfold cAdd; omega
theorem sum_mono {x x' y y' : Int} (hx : x ≤ x') (hy : y ≤ y') (up : Bool) : rnd up (cAdd x y) ≤ rnd up (cAdd x' y') := by
  have := V_le hx
  have := V_le hy
  exact rnd_mono (cut_add _ _) (fun k h => by unfold cAdd at *; omega) (fun k h => by unfold cAdd at *; omega) up
theorem sum_flip (x y : Int) (up : Bool) : rnd (!up) (cAdd (-x) (-y)) = -rnd up (cAdd x y) :=
  rnd_flip (cut_add _ _) (fun k => by unfold cAdd; rw [V_neg, V_neg, V_neg]; omega) up
theorem sum_zero (x : Int) (h1 : -PI < x) (h2 : x < PI) (up : Bool) : rnd up (cAdd x 0) = x :=
  rnd_exact (cut_add _ _) (by unfold cAdd; rw [V_zero]; omega) h1 h2 up

/-! ## Products -/
theorem cMul_comm (x y : Int) : cMul x y = cMul y x := by funext k; unfold cMul; rw [Int.mul_comm (V x)]
theorem prod_mono {x x' y : Int} (hx : x ≤ x') (hy : 0 ≤ y) (up : Bool) : rnd up (cMul x y) ≤ rnd up (cMul x' y) := by
  have := Int.mul_le_mul_of_nonneg_right (V_le hx) (V_nn hy)
  exact rnd_mono (cut_mul _ _) (fun k h => by unfold cMul at *; omega) (fun k h => by unfold cMul at *; omega) up
theorem prod_flip (x y : Int) (up : Bool) : rnd (!up) (cMul (-x) y) = -rnd up (cMul x y) :=
  rnd_flip (cut_mul _ _) (fun k => by unfold cMul; rw [V_neg, V_neg, Int.neg_mul, Int.neg_mul]; omega) up
theorem prod_zero (x : Int) (up : Bool) : rnd up (cMul x 0) = 0 :=
  rnd_exact (cut_mul _ _) (by unfold cMul; rw [V_zero, Int.mul_zero, Int.zero_mul]; rfl) (by decide) (by decide) up

/-! ## Quotients -/
theorem quot_mono {x x' y : Int} (hx : x ≤ x') (hy : 0 < y) (up : Bool) : rnd up (cDiv x y) ≤ rnd up (cDiv x' y) := by
  have := Int.mul_le_mul_of_nonneg_right (V_le hx) (Int.le_of_lt E74_pos)
  refine rnd_mono (cut_div _ _ (by omega)) (fun k h => ?_) (fun k h => ?_) up <;> (unfold cDiv at *; rw [if_pos hy] at *; omega)
theorem quot_anti {x y y' : Int} (hx : 0 ≤ x) (hy : 0 < y) (hyy : y ≤ y') (up : Bool) : rnd up (cDiv x y') ≤ rnd up (cDiv x y) := by
  have hy' : 0 < y' := by omega
  have e : 0 ≤ V x * E74 := Int.mul_nonneg (V_nn hx) (Int.le_of_lt E74_pos)
  have key : ∀ k, V k * V y ≤ V k * V y' ∨ V k * V y < 0 := fun k => by
    by_cases hk : 0 ≤ k
    · exact .inl (Int.mul_le_mul_of_nonneg_left (V_le hyy) (V_nn hk))
    · exact .inr (Int.mul_neg_of_neg_of_pos (V_ng (by omega)) (V_ps hy))
  refine rnd_mono (cut_div _ _ (by omega)) (fun k h => ?_) (fun k h => ?_) up
  · unfold cDiv at *; rw [if_pos hy'] at h; rw [if_pos hy]; rcases key k with g | g <;> omega
  · unfold cDiv at *; rw [if_pos hy'] at h; rw [if_pos hy]; rcases key k with g | g <;> omega
theorem quot_flip (x y : Int) (hy : y ≠ 0) (up : Bool) : rnd (!up) (cDiv (-x) y) = -rnd up (cDiv x y) := by
  refine rnd_flip (cut_div _ _ hy) (fun k => ?_) up
  unfold cDiv
  by_cases h : 0 < y
  · rw [if_pos h, if_pos h, V_neg, V_neg, Int.neg_mul, Int.neg_mul]; omega
  · rw [if_neg h, if_neg h, V_neg, V_neg, Int.neg_mul, Int.neg_mul]; omega
theorem cDiv_neg (x y : Int) (hy : y ≠ 0) : cDiv (-x) (-y) = cDiv x y := by
  funext k
  unfold cDiv
  by_cases h : 0 < y
  · rw [if_pos h, if_neg (by omega), V_neg, V_neg, Int.neg_mul, Int.mul_neg]; omega
  · rw [if_neg h, if_pos (by omega), V_neg, V_neg, Int.neg_mul, Int.mul_neg]; omega
theorem quot_zero (y : Int) (hy : y ≠ 0) (up : Bool) : rnd up (cDiv 0 y) = 0 := by
  refine rnd_exact (cut_div _ _ hy) ?_ (by decide) (by decide) up
  unfold cDiv
  rw [V_zero, Int.zero_mul, Int.zero_mul]
  split <;> rfl

/-! ## Roots -/
theorem root_mono {x x' : Int} (h : x ≤ x') (up : Bool) : rnd up (cSqrt x) ≤ rnd up (cSqrt x') := by
  have := Int.mul_le_mul_of_nonneg_right (V_le h) (Int.le_of_lt E74_pos)
  refine rnd_mono (cut_sqrt _) (fun k h => ?_) (fun k h => ?_) up <;> (unfold cSqrt at *; split <;> (try rw [if_pos (by assumption)] at h) <;> (try rw [if_neg (by assumption)] at h) <;> omega)

theorem not_up (up : Bool) : (!(!up)) = up := by cases up <;> rfl
end Go.Proofs.Yteephgpefhodnaa
