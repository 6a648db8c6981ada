/- The root's scale: what is small is made greater by 2^200, its root is scaled back. -/
import Derived.Test.YteephgpefhodnaaF14
namespace Go.Fl
set_option linter.unusedVariables false

theorem scale_up {x : Nat} (h0 : 0 < x) (h : x < 123 * 2 ^ 52) : ∃ x' : Nat, 0 < x' ∧ x' < INF ∧ M x' = M x * (2 ^ 100 * 2 ^ 100) ∧ 2 ^ 174 ≤ M x' ∧ FloatKind.f64.format.mul x 5507902344274116608 = some x' := by
  have hX := X74_eq
  have hI := INF_eq
  obtain ⟨r, hr⟩ := rep_key (plr x + 200) (mgr x) (Nat.le_of_lt (mgr_lt x))
  have e200 : ∀ s : Nat, s = 100 → M r = M x * (2 ^ s * 2 ^ s) := by
    intro s hs
    rw [hr, M_eq x, Nat.mul_assoc, ← Nat.pow_add, ← Nat.pow_add]
    exact congrArg (fun t => mgr x * 2 ^ t) (by omega)
  have hM1 : 1 ≤ M x := by
    have := M_lt h0
    omega
  have hM2 : M x < 2 ^ 174 := by
    have h1 := M_lt h
    have h2 := M_two 122
    have h3 : M (123 * 2 ^ 52) = 2 ^ 52 * 2 ^ 122 := h2
    rw [h3, ← Nat.pow_add] at h1
    exact h1
  obtain ⟨c, hc⟩ : ∃ c, c = 1222 := ⟨_, rfl⟩
  obtain ⟨d, hd⟩ : ∃ d, d = 1074 := ⟨_, rfl⟩
  have h8 := e200 100 rfl
  have hlow : 2 ^ 174 ≤ M r := by
    rw [h8]
    exact Nat.le_trans (show 2 ^ 174 ≤ 1 * (2 ^ 100 * 2 ^ 100) by decide) (Nat.mul_le_mul_right _ hM1)
  have hhigh : M r < M (400 * 2 ^ 52) := by
    obtain ⟨u, hu⟩ : ∃ u, u = 399 := ⟨_, rfl⟩
    have h2 : M (400 * 2 ^ 52) = 2 ^ 52 * 2 ^ u := by rw [← M_two u, hu]
    have h3 : M x * (2 ^ 100 * 2 ^ 100) < 2 ^ 174 * (2 ^ 100 * 2 ^ 100) := Nat.mul_lt_mul_of_pos_right hM2 (by decide)
    have h4 : ∀ a b : Nat, a = 174 → b = 100 → (2 : Nat) ^ a * (2 ^ b * 2 ^ b) ≤ 2 ^ 52 * 2 ^ u := by
      intro a b ha hb
      rw [← Nat.pow_add, ← Nat.pow_add, ← Nat.pow_add]
      exact Nat.pow_le_pow_right (by omega) (by omega)
    rw [h8, h2]
    exact Nat.lt_of_lt_of_le h3 (h4 174 100 rfl rfl)
  have hrI : r < 400 * 2 ^ 52 := M_lt_iff.1 hhigh
  have hr0 : 0 < r := by
    rcases Nat.eq_zero_or_pos r with h | h
    · rw [h, M_zero] at hlow
      exact absurd hlow (by decide)
    · exact h
  refine ⟨r, hr0, by omega, h8, hlow, ?_⟩
  refine mul_exact (by omega) (by decide) hr0 (by omega) ?_
  have e2 : M 5507902344274116608 = 2 ^ 52 * 2 ^ c := by
    rw [← M_two c, hc]
  have e3 : (2 : Nat) ^ 52 * 2 ^ c = 2 ^ (100 + 100) * 2 ^ X74 := by rw [← Nat.pow_add, ← Nat.pow_add]; exact congrArg (fun t => 2 ^ t) (by omega)
  rw [e2, e3, h8, Nat.mul_assoc, Nat.pow_add]
theorem scale_down {d s : Nat} (hs : s = 100) (h : 2 ^ 52 ≤ d) (hI : d + s * 2 ^ 52 < INF) : FloatKind.f64.format.mul (d + s * 2 ^ 52) 4156822456062967808 = some d := by
  have hX := X74_eq
  refine mul_exact hI (by decide) (by omega) (by omega) ?_
  obtain ⟨c, hc⟩ : ∃ c, c = 922 := ⟨_, rfl⟩
  have e2 : M 4156822456062967808 = 2 ^ 52 * 2 ^ c := by
    rw [← M_two c, hc]
  have e3 : (2 : Nat) ^ s * (2 ^ 52 * 2 ^ c) = 2 ^ X74 := by rw [← Nat.pow_add, ← Nat.pow_add]; exact congrArg (fun t => 2 ^ t) (by omega)
  rw [M_binades h, e2, Nat.mul_assoc, e3]
theorem scale_one {d : Nat} (h0 : 0 < d) (h : d < INF) : FloatKind.f64.format.mul d 4607182418800017408 = some d := by
  have hX := X74_eq
  refine mul_exact h (by decide) h0 h ?_
  obtain ⟨c, hc⟩ : ∃ c, c = 1022 := ⟨_, rfl⟩
  have e2 : M 4607182418800017408 = 2 ^ 52 * 2 ^ c := by
    rw [← M_two c, hc]
  have e3 : (2 : Nat) ^ 52 * 2 ^ c = 2 ^ X74 := by rw [← Nat.pow_add]; exact congrArg (fun t => 2 ^ t) (by omega)
  rw [e2, e3]

theorem sqrt_zero_rnd (up : Bool) : sqrtK 0 up = 0 := by
  have hP := PI_pos
  refine rnd_eq (cut_sqrt 0) ?_
  have v1 : V 1 = 1 := by decide
  have c0 : cSqrt 0 0 = 0 := by unfold cSqrt; rw [if_neg (by omega), V_zero, Int.zero_mul, Int.zero_mul]; rfl
  have c1 : cSqrt 0 1 = -1 := by unfold cSqrt; rw [if_neg (by omega), V_zero, v1, Int.zero_mul]; rfl
  have cm : cSqrt 0 (-1) = 1 := by unfold cSqrt; rw [if_pos (by omega)]
  cases up
  · exact ⟨by omega, by omega, fun _ => by rw [c0]; omega, fun _ => by rw [show (0 : Int) + 1 = 1 from rfl, c1]; omega⟩
  · exact ⟨by omega, by omega, fun _ => by rw [c0]; omega, fun _ => by rw [show (0 : Int) - 1 = -1 from rfl, cm]; omega⟩

/-- What the fused product gives. -/
theorem fma_rest {c x : Nat} (hc : c < INF) (hx : x < INF) (hp : 537 ≤ plr c) : ∃ r, FloatKind.f64.format.fma (Op.negFloat .f64 c) c x = some r ∧ ¬ nan r ∧ r < 2 ^ 64 ∧
    (0 < key r ↔ M c * M c < M x * 2 ^ X74) ∧ (key r < 0 ↔ M x * 2 ^ X74 < M c * M c) := by
  have hI := INF_eq
  have hc64 : c < 2 ^ 64 := by omega
  have hcl : c < 2 ^ 63 := by omega
  have f := fneg_facts hc64
  have fc : fin c := by unfold fin rung; omega
  have fx : fin x := by unfold fin rung; omega
  have fn : fin (Op.negFloat .f64 c) := by
    have h2 : rung (Op.negFloat .f64 c) = rung c := f.2.1
    unfold fin; rw [h2]; exact fc
  obtain ⟨r, h1, h2, h3, h4⟩ := fma_fin fn fc fx
  refine ⟨r, h1, h2, h3, ?_⟩
  have k1 : key (Op.negFloat .f64 c) = -key c := key_fneg hc64
  rw [k1, key_low hcl, key_low (x := x) (by omega), V_neg, V_nat, V_nat] at h4
  have h5 : Near (key r) (-(M c : Int) * (M c : Int) + ((M x * 2 ^ X74 : Nat) : Int)) E74 := by
    rw [Int.natCast_mul, ← E74_nat]; exact h4
  exact fused_sign (Nat.dvd_mul_left _ _) hp h5

theorem root_real {x : Int} {d : Nat} {X : Nat} (hX : (X : Int) = V x * E74) (h : Root X d) (up : Bool) :
    sqrtK x up = if M d * M d < X ∧ up = true then (d : Int) + 1 else if X < M d * M d ∧ up = false then (d : Int) - 1 else d :=
  rnd_eq (cut_sqrt x) (sqrt_rnd hX h up)

end Go.Fl
