/- The root of a word: the model's root is a neighbour of the real root; what rounded down and up are. -/
import Derived.Test.YteephgpefhodnaaF13
namespace Go.Fl
open Ieee
set_option linter.unusedVariables false

theorem rootFrom_spec (n : Nat) : ∀ todo root, root * root ≤ n → n < (root + 2 ^ todo) * (root + 2 ^ todo) →
    Datum.rootFrom n todo root * Datum.rootFrom n todo root ≤ n ∧ n < (Datum.rootFrom n todo root + 1) * (Datum.rootFrom n todo root + 1) := by
  intro todo
  induction todo with
  | zero => intro root h1 h2; exact ⟨h1, h2⟩
  | succ t ih =>
    intro root h1 h2
    unfold Datum.rootFrom
    simp only [Nat.one_shiftLeft]
    by_cases h : (root + 2 ^ t) * (root + 2 ^ t) ≤ n
    · rw [if_pos h]
      refine ih _ h ?_
      rw [Nat.add_assoc, ← Nat.two_mul, Nat.mul_comm 2, ← Nat.pow_succ]
      exact h2
    · rw [if_neg h]
      exact ih _ h1 (by omega)

theorem isqrt_spec (n : Nat) : Datum.rootFrom n (n.log2 / 2 + 1) 0 * Datum.rootFrom n (n.log2 / 2 + 1) 0 ≤ n ∧ n < (Datum.rootFrom n (n.log2 / 2 + 1) 0 + 1) * (Datum.rootFrom n (n.log2 / 2 + 1) 0 + 1) := by
  refine rootFrom_spec n _ 0 (by omega) ?_
  rw [Nat.zero_add, ← Nat.pow_add]
  exact Nat.lt_of_lt_of_le Nat.lt_log2_self (Nat.pow_le_pow_right (by omega) (by omega))

theorem M_two (c : Nat) : M ((c + 1) * 2 ^ 52) = 2 ^ 52 * 2 ^ c := by
  have := M_at c (2 ^ 52) (.inr (by omega)) (by omega)
  rw [← this]
  exact congrArg M (by omega)

/-- A word's value strictly between two whole numbers of units, where the word is not small. -/
theorem no_between {j P a : Nat} (h0 : 2 ^ 53 * 2 ^ P ≤ M j) (h1 : a * 2 ^ P < M j) (h2 : M j < (a + 1) * 2 ^ P) : False := by
  have hd : 2 ^ P ∣ M j := by
    rw [M_eq] at h0 ⊢
    have hm := mgr_lt j
    rcases Nat.lt_or_ge (plr j) P with h | h
    · exfalso
      have h3 : mgr j * 2 ^ plr j < 2 ^ 53 * 2 ^ plr j := Nat.mul_lt_mul_of_pos_right hm (Nat.two_pow_pos _)
      have h4 : 2 ^ 53 * 2 ^ plr j ≤ 2 ^ 53 * 2 ^ P := Nat.mul_le_mul_left _ (Nat.pow_le_pow_right (by omega) (by omega))
      omega
    · exact Nat.dvd_trans (Nat.pow_dvd_pow 2 h) (Nat.dvd_mul_left _ _)
  obtain ⟨z, hz⟩ := hd
  rw [hz, Nat.mul_comm (2 ^ P)] at h1 h2
  have h3 := Nat.lt_of_mul_lt_mul_right h1
  have h4 := Nat.lt_of_mul_lt_mul_right h2
  omega

theorem sq_lt {a b : Nat} (h : a < b) : a * a < b * b := Nat.mul_lt_mul_of_lt_of_lt h h
theorem sq_le {a b : Nat} (h : a ≤ b) : a * a ≤ b * b := Nat.mul_le_mul h h
theorem lt_of_sq {a b : Nat} (h : a * a < b * b) : a < b := by
  rcases Nat.lt_or_ge a b with h1 | h1
  · exact h1
  · have := sq_le h1; omega

/-- The root's neighbours, from the sticky number. -/
theorem sticky_sq {n w P j : Nat} (h1 : w * w ≤ n) (h2 : n < (w + 1) * (w + 1)) (hw : 2 ^ 53 ≤ w) :
    (M j < (2 * w + (w * w != n).toNat) * 2 ^ P → M j * M j < n * (2 * 2 ^ P) * (2 * 2 ^ P)) ∧
    ((2 * w + (w * w != n).toNat) * 2 ^ P < M j → n * (2 * 2 ^ P) * (2 * 2 ^ P) < M j * M j) := by
  have hp : 0 < 2 ^ P := Nat.two_pow_pos P
  have e : ∀ z : Nat, z * (2 * 2 ^ P) * (z * (2 * 2 ^ P)) = z * z * (2 * 2 ^ P) * (2 * 2 ^ P) := by
    intro z; simp only [Nat.mul_assoc, Nat.mul_left_comm, Nat.mul_comm]
  have e2 : ∀ z : Nat, 2 * z * 2 ^ P = z * (2 * 2 ^ P) := by
    intro z; rw [Nat.mul_comm 2 z, Nat.mul_assoc]
  have hpp : 0 < 2 * 2 ^ P := by omega
  by_cases hx : w * w = n
  · have hb : (w * w != n) = false := by rw [hx]; simp
    rw [hb]
    simp only [Bool.toNat_false, Nat.add_zero]
    rw [e2, ← hx, ← e]
    exact ⟨fun h => sq_lt h, fun h => sq_lt h⟩
  · have hb : (w * w != n) = true := by simp [hx]
    rw [hb]
    simp only [Bool.toNat_true]
    have g0 : 2 ^ 53 * 2 ^ P ≤ 2 * w * 2 ^ P := Nat.mul_le_mul_right _ (by omega)
    constructor
    · intro h
      have h3 : M j ≤ 2 * w * 2 ^ P := by
        rcases Nat.lt_or_ge (2 * w * 2 ^ P) (M j) with g | g
        · exact absurd (no_between (by omega) g h) id
        · exact g
      rw [e2] at h3
      refine Nat.lt_of_le_of_lt (sq_le h3) ?_
      rw [e]
      exact Nat.mul_lt_mul_of_pos_right (Nat.mul_lt_mul_of_pos_right (by omega) hpp) hpp
    · intro h
      have h3 : (2 * w + 1 + 1) * 2 ^ P ≤ M j := by
        rcases Nat.lt_or_ge (M j) ((2 * w + 1 + 1) * 2 ^ P) with g | g
        · have g1 : 2 ^ 53 * 2 ^ P ≤ (2 * w + 1) * 2 ^ P := Nat.mul_le_mul_right _ (by omega)
          exact absurd (no_between (by omega) h g) id
        · exact g
      rw [show 2 * w + 1 + 1 = 2 * (w + 1) by omega, e2] at h3
      refine Nat.lt_of_lt_of_le ?_ (sq_le h3)
      rw [e]
      exact Nat.mul_lt_mul_of_pos_right (Nat.mul_lt_mul_of_pos_right h2 hpp) hpp

/-- What is shown of a root: its neighbours; that it is not small. -/
def Root (X c : Nat) : Prop := 0 < c ∧ c + 1 < INF ∧ M (c - 1) * M (c - 1) < X ∧ X < M (c + 1) * M (c + 1)

theorem key_zero_of {x : Nat} (h : M (rung x) ≠ 0) : rung x ≠ 0 := by
  intro h0; rw [h0, M_zero] at h; exact h rfl

theorem sqrt_fin {x : Nat} (hx : fin x) (hn : neg x = false) (hb : 2 ^ 174 ≤ M (rung x)) :
    ∃ c : Nat, FloatKind.f64.format.sqrt x = some c ∧ Root (M (rung x) * 2 ^ X74) c ∧ 537 ≤ plr c := by
  have hX := X74_eq
  have hI := INF_eq
  rw [fmt]
  unfold Format.sqrt
  rw [read_fin hx, hn]
  have hfb : double.fractionBits + 2 = 54 := by decide
  rw [hfb]
  have hM : M (rung x) = mag x * 2 ^ pl x := (mag_pl x).symm
  have hmg : mag x = mgr (rung x) := rfl
  have hpl : pl x = plr (rung x) := rfl
  have hm53 : mag x < 2 ^ 53 := by rw [hmg]; exact mgr_lt _
  have hpl1 : 122 ≤ pl x := by
    rcases Nat.lt_or_ge (pl x) 122 with h | h
    · exfalso
      rw [hM] at hb
      have h1 : mag x * 2 ^ pl x < 2 ^ 53 * 2 ^ pl x := Nat.mul_lt_mul_of_pos_right hm53 (Nat.two_pow_pos _)
      have h2 : (2 : Nat) ^ 53 * 2 ^ pl x ≤ 2 ^ 174 := by rw [← Nat.pow_add]; exact Nat.pow_le_pow_right (by omega) (by omega)
      exact absurd (Nat.lt_of_lt_of_le h1 (Nat.le_trans h2 hb)) (Nat.lt_irrefl _)
    · exact h
  have hm52 : 2 ^ 52 ≤ mag x := by rw [hmg]; exact mgr_ge (by rw [← hpl]; omega)
  have hlog : (mag x).log2 = 52 := by
    have h1 : (mag x).log2 < 53 := (Nat.log2_lt (by omega)).2 hm53
    have h2 : 52 ≤ (mag x).log2 := (Nat.le_log2 (by omega)).2 hm52
    omega
  have hrI : rung x < INF := hx
  generalize hm : mag x = m at *
  generalize hp : pl x = p at *
  unfold Datum.root
  simp only
  rw [if_neg (by omega), if_neg (by decide), hlog]
  obtain ⟨more, hmore⟩ : ∃ more, more = 2 * 54 - 52 + (((p : Int) - 1074 - ((2 * 54 - 52 : Nat) : Int)) % 2).toNat := ⟨_, rfl⟩
  rw [← hmore]
  have hmore2 : 56 ≤ more ∧ more ≤ 57 ∧ ((p : Int) - 1074 - more) % 2 = 0 := by omega
  obtain ⟨q, hq⟩ : ∃ q : Int, q = ((p : Int) - 1074 - more) / 2 - 1 := ⟨_, rfl⟩
  rw [← hq, Nat.shiftLeft_eq]
  clear hmore
  obtain ⟨n, hn2⟩ : ∃ n, n = m * 2 ^ more := ⟨_, rfl⟩
  rw [← hn2]
  obtain ⟨s1, s2⟩ := isqrt_spec n
  generalize Datum.rootFrom n (n.log2 / 2 + 1) 0 = w at *
  have hnb : 2 ^ 54 * 2 ^ 54 ≤ n := by
    rw [hn2]
    have h1 : (2 : Nat) ^ 52 * 2 ^ 56 ≤ m * 2 ^ more := Nat.mul_le_mul hm52 (Nat.pow_le_pow_right (by omega) (by omega))
    exact Nat.le_trans (by decide) h1
  have hw : 2 ^ 53 ≤ w := by
    have h1 : 2 ^ 54 < w + 1 := lt_of_sq (Nat.lt_of_le_of_lt hnb s2)
    omega
  have hst := fun P j => sticky_sq (P := P) (j := j) s1 s2 hw
  obtain ⟨st, hste⟩ : ∃ st, st = 2 * w + (w * w != n).toNat := ⟨_, rfl⟩
  rw [← hste] at hst ⊢
  have hst2 : 2 ^ 54 ≤ st := by omega
  obtain ⟨r1, r2, r3, r4⟩ := write_near false st q (by omega)
  refine ⟨_, rfl, ?_⟩
  show Root _ (double.nearest false st q) ∧ 537 ≤ plr (double.nearest false st q)
  generalize double.nearest false st q = c at *
  obtain ⟨P, hP⟩ : ∃ P, P = (q + 1074).toNat := ⟨_, rfl⟩
  rw [← hP, show (-(q + 1074)).toNat = 0 by omega] at r4
  have hP2 : 538 ≤ P := by omega
  have r4 : Near (key c) ((st * 2 ^ P : Nat) : Int) 1 := by simpa using r4
  have hV : M (rung x) * 2 ^ X74 = n * (2 * 2 ^ P) * (2 * 2 ^ P) := by
    rw [hM, hn2]
    have e1 : ∀ z : Nat, z * (2 * 2 ^ P) * (2 * 2 ^ P) = z * 2 ^ (P + 1 + (P + 1)) := by
      intro z
      rw [show 2 * 2 ^ P = 2 ^ (P + 1) by rw [Nat.pow_succ, Nat.mul_comm], Nat.mul_assoc, ← Nat.pow_add]
    rw [e1, Nat.mul_assoc, Nat.mul_assoc, ← Nat.pow_add, ← Nat.pow_add]
    exact congrArg (fun t => m * 2 ^ t) (by omega)
  have hst3 := hst P
  rw [← hV] at hst3
  clear hst hste hmore2 hnb s1 s2 hlog hm52 hm53 hmg hpl hm hp
  obtain ⟨_, n2, n3⟩ := r4
  have hup : 0 < 2 ^ P := Nat.two_pow_pos P
  have hNp : 2 ^ 54 * 2 ^ P ≤ st * 2 ^ P := Nat.mul_le_mul_right _ hst2
  have hk0 : 0 < key c := by
    rcases Int.lt_or_le 0 (key c) with h | h
    · exact h
    · exfalso
      have := (n3 1 (by omega) (by omega)).2 (by omega)
      have e1 : V 1 = 1 := by decide
      rw [e1] at this
      omega
  obtain ⟨c1, c2⟩ := key_pos (show Wd c from r3) hk0
  rw [c2] at n2 n3 hk0
  have hc0 : 0 < c := by omega
  have hcI : c ≤ INF := by omega
  have lo : M (c - 1) < st * 2 ^ P := by
    have := (n3 ((c - 1 : Nat) : Int) (by omega) (by omega)).1 (by omega)
    rw [V_nat] at this
    omega
  have lo2 := (hst3 (c - 1)).1 lo
  have xI : M (rung x) ≤ M (INF - 1) := M_le (by omega)
  have hc1 : c + 1 < INF := by
    rcases Nat.lt_or_ge (c + 1) INF with h | h
    · exact h
    · exfalso
      have g1 : M (INF - 2) ≤ M (c - 1) := M_le (by omega)
      have g2 : M (INF - 2 + 1) = M (INF - 2) + ulp (INF - 2) := M_succ _
      have g3 : ulp (INF - 2) ≤ M (INF - 2) := by
        rw [M_eq, ulp_eq]
        have := mgr_ge (r := INF - 2) (by rw [hI]; decide)
        exact Nat.le_mul_of_pos_left _ (by omega)
      rw [show INF - 2 + 1 = INF - 1 by omega] at g2
      have g4 : 2 * 2 ^ X74 ≤ M (INF - 2) := by
        obtain ⟨d, hd⟩ : ∃ d, d = 1023 := ⟨_, rfl⟩
        have := M_two d
        have h2 : M ((d + 1) * 2 ^ 52) ≤ M (INF - 2) := M_le (by omega)
        have h3 : 2 * 2 ^ X74 = 2 ^ 52 * 2 ^ d := by
          rw [← Nat.pow_add, Nat.mul_comm, ← Nat.pow_succ]; exact congrArg (fun t => 2 ^ t) (by omega)
        omega
      have g5 : M (INF - 2) * M (INF - 2) < 2 * M (INF - 2) * 2 ^ X74 := by
        refine Nat.lt_of_le_of_lt (sq_le g1) (Nat.lt_of_lt_of_le lo2 ?_)
        exact Nat.mul_le_mul_right _ (by omega)
      rw [Nat.mul_comm 2, Nat.mul_assoc] at g5
      have := Nat.lt_of_mul_lt_mul_left g5
      omega
  have hi : st * 2 ^ P < M (c + 1) := by
    have := (n3 ((c + 1 : Nat) : Int) (by omega) (by omega)).2 (by omega)
    rw [V_nat] at this
    omega
  refine ⟨⟨hc0, hc1, lo2, (hst3 (c + 1)).2 hi⟩, ?_⟩
  rcases Nat.lt_or_ge (plr c) 537 with h | h
  · exfalso
    rw [M_succ, ulp_eq, M_eq] at hi
    have h1 : mgr c * 2 ^ plr c + 2 ^ plr c = (mgr c + 1) * 2 ^ plr c := by rw [Nat.add_mul, Nat.one_mul]
    have h2 : (mgr c + 1) * 2 ^ plr c ≤ 2 ^ 53 * 2 ^ plr c := Nat.mul_le_mul_right _ (mgr_lt c)
    have h3 : (2 : Nat) ^ 53 * 2 ^ plr c ≤ 2 ^ 54 * 2 ^ P := Nat.mul_le_mul (by decide) (Nat.pow_le_pow_right (by omega) (by omega))
    omega
  · exact h

/-- The root rounded. -/
theorem sqrt_rnd {x : Int} {c : Nat} {X : Nat} (hX : (X : Int) = V x * E74) (h : Root X c) (up : Bool) :
    Rnd up (cSqrt x) (if M c * M c < X ∧ up = true then (c : Int) + 1 else if X < M c * M c ∧ up = false then (c : Int) - 1 else c) := by
  obtain ⟨h0, h1, h2, h3⟩ := h
  have hI := PI_INF
  have hc : ∀ k : Nat, cSqrt x (k : Int) = (X : Int) - ((M k * M k : Nat) : Int) := by
    intro k
    unfold cSqrt
    rw [if_neg (by omega), ← hX, V_nat, Int.natCast_mul]
  have e1 : (c : Int) + 1 = ((c + 1 : Nat) : Int) := by omega
  have e2 : (c : Int) - 1 = ((c - 1 : Nat) : Int) := by omega
  have g0 := hc c
  have g1 := hc (c + 1)
  have g2 := hc (c - 1)
  cases up
  · rw [if_neg (by simp)]
    by_cases hn : X < M c * M c
    · rw [if_pos ⟨hn, rfl⟩]
      refine ⟨by omega, by omega, fun _ => by rw [e2, g2]; omega, fun _ => ?_⟩
      rw [show (c : Int) - 1 + 1 = c by omega, g0]; omega
    · rw [if_neg (by intro hh; exact hn hh.1)]
      refine ⟨by omega, by omega, fun _ => by rw [g0]; omega, fun _ => by rw [e1, g1]; omega⟩
  · by_cases hn : M c * M c < X
    · rw [if_pos ⟨hn, rfl⟩]
      refine ⟨by omega, by omega, fun _ => by rw [e1, g1]; omega, fun _ => ?_⟩
      rw [show (c : Int) + 1 - 1 = c by omega, g0]; omega
    · rw [if_neg (by intro hh; exact hn hh.1), if_neg (by simp)]
      refine ⟨by omega, by omega, fun _ => by rw [g0]; omega, fun _ => by rw [e2, g2]; omega⟩

/-- The fused rest has the sign of what is missing. -/
theorem fused_sign {r : Int} {X c : Nat} (hX : 2 ^ X74 ∣ X) (hc : 537 ≤ plr c) (h : Near r (-((M c : Int)) * (M c : Int) + X) E74) : (0 < r ↔ M c * M c < X) ∧ (r < 0 ↔ X < M c * M c) := by
  have hXe := X74_eq
  have hd : 2 ^ X74 ∣ M c * M c := by
    rw [M_eq, Nat.mul_mul_mul_comm, ← Nat.pow_add]
    exact Nat.dvd_trans (Nat.pow_dvd_pow 2 (by omega)) (Nat.dvd_mul_left _ _)
  obtain ⟨a, ha⟩ := hX
  obtain ⟨b, hb⟩ := hd
  have hp : 0 < 2 ^ X74 := Nat.two_pow_pos X74
  have hE := E74_nat
  have e : -((M c : Int)) * (M c : Int) + X = (2 ^ X74 : Nat) * ((a : Int) - b) := by
    rw [Int.neg_mul, ← Int.natCast_mul, hb, ha, Int.natCast_mul, Int.natCast_mul, Int.mul_sub]
    omega
  rw [e, hE] at h
  obtain ⟨h1, h2, h3⟩ := h
  have hI : (1 : Int) < INF := by decide
  have v0 := h3 0 (by omega) (by omega)
  have v1 := h3 1 (by omega) (by omega)
  have w1 := h3 (-1) (by omega) (by omega)
  have e1 : V 1 = 1 := by decide
  have e2 : V (-1) = -1 := by decide
  rw [V_zero, Int.zero_mul] at v0
  rw [e1, Int.one_mul] at v1
  rw [e2] at w1
  rw [hb, ha]
  clear e hb ha
  generalize hu : 2 ^ X74 = u at *
  have k1 : u * b < u * a ↔ b < a := ⟨fun h => Nat.lt_of_mul_lt_mul_left h, fun h => Nat.mul_lt_mul_of_pos_left h hp⟩
  have k2 : u * a < u * b ↔ a < b := ⟨fun h => Nat.lt_of_mul_lt_mul_left h, fun h => Nat.mul_lt_mul_of_pos_left h hp⟩
  rw [k1, k2]
  have hup : (0 : Int) < u := by omega
  have pos : ∀ z : Int, 0 < z → (u : Int) ≤ u * z := fun z hz => by
    have := Int.mul_le_mul_of_nonneg_left (show (1 : Int) ≤ z by omega) (Int.le_of_lt hup)
    omega
  have neg : ∀ z : Int, z < 0 → (u : Int) * z ≤ -u := fun z hz => by
    have := Int.mul_le_mul_of_nonneg_left (show z ≤ (-1 : Int) by omega) (Int.le_of_lt hup)
    omega
  have zr : (u : Int) * 0 = 0 := Int.mul_zero _
  rcases Int.lt_trichotomy ((a : Int) - b) 0 with g | g | g
  · have := neg _ g
    refine ⟨⟨fun h => ?_, fun h => by omega⟩, ⟨fun h => by omega, fun h => ?_⟩⟩
    · have := v0.1 h; omega
    · rcases Int.lt_or_le r 0 with g2 | g2
      · exact g2
      · have := w1.1 (by omega); omega
  · rw [g, zr] at v0
    refine ⟨⟨fun h => ?_, fun h => by omega⟩, ⟨fun h => ?_, fun h => by omega⟩⟩
    · have := v0.1 h; omega
    · have := v0.2 h; omega
  · have := pos _ g
    refine ⟨⟨fun h => by omega, fun h => ?_⟩, ⟨fun h => ?_, fun h => by omega⟩⟩
    · rcases Int.lt_or_le 0 r with g2 | g2
      · exact g2
      · have := v1.2 (by omega); omega
    · have := v0.2 h; omega

/-- The root of what is 2^200 times as great, scaled back. -/
theorem root_scale {X c s : Nat} (hs : s = 100) (hp : 537 ≤ plr c) (h : Root (X * (2 ^ s * 2 ^ s)) c) : ∃ d, c = d + s * 2 ^ 52 ∧ Root X d ∧ (M c * M c < X * (2 ^ s * 2 ^ s) ↔ M d * M d < X) ∧ (X * (2 ^ s * 2 ^ s) < M c * M c ↔ X < M d * M d) ∧ 2 ^ 53 ≤ d := by
  obtain ⟨h0, h1, h2, h3⟩ := h
  have hd : 200 * 2 ^ 52 ≤ c := by unfold plr at hp; omega
  obtain ⟨d, rfl⟩ : ∃ d, c = d + s * 2 ^ 52 := ⟨c - s * 2 ^ 52, by omega⟩
  have hM : ∀ z, 2 ^ 52 ≤ z → M (z + s * 2 ^ 52) * M (z + s * 2 ^ 52) = M z * M z * (2 ^ s * 2 ^ s) := by
    intro z hz
    rw [M_binades hz, Nat.mul_mul_mul_comm]
  rw [show d + s * 2 ^ 52 - 1 = d - 1 + s * 2 ^ 52 by omega, hM _ (by omega)] at h2
  rw [show d + s * 2 ^ 52 + 1 = d + 1 + s * 2 ^ 52 by omega, hM _ (by omega)] at h3
  rw [hM d (by omega)]
  have hq : 0 < 2 ^ s * 2 ^ s := Nat.mul_pos (Nat.two_pow_pos _) (Nat.two_pow_pos _)
  generalize 2 ^ s * 2 ^ s = u at *
  exact ⟨d, rfl, ⟨by omega, by omega, Nat.lt_of_mul_lt_mul_right h2, Nat.lt_of_mul_lt_mul_right h3⟩, ⟨fun h => Nat.lt_of_mul_lt_mul_right h, fun h => Nat.mul_lt_mul_of_pos_right h hq⟩, ⟨fun h => Nat.lt_of_mul_lt_mul_right h, fun h => Nat.mul_lt_mul_of_pos_right h hq⟩, by omega⟩

end Go.Fl
