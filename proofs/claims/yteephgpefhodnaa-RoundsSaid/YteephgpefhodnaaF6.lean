/- What rounded down and rounded up are; that the first difference of a sum is exact. -/
import Derived.Test.YteephgpefhodnaaF5
namespace Go.Fl
set_option linter.unusedVariables false

/-! Magnitudes as a whole number times a power of two. -/
def mgr (r : Nat) : Nat := if r < 2 ^ 52 then r else 2 ^ 52 + r % 2 ^ 52
def plr (r : Nat) : Nat := r / 2 ^ 52 - 1
theorem M_eq (r : Nat) : M r = mgr r * 2 ^ plr r := by
  unfold mgr plr M
  by_cases h : r < 2 ^ 52
  · rw [if_pos h, if_pos h, show r / 2 ^ 52 = 0 by omega]; simp
  · rw [if_neg h, if_neg h]
theorem mgr_lt (r : Nat) : mgr r < 2 ^ 53 := by unfold mgr; split <;> omega
theorem mgr_ge {r : Nat} (h : 0 < plr r) : 2 ^ 52 ≤ mgr r := by unfold mgr; unfold plr at h; split <;> omega
theorem plr_le {r s : Nat} (h : r ≤ s) : plr r ≤ plr s := by
  unfold plr
  have := Nat.div_le_div_right (c := 2 ^ 52) h
  omega
theorem plr_fin {r : Nat} (h : r < INF) : plr r ≤ 2045 := by
  have h0 := INF_eq
  unfold plr; omega
theorem ulp_eq (r : Nat) : ulp r = 2 ^ plr r := rfl

/-- A whole number of at most 53 digits, times a power of two, is the magnitude of a rung. -/
theorem rep_key (l : Nat) : ∀ m, m ≤ 2 ^ 53 → ∃ r, M r = m * 2 ^ l := by
  induction l with
  | zero => intro m h; exact ⟨m, by have := M_at 0 m (.inl rfl) h; simpa using this⟩
  | succ l ih =>
    intro m h
    by_cases h2 : 2 ^ 52 ≤ m
    · exact ⟨_, M_at (l + 1) m (.inr h2) h⟩
    · obtain ⟨r, hr⟩ := ih (2 * m) (by omega)
      refine ⟨r, ?_⟩
      rw [hr, show 2 ^ (l + 1) = 2 ^ l * 2 from Nat.pow_succ _ _]
      generalize 2 ^ l = u
      rw [Nat.mul_comm u, ← Nat.mul_assoc, Nat.mul_comm 2]

theorem V_abs (k : Int) : (V k).natAbs = M k.natAbs := by
  unfold V
  split
  · rw [show k.natAbs = k.toNat by omega]; omega
  · rw [show k.natAbs = (-k).toNat by omega]; omega
theorem dvd_V {k : Int} {p : Nat} (h : p ≤ plr k.natAbs) : ((2 ^ p : Nat) : Int) ∣ V k := by
  rw [← Int.dvd_natAbs, V_abs, M_eq]
  exact Int.natCast_dvd_natCast.2 (Nat.dvd_trans (Nat.pow_dvd_pow 2 h) (Nat.dvd_mul_left _ _))

theorem INF_M (c : Nat) (hc : c = 2044) : M INF = 2 ^ 52 * (2 ^ c * 4) := by
  rw [M_eq]
  have e : mgr INF = 2 ^ 52 := by decide
  have e2 : plr INF = c + 2 := by rw [hc]; decide
  rw [e, e2, Nat.pow_add]
theorem dvd_le {d : Int} {u n : Nat} (h : ((u : Nat) : Int) ∣ d) (hb : d.natAbs < (n + 1) * u) : d.natAbs ≤ n * u := by
  have h' : u ∣ d.natAbs := Int.ofNat_dvd_left.1 h
  obtain ⟨q, hq⟩ := h'
  rw [hq] at hb ⊢
  rw [Nat.mul_comm (n + 1)] at hb
  have := Nat.lt_of_mul_lt_mul_left hb
  rw [Nat.mul_comm n]
  exact Nat.mul_le_mul_left _ (by omega)

/-- Where a rounded value is not exact: the rungs on both sides. -/
theorem between {s N : Int} (h : Near s N 1) (h1 : -(INF : Int) < s) (h2 : s < INF) (hne : N ≠ V s) :
    ∃ a : Nat, a < INF ∧ (M a : Int) < N.natAbs ∧ (N.natAbs : Int) < M a + ulp a ∧ ((ulp a : Nat) : Int) ∣ V s ∧ (V s - N).natAbs < ulp a := by
  obtain ⟨_, _, hj⟩ := h
  rcases Int.lt_trichotomy N (V s) with g | g | g
  · -- the value is above
    have hlo := (hj (s - 1) (by omega) (by omega)).1 (by omega)
    rw [Int.mul_one] at hlo
    by_cases hs : 0 < s
    · refine ⟨(s - 1).toNat, by omega, ?_⟩
      have e0 : V (s - 1) = M (s - 1).toNat := by rw [← V_nat]; congr 1; omega
      have e1 : V s = ((M (s - 1).toNat + ulp (s - 1).toNat : Nat) : Int) := by rw [← M_succ, ← V_nat]; congr 1; omega
      have e2 := dvd_V (k := s) (p := plr (s - 1).toNat) (plr_le (by omega))
      rw [← ulp_eq] at e2
      exact ⟨by omega, by omega, e2, by omega⟩
    · refine ⟨(-s).toNat, by omega, ?_⟩
      have e0 : V s = -(M (-s).toNat : Int) := by rw [← V_nat, ← V_neg]; congr 1; omega
      have e1 : V (s - 1) = -((M (-s).toNat + ulp (-s).toNat : Nat) : Int) := by rw [← M_succ, ← V_nat, ← V_neg]; congr 1; omega
      have e2 := dvd_V (k := s) (p := plr (-s).toNat) (plr_le (by omega))
      rw [← ulp_eq] at e2
      exact ⟨by omega, by omega, e2, by omega⟩
  · exact absurd g hne
  · have hhi := (hj (s + 1) (by omega) (by omega)).2 (by omega)
    rw [Int.mul_one] at hhi
    by_cases hs : 0 ≤ s
    · refine ⟨s.toNat, by omega, ?_⟩
      have e0 : V s = M s.toNat := by rw [← V_nat]; congr 1; omega
      have e1 : V (s + 1) = ((M s.toNat + ulp s.toNat : Nat) : Int) := by rw [← M_succ, ← V_nat]; congr 1; omega
      have e2 := dvd_V (k := s) (p := plr s.toNat) (plr_le (by omega))
      rw [← ulp_eq] at e2
      exact ⟨by omega, by omega, e2, by omega⟩
    · refine ⟨(-s - 1).toNat, by omega, ?_⟩
      have e0 : V (s + 1) = -(M (-s - 1).toNat : Int) := by rw [← V_nat, ← V_neg]; congr 1; omega
      have e1 : V s = -((M (-s - 1).toNat + ulp (-s - 1).toNat : Nat) : Int) := by rw [← M_succ, ← V_nat, ← V_neg]; congr 1; omega
      have e2 := dvd_V (k := s) (p := plr (-s - 1).toNat) (plr_le (by omega))
      rw [← ulp_eq] at e2
      exact ⟨by omega, by omega, e2, by omega⟩

/-- A multiple of a power of two that is not too great is a word's value. -/
theorem rep_int {d : Int} {p : Nat} (hd : ((2 ^ p : Nat) : Int) ∣ d) (hb : d.natAbs ≤ 2 ^ 53 * 2 ^ p) (hp : p ≤ 2044) : ∃ t : Int, -(INF : Int) < t ∧ t < INF ∧ V t = d := by
  obtain ⟨n, hn⟩ := Int.ofNat_dvd_left.1 hd
  have hpos : 0 < 2 ^ p := Nat.two_pow_pos p
  rw [Nat.mul_comm] at hn
  have hn2 : n ≤ 2 ^ 53 := by
    rw [hn] at hb
    exact Nat.le_of_mul_le_mul_right hb hpos
  obtain ⟨r, hr⟩ := rep_key p n hn2
  have hlt : M r < M INF := by
    obtain ⟨c, hc⟩ : ∃ c : Nat, c = 2044 := ⟨_, rfl⟩
    rw [hr, INF_M c hc]
    have e1 : n * 2 ^ p ≤ 2 ^ 53 * 2 ^ c := Nat.mul_le_mul hn2 (Nat.pow_le_pow_right (by omega) (by omega))
    have e3 : 0 < (2 : Nat) ^ c := Nat.two_pow_pos _
    generalize (2 : Nat) ^ c = u at *
    omega
  have hrI := M_lt_iff.1 hlt
  by_cases hs : 0 ≤ d
  · exact ⟨r, by omega, by omega, by rw [V_nat]; omega⟩
  · exact ⟨-(r : Int), by omega, by omega, by rw [V_neg, V_nat]; omega⟩

/-- THE FIRST DIFFERENCE OF A SUM IS EXACT: s a neighbour of x + y, x not the lesser in size: s - x is a word's value. -/
theorem first_exact {x y s : Int} (hx : x.natAbs < INF) (hy : y.natAbs ≤ x.natAbs) (h : Near s (V x + V y) 1) (h1 : -(INF : Int) < s) (h2 : s < INF) :
    ∃ t : Int, -(INF : Int) < t ∧ t < INF ∧ V t = V s - V x := by
  by_cases hne : V x + V y = V s
  · exact ⟨y, by omega, by omega, by omega⟩
  · obtain ⟨a, ha, b1, b2, b3, b4⟩ := between h h1 h2 hne
    rw [ulp_eq] at b2 b3 b4
    have hpa := plr_fin ha
    have hpxy := plr_le hy
    -- what x and y are made of
    have ax := V_abs x
    have ay := V_abs y
    rw [M_eq] at ax ay
    have mx := mgr_lt x.natAbs
    have my := mgr_lt y.natAbs
    have hMa := M_eq a
    have hMxy : (V y).natAbs ≤ (V x).natAbs := by rw [V_abs, V_abs]; exact M_le hy
    have hga := fun h => mgr_ge (r := a) h
    have dx := fun p (hp : p ≤ plr x.natAbs) => dvd_V (k := x) hp
    have dy := fun p (hp : p ≤ plr y.natAbs) => dvd_V (k := y) hp
    generalize plr x.natAbs = px at *
    generalize plr y.natAbs = py at *
    generalize plr a = pu at *
    -- y is made of lesser units than the sum's
    have c1 : py < pu := by
      rcases Nat.lt_or_ge py pu with g | g
      · exact g
      · exfalso
        have dN : ((2 ^ pu : Nat) : Int) ∣ V x + V y := Int.dvd_add (dx pu (by omega)) (dy pu g)
        have dd : ((2 ^ pu : Nat) : Int) ∣ V s - (V x + V y) := Int.dvd_sub b3 dN
        have := Int.eq_zero_of_dvd_of_natAbs_lt_natAbs dd (by omega)
        omega
    have c2 : pu ≤ px + 1 := by
      rcases Nat.lt_or_ge (px + 1) pu with g | g
      · exfalso
        have e1 := hga (by omega)
        have e2 : 2 ^ 52 * 2 ^ (px + 2) ≤ M a := by rw [hMa]; exact Nat.mul_le_mul e1 (Nat.pow_le_pow_right (by omega) g)
        have e3 : (V x).natAbs ≤ 2 ^ 53 * 2 ^ px := by rw [ax]; exact Nat.mul_le_mul_right _ (by omega)
        have e4 : (2 : Nat) ^ (px + 2) = 2 ^ px * 4 := Nat.pow_add 2 px 2
        rw [e4] at e2
        generalize (2 : Nat) ^ px = v at *
        omega
      · exact g
    have e5 : (V y).natAbs ≤ (2 ^ 53 - 1) * 2 ^ py := by rw [ay]; exact Nat.mul_le_mul_right _ (by omega)
    rcases Nat.lt_or_ge px pu with g | g
    · obtain rfl : pu = px + 1 := by omega
      have e6 : (2 : Nat) ^ (px + 1) = 2 ^ px * 2 := Nat.pow_succ _ _
      have e7 : (V y).natAbs ≤ (2 ^ 53 - 1) * 2 ^ px := Nat.le_trans e5 (Nat.mul_le_mul_left _ (Nat.pow_le_pow_right (by omega) (by omega)))
      have d1 : ((2 ^ px : Nat) : Int) ∣ V s - V x := Int.dvd_sub (Int.dvd_trans (Int.natCast_dvd_natCast.2 (Nat.pow_dvd_pow 2 (by omega))) b3) (dx px (Nat.le_refl _))
      rw [e6] at b4
      refine rep_int d1 (dvd_le d1 ?_) (by omega)
      generalize (2 : Nat) ^ px = v at *
      omega
    · have e6 : (2 : Nat) ^ pu = 2 ^ (pu - 1) * 2 := by rw [← Nat.pow_succ]; congr 1; omega
      have e7 : (V y).natAbs ≤ (2 ^ 53 - 1) * 2 ^ (pu - 1) := Nat.le_trans e5 (Nat.mul_le_mul_left _ (Nat.pow_le_pow_right (by omega) (by omega)))
      have d1 : ((2 ^ pu : Nat) : Int) ∣ V s - V x := Int.dvd_sub b3 (dx pu g)
      have hlt : (V s - V x).natAbs ≤ 2 ^ 52 * 2 ^ pu := by
        refine dvd_le d1 ?_
        rw [e6] at b4 ⊢
        generalize (2 : Nat) ^ (pu - 1) = v at *
        omega
      refine rep_int (p := pu - 1) (Int.dvd_trans (Int.natCast_dvd_natCast.2 (Nat.pow_dvd_pow 2 (by omega))) d1) ?_ (by omega)
      rw [e6] at hlt
      generalize (2 : Nat) ^ (pu - 1) = v at *
      omega

end Go.Fl
