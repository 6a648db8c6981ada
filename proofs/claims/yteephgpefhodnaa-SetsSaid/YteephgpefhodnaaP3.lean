/- Plain laws of the operations on intervals: lesser intervals give lesser results; what they give is an interval. -/
import Derived.Test.YteephgpefhodnaaP2
import Derived.Test.YteephgpefhodnaaK1
namespace Go.Proofs.Yteephgpefhodnaa
open Go.RowKit Go.Sort Go.Fl
set_option linter.unusedSimpArgs false
set_option linter.unusedVariables false

theorem nrm_of {p q : Int} (h : Iv p q) : nrmLo p q = p ∧ nrmHi p q = q := by
  unfold nrmLo nrmHi
  rw [if_pos h.2.2, if_pos h.2.2]; exact ⟨rfl, rfl⟩
theorem NE_pt {x : Int} (h : Fi x) : NE x x := ⟨h.rg, h.rg, Int.le_refl _, h.2, h.1⟩
theorem NE.pick {A B : Int} (h : NE A B) : ∃ x, Fi x ∧ A ≤ x ∧ x ≤ B := by
  have hP := PI_pos
  obtain ⟨r1, r2, h1, h2, h3⟩ := h
  unfold Rg at r1 r2
  by_cases hA : A = -PI
  · by_cases hB : B = PI
    · exact ⟨0, fi_zero, by omega, by omega⟩
    · exact ⟨B, ⟨by omega, by omega⟩, by omega, by omega⟩
  · exact ⟨A, ⟨by omega, by omega⟩, by omega, by omega⟩
theorem endK_two {o x y : Int} (ho : o = 6 ∨ o = 8 ∨ o = 9) (hy : o = 9 → y ≠ 0) : endK o x y false ≤ endK o x y true := by
  unfold endK
  split
  · obtain ⟨c, hc, e⟩ := cut_round o x y hy (by omega)
    rw [e, e]; exact (rnd_two hc).1
  · exact Int.le_refl _
theorem endK_fi_lt {o x y : Int} (ho : o = 6 ∨ o = 8 ∨ o = 9) (hy : o = 9 → y ≠ 0) (hx : Fi x) (hy2 : Fi y) : endK o x y false < PI ∧ -PI < endK o x y true := by
  obtain ⟨c, hc, e⟩ := cut_round o x y hy (by omega)
  rw [endK_fi hx hy2, endK_fi hx hy2, e, e]
  exact ⟨(low_lt c).1, (high_gt c).1⟩

/-! ## Floor -/
theorem floor_case {k : Int} (h : Rg k) : (k = PI ∧ floorK k = PI) ∨ (k = -PI ∧ floorK k = -PI) ∨ (Fi k ∧ E74 ∣ V (floorK k) ∧ V (floorK k) ≤ V k ∧ V k < V (floorK k) + E74) := by
  obtain ⟨h1, h2⟩ := h
  by_cases a : k = PI
  · rw [a]; exact .inl ⟨rfl, floor_PI⟩
  by_cases b : k = -PI
  · rw [b]; exact .inr (.inl ⟨rfl, floor_MI⟩)
  have f : Fi k := ⟨by omega, by omega⟩
  exact .inr (.inr ⟨f, (floor_facts f.1 f.2).2.2⟩)
theorem floor_le {k : Int} (h : Rg k) : floorK k ≤ k := by
  rcases floor_case h with ⟨a, b⟩ | ⟨a, b⟩ | ⟨a, b, c, d⟩
  · omega
  · omega
  · exact V_le_iff.1 c
theorem dvd_lt {E a b : Int} (hE : 0 < E) (ha : E ∣ a) (hb : E ∣ b) (h : a < b + E) : a ≤ b := by
  obtain ⟨s, rfl⟩ := ha
  obtain ⟨t, rfl⟩ := hb
  have : E * s < E * (t + 1) := by rw [Int.mul_add, Int.mul_one]; exact h
  have := Int.lt_of_mul_lt_mul_left this (Int.le_of_lt hE)
  exact Int.mul_le_mul_of_nonneg_left (by omega) (Int.le_of_lt hE)
theorem floor_mono {j k : Int} (hj : Rg j) (hk : Rg k) (h : j ≤ k) : floorK j ≤ floorK k := by
  have r1 := floorK_rg hj
  have r2 := floorK_rg hk
  unfold Rg at *
  rcases floor_case hj with ⟨a, b⟩ | ⟨a, b⟩ | ⟨a, b, c, d⟩
  · rcases floor_case hk with ⟨a', b'⟩ | ⟨a', b'⟩ | ⟨a', b', c', d'⟩ <;> (try unfold Fi at *) <;> omega
  · omega
  · rcases floor_case hk with ⟨a', b'⟩ | ⟨a', b'⟩ | ⟨a', b', c', d'⟩
    · omega
    · unfold Fi at *; omega
    · refine V_le_iff.1 (dvd_lt E74_pos b b' ?_)
      have := V_le h
      omega
theorem E74_le : E74 ≤ (ulp (INF - 1) : Int) := by
  obtain ⟨n, hn⟩ : ∃ n, n = (INF - 1) / 2 ^ 52 - 1 := ⟨_, rfl⟩
  have hn2 : X74 ≤ n := by rw [hn]; decide
  have e : ulp (INF - 1) = 2 ^ n := by unfold ulp; rw [hn]
  rw [e]
  unfold E74
  have := Nat.pow_le_pow_right (show 0 < 2 by decide) hn2
  have h2 := Int.ofNat_le.2 this
  rw [Int.natCast_pow, Int.natCast_pow] at h2
  rw [Int.natCast_pow]
  exact h2
theorem floor_gt {k : Int} (h : Rg k) (h1 : -PI < k) : -PI < floorK k := by
  have hP := PI_pos
  have r := floorK_rg h
  rcases floor_case h with ⟨a, b⟩ | ⟨a, b⟩ | ⟨a, b, c, d⟩
  · omega
  · omega
  · refine Int.not_le.1 fun hl => ?_
    have e : floorK k = -PI := by have := r.1; omega
    rw [e] at d
    have v := V_le (show -(PI - 1) ≤ k by have := a.1; omega)
    rw [V_neg] at v d
    have e1 : V PI = V (PI - 1) + (ulp (INF - 1) : Int) := by
      have : PI = ((INF - 1 + 1 : Nat) : Int) := by decide
      have h2 : PI - 1 = ((INF - 1 : Nat) : Int) := by decide
      rw [h2, this, V_nat, V_nat, M_succ, Int.natCast_add]
    have := E74_le
    omega

/-! ## Abs -/
theorem abs_facts {A B : Int} (h : NE A B) : 0 ≤ absLo A B ∧ absLo A B ≤ absHi A B ∧ absLo A B < PI ∧ absHi A B ≤ PI := by
  have hP := PI_pos
  obtain ⟨r1, r2, h1, h2, h3⟩ := h
  unfold Rg at *
  unfold absLo absHi
  by_cases a : 0 ≤ A
  · rw [if_pos a, if_pos a]; omega
  · rw [if_neg a, if_neg a]
    by_cases b : B ≤ 0
    · rw [if_pos b, if_pos b]; omega
    · rw [if_neg b, if_neg b]; omega
theorem abs_mono {A B A' B' : Int} (h : NE A B) (h' : NE A' B') (hA : A ≤ A') (hB : B' ≤ B) : absLo A B ≤ absLo A' B' ∧ absHi A' B' ≤ absHi A B := by
  have hP := PI_pos
  obtain ⟨r1, r2, h1, h2, h3⟩ := h
  obtain ⟨r1', r2', h1', h2', h3'⟩ := h'
  unfold Rg at *
  unfold absLo absHi
  by_cases a : 0 ≤ A
  · rw [if_pos a, if_pos a, if_pos (by omega), if_pos (by omega)]; omega
  · rw [if_neg a, if_neg a]
    by_cases a' : 0 ≤ A'
    · rw [if_pos a', if_pos a']
      by_cases b : B ≤ 0
      · rw [if_pos b, if_pos b]; omega
      · rw [if_neg b, if_neg b]; omega
    · rw [if_neg a', if_neg a']
      by_cases b : B ≤ 0
      · rw [if_pos b, if_pos b, if_pos (by omega), if_pos (by omega)]; omega
      · rw [if_neg b, if_neg b]
        by_cases b' : B' ≤ 0
        · rw [if_pos b', if_pos b']; omega
        · rw [if_neg b', if_neg b']; omega
theorem sqr_mono {x y : Int} (rx : Rg x) (ry : Rg y) (h0 : 0 ≤ x) (h : x ≤ y) (up : Bool) : endK 8 x x up ≤ endK 8 y y up := by
  refine Int.le_trans (end8_mono rx ry rx h h0 up) ?_
  rw [end8_comm y x]
  exact end8_mono rx ry ry h (by omega) up

/-! ## Quotients -/
/-- What a quotient gives, by the divisor's signs. -/
theorem div_case {a b c d : Int} (h : NE a b) (h' : NE c d) :
    (c = 0 ∧ d = 0 ∧ divLo a b c d = PI ∧ divHi a b c d = -PI) ∨
    (a = 0 ∧ b = 0 ∧ (c ≠ 0 ∨ d ≠ 0) ∧ divLo a b c d = 0 ∧ divHi a b c d = 0) ∨
    (c < 0 ∧ 0 < d ∧ divLo a b c d = -PI ∧ divHi a b c d = PI) ∨
    (0 ≤ c ∧ 0 < d ∧ divLo a b c d = qLo a c d ∧ divHi a b c d = qHi b c d) ∨
    (c < 0 ∧ d ≤ 0 ∧ divLo a b c d = qLo (-b) (-d) (-c) ∧ divHi a b c d = qHi (-a) (-d) (-c)) := by
  have hP := PI_pos
  obtain ⟨r1, r2, h1, h2, h3⟩ := h
  obtain ⟨r1', r2', h1', h2', h3'⟩ := h'
  have s1 := Rg_neg r1
  have s2 := Rg_neg r2
  have k2 := r2'.2
  have k1 := r1'.1
  unfold divLo divHi
  by_cases g1 : c = 0 ∧ d = 0
  · rw [if_pos g1, if_pos g1]; exact .inl ⟨g1.1, g1.2, rfl, rfl⟩
  · rw [if_neg g1, if_neg g1]
    by_cases g2 : a = 0 ∧ b = 0
    · rw [if_pos g2, if_pos g2]; exact .inr (.inl ⟨g2.1, g2.2, by omega, rfl, rfl⟩)
    · rw [if_neg g2, if_neg g2]
      by_cases g3 : c < 0 ∧ 0 < d
      · rw [if_pos g3, if_pos g3]; exact .inr (.inr (.inl ⟨g3.1, g3.2, rfl, rfl⟩))
      · rw [if_neg g3, if_neg g3]
        by_cases g4 : d ≤ 0
        · rw [if_pos g4, if_pos g4]
          obtain ⟨e1, e2⟩ := divP_q s2 s1 (show -b ≤ -a by omega) (show 0 ≤ -d by omega) (show 0 < -c by omega) (by omega) (by omega)
          exact .inr (.inr (.inr (.inr ⟨by omega, g4, e1, e2⟩)))
        · rw [if_neg g4, if_neg g4]
          obtain ⟨e1, e2⟩ := divP_q r1 r2 h1 (show 0 ≤ c by omega) (show 0 < d by omega) (by omega) (by omega)
          exact .inr (.inr (.inr (.inl ⟨by omega, by omega, e1, e2⟩)))
theorem q_zero {c d : Int} (hd : 0 < d) (hd2 : d ≤ PI) : qLo 0 c d = 0 ∧ qHi 0 c d = 0 := by
  unfold qLo qHi
  rw [if_pos (by omega), if_pos (by omega), end9_zero d hd hd2, end9_zero d hd hd2]; exact ⟨rfl, rfl⟩
theorem q_iv {a b c d : Int} (rA : Rg a) (rB : Rg b) (h : a ≤ b) (h2 : a < PI) (h3 : -PI < b) (hc : 0 ≤ c) (hd : 0 < d) (hcd : c ≤ d) (hd2 : d ≤ PI) (hc2 : c < PI) : qLo a c d ≤ qHi b c d ∧ qLo a c d < PI ∧ -PI < qHi b c d := by
  have hP := PI_pos
  have lt : ∀ a, Rg a → a < PI → qLo a c d < PI := fun a rA h2 => by
    unfold qLo
    by_cases h0 : 0 ≤ a
    · rw [if_pos h0]
      by_cases hd' : d = PI
      · rw [hd', end9_PI]; omega
      · exact (endK_fi_lt (.inr (.inr rfl)) (fun _ => by omega) ⟨by omega, h2⟩ ⟨by omega, by omega⟩).1
    · rw [if_neg h0]
      by_cases hc' : 0 < c
      · rw [if_pos hc']
        have := end9_np rA (by omega) hc' (by omega) false
        omega
      · rw [if_neg hc']; omega
  refine ⟨?_, lt a rA h2, ?_⟩
  · have t9 : ∀ x y, y ≠ 0 → endK 9 x y false ≤ endK 9 x y true := fun x y hy => endK_two (.inr (.inr rfl)) (fun _ => hy)
    unfold qLo qHi
    by_cases h0 : 0 ≤ a
    · rw [if_pos h0]
      by_cases hb : b ≤ 0
      · rw [if_pos hb]
        have e1 : a = 0 := by omega
        have e2 : b = 0 := by omega
        rw [e1, e2]; exact t9 _ _ (by omega)
      · rw [if_neg hb]
        by_cases hc' : 0 < c
        · rw [if_pos hc']
          have := t9 a d (by omega)
          have := end9_mono rA rB h hd hd2 true
          have := end9_anti rB (by omega) hc' hcd hd2 true
          omega
        · rw [if_neg hc']; exact (endK_rg 9 a d false rA).2
    · rw [if_neg h0]
      by_cases hc' : 0 < c
      · rw [if_pos hc']
        by_cases hb : b ≤ 0
        · rw [if_pos hb]
          have := t9 a d (by omega)
          have := end9_mono rA rB h hd hd2 true
          have := end9_rise rA (by omega) hc' hcd hd2 false
          omega
        · rw [if_neg hb, if_pos hc']
          have := end9_np rA (by omega) hc' (by omega) false
          have := end9_nn rB (by omega) hc' (by omega) true
          omega
      · rw [if_neg hc']
        by_cases hb : b ≤ 0
        · rw [if_pos hb]; exact (endK_rg 9 b d true rB).1
        · rw [if_neg hb, if_neg hc']; omega
  · rw [qHi_qLo rB hc hd hcd hd2]
    have := lt (-b) (Rg_neg rB) (by omega)
    omega
theorem div_iv {a b c d : Int} (h : NE a b) (h' : NE c d) : Iv (divLo a b c d) (divHi a b c d) := by
  have hP := PI_pos
  have hr := div_rg a b c d h.1 h.2.1
  refine ⟨hr.1, hr.2, ?_⟩
  obtain ⟨r1, r2, h1, h2, h3⟩ := id h
  obtain ⟨r1', r2', h1', h2', h3'⟩ := id h'
  have k2 := r2'.2
  have k1 := r1'.1
  rcases div_case h h' with ⟨e1, e2, e3, e4⟩ | ⟨e1, e2, e0, e3, e4⟩ | ⟨e1, e2, e3, e4⟩ | ⟨e1, e2, e3, e4⟩ | ⟨e1, e2, e3, e4⟩ <;> rw [e3, e4]
  · exact .inl ⟨rfl, rfl⟩
  · omega
  · omega
  · exact .inr (q_iv r1 r2 h1 h2 h3 e1 e2 h1' k2 h2')
  · exact .inr (q_iv (Rg_neg r2) (Rg_neg r1) (by omega) (by omega) (by omega) (by omega) (by omega) (by omega) (by omega) (by omega))
/-- Of a lesser quotient. -/
theorem div_mono {a b c d a' b' c' d' : Int} (h : NE a b) (h' : NE c d) (g : NE a' b') (g' : NE c' d') (s1 : a ≤ a') (s2 : b' ≤ b) (s3 : c ≤ c') (s4 : d' ≤ d) :
    divHi a' b' c' d' < divLo a' b' c' d' ∨ (divLo a b c d ≤ divLo a' b' c' d' ∧ divHi a' b' c' d' ≤ divHi a b c d) := by
  have hP := PI_pos
  have hr := div_rg a' b' c' d' g.1 g.2.1
  unfold Rg at hr
  obtain ⟨r1, r2, h1, h2, h3⟩ := id h
  obtain ⟨r1', r2', h1', h2', h3'⟩ := id h'
  obtain ⟨p1, p2, p3, p4, p5⟩ := id g
  obtain ⟨p1', p2', p3', p4', p5'⟩ := id g'
  have k2 := r2'.2
  have k1 := r1'.1
  rcases div_case g g' with ⟨f1, f2, f3, f4⟩ | ⟨f1, f2, f0, f3, f4⟩ | ⟨f1, f2, f3, f4⟩ | ⟨f1, f2, f3, f4⟩ | ⟨f1, f2, f3, f4⟩
  · left; omega
  · right
    rcases div_case h h' with ⟨e1, e2, e3, e4⟩ | ⟨e1, e2, e0, e3, e4⟩ | ⟨e1, e2, e3, e4⟩ | ⟨e1, e2, e3, e4⟩ | ⟨e1, e2, e3, e4⟩
    · exfalso; omega
    · omega
    · omega
    · rw [e3, e4, f3, f4]
      have hz := q_zero (c := c) e2 (by omega)
      have m1 := qLo_mono r1 Rg_zero (show a ≤ 0 by omega) e1 (Int.le_refl c) e2 (Int.le_refl d) h1' (by omega)
      have m2 := qHi_mono r2 Rg_zero (show 0 ≤ b by omega) e1 (Int.le_refl c) e2 (Int.le_refl d) h1' (by omega)
      omega
    · rw [e3, e4, f3, f4]
      have hz := q_zero (c := -d) (show 0 < -c by omega) (by omega)
      have m1 := qLo_mono (Rg_neg r2) Rg_zero (show -b ≤ 0 by omega) (show 0 ≤ -d by omega) (Int.le_refl (-d)) (show 0 < -c by omega) (Int.le_refl (-c)) (by omega) (by omega)
      have m2 := qHi_mono (Rg_neg r1) Rg_zero (show 0 ≤ -a by omega) (show 0 ≤ -d by omega) (Int.le_refl (-d)) (show 0 < -c by omega) (Int.le_refl (-c)) (by omega) (by omega)
      omega
  · right
    rcases div_case h h' with ⟨e1, e2, e3, e4⟩ | ⟨e1, e2, e0, e3, e4⟩ | ⟨e1, e2, e3, e4⟩ | ⟨e1, e2, e3, e4⟩ | ⟨e1, e2, e3, e4⟩
    · exfalso; omega
    · have f : a' = 0 ∧ b' = 0 := by omega
      have : divLo a' b' c' d' = 0 ∧ divHi a' b' c' d' = 0 := by
        unfold divLo divHi
        have n0 : ¬ (c' = 0 ∧ d' = 0) := by omega
        rw [if_neg n0, if_neg n0, if_pos f, if_pos f]; exact ⟨rfl, rfl⟩
      omega
    · omega
    · exfalso; omega
    · exfalso; omega
  · right
    rcases div_case h h' with ⟨e1, e2, e3, e4⟩ | ⟨e1, e2, e0, e3, e4⟩ | ⟨e1, e2, e3, e4⟩ | ⟨e1, e2, e3, e4⟩ | ⟨e1, e2, e3, e4⟩
    · exfalso; omega
    · have f : a' = 0 ∧ b' = 0 := by omega
      rw [e3, e4, f3, f4, f.1, f.2]
      have hz := q_zero (c := c') f2 (by omega)
      omega
    · omega
    · rw [e3, e4, f3, f4]
      exact ⟨qLo_mono r1 p1 s1 e1 s3 f2 s4 p3' k2, qHi_mono r2 p2 s2 e1 s3 f2 s4 p3' k2⟩
    · exfalso; omega
  · right
    rcases div_case h h' with ⟨e1, e2, e3, e4⟩ | ⟨e1, e2, e0, e3, e4⟩ | ⟨e1, e2, e3, e4⟩ | ⟨e1, e2, e3, e4⟩ | ⟨e1, e2, e3, e4⟩
    · exfalso; omega
    · have f : a' = 0 ∧ b' = 0 := by omega
      rw [e3, e4, f3, f4, f.1, f.2]
      have hz := q_zero (c := -d') (show 0 < -c' by omega) (by omega)
      rw [Int.neg_zero]
      omega
    · omega
    · exfalso; omega
    · rw [e3, e4, f3, f4]
      exact ⟨qLo_mono (Rg_neg r2) (Rg_neg p2) (by omega) (by omega) (by omega) (by omega) (by omega) (by omega) (by omega), qHi_mono (Rg_neg r1) (Rg_neg p1) (by omega) (by omega) (by omega) (by omega) (by omega) (by omega) (by omega)⟩
theorem ne_one : NE 4607182418800017408 4607182418800017408 := ⟨rg_one, rg_one, Int.le_refl _, by decide, by decide⟩
theorem ok6 {A B C D : Int} (h : NE A B) (h' : NE C D) : EndOk 6 A C ∧ EndOk 6 B D ∧ EndOk 6 A (-D) ∧ EndOk 6 B (-C) := by
  obtain ⟨r1, r2, h1, h2, h3⟩ := h
  obtain ⟨r1', r2', h1', h2', h3'⟩ := h'
  exact ⟨.inl ⟨rfl, by omega, by omega⟩, .inl ⟨rfl, by omega, by omega⟩, .inl ⟨rfl, by omega, by omega⟩, .inl ⟨rfl, by omega, by omega⟩⟩
theorem NE.neg {C D : Int} (h : NE C D) : NE (-D) (-C) := by
  obtain ⟨r1, r2, h1, h2, h3⟩ := h
  exact ⟨Rg_neg r2, Rg_neg r1, by omega, by omega, by omega⟩
theorem sum_iv {A B C D : Int} (h : NE A B) (h' : NE C D) : endK 6 A C false ≤ endK 6 B D true ∧ endK 6 A C false < PI ∧ -PI < endK 6 B D true := by
  have hP := PI_pos
  obtain ⟨o1, o2, _, _⟩ := ok6 h h'
  obtain ⟨r1, r2, h1, h2, h3⟩ := h
  obtain ⟨r1', r2', h1', h2', h3'⟩ := h'
  refine ⟨Int.le_trans (endK_two (.inl rfl) (fun e => by omega)) (end6_mono r1 r2 r1' r2' o1 o2 h1 h1' true), ?_, ?_⟩
  · rcases end6_case A C r1 r1' o1 false with ⟨f1, f2, e⟩ | ⟨f1, f2, f3, e⟩ | ⟨f1, f2, f3, e⟩
    · rw [e]; exact (low_lt _).1
    · omega
    · omega
  · rcases end6_case B D r2 r2' o2 true with ⟨f1, f2, e⟩ | ⟨f1, f2, f3, e⟩ | ⟨f1, f2, f3, e⟩
    · rw [e]; exact (high_gt _).1
    · omega
    · omega
/-- What an operation gives of intervals that are not empty: an interval. -/
theorem op_iv (o : Int) {A B C D : Int} (h : NE A B) (h' : NE C D) : Iv (opLo o A B C D) (opHi o A B C D) := by
  have hP := PI_pos
  have hr := op_rg o A B C D h.1 h.2.1 h'.1 h'.2.1
  obtain ⟨r1, r2, h1, h2, h3⟩ := id h
  obtain ⟨r1', r2', h1', h2', h3'⟩ := id h'
  by_cases h9 : o = 9
  · subst h9; exact div_iv h h'
  by_cases h5 : o = 5
  · subst h5; exact div_iv ne_one h
  refine ⟨hr.1, hr.2, ?_⟩
  clear hr
  by_cases h0 : o = 0
  · subst h0; rw [opLo_0, opHi_0]; omega
  by_cases g1 : o = 1
  · subst g1; rw [opLo_1, opHi_1]
    have := abs_facts h
    omega
  by_cases g2 : o = 2
  · subst g2; rw [opLo_2, opHi_2]
    obtain ⟨a1, a2, a3, a4⟩ := abs_facts h
    have f : Fi (absLo A B) := ⟨by omega, a3⟩
    obtain ⟨l1, l2⟩ := endK_fi_lt (o := 8) (.inr (.inl rfl)) (fun e => by omega) f f
    have t := endK_two (o := 8) (x := absLo A B) (y := absLo A B) (.inr (.inl rfl)) (fun e => by omega)
    have m := sqr_mono f.rg (absHi_rg r1 r2) a1 a2 true
    omega
  by_cases g3 : o = 3
  · subst g3; rw [opLo_3, opHi_3]
    by_cases hb : B < 0
    · rw [if_pos hb, if_pos hb]; exact .inl ⟨rfl, rfl⟩
    · rw [if_neg hb, if_neg hb]
      have l := (low_lt (cSqrt (max A 0))).1
      by_cases hi : B < PI
      · rw [if_pos hi]
        have a := (rnd_two (cut_sqrt (max A 0))).1
        have b := root_mono (show max A 0 ≤ B by omega) true
        have c := (high_gt (cSqrt B)).1
        unfold sqrtK; omega
      · rw [if_neg hi]
        unfold sqrtK; omega
  by_cases g4 : o = 4
  · subst g4; rw [opLo_4, opHi_4]
    have := floor_le r1
    have := floor_mono r1 r2 h1
    have := floor_gt r2 h3
    omega
  by_cases g6 : o = 6
  · subst g6; rw [opLo_6, opHi_6]; exact .inr (sum_iv h h')
  by_cases g7 : o = 7
  · subst g7; rw [opLo_7, opHi_7]; exact .inr (sum_iv h h'.neg)
  by_cases g8 : o = 8
  · subst g8; rw [opLo_8, opHi_8]
    obtain ⟨x, fx, x1, x2⟩ := h.pick
    obtain ⟨y, fy, y1, y2⟩ := h'.pick
    obtain ⟨w1, w2⟩ := prod_within r1 r2 r1' r2' x1 x2 y1 y2
    obtain ⟨l1, l2⟩ := endK_fi_lt (o := 8) (.inr (.inl rfl)) (fun e => by omega) fx fy
    have t := endK_two (o := 8) (x := x) (y := y) (.inr (.inl rfl)) (fun e => by omega)
    omega
  by_cases g10 : o = 10
  · subst g10; rw [opLo_10, opHi_10]; omega
  have e1 : opLo o A B C D = max A C := by unfold opLo; rw [if_neg h0, if_neg g1, if_neg g2, if_neg g3, if_neg g4, if_neg h5, if_neg g6, if_neg g7, if_neg g8, if_neg h9, if_neg g10]
  have e2 : opHi o A B C D = max B D := by unfold opHi; rw [if_neg h0, if_neg g1, if_neg g2, if_neg g3, if_neg g4, if_neg h5, if_neg g6, if_neg g7, if_neg g8, if_neg h9, if_neg g10]
  rw [e1, e2]; omega
/-- THE INCLUSION: lesser intervals, a lesser result. -/
theorem op_mono (o : Int) {A B C D A' B' C' D' : Int} (h : NE A B) (h' : NE C D) (g : NE A' B') (g' : NE C' D') (s1 : A ≤ A') (s2 : B' ≤ B) (s3 : C ≤ C') (s4 : D' ≤ D) :
    opHi o A' B' C' D' < opLo o A' B' C' D' ∨ (opLo o A B C D ≤ opLo o A' B' C' D' ∧ opHi o A' B' C' D' ≤ opHi o A B C D) := by
  have hP := PI_pos
  obtain ⟨r1, r2, h1, h2, h3⟩ := id h
  obtain ⟨r1', r2', h1', h2', h3'⟩ := id h'
  obtain ⟨p1, p2, p3, p4, p5⟩ := id g
  obtain ⟨p1', p2', p3', p4', p5'⟩ := id g'
  by_cases h9 : o = 9
  · subst h9; exact div_mono h h' g g' s1 s2 s3 s4
  by_cases h5 : o = 5
  · subst h5; exact div_mono ne_one h ne_one g (Int.le_refl _) (Int.le_refl _) s1 s2
  by_cases h0 : o = 0
  · subst h0; rw [opLo_0, opHi_0, opLo_0, opHi_0]; omega
  by_cases g1 : o = 1
  · subst g1; rw [opLo_1, opHi_1, opLo_1, opHi_1]
    have := abs_mono h g s1 s2
    omega
  by_cases g2 : o = 2
  · subst g2; rw [opLo_2, opHi_2, opLo_2, opHi_2]
    have m := abs_mono h g s1 s2
    have a := abs_facts h
    have a' := abs_facts g
    exact .inr ⟨sqr_mono (absLo_rg r1 r2) (absLo_rg p1 p2) a.1 m.1 false, sqr_mono (absHi_rg p1 p2) (absHi_rg r1 r2) (by omega) m.2 true⟩
  by_cases g3 : o = 3
  · subst g3; rw [opLo_3, opHi_3, opLo_3, opHi_3]
    by_cases hb : B' < 0
    · rw [if_pos hb, if_pos hb]; omega
    · rw [if_neg hb, if_neg hb, if_neg (show ¬ B < 0 by omega), if_neg (show ¬ B < 0 by omega)]
      refine .inr ⟨root_mono (by omega) false, ?_⟩
      by_cases hi : B < PI
      · rw [if_pos hi, if_pos (by omega)]
        exact root_mono s2 true
      · rw [if_neg hi]
        by_cases hi' : B' < PI
        · rw [if_pos hi']; exact (rnd_rg _ _).2
        · rw [if_neg hi']; exact Int.le_refl _
  by_cases g4 : o = 4
  · subst g4; rw [opLo_4, opHi_4, opLo_4, opHi_4]
    exact .inr ⟨floor_mono r1 p1 s1, floor_mono p2 r2 s2⟩
  by_cases g6 : o = 6
  · subst g6; rw [opLo_6, opHi_6, opLo_6, opHi_6]
    obtain ⟨o1, o2, _, _⟩ := ok6 h h'
    obtain ⟨q1, q2, _, _⟩ := ok6 g g'
    exact .inr ⟨end6_mono r1 p1 r1' p1' o1 q1 s1 s3 false, end6_mono p2 r2 p2' r2' q2 o2 s2 s4 true⟩
  by_cases g7 : o = 7
  · subst g7; rw [opLo_7, opHi_7, opLo_7, opHi_7]
    obtain ⟨_, _, o1, o2⟩ := ok6 h h'
    obtain ⟨_, _, q1, q2⟩ := ok6 g g'
    exact .inr ⟨end6_mono r1 p1 (Rg_neg r2') (Rg_neg p2') o1 q1 s1 (by omega) false, end6_mono p2 r2 (Rg_neg p1') (Rg_neg r1') q2 o2 s2 (by omega) true⟩
  by_cases g8 : o = 8
  · subst g8; rw [opLo_8, opHi_8, opLo_8, opHi_8]
    right
    have w1 := prod_within r1 r2 r1' r2' s1 (show A' ≤ B by omega) s3 (show C' ≤ D by omega)
    have w2 := prod_within r1 r2 r1' r2' s1 (show A' ≤ B by omega) (show C ≤ D' by omega) s4
    have w3 := prod_within r1 r2 r1' r2' (show A ≤ B' by omega) s2 s3 (show C' ≤ D by omega)
    have w4 := prod_within r1 r2 r1' r2' (show A ≤ B' by omega) s2 (show C ≤ D' by omega) s4
    rw [loN4 8 A' B' C' D' p1 p2, hiN4 8 A' B' C' D' p1 p2]
    clear h h' g g' r1 r2 r1' r2' p1 p2 p1' p2'
    omega
  by_cases g10 : o = 10
  · subst g10; rw [opLo_10, opHi_10, opLo_10, opHi_10]; omega
  have e1 : ∀ A B C D, opLo o A B C D = max A C := fun A B C D => by unfold opLo; rw [if_neg h0, if_neg g1, if_neg g2, if_neg g3, if_neg g4, if_neg h5, if_neg g6, if_neg g7, if_neg g8, if_neg h9, if_neg g10]
  have e2 : ∀ A B C D, opHi o A B C D = max B D := fun A B C D => by unfold opHi; rw [if_neg h0, if_neg g1, if_neg g2, if_neg g3, if_neg g4, if_neg h5, if_neg g6, if_neg g7, if_neg g8, if_neg h9, if_neg g10]
  rw [e1, e2, e1, e2]; omega
theorem ap_uses {o A B C D : Int} (ho : 0 ≤ o ∧ o ≤ 11) (h : NE A B) (h' : NE C D) : Uses o A B C D := by
  have a := h.no
  have b := h'.no
  unfold Uses
  by_cases h5 : o ≤ 5
  · exact .inl ⟨ho.1, h5, a⟩
  · exact .inr ⟨by omega, ho.2, a, b⟩
theorem ap_eq {o A B C D : Int} (ho : 0 ≤ o ∧ o ≤ 11) (h : NE A B) (h' : NE C D) : apLo o A B C D = opLo o A B C D ∧ apHi o A B C D = opHi o A B C D := by
  unfold apLo apHi
  rw [if_pos (ap_uses ho h h'), if_pos (ap_uses ho h h')]
  exact nrm_of (op_iv o h h')
end Go.Proofs.Yteephgpefhodnaa
