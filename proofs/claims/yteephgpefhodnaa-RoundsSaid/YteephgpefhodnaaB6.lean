/- The method number, joined: the real rounded to a rung. -/
import Derived.Test.YteephgpefhodnaaB5
import Derived.Test.YteephgpefhodnaaF13
import Derived.Lib.ItoaNum
namespace Go.Proofs.Yteephgpefhodnaa
open Go.RowKit Go.Sort Go.Fl
set_option linter.unusedSimpArgs false
set_option linter.unusedVariables false

theorem ld_q (q r : Nat) (p : Int) (hq : q ≤ 2 ^ 53) (hr : M r = q * 2 ^ (p + 1074).toNat) (hrI : r ≤ INF) (hp1 : -1074 ≤ p) (hp2 : p ≤ 971) (z p' : Int) (hz : z = q) (hp : p' = p) (w : World) :
    Calls Try.prog 139 #[.float .f64 (floatOfInt .f64 z), .int .i64 p'] w fun e w' => e = .returned (.float .f64 r) ∧ w = w' := by
  subst hz hp
  rcases Nat.eq_zero_or_pos q with h | h
  · subst h
    rw [Nat.zero_mul] at hr
    obtain rfl : r = 0 := M_inj (by rw [hr, M_zero])
    exact mathldexp_zero _ w
  · obtain ⟨F, h1, h2, h3⟩ := nearest_nat q hq h
    have e : floatOfInt .f64 (q : Int) = F := h1
    rw [e]
    exact mathldexp_any q F r p' h hq h3 h2 hr hrI hp1 hp2 w

theorem plus_toNat (r : Nat) (away x y : Bool) (P : Prop) [Decidable P] (h : P ↔ (x || y) = true) : r + (away && (x || y)).toNat = if away = true then r + (if P then 1 else 0) else r := by
  cases away
  · rw [if_neg (by decide)]; rfl
  · rw [if_pos rfl]
    by_cases hp : P
    · rw [if_pos hp, h.1 hp]; rfl
    · rw [if_neg hp]
      have : (x || y) = false := by
        cases hb : (x || y)
        · rfl
        · exact absurd (h.2 hb) hp
      rw [this]; rfl

/-- What stands behind both walks. -/
theorem number_facts {hi lo : Nat} {e : Int} {rest : Bool} {N D : Nat} (b1 : hi < 2 ^ 64) (b2 : lo < 2 ^ 64) (h0 : hi ≠ 0) (hD : 0 < D) (hW : Wide hi lo e rest N D ∨ Top hi lo e rest N D) :
    ∃ n H L : Nat, 64 - (Lib.bitLen hi : Int) = n ∧ n ≤ 63 ∧ H < 2 ^ 64 ∧
      bits BinOp.or IntKind.u64 (IntKind.u64.wrap ((hi : Int) * 2 ^ n)) ((lo : Int) / 2 ^ (64 - n)) = (H : Int) ∧
      IntKind.u64.wrap ((lo : Int) * 2 ^ n) = (L : Int) ∧ L = lo * 2 ^ n % 2 ^ 64 ∧
      (1023 < e + 127 - n → MagD (INF - 1) N D ∧ MagU INF N D) ∧
      (e + 127 - n ≤ 1023 → ∀ k l, keepOf (e + 127 - n) = k → placeOf (e + 127 - n) = l →
        MagD (l * 2 ^ 52 + H / 2 ^ (64 - k)) N D ∧ MagU (l * 2 ^ 52 + H / 2 ^ (64 - k) + (if (rest || decide (L ≠ 0)) = true ∨ H % 2 ^ (64 - k) ≠ 0 then 1 else 0)) N D ∧
        k ≤ 53 ∧ H / 2 ^ (64 - k) < 2 ^ 53 ∧ (l = 0 ∨ 2 ^ 52 ≤ H / 2 ^ (64 - k)) ∧ (IntKind.u64.wrap ((H : Int) * 2 ^ k) != 0) = decide (H % 2 ^ (64 - k) ≠ 0)) := by
  have hb : hi < 2 ^ Lib.bitLen hi ∧ (hi ≠ 0 → 2 ^ (Lib.bitLen hi - 1) ≤ hi) := by
    obtain ⟨_, x2, x3⟩ := Lib.bitLenAux_bounds 64 hi b1 h0
    exact ⟨x3, fun _ => x2⟩
  have hb64 : Lib.bitLen hi ≤ 64 := by
    rcases Nat.lt_or_ge 64 (Lib.bitLen hi) with h | h
    · have h2 := hb.2 h0
      have h3 : (2 : Nat) ^ 64 ≤ 2 ^ (Lib.bitLen hi - 1) := Nat.pow_le_pow_right (by omega) (by omega)
      omega
    · exact h
  have hbt : 2 ^ 63 ≤ hi → Lib.bitLen hi = 64 := by
    intro h
    rcases Nat.lt_or_ge (Lib.bitLen hi) 64 with h2 | h2
    · have h3 : (2 : Nat) ^ Lib.bitLen hi ≤ 2 ^ 63 := Nat.pow_le_pow_right (by omega) (by omega)
      omega
    · omega
  obtain ⟨n, hn⟩ : ∃ n, n = 64 - Lib.bitLen hi := ⟨_, rfl⟩
  obtain ⟨t1, t2, t3, t4⟩ := top_digit h0 b1 hb b2 hb64 hn
  have hT := shift_eq (hi := hi) t1 b2
  have hr := shift_room (lo := lo) t1
  have hH := first_word t1 t2 b2
  have hcore : (hi * 2 ^ n + lo / 2 ^ (64 - n)) * 2 ^ ((e + 127 - n) + 1011).toNat * D ≤ N * 2 ^ (-((e + 127 - n) + 1011)).toNat ∧ N * 2 ^ (-((e + 127 - n) + 1011)).toNat < ((hi * 2 ^ n + lo / 2 ^ (64 - n)) + 1) * 2 ^ ((e + 127 - n) + 1011).toNat * D ∧
    (N * 2 ^ (-((e + 127 - n) + 1011)).toNat = (hi * 2 ^ n + lo / 2 ^ (64 - n)) * 2 ^ ((e + 127 - n) + 1011).toNat * D ↔ (rest || decide (lo * 2 ^ n % 2 ^ 64 ≠ 0)) = false) := by
    rcases hW with hW | ⟨hW1, hW2, hW3⟩
    · exact wide_core hW hD hT hr rfl
    · obtain rfl : n = 0 := by have := hbt hW1; omega
      subst hW2
      have z1 : hi * 2 ^ 0 + 0 / 2 ^ (64 - 0) = hi := by omega
      have z2 : (rest || decide (0 * 2 ^ 0 % 2 ^ 64 ≠ 0)) = rest := by cases rest <;> rfl
      have z3 : e + 127 - ((0 : Nat) : Int) = e + 127 := by omega
      rw [z1, z2, z3]
      exact hW3
  generalize hHe : hi * 2 ^ n + lo / 2 ^ (64 - n) = H at *
  refine ⟨n, H, lo * 2 ^ n % 2 ^ 64, by omega, t1, t4, hH, ?_, rfl, ?_, ?_⟩
  · have e1 : (lo : Int) * 2 ^ n = ((lo * 2 ^ n : Nat) : Int) := by rw [Int.natCast_mul, Int.natCast_pow]; rfl
    rw [e1, IntKind.wrap_u64]
    generalize lo * 2 ^ n = y
    omega
  · intro h
    obtain ⟨c1, _, _⟩ := hcore
    exact mag_over t3 hD h c1
  · intro h k l hk hl
    obtain ⟨c1, c2, c3⟩ := hcore
    have hm := mag_of t3 t4 hD h c1 c2 c3
    rw [hk, hl] at hm
    have hk53 : k ≤ 53 := by unfold keepOf at hk; split at hk <;> omega
    refine ⟨hm.1, hm.2, hk53, ?_, ?_, wrap_low hk53 t4⟩
    · rw [Nat.div_lt_iff_lt_mul (Nat.two_pow_pos _), ← Nat.pow_add]
      exact Nat.lt_of_lt_of_le t4 (Nat.pow_le_pow_right (by omega) (by omega))
    · unfold placeOf at hl; unfold keepOf at hk
      split at hl
      · left; omega
      · right
        rw [if_neg (by assumption)] at hk
        rw [show 64 - k = 11 by omega]
        omega


theorem magr_over {N D : Nat} (away : Bool) (h : MagD (INF - 1) N D ∧ MagU INF N D) : MagR away (if away = true then INF else INF - 1) N D := by
  unfold MagR
  cases away
  · simpa using h.1
  · simpa using h.2
theorem magr_of {r N D : Nat} (away x y : Bool) (P : Prop) [Decidable P] (hP : P ↔ (x || y) = true) (h : MagD r N D ∧ MagU (r + (if P then 1 else 0)) N D) : MagR away (r + (away && (x || y)).toNat) N D := by
  rw [plus_toNat r away x y P hP]
  unfold MagR
  cases away
  · simpa using h.1
  · simpa using h.2


theorem number_up (hi lo : Nat) (e : Int) (rest away : Bool) (N D : Nat) (b1 : hi < 2 ^ 64) (b2 : lo < 2 ^ 64) (h0 : hi ≠ 0) (e1 : -5000 ≤ e) (e2 : e ≤ 5000) (hD : 0 < D) (hW : Wide hi lo e rest N D ∨ Top hi lo e rest N D) :
    ∃ r, MagR away r N D ∧ ∀ w, Calls Try.prog 127 #[.agg #[.int .u64 hi, .int .u64 lo, .int .i64 e, .bool rest], .bool away] w fun e w' => e = .returned (.float .f64 r) ∧ Below w.heap.size w w' := by
  obtain ⟨n, H, L, hn, hn2, hH2, hH, hL, hLe, hov, hin⟩ := number_facts b1 b2 h0 hD hW
  have hhi : ((hi : Int) == 0) = false := by rw [beq_eq_false_iff_ne]; omega
  rcases Int.lt_or_le 1023 (e + 127 - n) with c1 | c1
  · exact ⟨_, magr_over away (hov c1), fun w => number_over hi lo e rest away n H L hn hn2 hhi b1 hH2 e1 e2 hH hL c1 w⟩
  · have hin := hin c1
    have hP : ∀ q : Prop, [Decidable q] → (((rest || decide (L ≠ 0)) = true ∨ q) ↔ ((rest || decide (L ≠ 0)) || decide q) = true) := by
      intro q _
      rw [Bool.or_eq_true (rest || decide (L ≠ 0)), decide_eq_true_iff]
    rcases Int.lt_or_le (e + 127 - n) (-1022) with c2 | c2
    · obtain ⟨k, hk⟩ : ∃ k, keepOf (e + 127 - n) = k := ⟨_, rfl⟩
      have hl : placeOf (e + 127 - n) = 0 := by unfold placeOf; rw [if_pos c2]
      obtain ⟨m1, m2, k53, q53, _, hx⟩ := hin k 0 hk hl
      unfold keepOf at hk
      rw [if_pos c2] at hk
      have hM : max 0 (e + 127 - (n : Int) + 1074 + 1) = (k : Int) := by omega
      have hg : (64 - (k : Int)).toNat = 64 - k := by omega
      have hq : (H : Int) / 2 ^ (64 - k) = ((H / 2 ^ (64 - k) : Nat) : Int) := by rw [Int.natCast_ediv, Int.natCast_pow]; rfl
      rw [Nat.zero_mul, Nat.zero_add] at m1 m2
      generalize hqe : H / 2 ^ (64 - k) = q at *
      have hI := INF_eq
      have hz0 : ((-1074 : Int) + 1074).toNat = 0 := by decide
      have hr0 : M q = q * 2 ^ 0 := by have := M_at 0 q (.inl rfl) (by omega); simpa using this
      have hr1 : M (q + 1) = (q + 1) * 2 ^ 0 := by have := M_at 0 (q + 1) (.inl rfl) (by omega); simpa using this
      have hw : IntKind.u64.wrap ((q : Int) + 1) = ((q + 1 : Nat) : Int) := by rw [IntKind.wrap_u64]; omega
      rcases Nat.eq_zero_or_pos k with hk0 | hk0
      · refine ⟨_, magr_of away _ _ _ (hP _) ⟨m1, m2⟩, fun w => ?_⟩
        refine number_k0 hi lo e rest away n H L hn hn2 hhi b1 hH2 e1 e2 hH hL c2 (by omega) _ ?_ ?_ q ?_ ?_ w
        · rw [hM, beq_iff_eq]; omega
        · rw [hM, Int.toNat_natCast]; exact hx
        · rw [hM, hg, hq]
          exact fun w => ld_q q q (-1074) (by omega) (by rw [hz0]; exact hr0) (by omega) (by omega) (by omega) _ _ rfl rfl w
        · rw [hM, hg, hq, hw]
          exact fun w => ld_q (q + 1) (q + 1) (-1074) (by omega) (by rw [hz0]; exact hr1) (by omega) (by omega) (by omega) _ _ rfl rfl w
      · refine ⟨_, magr_of away _ _ _ (hP _) ⟨m1, m2⟩, fun w => ?_⟩
        refine number_sub hi lo e rest away n H L hn hn2 hhi b1 hH2 e1 e2 hH hL c2 (by omega) _ ?_ ?_ q ?_ ?_ w
        · rw [hM, beq_eq_false_iff_ne]; omega
        · rw [hM, Int.toNat_natCast]; exact hx
        · rw [hM, hg, hq]
          exact fun w => ld_q q q (-1074) (by omega) (by rw [hz0]; exact hr0) (by omega) (by omega) (by omega) _ _ rfl (by omega) w
        · rw [hM, hg, hq, hw]
          exact fun w => ld_q (q + 1) (q + 1) (-1074) (by omega) (by rw [hz0]; exact hr1) (by omega) (by omega) (by omega) _ _ rfl (by omega) w
    · have hk : keepOf (e + 127 - n) = 53 := by unfold keepOf; rw [if_neg (by omega)]
      obtain ⟨l, hl⟩ : ∃ l, placeOf (e + 127 - n) = l := ⟨_, rfl⟩
      obtain ⟨m1, m2, k53, q53, hq52, hx⟩ := hin 53 l hk hl
      unfold placeOf at hl
      rw [if_neg (by omega)] at hl
      have hI := INF_eq
      have hq : (H : Int) / 2048 = ((H / 2 ^ (64 - 53) : Nat) : Int) := by rw [Int.natCast_ediv, Int.natCast_pow]; rfl
      generalize hqe : H / 2 ^ (64 - 53) = q at *
      have hr0 := M_at l q hq52 (by omega)
      have hr1 : M (l * 2 ^ 52 + q + 1) = (q + 1) * 2 ^ l := by rw [Nat.add_assoc]; exact M_at l (q + 1) (by omega) (by omega)
      have hlp : (e + 127 - n - 53 + 1 + 1074).toNat = l := by omega
      refine ⟨_, magr_of away _ _ _ (hP _) ⟨m1, m2⟩, fun w => ?_⟩
      refine number_n53 hi lo e rest away n H L hn hn2 hhi b1 hH2 e1 e2 hH hL c2 c1 _ hx (l * 2 ^ 52 + q) ?_ ?_ w
      · exact fun w => ld_q q _ _ (by omega) (by rw [hlp]; exact hr0) (by omega) (by omega) (by omega) _ _ hq rfl w
      · have hq1 : (H : Int) / 2048 + 1 = ((q + 1 : Nat) : Int) := by rw [hq]; rfl
        rw [hq1]
        exact fun w => ld_q (q + 1) _ _ (by omega) (by rw [hlp]; exact hr1) (by omega) (by omega) (by omega) _ _ rfl rfl w


theorem number_low (hi : Nat) (e : Int) (rest away : Bool) (N D : Nat) (b1 : hi < 2 ^ 64) (h0 : hi ≠ 0) (e1 : -5000 ≤ e) (e2 : e ≤ 5000) (hD : 0 < D) (hW : Wide hi 0 (e - 64) rest N D) :
    ∃ r, MagR away r N D ∧ ∀ w, Calls Try.prog 127 #[.agg #[.int .u64 0, .int .u64 hi, .int .i64 e, .bool rest], .bool away] w fun e w' => e = .returned (.float .f64 r) ∧ Below w.heap.size w w' := by
  obtain ⟨n, H, L, hn, hn2, hH2, hH, hL, hLe, hov, hin⟩ := number_facts b1 (show 0 < 2 ^ 64 by omega) h0 hD (.inl hW)
  obtain rfl : L = 0 := by rw [hLe, Nat.zero_mul]
  rw [show ((0 : Nat) : Int) / 2 ^ (64 - n) = 0 from Int.zero_ediv _] at hH
  have hdec : (rest || decide ((0 : Nat) ≠ 0)) = rest := by cases rest <;> rfl
  rw [hdec] at hin
  clear hL hLe hdec hW
  have hhi : ((hi : Int) == 0) = false := by rw [beq_eq_false_iff_ne]; omega
  rcases Int.lt_or_le 1023 (e - 64 + 127 - n) with c1 | c1
  · exact ⟨_, magr_over away (hov c1), fun w => numberz_over hi e rest away n H hn hn2 hhi b1 hH2 e1 e2 hH c1 w⟩
  · have hin := hin c1
    have hP : ∀ q : Prop, [Decidable q] → ((rest = true ∨ q) ↔ (rest || decide q) = true) := by
      intro q _
      rw [Bool.or_eq_true rest, decide_eq_true_iff]
    rcases Int.lt_or_le (e - 64 + 127 - n) (-1022) with c2 | c2
    · obtain ⟨k, hk⟩ : ∃ k, keepOf (e - 64 + 127 - n) = k := ⟨_, rfl⟩
      have hl : placeOf (e - 64 + 127 - n) = 0 := by unfold placeOf; rw [if_pos c2]
      obtain ⟨m1, m2, k53, q53, _, hx⟩ := hin k 0 hk hl
      unfold keepOf at hk
      rw [if_pos c2] at hk
      have hM : max 0 (e - 64 + 127 - (n : Int) + 1074 + 1) = (k : Int) := by omega
      have hg : (64 - (k : Int)).toNat = 64 - k := by omega
      have hq : (H : Int) / 2 ^ (64 - k) = ((H / 2 ^ (64 - k) : Nat) : Int) := by rw [Int.natCast_ediv, Int.natCast_pow]; rfl
      rw [Nat.zero_mul, Nat.zero_add] at m1 m2
      generalize hqe : H / 2 ^ (64 - k) = q at *
      have hI := INF_eq
      have hz0 : ((-1074 : Int) + 1074).toNat = 0 := by decide
      have hr0 : M q = q * 2 ^ 0 := by have := M_at 0 q (.inl rfl) (by omega); simpa using this
      have hr1 : M (q + 1) = (q + 1) * 2 ^ 0 := by have := M_at 0 (q + 1) (.inl rfl) (by omega); simpa using this
      have hw : IntKind.u64.wrap ((q : Int) + 1) = ((q + 1 : Nat) : Int) := by rw [IntKind.wrap_u64]; omega
      rcases Nat.eq_zero_or_pos k with hk0 | hk0
      · refine ⟨_, magr_of away _ _ _ (hP _) ⟨m1, m2⟩, fun w => ?_⟩
        refine numberz_k0 hi e rest away n H hn hn2 hhi b1 hH2 e1 e2 hH c2 (by omega) _ ?_ ?_ q ?_ ?_ w
        · rw [hM, beq_iff_eq]; omega
        · rw [hM, Int.toNat_natCast]; exact hx
        · rw [hM, hg, hq]
          exact fun w => ld_q q q (-1074) (by omega) (by rw [hz0]; exact hr0) (by omega) (by omega) (by omega) _ _ rfl rfl w
        · rw [hM, hg, hq, hw]
          exact fun w => ld_q (q + 1) (q + 1) (-1074) (by omega) (by rw [hz0]; exact hr1) (by omega) (by omega) (by omega) _ _ rfl rfl w
      · refine ⟨_, magr_of away _ _ _ (hP _) ⟨m1, m2⟩, fun w => ?_⟩
        refine numberz_sub hi e rest away n H hn hn2 hhi b1 hH2 e1 e2 hH c2 (by omega) _ ?_ ?_ q ?_ ?_ w
        · rw [hM, beq_eq_false_iff_ne]; omega
        · rw [hM, Int.toNat_natCast]; exact hx
        · rw [hM, hg, hq]
          exact fun w => ld_q q q (-1074) (by omega) (by rw [hz0]; exact hr0) (by omega) (by omega) (by omega) _ _ rfl (by omega) w
        · rw [hM, hg, hq, hw]
          exact fun w => ld_q (q + 1) (q + 1) (-1074) (by omega) (by rw [hz0]; exact hr1) (by omega) (by omega) (by omega) _ _ rfl (by omega) w
    · have hk : keepOf (e - 64 + 127 - n) = 53 := by unfold keepOf; rw [if_neg (by omega)]
      obtain ⟨l, hl⟩ : ∃ l, placeOf (e - 64 + 127 - n) = l := ⟨_, rfl⟩
      obtain ⟨m1, m2, k53, q53, hq52, hx⟩ := hin 53 l hk hl
      unfold placeOf at hl
      rw [if_neg (by omega)] at hl
      have hI := INF_eq
      have hq : (H : Int) / 2048 = ((H / 2 ^ (64 - 53) : Nat) : Int) := by rw [Int.natCast_ediv, Int.natCast_pow]; rfl
      generalize hqe : H / 2 ^ (64 - 53) = q at *
      have hr0 := M_at l q hq52 (by omega)
      have hr1 : M (l * 2 ^ 52 + q + 1) = (q + 1) * 2 ^ l := by rw [Nat.add_assoc]; exact M_at l (q + 1) (by omega) (by omega)
      have hlp : (e - 64 + 127 - n - 53 + 1 + 1074).toNat = l := by omega
      refine ⟨_, magr_of away _ _ _ (hP _) ⟨m1, m2⟩, fun w => ?_⟩
      refine numberz_n53 hi e rest away n H hn hn2 hhi b1 hH2 e1 e2 hH c2 c1 _ hx (l * 2 ^ 52 + q) ?_ ?_ w
      · exact fun w => ld_q q _ _ (by omega) (by rw [hlp]; exact hr0) (by omega) (by omega) (by omega) _ _ hq rfl w
      · have hq1 : (H : Int) / 2048 + 1 = ((q + 1 : Nat) : Int) := by rw [hq]; rfl
        rw [hq1]
        exact fun w => ld_q (q + 1) _ _ (by omega) (by rw [hlp]; exact hr1) (by omega) (by omega) (by omega) _ _ rfl rfl w


theorem number_zero (e : Int) (rest away : Bool) (e1 : -5000 ≤ e) (e2 : e ≤ 5000) (hr : rest = false) (w : World) :
    Calls Try.prog 127 #[.agg #[.int .u64 0, .int .u64 0, .int .i64 e, .bool rest], .bool away] w fun e w' => e = .returned (.float .f64 0) ∧ Below w.heap.size w w' := by
  subst hr
  go_enter Try.func127, Try.ntmps127
  go_wp2_with fail
  all_goals go_ret
  all_goals exact ⟨rfl, by go_grown⟩

end Go.Proofs.Yteephgpefhodnaa
