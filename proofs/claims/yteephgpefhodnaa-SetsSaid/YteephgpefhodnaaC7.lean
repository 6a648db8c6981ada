/- Package ivl: Apply, joined. -/
import Derived.Test.YteephgpefhodnaaC6
namespace Go.Proofs.Yteephgpefhodnaa
open Go.RowKit Go.Sort Go.Fl
set_option linter.unusedSimpArgs false
set_option linter.unusedVariables false

/-- What an operation's function gives, before it is taken. -/
noncomputable def opLo (o A B C D : Int) : Int := if o = 0 then -B else if o = 1 then absLo A B else if o = 2 then endK 8 (absLo A B) (absLo A B) false else if o = 3 then (if B < 0 then PI else sqrtK (max A 0) false) else if o = 4 then floorK A else if o = 5 then divLo 4607182418800017408 4607182418800017408 A B else if o = 6 then endK 6 A C false else if o = 7 then endK 6 A (-D) false else if o = 8 then loN 8 A B C D 4 else if o = 9 then divLo A B C D else if o = 10 then min A C else max A C
noncomputable def opHi (o A B C D : Int) : Int := if o = 0 then -A else if o = 1 then absHi A B else if o = 2 then endK 8 (absHi A B) (absHi A B) true else if o = 3 then (if B < 0 then -PI else if B < PI then sqrtK B true else PI) else if o = 4 then floorK B else if o = 5 then divHi 4607182418800017408 4607182418800017408 A B else if o = 6 then endK 6 B D true else if o = 7 then endK 6 B (-C) true else if o = 8 then hiN 8 A B C D 4 else if o = 9 then divHi A B C D else if o = 10 then min B D else max B D
theorem opLo_0 (A B C D : Int) : opLo 0 A B C D = -B := rfl
theorem opHi_0 (A B C D : Int) : opHi 0 A B C D = -A := rfl
theorem opLo_1 (A B C D : Int) : opLo 1 A B C D = absLo A B := rfl
theorem opHi_1 (A B C D : Int) : opHi 1 A B C D = absHi A B := rfl
theorem opLo_2 (A B C D : Int) : opLo 2 A B C D = endK 8 (absLo A B) (absLo A B) false := rfl
theorem opHi_2 (A B C D : Int) : opHi 2 A B C D = endK 8 (absHi A B) (absHi A B) true := rfl
theorem opLo_3 (A B C D : Int) : opLo 3 A B C D = (if B < 0 then PI else sqrtK (max A 0) false) := rfl
theorem opHi_3 (A B C D : Int) : opHi 3 A B C D = (if B < 0 then -PI else if B < PI then sqrtK B true else PI) := rfl
theorem opLo_4 (A B C D : Int) : opLo 4 A B C D = floorK A := rfl
theorem opHi_4 (A B C D : Int) : opHi 4 A B C D = floorK B := rfl
theorem opLo_5 (A B C D : Int) : opLo 5 A B C D = divLo 4607182418800017408 4607182418800017408 A B := rfl
theorem opHi_5 (A B C D : Int) : opHi 5 A B C D = divHi 4607182418800017408 4607182418800017408 A B := rfl
theorem opLo_6 (A B C D : Int) : opLo 6 A B C D = endK 6 A C false := rfl
theorem opHi_6 (A B C D : Int) : opHi 6 A B C D = endK 6 B D true := rfl
theorem opLo_7 (A B C D : Int) : opLo 7 A B C D = endK 6 A (-D) false := rfl
theorem opHi_7 (A B C D : Int) : opHi 7 A B C D = endK 6 B (-C) true := rfl
theorem opLo_8 (A B C D : Int) : opLo 8 A B C D = loN 8 A B C D 4 := rfl
theorem opHi_8 (A B C D : Int) : opHi 8 A B C D = hiN 8 A B C D 4 := rfl
theorem opLo_9 (A B C D : Int) : opLo 9 A B C D = divLo A B C D := rfl
theorem opHi_9 (A B C D : Int) : opHi 9 A B C D = divHi A B C D := rfl
theorem opLo_10 (A B C D : Int) : opLo 10 A B C D = min A C := rfl
theorem opHi_10 (A B C D : Int) : opHi 10 A B C D = min B D := rfl
theorem opLo_11 (A B C D : Int) : opLo 11 A B C D = max A C := rfl
theorem opHi_11 (A B C D : Int) : opHi 11 A B C D = max B D := rfl

/-- The ends that two keys are taken to. -/
def nrmLo (p q : Int) : Int := if (p = PI ∧ q = -PI) ∨ (p ≤ q ∧ p < PI ∧ -PI < q) then p else PI
def nrmHi (p q : Int) : Int := if (p = PI ∧ q = -PI) ∨ (p ≤ q ∧ p < PI ∧ -PI < q) then q else -PI
theorem good_key {p q : Int} (hp : Rg p) (hq : Rg q) : good (ofKey p) (ofKey q) = decide ((p = PI ∧ q = -PI) ∨ (p ≤ q ∧ p < PI ∧ -PI < q)) := by
  unfold good
  rw [key_ofKey hp, key_ofKey hq]
  have h1 := not_nan_ofKey hp
  have h2 := not_nan_ofKey hq
  simp [h1, h2]
theorem tk_nrm {p q : Int} (hp : Rg p) (hq : Rg q) : tkLo (ofKey p) (ofKey q) = nrmLo p q ∧ tkHi (ofKey p) (ofKey q) = nrmHi p q := by
  unfold tkLo tkHi nrmLo nrmHi
  rw [good_key hp hq, key_ofKey hp, key_ofKey hq]
  by_cases h : (p = PI ∧ q = -PI) ∨ (p ≤ q ∧ p < PI ∧ -PI < q)
  · rw [decide_eq_true h, if_pos rfl, if_pos rfl, if_pos h, if_pos h]; exact ⟨rfl, rfl⟩
  · rw [decide_eq_false h, if_neg h, if_neg h, if_neg Bool.false_ne_true, if_neg Bool.false_ne_true]; exact ⟨rfl, rfl⟩
theorem nrm_iv {p q : Int} (hp : Rg p) (hq : Rg q) : Iv (nrmLo p q) (nrmHi p q) := by
  rw [← (tk_nrm hp hq).1, ← (tk_nrm hp hq).2]; exact tk_iv _ _

/-- Apply, of ends that are an interval's (or the empty one's). -/
def Uses (o A B C D : Int) : Prop := (0 ≤ o ∧ o ≤ 5 ∧ ¬ (A = PI ∧ B = -PI)) ∨ (6 ≤ o ∧ o ≤ 11 ∧ ¬ (A = PI ∧ B = -PI) ∧ ¬ (C = PI ∧ D = -PI))
instance (o A B C D : Int) : Decidable (Uses o A B C D) := by unfold Uses; infer_instance
noncomputable def apLo (o A B C D : Int) : Int := if Uses o A B C D then nrmLo (opLo o A B C D) (opHi o A B C D) else PI
noncomputable def apHi (o A B C D : Int) : Int := if Uses o A B C D then nrmHi (opLo o A B C D) (opHi o A B C D) else -PI
theorem apLo_no {o A B C D : Int} (h : ¬ Uses o A B C D) : apLo o A B C D = PI := by unfold apLo; rw [if_neg h]
theorem apHi_no {o A B C D : Int} (h : ¬ Uses o A B C D) : apHi o A B C D = -PI := by unfold apHi; rw [if_neg h]

theorem divP_rg (a b c d : Int) (ha : Rg a) (hb : Rg b) : Rg (divPLo a b c d) ∧ Rg (divPHi a b c d) := by
  constructor
  · unfold divPLo
    split
    · exact Rg_zero
    · split
      · exact loN_rg _ _ _ _ _ ha hb _
      · split
        · exact endK_rg _ _ _ _ ha
        · split
          · exact endK_rg _ _ _ _ ha
          · exact Rg_MI
  · unfold divPHi
    split
    · exact Rg_zero
    · split
      · exact hiN_rg _ _ _ _ _ ha hb _
      · split
        · exact endK_rg _ _ _ _ hb
        · split
          · exact endK_rg _ _ _ _ hb
          · exact Rg_PI
theorem div_rg (a b c d : Int) (ha : Rg a) (hb : Rg b) : Rg (divLo a b c d) ∧ Rg (divHi a b c d) := by
  constructor
  · unfold divLo
    split
    · exact Rg_PI
    · split
      · exact Rg_zero
      · split
        · exact Rg_MI
        · split
          · exact (divP_rg _ _ _ _ (Rg_neg hb) (Rg_neg ha)).1
          · exact (divP_rg _ _ _ _ ha hb).1
  · unfold divHi
    split
    · exact Rg_MI
    · split
      · exact Rg_zero
      · split
        · exact Rg_PI
        · split
          · exact (divP_rg _ _ _ _ (Rg_neg hb) (Rg_neg ha)).2
          · exact (divP_rg _ _ _ _ ha hb).2
theorem rg_one : Rg 4607182418800017408 := ⟨by decide, by decide⟩
theorem op_rg (o : Int) (A B C D : Int) (rA : Rg A) (rB : Rg B) (rC : Rg C) (rD : Rg D) : Rg (opLo o A B C D) ∧ Rg (opHi o A B C D) := by
  unfold opLo opHi
  by_cases h0 : o = 0
  · rw [if_pos h0, if_pos h0]; exact ⟨Rg_neg rB, Rg_neg rA⟩
  rw [if_neg h0, if_neg h0]
  by_cases h1 : o = 1
  · rw [if_pos h1, if_pos h1]; exact ⟨absLo_rg rA rB, absHi_rg rA rB⟩
  rw [if_neg h1, if_neg h1]
  by_cases h2 : o = 2
  · rw [if_pos h2, if_pos h2]; exact ⟨endK_rg _ _ _ _ (absLo_rg rA rB), endK_rg _ _ _ _ (absHi_rg rA rB)⟩
  rw [if_neg h2, if_neg h2]
  by_cases h3 : o = 3
  · rw [if_pos h3, if_pos h3]
    constructor
    · split
      · exact Rg_PI
      · exact rnd_rg _ _
    · split
      · exact Rg_MI
      · split
        · exact rnd_rg _ _
        · exact Rg_PI
  rw [if_neg h3, if_neg h3]
  by_cases h4 : o = 4
  · rw [if_pos h4, if_pos h4]; exact ⟨floorK_rg rA, floorK_rg rB⟩
  rw [if_neg h4, if_neg h4]
  by_cases h5 : o = 5
  · rw [if_pos h5, if_pos h5]; exact div_rg _ _ _ _ rg_one rg_one
  rw [if_neg h5, if_neg h5]
  by_cases h6 : o = 6
  · rw [if_pos h6, if_pos h6]; exact ⟨endK_rg _ _ _ _ rA, endK_rg _ _ _ _ rB⟩
  rw [if_neg h6, if_neg h6]
  by_cases h7 : o = 7
  · rw [if_pos h7, if_pos h7]; exact ⟨endK_rg _ _ _ _ rA, endK_rg _ _ _ _ rB⟩
  rw [if_neg h7, if_neg h7]
  by_cases h8 : o = 8
  · rw [if_pos h8, if_pos h8]; exact ⟨loN_rg _ _ _ _ _ rA rB _, hiN_rg _ _ _ _ _ rA rB _⟩
  rw [if_neg h8, if_neg h8]
  by_cases h9 : o = 9
  · rw [if_pos h9, if_pos h9]; exact div_rg _ _ _ _ rA rB
  rw [if_neg h9, if_neg h9]
  by_cases h10 : o = 10
  · rw [if_pos h10, if_pos h10]; exact ⟨rg_min rA rC, rg_min rB rD⟩
  rw [if_neg h10, if_neg h10]
  exact ⟨rg_max rA rC, rg_max rB rD⟩
theorem ap_iv (o A B C D : Int) (rA : Rg A) (rB : Rg B) (rC : Rg C) (rD : Rg D) : Iv (apLo o A B C D) (apHi o A B C D) := by
  unfold apLo apHi
  by_cases h : Uses o A B C D
  · rw [if_pos h, if_pos h]; exact nrm_iv (op_rg o A B C D rA rB rC rD).1 (op_rg o A B C D rA rB rC rD).2
  · rw [if_neg h, if_neg h]; exact ⟨Rg_PI, Rg_MI, .inl ⟨rfl, rfl⟩⟩

theorem ivlapply_any (o : Int) (a b c d : Nat) (ha : Wd a) (hb : Wd b) (hc : Wd c) (hd : Wd d) (w : World) :
    Calls Try.prog 69 #[.int .i64 o, .agg #[.float .f64 (a), .float .f64 (b)], .agg #[.float .f64 (c), .float .f64 (d)]] w fun e w' => e = .returned (.agg #[.float .f64 (ofKey (apLo o (tkLo a b) (tkHi a b) (tkLo c d) (tkHi c d))), .float .f64 (ofKey (apHi o (tkLo a b) (tkHi a b) (tkLo c d) (tkHi c d)))]) ∧ Below w.heap.size w w' := by
  obtain ⟨rA, rB, vA⟩ := tk_iv a b
  obtain ⟨rC, rD, vC⟩ := tk_iv c d
  have hP := PI_pos
  by_cases ho : o < 0 ∨ 11 < o
  · rw [apLo_no (by unfold Uses; omega), apHi_no (by unfold Uses; omega)]
    exact apply_none o a b c d ha hb hc hd ho w
  · by_cases hn : tkLo a b = PI ∧ tkHi a b = -PI
    · rw [apLo_no (by unfold Uses; omega), apHi_no (by unfold Uses; omega)]
      rcases (show o = 0 ∨ o = 1 ∨ o = 2 ∨ o = 3 ∨ o = 4 ∨ o = 5 ∨ o = 6 ∨ o = 7 ∨ o = 8 ∨ o = 9 ∨ o = 10 ∨ o = 11 by omega) with rfl | rfl | rfl | rfl | rfl | rfl | rfl | rfl | rfl | rfl | rfl | rfl
      · exact apply_one_no 0 a b c d ha hb hc hd _ enter_0 find_0 hn w
      · exact apply_one_no 1 a b c d ha hb hc hd _ enter_1 find_1 hn w
      · exact apply_one_no 2 a b c d ha hb hc hd _ enter_2 find_2 hn w
      · exact apply_one_no 3 a b c d ha hb hc hd _ enter_3 find_3 hn w
      · exact apply_one_no 4 a b c d ha hb hc hd _ enter_4 find_4 hn w
      · exact apply_one_no 5 a b c d ha hb hc hd _ enter_5 find_5 hn w
      · exact apply_two_no 6 a b c d ha hb hc hd _ enter_6 find_6 hn w
      · exact apply_two_no 7 a b c d ha hb hc hd _ enter_7 find_7 hn w
      · exact apply_two_no 8 a b c d ha hb hc hd _ enter_8 find_8 hn w
      · exact apply_two_no 9 a b c d ha hb hc hd _ enter_9 find_9 hn w
      · exact apply_two_no 10 a b c d ha hb hc hd _ enter_10 find_10 hn w
      · exact apply_two_no 11 a b c d ha hb hc hd _ enter_11 find_11 hn w
    · by_cases hn2 : 6 ≤ o ∧ tkLo c d = PI ∧ tkHi c d = -PI
      · rw [apLo_no (by unfold Uses; omega), apHi_no (by unfold Uses; omega)]
        obtain ⟨h6, hn2⟩ := hn2
        rcases (show o = 6 ∨ o = 7 ∨ o = 8 ∨ o = 9 ∨ o = 10 ∨ o = 11 by omega) with rfl | rfl | rfl | rfl | rfl | rfl
        · exact apply_two_no2 6 a b c d ha hb hc hd _ enter_6 find_6 hn hn2 w
        · exact apply_two_no2 7 a b c d ha hb hc hd _ enter_7 find_7 hn hn2 w
        · exact apply_two_no2 8 a b c d ha hb hc hd _ enter_8 find_8 hn hn2 w
        · exact apply_two_no2 9 a b c d ha hb hc hd _ enter_9 find_9 hn hn2 w
        · exact apply_two_no2 10 a b c d ha hb hc hd _ enter_10 find_10 hn hn2 w
        · exact apply_two_no2 11 a b c d ha hb hc hd _ enter_11 find_11 hn hn2 w
      · have hu : Uses o (tkLo a b) (tkHi a b) (tkLo c d) (tkHi c d) := by unfold Uses; omega
        obtain ⟨rx, ry⟩ := op_rg o _ _ _ _ rA rB rC rD
        have hr := tk_nrm rx ry
        unfold apLo apHi
        rw [if_pos hu, if_pos hu, ← hr.1, ← hr.2]
        clear hr hu
        rcases (show o = 0 ∨ o = 1 ∨ o = 2 ∨ o = 3 ∨ o = 4 ∨ o = 5 ∨ o = 6 ∨ o = 7 ∨ o = 8 ∨ o = 9 ∨ o = 10 ∨ o = 11 by omega) with rfl | rfl | rfl | rfl | rfl | rfl | rfl | rfl | rfl | rfl | rfl | rfl
        · exact apply_one 0 a b c d ha hb hc hd _ _ _ enter_0 find_0 rx ry hn (fun w => ivlneg_any _ _ rA rB w) w
        · exact apply_one 1 a b c d ha hb hc hd _ _ _ enter_1 find_1 rx ry hn (fun w => ivlabs_any _ _ rA rB w) w
        · exact apply_one 2 a b c d ha hb hc hd _ _ _ enter_2 find_2 rx ry hn (fun w => ivlsqr_any _ _ rA rB w) w
        · exact apply_one 3 a b c d ha hb hc hd _ _ _ enter_3 find_3 rx ry hn (fun w => ivlsqrt_any _ _ rA rB (by omega) w) w
        · exact apply_one 4 a b c d ha hb hc hd _ _ _ enter_4 find_4 rx ry hn (fun w => find1_any _ _ rA rB w) w
        · exact apply_one 5 a b c d ha hb hc hd _ _ _ enter_5 find_5 rx ry hn (fun w => find2_any _ _ rA rB (by omega) w) w
        · exact apply_two 6 a b c d ha hb hc hd _ _ _ enter_6 find_6 rx ry hn (by omega) (fun w => ivladd_any _ _ _ _ rA rB rC rD (.inl ⟨rfl, by omega, by omega⟩) (.inl ⟨rfl, by omega, by omega⟩) w) w
        · exact apply_two 7 a b c d ha hb hc hd _ _ _ enter_7 find_7 rx ry hn (by omega) (fun w => find3_any _ _ _ _ rA rB rC rD (.inl ⟨rfl, by omega, by omega⟩) (.inl ⟨rfl, by omega, by omega⟩) w) w
        · exact apply_two 8 a b c d ha hb hc hd _ _ _ enter_8 find_8 rx ry hn (by omega) (fun w => find4_any _ _ _ _ rA rB rC rD w) w
        · exact apply_two 9 a b c d ha hb hc hd _ _ _ enter_9 find_9 rx ry hn (by omega) (fun w => ivldiv_any _ _ _ _ rA rB rC rD (by omega) w) w
        · exact apply_two 10 a b c d ha hb hc hd _ _ _ enter_10 find_10 rx ry hn (by omega) (fun w => find5_any _ _ _ _ rA rB rC rD w) w
        · exact apply_two 11 a b c d ha hb hc hd _ _ _ enter_11 find_11 rx ry hn (by omega) (fun w => find6_any _ _ _ _ rA rB rC rD w) w

theorem spansapply_any (o : Int) (a b c d : Nat) (ha : Wd a) (hb : Wd b) (hc : Wd c) (hd : Wd d) (w : World) :
    Calls Try.prog 37 #[.int .i64 o, .agg #[.float .f64 (a), .float .f64 (b)], .agg #[.float .f64 (c), .float .f64 (d)]] w fun e w' => e = .returned (.agg #[.float .f64 (ofKey (apLo o (tkLo a b) (tkHi a b) (tkLo c d) (tkHi c d))), .float .f64 (ofKey (apHi o (tkLo a b) (tkHi a b) (tkLo c d) (tkHi c d)))]) ∧ Below w.heap.size w w' := by
  have AP := Lib.hid (fun w => ivlapply_any o a b c d ha hb hc hd w)
  generalize apLo o (tkLo a b) (tkHi a b) (tkLo c d) (tkHi c d) = x at *
  generalize apHi o (tkLo a b) (tkHi a b) (tkLo c d) (tkHi c d) = y at *
  go_enter Try.func37, Try.ntmps37
  go_wp2_with fail
  refine (AP.out _).mono ?_
  rintro e w1 ⟨rfl, hbw1⟩
  have A0_0 : At (World.alloc (World.alloc (World.alloc w (.cells #[.float .f64 (a), .float .f64 (b)] 28)) (.cells #[.float .f64 (c), .float .f64 (d)] 28)) (.cells #[.float .f64 (0), .float .f64 (0)] 28)) (w.heap.size) 0 (.float .f64 (a)) := ⟨by simp [go_sem], by simp [go_sem]⟩
  have A0_1 : At (World.alloc (World.alloc (World.alloc w (.cells #[.float .f64 (a), .float .f64 (b)] 28)) (.cells #[.float .f64 (c), .float .f64 (d)] 28)) (.cells #[.float .f64 (0), .float .f64 (0)] 28)) (w.heap.size) 1 (.float .f64 (b)) := ⟨by simp [go_sem], by simp [go_sem]⟩
  have A1_0 : At (World.alloc (World.alloc (World.alloc w (.cells #[.float .f64 (a), .float .f64 (b)] 28)) (.cells #[.float .f64 (c), .float .f64 (d)] 28)) (.cells #[.float .f64 (0), .float .f64 (0)] 28)) (w.heap.size + 1) 0 (.float .f64 (c)) := ⟨by simp [go_sem], by simp [go_sem]⟩
  have A1_1 : At (World.alloc (World.alloc (World.alloc w (.cells #[.float .f64 (a), .float .f64 (b)] 28)) (.cells #[.float .f64 (c), .float .f64 (d)] 28)) (.cells #[.float .f64 (0), .float .f64 (0)] 28)) (w.heap.size + 1) 1 (.float .f64 (d)) := ⟨by simp [go_sem], by simp [go_sem]⟩
  have A2_0 : At (World.alloc (World.alloc (World.alloc w (.cells #[.float .f64 (a), .float .f64 (b)] 28)) (.cells #[.float .f64 (c), .float .f64 (d)] 28)) (.cells #[.float .f64 (0), .float .f64 (0)] 28)) (w.heap.size + 1 + 1) 0 (.float .f64 (0)) := ⟨by simp [go_sem], by simp [go_sem]⟩
  have A2_1 : At (World.alloc (World.alloc (World.alloc w (.cells #[.float .f64 (a), .float .f64 (b)] 28)) (.cells #[.float .f64 (c), .float .f64 (d)] 28)) (.cells #[.float .f64 (0), .float .f64 (0)] 28)) (w.heap.size + 1 + 1) 1 (.float .f64 (0)) := ⟨by simp [go_sem], by simp [go_sem]⟩
  replace A0_0 := At.below (A0_0) hbw1
  replace A0_1 := At.below (A0_1) hbw1
  replace A1_0 := At.below (A1_0) hbw1
  replace A1_1 := At.below (A1_1) hbw1
  replace A2_0 := At.below (A2_0) hbw1
  replace A2_1 := At.below (A2_1) hbw1
  have B := below_alloc (below_alloc (below_alloc (hbw1)))
  clear hbw1
  have F0_0 := A0_0.1; have G0_0 := A0_0.2
  have F0_1 := A0_1.1; have G0_1 := A0_1.2
  have F1_0 := A1_0.1; have G1_0 := A1_0.2
  have F1_1 := A1_1.1; have G1_1 := A1_1.2
  have F2_0 := A2_0.1; have G2_0 := A2_0.2
  have F2_1 := A2_1.1; have G2_1 := A2_1.2
  have Z0 := A0_0.lt
  have Z1 := A1_0.lt
  have Z2 := A2_0.lt
  go_wp2_with fail
  clear F0_0 G0_0 F0_1 G0_1 F1_0 G1_0 F1_1 G1_1 F2_0 G2_0 F2_1 G2_1 Z0 Z1 Z2
  replace A0_0 := At.set_blk (b' := w.heap.size + 1 + 1) (f' := 0) A0_0 (by first | omega | (have := B.size; omega)) (.float .f64 (ofKey (x)))
  replace A0_1 := At.set_blk (b' := w.heap.size + 1 + 1) (f' := 0) A0_1 (by first | omega | (have := B.size; omega)) (.float .f64 (ofKey (x)))
  replace A1_0 := At.set_blk (b' := w.heap.size + 1 + 1) (f' := 0) A1_0 (by first | omega | (have := B.size; omega)) (.float .f64 (ofKey (x)))
  replace A1_1 := At.set_blk (b' := w.heap.size + 1 + 1) (f' := 0) A1_1 (by first | omega | (have := B.size; omega)) (.float .f64 (ofKey (x)))
  replace A2_0 := At.set_same A2_0 (.float .f64 (ofKey (x)))
  replace A2_1 := At.set_off (f' := 0) A2_1 (by decide) (.float .f64 (ofKey (x)))
  replace A0_0 := At.set_blk (b' := w.heap.size + 1 + 1) (f' := 1) A0_0 (by first | omega | (have := B.size; omega)) (.float .f64 (ofKey (y)))
  replace A0_1 := At.set_blk (b' := w.heap.size + 1 + 1) (f' := 1) A0_1 (by first | omega | (have := B.size; omega)) (.float .f64 (ofKey (y)))
  replace A1_0 := At.set_blk (b' := w.heap.size + 1 + 1) (f' := 1) A1_0 (by first | omega | (have := B.size; omega)) (.float .f64 (ofKey (y)))
  replace A1_1 := At.set_blk (b' := w.heap.size + 1 + 1) (f' := 1) A1_1 (by first | omega | (have := B.size; omega)) (.float .f64 (ofKey (y)))
  replace A2_0 := At.set_off (f' := 1) A2_0 (by decide) (.float .f64 (ofKey (y)))
  replace A2_1 := At.set_same A2_1 (.float .f64 (ofKey (y)))
  have B' : Below w.heap.size w (World.setCell (World.setCell w1 ⟨w.heap.size + 1 + 1, 0, none⟩ (.float .f64 (ofKey (x)))) ⟨w.heap.size + 1 + 1, 1, none⟩ (.float .f64 (ofKey (y)))) := (Below.setCell (Below.setCell B (p := ⟨w.heap.size + 1 + 1, 0, none⟩) (by first | (show w.heap.size ≤ w.heap.size + 1 + 1; omega) | (have := B.size; show w.heap.size ≤ w.heap.size + 1 + 1; omega)) (.float .f64 (ofKey (x)))) (p := ⟨w.heap.size + 1 + 1, 1, none⟩) (by first | (show w.heap.size ≤ w.heap.size + 1 + 1; omega) | (have := B.size; show w.heap.size ≤ w.heap.size + 1 + 1; omega)) (.float .f64 (ofKey (y))))
  clear B
  obtain ⟨wz, hwz⟩ : ∃ wz, wz = (World.setCell (World.setCell w1 ⟨w.heap.size + 1 + 1, 0, none⟩ (.float .f64 (ofKey (x)))) ⟨w.heap.size + 1 + 1, 1, none⟩ (.float .f64 (ofKey (y)))) := ⟨_, rfl⟩
  rw [← hwz]
  replace A0_0 := At.of A0_0 hwz
  replace A0_1 := At.of A0_1 hwz
  replace A1_0 := At.of A1_0 hwz
  replace A1_1 := At.of A1_1 hwz
  replace A2_0 := At.of A2_0 hwz
  replace A2_1 := At.of A2_1 hwz
  have B := below_of B' hwz
  clear B' hwz
  have F0_0 := A0_0.1; have G0_0 := A0_0.2
  have F0_1 := A0_1.1; have G0_1 := A0_1.2
  have F1_0 := A1_0.1; have G1_0 := A1_0.2
  have F1_1 := A1_1.1; have G1_1 := A1_1.2
  have F2_0 := A2_0.1; have G2_0 := A2_0.2
  have F2_1 := A2_1.1; have G2_1 := A2_1.2
  have Z0 := A0_0.lt
  have Z1 := A1_0.lt
  have Z2 := A2_0.lt
  refine bodyPost_ret (v := .agg #[.float .f64 (ofKey (x)), .float .f64 (ofKey (y))]) (by simp [results, Try.results37, go_sem, F2_0, F2_1]) rfl ⟨rfl, ?_⟩
  exact B

end Go.Proofs.Yteephgpefhodnaa
