/- Contracts of the smallest functions: numbers out of bits, infinities, empty intervals, what is an interval. Contracts of what takes an interval (New, Take) and of what holds two against each other; the statement Builds. -/
import Derived.Test.YteephgpefhodnabGreatRows
import Derived.Test.YteephgpefhodnabGreatWA
import Derived.Deep.RegionWith
import Derived.OpenShut
namespace Go.Proofs.YteephgpefhodnabGreat
open Go.RowKit Go.Sort Go.Fl
set_option linter.unusedSimpArgs false
set_option linter.unusedVariables false

theorem run_frombits (n : Int) (w : World) : (callFunc 16 #[.int .u64 n]).run Tryz.prog w = .ok (.value (.float .f64 n.toNat)) w := by
  rw [run_callFunc_extern Tryz.func16 (by kernel_rfl) (by kernel_rfl) (by kernel_rfl) (by kernel_rfl : Extern.find _ = some Extern.MathFloatBits.float64frombits)]
  rfl
theorem run_tobits (n : Nat) (w : World) : (callFunc 32 #[.float .f64 n]).run Tryz.prog w = .ok (.value (.int .u64 n)) w := by
  rw [run_callFunc_extern Tryz.func32 (by kernel_rfl) (by kernel_rfl) (by kernel_rfl) (by kernel_rfl : Extern.find _ = some Extern.MathFloatBits.float64bits)]
  rfl

theorem lawof_any (n : Int) (w : World) :
    Calls Tryz.prog 5 #[.int .u64 n] w fun e w' => e = .returned (.float .f64 n.toNat) ∧ w = w' := by
  have h := run_frombits
  go_enter Tryz.func5, Tryz.ntmps5
  go_wp2
  go_ret
  exact ⟨rfl, rfl⟩

theorem mathinf_pos (n : Int) (hn : 0 ≤ n) (w : World) :
    Calls Tryz.prog 51 #[.int .i64 n] w fun e w' => e = .returned (.float .f64 (ofKey (PI))) ∧ w = w' := by
  have h := run_frombits
  go_enter Tryz.func51, Tryz.ntmps51
  go_wp2
  go_ret
  exact ⟨rfl, rfl⟩
theorem refinf_any (w : World) :
    Calls Tryz.prog 38 #[] w fun e w' => e = .returned (.float .f64 (ofKey (PI))) ∧ w = w' := by
  go_enter Tryz.func38, Tryz.ntmps38
  go_wp2_with (go_at_call 51; refine (mathinf_pos _ (by omega) _).mono ?_; rintro e w' ⟨rfl, rfl⟩)
  go_ret
  exact ⟨rfl, rfl⟩
theorem refempty_any (w : World) :
    Calls Tryz.prog 19 #[] w fun e w' => e = .returned (.agg #[.float .f64 (ofKey (PI)), .float .f64 (ofKey (-PI))]) ∧ Below w.heap.size w w' := by
  go_enter Tryz.func19, Tryz.ntmps19
  go_wp2_with (go_at_call 38; refine (refinf_any _).mono ?_; rintro e w' ⟨rfl, rfl⟩)
  go_returns
  exact ⟨rfl, by go_grown⟩
theorem ivlinf_any (w : World) :
    Calls Tryz.prog 50 #[] w fun e w' => e = .returned (.float .f64 (ofKey (PI))) ∧ w = w' := by
  go_enter Tryz.func50, Tryz.ntmps50
  go_wp2_with (go_at_call 51; refine (mathinf_pos _ (by omega) _).mono ?_; rintro e w' ⟨rfl, rfl⟩)
  go_ret
  exact ⟨rfl, rfl⟩
theorem ivlempty_any (w : World) :
    Calls Tryz.prog 30 #[] w fun e w' => e = .returned (.agg #[.float .f64 (ofKey (PI)), .float .f64 (ofKey (-PI))]) ∧ Below w.heap.size w w' := by
  go_enter Tryz.func30, Tryz.ntmps30
  go_wp2_with (go_at_call 50; refine (ivlinf_any _).mono ?_; rintro e w' ⟨rfl, rfl⟩)
  go_returns
  exact ⟨rfl, by go_grown⟩

/-- Is it an interval? -/
def good (a b : Nat) : Bool := decide (¬ nan a ∧ ¬ nan b ∧ ((key a = PI ∧ key b = -PI) ∨ (key a ≤ key b ∧ key a < PI ∧ -PI < key b)))

theorem refgood_any (a b : Nat) (w : World) :
    Calls Tryz.prog 18 #[.agg #[.float .f64 (a), .float .f64 (b)]] w fun e w' => e = .returned (.bool (good a b)) ∧ Below w.heap.size w w' := by
  have hP := PI_pos
  by_cases ha : nan a
  · go_enter Tryz.func18, Tryz.ntmps18
    go_wp2
    refine wp_region_quiet_lit (by kernel_rfl) (by kernel_rfl) ?_
    repeat (any_goals (first | go_big_quiet_step ((go_at_call 38; exact quiet_s (refinf_any _))) | quiet_step ((go_at_call 38; exact quiet_s (refinf_any _))) | (refine wpQuiet_step (fun K hK => ?_); go_simp; split <;> (refine hK _ ?_; clear hK K))))
    all_goals (refine wpQuiet_nil ?_; intro _ hw'; obtain ⟨nq, hw''⟩ := hw'; subst hw'')
    all_goals go_wp2
    all_goals go_ret
    all_goals exact ⟨ret_b (by simp [good, ha]), below_drewN ((Below.refl _ _).alloc (Nat.le_refl _) _) _⟩
  · have ra1 := (Rg_key ha).1
    have ra2 := (Rg_key ha).2
    by_cases hb : nan b
    · go_enter Tryz.func18, Tryz.ntmps18
      go_wp2
      refine wp_region_quiet_lit (by kernel_rfl) (by kernel_rfl) ?_
      repeat (any_goals (first | go_big_quiet_step ((go_at_call 38; exact quiet_s (refinf_any _))) | quiet_step ((go_at_call 38; exact quiet_s (refinf_any _))) | (refine wpQuiet_step (fun K hK => ?_); go_simp; split <;> (refine hK _ ?_; clear hK K))))
      all_goals (refine wpQuiet_nil ?_; intro _ hw'; obtain ⟨nq, hw''⟩ := hw'; subst hw'')
      all_goals go_wp2
      all_goals go_ret
      all_goals exact ⟨ret_b (by simp [good, hb]), below_drewN ((Below.refl _ _).alloc (Nat.le_refl _) _) _⟩
    · have rb1 := (Rg_key hb).1
      have rb2 := (Rg_key hb).2
      go_enter Tryz.func18, Tryz.ntmps18
      go_wp2
      refine wp_region_quiet_lit (by kernel_rfl) (by kernel_rfl) ?_
      repeat (any_goals (first | go_big_quiet_step ((go_at_call 38; exact quiet_s (refinf_any _))) | quiet_step ((go_at_call 38; exact quiet_s (refinf_any _))) | (refine wpQuiet_step (fun K hK => ?_); go_simp; split <;> (refine hK _ ?_; clear hK K))))
      all_goals (refine wpQuiet_nil ?_; intro _ hw'; obtain ⟨nq, hw''⟩ := hw'; subst hw'')
      all_goals go_wp2
      all_goals go_ret
      all_goals refine ⟨ret_b ?_, below_drewN ((Below.refl _ _).alloc (Nat.le_refl _) _) _⟩
      all_goals simp only [good, ha, hb, not_false_eq_true, true_and]
      all_goals (first | rfl | (refine (decide_eq_true ?_).symm; omega) | (refine (decide_eq_false ?_).symm; omega) | (refine decide_eq_decide.2 ?_; omega) | (rw [Bool.eq_iff_iff]; simp only [Bool.and_eq_true, Bool.or_eq_true, Bool.not_eq_true, Bool.not_eq_eq_eq_not, Bool.not_true, Bool.not_false, decide_eq_true_eq, decide_eq_false_iff_not, Bool.false_eq_true, true_iff, false_iff] <;> omega))

set_option maxRecDepth 100000 in
theorem eqiv (a b c d : Nat) (w : World) : (Op.equalIn 10000 26 (.agg #[.float .f64 a, .float .f64 b]) (.agg #[.float .f64 c, .float .f64 d])).run Tryz.prog w = .ok ((FloatKind.f64.format.order a c == some .eq) && (FloatKind.f64.format.order b d == some .eq)) w := by
  have u3 := Tryz.underlying23
  have a3 := Tryz.isAgg23
  have z3 := Tryz.sizeOf23
  have hS : Tryz.prog.underlying 26 = some (.struct (Tryz.prog.fieldsOf 26)) := by kernel_rfl
  have hp : Tryz.prog.stoodInHeld 26 = false := by kernel_rfl
  rw [show (10000 : Nat) = 9999 + 1 from rfl, run_equalIn_agg w 9999 26 _ _ hS hp]
  simp only [Program.fieldsOf, Tryz.underlying26]
  have f := fun (w : World) (x y : Nat) => run_equalIn_float (P := Tryz.prog) w 9998 23 .f64 .f64 x y u3
  go_simp
  by_cases h1 : FloatKind.f64.format.order a c = some .eq <;> by_cases h2 : FloatKind.f64.format.order b d = some .eq <;> simp [h1, h2]
theorem ivlgood_any (a b : Nat) (w : World) :
    Calls Tryz.prog 33 #[.agg #[.float .f64 (a), .float .f64 (b)]] w fun e w' => e = .returned (.bool (good a b)) ∧ Below w.heap.size w w' := by
  have hP := PI_pos
  have he := eqiv
  have k0 := cell_regrown (w := (World.alloc w (.cells #[.float .f64 (a), .float .f64 (b)] 26))) (a := ⟨w.heap.size, 0, none⟩) (v := .float .f64 a) (by simp [go_sem])
  have k1 := cell_regrown (w := (World.alloc w (.cells #[.float .f64 (a), .float .f64 (b)] 26))) (a := ⟨w.heap.size, 1, none⟩) (v := .float .f64 b) (by simp [go_sem])
  by_cases ha : nan a
  · go_enter Tryz.func33, Tryz.ntmps33
    go_wp2
    all_goals refine wp_region_below (by kernel_rfl) (by kernel_rfl) ?_
    repeat (any_goals (first | go_big_quiet_step ((first | (go_at_call 30; exact Calls.regrown_of (ivlempty_any _)) | (go_at_call 50; exact quiet_same (ivlinf_any _)))) | quiet_step ((first | (go_at_call 30; exact Calls.regrown_of (ivlempty_any _)) | (go_at_call 50; exact quiet_same (ivlinf_any _)))) | (refine wpQuiet_step (fun K hK => ?_); go_simp; split <;> (refine hK _ ?_; clear hK K))))
    all_goals (refine wpQuiet_nil (fun w2 hbw2 => ?_))
    all_goals go_wp2
    all_goals go_ret
    all_goals exact ⟨ret_b (by simp [good, ha]), below_alloc hbw2⟩
  · have ra1 := (Rg_key ha).1
    have ra2 := (Rg_key ha).2
    by_cases hb : nan b
    · go_enter Tryz.func33, Tryz.ntmps33
      go_wp2
      all_goals refine wp_region_below (by kernel_rfl) (by kernel_rfl) ?_
      repeat (any_goals (first | go_big_quiet_step ((first | (go_at_call 30; exact Calls.regrown_of (ivlempty_any _)) | (go_at_call 50; exact quiet_same (ivlinf_any _)))) | quiet_step ((first | (go_at_call 30; exact Calls.regrown_of (ivlempty_any _)) | (go_at_call 50; exact quiet_same (ivlinf_any _)))) | (refine wpQuiet_step (fun K hK => ?_); go_simp; split <;> (refine hK _ ?_; clear hK K))))
      all_goals (refine wpQuiet_nil (fun w2 hbw2 => ?_))
      all_goals go_wp2
      all_goals go_ret
      all_goals exact ⟨ret_b (by simp [good, hb]), below_alloc hbw2⟩
    · have rb1 := (Rg_key hb).1
      have rb2 := (Rg_key hb).2
      go_enter Tryz.func33, Tryz.ntmps33
      go_wp2
      all_goals refine wp_region_below (by kernel_rfl) (by kernel_rfl) ?_
      repeat (any_goals (first | go_big_quiet_step ((first | (go_at_call 30; exact Calls.regrown_of (ivlempty_any _)) | (go_at_call 50; exact quiet_same (ivlinf_any _)))) | quiet_step ((first | (go_at_call 30; exact Calls.regrown_of (ivlempty_any _)) | (go_at_call 50; exact quiet_same (ivlinf_any _)))) | (refine wpQuiet_step (fun K hK => ?_); go_simp; split <;> (refine hK _ ?_; clear hK K))))
      all_goals (refine wpQuiet_nil (fun w2 hbw2 => ?_))
      all_goals go_wp2
      all_goals go_ret
      all_goals refine ⟨ret_b ?_, below_alloc hbw2⟩
      all_goals simp only [good, ha, hb, not_false_eq_true, true_and]
      all_goals (first | rfl | (refine (decide_eq_true ?_).symm; omega) | (refine (decide_eq_false ?_).symm; omega) | (refine decide_eq_decide.2 ?_; omega) | (rw [Bool.eq_iff_iff]; simp only [Bool.and_eq_true, Bool.or_eq_true, Bool.not_eq_true, Bool.not_eq_eq_eq_not, Bool.not_true, Bool.not_false, decide_eq_true_eq, decide_eq_false_iff_not, Bool.false_eq_true, true_iff, false_iff] <;> omega))

end Go.Proofs.YteephgpefhodnabGreat
namespace Go.Proofs.YteephgpefhodnabGreat
open Go.RowKit Go.Sort Go.Fl
set_option linter.unusedSimpArgs false
set_option linter.unusedVariables false

theorem wd_of {n : Int} (h : (Lit.int .u64 n).wf = true) : Wd n.toNat := by
  have h := bounds_u64 h
  unfold Wd
  omega
theorem good_cases {a b : Nat} (h : good a b = true) : ¬ nan a ∧ ¬ nan b ∧ ((key a = PI ∧ key b = -PI) ∨ (key a ≤ key b ∧ key a < PI ∧ -PI < key b)) := by
  unfold good at h; exact of_decide_eq_true h
/-- The ends of an interval as it is taken. -/
def tkLo (a b : Nat) : Int := if good a b then key a else PI
def tkHi (a b : Nat) : Int := if good a b then key b else -PI
/-- Two keys that are an interval's ends. -/
def Iv (a b : Int) : Prop := Rg a ∧ Rg b ∧ ((a = PI ∧ b = -PI) ∨ (a ≤ b ∧ a < PI ∧ -PI < b))
theorem tk_iv (a b : Nat) : Iv (tkLo a b) (tkHi a b) := by
  unfold tkLo tkHi
  by_cases h : good a b = true
  · rw [if_pos h, if_pos h]
    obtain ⟨h1, h2, h3⟩ := good_cases h
    exact ⟨Rg_key h1, Rg_key h2, h3⟩
  · rw [if_neg h, if_neg h]; exact ⟨Rg_PI, Rg_MI, .inl ⟨rfl, rfl⟩⟩

theorem ivlno_any (a b : Int) (ha : Rg a) (hb : Rg b) (w : World) :
    Calls Tryz.prog 35 #[.agg #[.float .f64 (ofKey (a)), .float .f64 (ofKey (b))]] w fun e w' => e = .returned (.bool (decide (a = PI ∧ b = -PI))) ∧ Below w.heap.size w w' := by
  have he := eqiv
  have k0 := cell_regrown (w := (World.alloc w (.cells #[.float .f64 (ofKey a), .float .f64 (ofKey b)] 26))) (a := ⟨w.heap.size, 0, none⟩) (v := .float .f64 (ofKey (a))) (by simp [go_sem])
  have k1 := cell_regrown (w := (World.alloc w (.cells #[.float .f64 (ofKey a), .float .f64 (ofKey b)] 26))) (a := ⟨w.heap.size, 1, none⟩) (v := .float .f64 (ofKey (b))) (by simp [go_sem])
  go_enter Tryz.func35, Tryz.ntmps35
  go_wp2
  all_goals refine wp_region_below (by kernel_rfl) (by kernel_rfl) ?_
  repeat (any_goals (first | go_big_quiet_step ((go_at_call 30; exact Calls.regrown_of (ivlempty_any _))) | quiet_step ((go_at_call 30; exact Calls.regrown_of (ivlempty_any _))) | (refine wpQuiet_step (fun K hK => ?_); go_simp; split <;> (refine hK _ ?_; clear hK K))))
  all_goals (refine wpQuiet_nil (fun w2 hbw2 => ?_))
  go_wp2
  go_ret
  exact ⟨ret_b (by rw [Bool.decide_and]), below_alloc hbw2⟩

theorem refno_any (a b : Int) (ha : Rg a) (hb : Rg b) (w : World) :
    Calls Tryz.prog 20 #[.agg #[.float .f64 (ofKey (a)), .float .f64 (ofKey (b))]] w fun e w' => e = .returned (.bool (decide (b < a))) ∧ Below w.heap.size w w' := by
  go_enter Tryz.func20, Tryz.ntmps20
  go_wp2
  go_ret
  exact ⟨rfl, by go_grown⟩

theorem plain_any (x : Nat) (hx : ¬ nan x) (hw : Wd x) (w : World) :
    Calls Tryz.prog 40 #[.float .f64 x] w fun e w' => e = .returned (.float .f64 (ofKey (key x))) ∧ w = w' := by
  by_cases h : key x = 0
  · go_enter Tryz.func40, Tryz.ntmps40
    go_wp2
    go_ret
    exact ⟨by rw [h]; rfl, rfl⟩
  · go_enter Tryz.func40, Tryz.ntmps40
    go_wp2
    go_ret
    refine ⟨?_, rfl⟩
    show Ending.returned (.float .f64 x) = _
    rw [← word_of_key hw h]

theorem reftaken_any (a b : Nat) (hwa : Wd a) (hwb : Wd b) (w : World) :
    Calls Tryz.prog 22 #[.agg #[.float .f64 (a), .float .f64 (b)]] w fun e w' => e = .returned (.agg #[.float .f64 (ofKey (tkLo a b)), .float .f64 (ofKey (tkHi a b))]) ∧ Below w.heap.size w w' := by
  by_cases h : good a b = true
  · obtain ⟨na, nb, _⟩ := good_cases h
    rw [show tkLo a b = key a by simp [tkLo, h], show tkHi a b = key b by simp [tkHi, h]]
    go_enter Tryz.func22, Tryz.ntmps22
    go_wp2_with (go_at_call 18; refine (refgood_any _ _ _).mono ?_; rintro e w1 ⟨rfl, hbw1⟩; skip)
    have c0 := RowKit.Below.cells hbw1 (b := w.heap.size) (o := 0) (v := .float .f64 a) (by first | assumption | simp [go_sem])
    have c1 := RowKit.Below.cells hbw1 (b := w.heap.size) (o := 1) (v := .float .f64 b) (by first | assumption | simp [go_sem])
    have d0 := RowKit.Below.cells hbw1 (b := w.heap.size + 1) (o := 0) (v := .float .f64 0) (by first | assumption | simp [go_sem])
    have d1 := RowKit.Below.cells hbw1 (b := w.heap.size + 1) (o := 1) (v := .float .f64 0) (by first | assumption | simp [go_sem])
    have e0 := RowKit.Below.froz hbw1 (b := w.heap.size + 1) (o := 0) (v := .float .f64 0) (by first | assumption | simp [go_sem]) (by first | assumption | simp [go_sem])
    have e1 := RowKit.Below.froz hbw1 (b := w.heap.size + 1) (o := 1) (v := .float .f64 0) (by first | assumption | simp [go_sem]) (by first | assumption | simp [go_sem])
    have k0 := cell_regrown c0
    have k1 := cell_regrown c1
    refine wp_region_below_tail 7 (by kernel_rfl) (by kernel_rfl) ?_
    simp only [List.take_succ_cons, List.take_zero, List.drop_succ_cons, List.drop_zero]
    repeat (go_big_quiet_step ((exact quiet_same (plain_any _ (by assumption) (by assumption) _))))
    refine wpQuiet_nil (fun w2 hbw2 => ?_)
    have f0 := hbw2.cells d0
    have f1 := hbw2.cells d1
    have g0 := hbw2.froz d0 e0
    have g1 := hbw2.froz d1 e1
    have B1 := below_alloc (below_alloc hbw1)
    have B2 := below_step B1 B1.size hbw2
    clear k0 k1 c0 c1 d0 d1 e0 e1
    go_wp2
    refine bodyPost_ret (v := .agg #[.float .f64 (ofKey (key a)), .float .f64 (ofKey (key b))]) (by simp [results, Tryz.results22, go_sem, f0, f1]) rfl ⟨rfl, ?_⟩
    go_grown
  · have h' : good a b = false := by simpa using h
    rw [show tkLo a b = PI by simp [tkLo, h], show tkHi a b = -PI by simp [tkHi, h]]
    go_enter Tryz.func22, Tryz.ntmps22
    go_wp2_with (first | (go_at_call 18; refine (refgood_any _ _ _).mono ?_; rintro e w1 ⟨rfl, hbw1⟩; have d0 := RowKit.Below.cells hbw1 (b := w.heap.size + 1) (o := 0) (v := .float .f64 0) (by first | assumption | simp [go_sem]); have d1 := RowKit.Below.cells hbw1 (b := w.heap.size + 1) (o := 1) (v := .float .f64 0) (by first | assumption | simp [go_sem]); have e0 := RowKit.Below.froz hbw1 (b := w.heap.size + 1) (o := 0) (v := .float .f64 0) (by first | assumption | simp [go_sem]) (by first | assumption | simp [go_sem]); have e1 := RowKit.Below.froz hbw1 (b := w.heap.size + 1) (o := 1) (v := .float .f64 0) (by first | assumption | simp [go_sem]) (by first | assumption | simp [go_sem])) | (go_at_call 19; refine (refempty_any _).mono ?_; rintro e w2 ⟨rfl, hbw2⟩; have f0 := hbw2.cells d0; have f1 := hbw2.cells d1; have g0 := hbw2.froz d0 e0; have g1 := hbw2.froz d1 e1))
    have B1 := below_alloc (below_alloc hbw1)
    have B2 := below_step B1 B1.size hbw2
    refine bodyPost_ret (v := .agg #[.float .f64 (ofKey (PI)), .float .f64 (ofKey (-PI))]) (by simp [results, Tryz.results22, go_sem, f0, f1]) rfl ⟨rfl, ?_⟩
    go_grown

theorem ivltake_any (a b : Nat) (hwa : Wd a) (hwb : Wd b) (w : World) :
    Calls Tryz.prog 37 #[.agg #[.float .f64 (a), .float .f64 (b)]] w fun e w' => e = .returned (.agg #[.float .f64 (ofKey (tkLo a b)), .float .f64 (ofKey (tkHi a b))]) ∧ Below w.heap.size w w' := by
  by_cases h : good a b = true
  · obtain ⟨na, nb, _⟩ := good_cases h
    rw [show tkLo a b = key a by simp [tkLo, h], show tkHi a b = key b by simp [tkHi, h]]
    go_enter Tryz.func37, Tryz.ntmps37
    go_wp2_with (go_at_call 33; refine (ivlgood_any _ _ _).mono ?_; rintro e w1 ⟨rfl, hbw1⟩; have c0 := RowKit.Below.cells hbw1 (b := w.heap.size) (o := 0) (v := .float .f64 a) (by first | assumption | simp [go_sem]); have c1 := RowKit.Below.cells hbw1 (b := w.heap.size) (o := 1) (v := .float .f64 b) (by first | assumption | simp [go_sem]); have d0 := RowKit.Below.cells hbw1 (b := w.heap.size + 1) (o := 0) (v := .float .f64 0) (by first | assumption | simp [go_sem]); have d1 := RowKit.Below.cells hbw1 (b := w.heap.size + 1) (o := 1) (v := .float .f64 0) (by first | assumption | simp [go_sem]); have e0 := RowKit.Below.froz hbw1 (b := w.heap.size + 1) (o := 0) (v := .float .f64 0) (by first | assumption | simp [go_sem]) (by first | assumption | simp [go_sem]); have e1 := RowKit.Below.froz hbw1 (b := w.heap.size + 1) (o := 1) (v := .float .f64 0) (by first | assumption | simp [go_sem]) (by first | assumption | simp [go_sem]))
    have B1 := below_alloc (below_alloc hbw1)
    refine bodyPost_ret (v := .agg #[.float .f64 (ofKey (key a)), .float .f64 (ofKey (key b))]) (by simp [results, Tryz.results37, go_sem, d0, d1]) rfl ⟨rfl, ?_⟩
    go_grown
  · have h' : good a b = false := by simpa using h
    rw [show tkLo a b = PI by simp [tkLo, h], show tkHi a b = -PI by simp [tkHi, h]]
    go_enter Tryz.func37, Tryz.ntmps37
    go_wp2_with (first | (go_at_call 33; refine (ivlgood_any _ _ _).mono ?_; rintro e w1 ⟨rfl, hbw1⟩; have d0 := RowKit.Below.cells hbw1 (b := w.heap.size + 1) (o := 0) (v := .float .f64 0) (by first | assumption | simp [go_sem]); have d1 := RowKit.Below.cells hbw1 (b := w.heap.size + 1) (o := 1) (v := .float .f64 0) (by first | assumption | simp [go_sem]); have e0 := RowKit.Below.froz hbw1 (b := w.heap.size + 1) (o := 0) (v := .float .f64 0) (by first | assumption | simp [go_sem]) (by first | assumption | simp [go_sem]); have e1 := RowKit.Below.froz hbw1 (b := w.heap.size + 1) (o := 1) (v := .float .f64 0) (by first | assumption | simp [go_sem]) (by first | assumption | simp [go_sem])) | (go_at_call 30; refine (ivlempty_any _).mono ?_; rintro e w2 ⟨rfl, hbw2⟩; have f0 := hbw2.cells d0; have f1 := hbw2.cells d1; have g0 := hbw2.froz d0 e0; have g1 := hbw2.froz d1 e1))
    have B1 := below_alloc (below_alloc hbw1)
    have B2 := below_step B1 B1.size hbw2
    refine bodyPost_ret (v := .agg #[.float .f64 (ofKey (PI)), .float .f64 (ofKey (-PI))]) (by simp [results, Tryz.results37, go_sem, f0, f1]) rfl ⟨rfl, ?_⟩
    go_grown

theorem refno_raw (a b : Nat) (w : World) :
    Calls Tryz.prog 20 #[.agg #[.float .f64 (a), .float .f64 (b)]] w fun e w' => e = .returned (.bool (FloatKind.f64.format.order a b == some .gt)) ∧ Below w.heap.size w w' := by
  go_enter Tryz.func20, Tryz.ntmps20
  go_wp2
  go_ret
  exact ⟨rfl, by go_grown⟩

/-- Is what is taken not empty? -/
def some2 (a b : Nat) : Bool := !decide (tkLo a b = PI ∧ tkHi a b = -PI)
theorem some2_no {a b : Nat} (h : good a b = false) : some2 a b = false := by simp [some2, tkLo, tkHi, h]
theorem some2_empty {a b : Nat} (h : good a b = true) (h1 : key b < key a) : some2 a b = false := by
  obtain ⟨_, _, h3⟩ := good_cases h
  have e : key a = PI ∧ key b = -PI := by omega
  simp [some2, tkLo, tkHi, h, e]
theorem some2_yes {a b : Nat} (h : good a b = true) (h1 : key a ≤ key b) : some2 a b = true := by
  have hP := PI_pos
  have e : ¬ (key a = PI ∧ key b = -PI) := by omega
  simp [some2, tkLo, tkHi, h, e]

theorem same_refl (x : Nat) (w : World) :
    Calls Tryz.prog 15 #[.float .f64 x, .float .f64 x] w fun e w' => e = .returned (.bool true) ∧ w = w' := by
  have h := run_tobits
  go_enter Tryz.func15, Tryz.ntmps15
  go_wp2
  go_ret
  exact ⟨rfl, rfl⟩

theorem alike_refl (a b : Int) (ha : Rg a) (hb : Rg b) (w : World) :
    Calls Tryz.prog 23 #[.agg #[.float .f64 (ofKey (a)), .float .f64 (ofKey (b))], .agg #[.float .f64 (ofKey (a)), .float .f64 (ofKey (b))]] w fun e w' => e = .returned (.bool true) ∧ Below w.heap.size w w' := by
  go_enter Tryz.func23, Tryz.ntmps23
  go_wp2_with (go_at_call 15; refine (same_refl _ _).mono ?_; rintro e w' ⟨rfl, rfl⟩)
  go_ret
  exact ⟨rfl, by go_grown⟩

end Go.Proofs.YteephgpefhodnabGreat
