/- The keep statements' small functions, and the program's own in the form of keys. -/
import Derived.Test.YteephgpefhodnaaP3
namespace Go.Proofs.Yteephgpefhodnaa
open Go.RowKit Go.Sort Go.Fl
set_option linter.unusedSimpArgs false
set_option linter.unusedVariables false

theorem sub_self {x : Nat} (hx : fin x) : ∃ r, FloatKind.f64.format.sub x x = some r ∧ ¬ nan r ∧ Wd r ∧ key r = 0 := by
  obtain ⟨r, h1, h2, h3, h4⟩ := sub_fin hx hx
  refine ⟨r, h1, h2, h3, ?_⟩
  exact near_exact h4 (by decide) (by decide) (by rw [V_zero]; omega)
theorem sub_self_no {x : Nat} (hx : ¬ fin x) : FloatKind.f64.format.sub x x = none := by
  rw [fmt]
  unfold Ieee.Format.sub
  by_cases h : nan x
  · obtain ⟨t, ht⟩ := read_nan h; rw [ht]; rfl
  · have hi : rung x = INF := by unfold nan at h; unfold fin at hx; omega
    rw [read_inf hi]
    cases neg x <;> rfl
/-- x - x, of any number: nought, or no number. -/
theorem run_sub_self {P : Program} (x : Nat) (hx : fin x) : ∃ r, ¬ nan r ∧ Wd r ∧ key r = 0 ∧ ∀ (w : World) (t : TypeId), (binOp .sub t (.float .f64 x) (.float .f64 x)).run P w = .ok (.float .f64 r) w := by
  obtain ⟨r, h1, h2, h3, h4⟩ := sub_self hx
  exact ⟨r, h2, h3, h4, fun w t => run_float_arith w .sub t .f64 x x r h1⟩
theorem run_sub_self_no {P : Program} (x : Nat) (hx : ¬ fin x) (w : World) (t : TypeId) : (binOp .sub t (.float .f64 x) (.float .f64 x)).run P w = .ok (.float .f64 (nanw w x x)) w.drew := by
  simp [binOp, Op.floatArith, sub_self_no hx, Question.forced, nanw]

theorem within_any (a b c d : Int) (ha : Rg a) (hb : Rg b) (hc : Rg c) (hd : Rg d) (w : World) :
    Calls Try.prog 41 #[.agg #[.float .f64 (ofKey (a)), .float .f64 (ofKey (b))], .agg #[.float .f64 (ofKey (c)), .float .f64 (ofKey (d))]] w fun e w' => e = .returned (.bool (decide (b < a ∨ (c ≤ a ∧ b ≤ d)))) ∧ Below w.heap.size w w' := by
  by_cases h1 : b < a <;> by_cases h2 : c ≤ a <;> by_cases h3 : b ≤ d
  all_goals
    go_enter Try.func41, Try.ntmps41
    go_wp2_with fail
    go_ret
    exact ⟨ret_b (by (first | rfl | (refine (decide_eq_true ?_).symm; omega) | (refine (decide_eq_false ?_).symm; omega) | (refine decide_eq_decide.2 ?_; omega) | (rw [Bool.eq_iff_iff]; simp only [Bool.and_eq_true, Bool.or_eq_true, Bool.not_eq_true, Bool.not_eq_eq_eq_not, Bool.not_true, Bool.not_false, decide_eq_true_eq, decide_eq_false_iff_not, Bool.false_eq_true, true_iff, false_iff] <;> omega))), by go_grown⟩
theorem is_k (r A B C D : Int) (h : Iv A B) (h' : Iv C D) (w : World) :
    Calls Try.prog 29 #[.int .i64 r, .agg #[.float .f64 (ofKey (A)), .float .f64 (ofKey (B))], .agg #[.float .f64 (ofKey (C)), .float .f64 (ofKey (D))]] w fun e w' => e = .returned (.bool (isB r A B C D)) ∧ Below w.heap.size w w' := by
  have a := tk_canon h
  have b := tk_canon h'
  have c := spansis_any r (ofKey A) (ofKey B) (ofKey C) (ofKey D) (ofKey_lt h.1) (ofKey_lt h.2.1) (ofKey_lt h'.1) (ofKey_lt h'.2.1) w
  rw [a.1, a.2, b.1, b.2] at c
  exact c
theorem meet_k (A B C D : Int) (h : Iv A B) (h' : Iv C D) (w : World) :
    Calls Try.prog 31 #[.agg #[.float .f64 (ofKey (A)), .float .f64 (ofKey (B))], .agg #[.float .f64 (ofKey (C)), .float .f64 (ofKey (D))]] w fun e w' => e = .returned (.agg #[.float .f64 (ofKey (meetLo A B C D)), .float .f64 (ofKey (meetHi A B C D))]) ∧ Below w.heap.size w w' := by
  have a := tk_canon h
  have b := tk_canon h'
  have c := spansmeet_any (ofKey A) (ofKey B) (ofKey C) (ofKey D) (ofKey_lt h.1) (ofKey_lt h.2.1) (ofKey_lt h'.1) (ofKey_lt h'.2.1) w
  rw [a.1, a.2, b.1, b.2] at c
  exact c
theorem hull_k (A B C D : Int) (h : Iv A B) (h' : Iv C D) (w : World) :
    Calls Try.prog 33 #[.agg #[.float .f64 (ofKey (A)), .float .f64 (ofKey (B))], .agg #[.float .f64 (ofKey (C)), .float .f64 (ofKey (D))]] w fun e w' => e = .returned (.agg #[.float .f64 (ofKey (min A C)), .float .f64 (ofKey (max B D))]) ∧ Below w.heap.size w w' := by
  have a := tk_canon h
  have b := tk_canon h'
  have c := spanshull_any (ofKey A) (ofKey B) (ofKey C) (ofKey D) (ofKey_lt h.1) (ofKey_lt h.2.1) (ofKey_lt h'.1) (ofKey_lt h'.2.1) w
  rw [a.1, a.2, b.1, b.2] at c
  exact c
/-- Apply of intervals that are not empty. -/
theorem apply_k (o A B C D : Int) (ho : 0 ≤ o ∧ o ≤ 11) (h : NE A B) (h' : NE C D) (w : World) :
    Calls Try.prog 37 #[.int .i64 o, .agg #[.float .f64 (ofKey (A)), .float .f64 (ofKey (B))], .agg #[.float .f64 (ofKey (C)), .float .f64 (ofKey (D))]] w fun e w' => e = .returned (.agg #[.float .f64 (ofKey (opLo o A B C D)), .float .f64 (ofKey (opHi o A B C D))]) ∧ Below w.heap.size w w' := by
  have a := tk_canon h.iv
  have b := tk_canon h'.iv
  have c := spansapply_any o (ofKey A) (ofKey B) (ofKey C) (ofKey D) (ofKey_lt h.1) (ofKey_lt h.2.1) (ofKey_lt h'.1) (ofKey_lt h'.2.1) w
  rw [a.1, a.2, b.1, b.2, (ap_eq ho h h').1, (ap_eq ho h h').2] at c
  exact c
/-- The same of points, their words as they are. -/
theorem tk_pt {x : Nat} (hx : fin x) : tkLo x x = key x ∧ tkHi x x = key x := by
  have hk := fin_key.1 hx
  have hn : ¬ nan x := by unfold nan; unfold fin at hx; omega
  have hP : PI = (INF : Int) := rfl
  have g : good x x = true := by
    unfold good
    simp [hn]
    omega
  unfold tkLo tkHi
  rw [if_pos g, if_pos g]; exact ⟨rfl, rfl⟩
theorem apply_pt (o : Int) (x y : Nat) (ho : 0 ≤ o ∧ o ≤ 11) (hx : fin x) (hy : fin y) (wx : Wd x) (wy : Wd y) (w : World) :
    Calls Try.prog 37 #[.int .i64 o, .agg #[.float .f64 (x), .float .f64 (x)], .agg #[.float .f64 (y), .float .f64 (y)]] w fun e w' => e = .returned (.agg #[.float .f64 (ofKey (opLo o (key x) (key x) (key y) (key y))), .float .f64 (ofKey (opHi o (key x) (key x) (key y) (key y)))]) ∧ Below w.heap.size w w' := by
  have a := tk_pt hx
  have b := tk_pt hy
  have hP : PI = (INF : Int) := rfl
  have c := spansapply_any o x x y y wx wx wy wy w
  have nx : NE (key x) (key x) := NE_pt (by have := fin_key.1 hx; unfold Fi; omega)
  have ny : NE (key y) (key y) := NE_pt (by have := fin_key.1 hy; unfold Fi; omega)
  rw [a.1, a.2, b.1, b.2, (ap_eq ho nx ny).1, (ap_eq ho nx ny).2] at c
  exact c

/-! ## A number of an interval -/
theorem point_yes (A B p : Int) (rA : Rg A) (rB : Rg B) (wp : Wd p.toNat) (hf : fin p.toNat) (h1 : A ≤ key p.toNat) (h2 : key p.toNat ≤ B) (w : World) :
    Calls Try.prog 40 #[.agg #[.float .f64 (ofKey (A)), .float .f64 (ofKey (B))], .int .u64 p] w fun e w' => e = .returned (.float .f64 p.toNat) ∧ Below w.heap.size w w' := by
  have hn : ¬ nan p.toNat := by unfold nan; unfold fin at hf; omega
  have O := Lib.hid (keepof_any p)
  generalize p.toNat = x at *
  obtain ⟨r, r1, r2, r3, r4⟩ := run_sub_self (P := Try.prog) x hf
  go_enter Try.func40, Try.ntmps40
  go_wp2_with (go_at_call 39; refine (O.out _).mono ?_; rintro e w' ⟨rfl, rfl⟩)
  go_ret
  exact ⟨rfl, by go_grown⟩
theorem first_no {A B : Int} {x : Nat} (h : ¬ (fin x ∧ A ≤ key x ∧ key x ≤ B)) : nan x ∨ (¬ nan x ∧ ¬ A ≤ key x) ∨ (¬ nan x ∧ A ≤ key x ∧ ¬ key x ≤ B) ∨ (¬ nan x ∧ A ≤ key x ∧ key x ≤ B ∧ ¬ fin x) := by
  by_cases a : nan x
  · exact .inl a
  by_cases b : A ≤ key x
  · by_cases c : key x ≤ B
    · exact .inr (.inr (.inr ⟨a, b, c, fun d => h ⟨d, b, c⟩⟩))
    · exact .inr (.inr (.inl ⟨a, b, c⟩))
  · exact .inr (.inl ⟨a, b⟩)
theorem point_lo (A B p : Int) (rA : Rg A) (rB : Rg B) (wp : Wd p.toNat) (hno : ¬ (fin p.toNat ∧ A ≤ key p.toNat ∧ key p.toNat ≤ B)) (fA : Fi A) (w : World) :
    Calls Try.prog 40 #[.agg #[.float .f64 (ofKey (A)), .float .f64 (ofKey (B))], .int .u64 p] w fun e w' => e = .returned (.float .f64 (ofKey A)) ∧ Below w.heap.size w w' := by
  have O := Lib.hid (keepof_any p)
  generalize p.toNat = x at *
  have hc := first_no hno
  clear hno
  obtain ⟨ra, ra1, ra2, ra3, ra4⟩ := run_sub_self (P := Try.prog) (ofKey A) (fin_ofKey fA.1 fA.2)
  rcases hc with c1 | ⟨c1, c2⟩ | ⟨c1, c2, c3⟩ | ⟨c1, c2, c3, c4⟩
  · go_enter Try.func40, Try.ntmps40
    go_wp2_with (go_at_call 39; refine (O.out _).mono ?_; rintro e w' ⟨rfl, rfl⟩)
    go_ret
    exact ⟨rfl, by go_grown⟩
  · go_enter Try.func40, Try.ntmps40
    go_wp2_with (go_at_call 39; refine (O.out _).mono ?_; rintro e w' ⟨rfl, rfl⟩)
    go_ret
    exact ⟨rfl, by go_grown⟩
  · go_enter Try.func40, Try.ntmps40
    go_wp2_with (go_at_call 39; refine (O.out _).mono ?_; rintro e w' ⟨rfl, rfl⟩)
    go_ret
    exact ⟨rfl, by go_grown⟩
  · have rs := run_sub_self_no (P := Try.prog) x c4
    go_enter Try.func40, Try.ntmps40
    go_wp2_with (go_at_call 39; refine (O.out _).mono ?_; rintro e w' ⟨rfl, rfl⟩)
    go_ret
    exact ⟨rfl, by go_grown⟩
theorem point_hi (A B p : Int) (rA : Rg A) (rB : Rg B) (wp : Wd p.toNat) (hno : ¬ (fin p.toNat ∧ A ≤ key p.toNat ∧ key p.toNat ≤ B)) (nA : ¬ Fi A) (fB : Fi B) (w : World) :
    Calls Try.prog 40 #[.agg #[.float .f64 (ofKey (A)), .float .f64 (ofKey (B))], .int .u64 p] w fun e w' => e = .returned (.float .f64 (ofKey B)) ∧ Below w.heap.size w w' := by
  have O := Lib.hid (keepof_any p)
  generalize p.toNat = x at *
  have hc := first_no hno
  clear hno
  have na := run_sub_self_no (P := Try.prog) (ofKey A) (by rw [fin_key, key_ofKey rA]; exact fun h => nA ⟨h.1, h.2⟩)
  obtain ⟨rb, rb1, rb2, rb3, rb4⟩ := run_sub_self (P := Try.prog) (ofKey B) (fin_ofKey fB.1 fB.2)
  rcases hc with c1 | ⟨c1, c2⟩ | ⟨c1, c2, c3⟩ | ⟨c1, c2, c3, c4⟩
  · go_enter Try.func40, Try.ntmps40
    go_wp2_with (go_at_call 39; refine (O.out _).mono ?_; rintro e w' ⟨rfl, rfl⟩)
    go_ret
    exact ⟨rfl, by go_grown⟩
  · go_enter Try.func40, Try.ntmps40
    go_wp2_with (go_at_call 39; refine (O.out _).mono ?_; rintro e w' ⟨rfl, rfl⟩)
    go_ret
    exact ⟨rfl, by go_grown⟩
  · go_enter Try.func40, Try.ntmps40
    go_wp2_with (go_at_call 39; refine (O.out _).mono ?_; rintro e w' ⟨rfl, rfl⟩)
    go_ret
    exact ⟨rfl, by go_grown⟩
  · have rs := run_sub_self_no (P := Try.prog) x c4
    go_enter Try.func40, Try.ntmps40
    go_wp2_with (go_at_call 39; refine (O.out _).mono ?_; rintro e w' ⟨rfl, rfl⟩)
    go_ret
    exact ⟨rfl, by go_grown⟩
theorem point_0 (A B p : Int) (rA : Rg A) (rB : Rg B) (wp : Wd p.toNat) (hno : ¬ (fin p.toNat ∧ A ≤ key p.toNat ∧ key p.toNat ≤ B)) (nA : ¬ Fi A) (nB : ¬ Fi B) (w : World) :
    Calls Try.prog 40 #[.agg #[.float .f64 (ofKey (A)), .float .f64 (ofKey (B))], .int .u64 p] w fun e w' => e = .returned (.float .f64 0) ∧ Below w.heap.size w w' := by
  have O := Lib.hid (keepof_any p)
  generalize p.toNat = x at *
  have hc := first_no hno
  clear hno
  have na := run_sub_self_no (P := Try.prog) (ofKey A) (by rw [fin_key, key_ofKey rA]; exact fun h => nA ⟨h.1, h.2⟩)
  have nb := run_sub_self_no (P := Try.prog) (ofKey B) (by rw [fin_key, key_ofKey rB]; exact fun h => nB ⟨h.1, h.2⟩)
  rcases hc with c1 | ⟨c1, c2⟩ | ⟨c1, c2, c3⟩ | ⟨c1, c2, c3, c4⟩
  · go_enter Try.func40, Try.ntmps40
    go_wp2_with (go_at_call 39; refine (O.out _).mono ?_; rintro e w' ⟨rfl, rfl⟩)
    go_ret
    exact ⟨rfl, by go_grown⟩
  · go_enter Try.func40, Try.ntmps40
    go_wp2_with (go_at_call 39; refine (O.out _).mono ?_; rintro e w' ⟨rfl, rfl⟩)
    go_ret
    exact ⟨rfl, by go_grown⟩
  · go_enter Try.func40, Try.ntmps40
    go_wp2_with (go_at_call 39; refine (O.out _).mono ?_; rintro e w' ⟨rfl, rfl⟩)
    go_ret
    exact ⟨rfl, by go_grown⟩
  · have rs := run_sub_self_no (P := Try.prog) x c4
    go_enter Try.func40, Try.ntmps40
    go_wp2_with (go_at_call 39; refine (O.out _).mono ?_; rintro e w' ⟨rfl, rfl⟩)
    go_ret
    exact ⟨rfl, by go_grown⟩
theorem point_any (A B p : Int) (h : NE A B) (wp : Wd p.toNat) : ∃ u : Nat, Wd u ∧ fin u ∧ A ≤ key u ∧ key u ≤ B ∧ ∀ w, Calls Try.prog 40 #[.agg #[.float .f64 (ofKey (A)), .float .f64 (ofKey (B))], .int .u64 p] w fun e w' => e = .returned (.float .f64 u) ∧ Below w.heap.size w w' := by
  have hP := PI_pos
  obtain ⟨rA, rB, h1, h2, h3⟩ := id h
  by_cases hy : fin p.toNat ∧ A ≤ key p.toNat ∧ key p.toNat ≤ B
  · exact ⟨_, wp, hy.1, hy.2.1, hy.2.2, fun w => point_yes A B p rA rB wp hy.1 hy.2.1 hy.2.2 w⟩
  · by_cases fA : Fi A
    · refine ⟨ofKey A, ofKey_lt rA, fin_ofKey fA.1 fA.2, ?_, ?_, fun w => point_lo A B p rA rB wp hy fA w⟩ <;> rw [key_ofKey rA] <;> omega
    · by_cases fB : Fi B
      · refine ⟨ofKey B, ofKey_lt rB, fin_ofKey fB.1 fB.2, ?_, ?_, fun w => point_hi A B p rA rB wp hy fA fB w⟩ <;> rw [key_ofKey rB] <;> omega
      · refine ⟨0, by unfold Wd; omega, by decide, ?_, ?_, fun w => point_0 A B p rA rB wp hy fA fB w⟩ <;> (rw [key_zero]; unfold Fi Rg at *; omega)
end Go.Proofs.Yteephgpefhodnaa
