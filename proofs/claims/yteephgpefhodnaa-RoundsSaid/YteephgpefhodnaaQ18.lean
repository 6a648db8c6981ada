/- The document's Round is the program's. -/
import Derived.Test.YteephgpefhodnaaQ17
import Derived.Test.YteephgpefhodnaaQ13
import Derived.Test.YteephgpefhodnaaQ14
import Derived.Test.YteephgpefhodnaaQ15
namespace Go.Proofs.Yteephgpefhodnaa
open Go.RowKit Go.Sort Go.Fl
set_option linter.unusedSimpArgs false
set_option linter.unusedVariables false

theorem one_fin : fin 4607182418800017408 := by decide
theorem one_wd : Wd 4607182418800017408 := by unfold Wd; omega
/-- Of a root: where the number below nought is asked for. -/
theorem beyond_sqrt_neg (x y c : Nat) (hx : fin x) (hy : fin y) (hc : fin c) (wx : Wd x) (wy : Wd y) (wc : Wd c) (hs : key c < 0) (w : World) :
    Calls Try.prog 88 #[.int .i64 3, .float .f64 x, .float .f64 y, .float .f64 c] w fun e w' => e = .returned (.int .i64 (cSqrt (key x) (key c)).sign) ∧ Below w.heap.size w w' := by
  have e : (cSqrt (key x) (key c)).sign = 1 := by unfold cSqrt; rw [if_pos hs]; rfl
  rw [e]
  have hnc : ¬ nan c := by unfold nan; unfold fin at hc; omega
  have CX := Lib.hid (fun w => bigof_any x hx wx w)
  have CY := Lib.hid (fun w => bigof_any y hy wy w)
  have CC := Lib.hid (fun w => bigof_any (Op.negFloat .f64 c) (fin_fneg hc wc) (wd_neg wc) w)
  go_enter Try.func88, Try.ntmps88
  go_wp2_with fail
  refine (CX.out _).mono ?_
  rintro e w1 ⟨⟨val, N1, E1, rfl, G1, _⟩, hb1⟩
  obtain ⟨s1, q1, n1, c1, rfl⟩ := BigAt.shape G1
  clear G1
  go_wp2_with fail
  refine (CY.out _).mono ?_
  rintro e w2 ⟨⟨val, N2, E2, rfl, G2, _⟩, hb2⟩
  obtain ⟨s2, q2, n2, c2, rfl⟩ := BigAt.shape G2
  clear G2
  have B := below_step hb1 hb1.size (below_alloc hb2)
  clear hb1 hb2
  go_wp2_with fail
  refine (CC.out _).mono ?_
  rintro e w3 ⟨⟨val, N3, E3, rfl, G3, _⟩, hb3⟩
  obtain ⟨s3, q3, n3, c3, rfl⟩ := BigAt.shape G3
  clear G3
  replace B := below_step B B.size (below_alloc hb3)
  clear hb3
  go_wp2_with fail
  go_ret
  exact ⟨rfl, Below.alloc B B.size _⟩
theorem doc_round (o : Int) (x y : Nat) (cc : Int → Int) (hcut : Cut cc) (hnear : ∃ c : Nat, fin c ∧ Wd c ∧ ∀ w, Calls Try.prog 87 #[.int .i64 o, .float .f64 x, .float .f64 y] w fun e w' => e = .returned (.float .f64 c) ∧ w = w')
    (hb0 : ∀ u : Nat, fin u → Wd u → ∀ w, Calls Try.prog 88 #[.int .i64 o, .float .f64 x, .float .f64 y, .float .f64 u] w fun e w' => e = .returned (.int .i64 (cc (key u)).sign) ∧ Below w.heap.size w w') :
    (∀ w, Calls Try.prog 68 #[.int .i64 o, .float .f64 x, .float .f64 y] w fun e w' => e = .returned (.float .f64 (ofKey (rnd false cc))) ∧ Below w.heap.size w w') ∧ (∀ w, Calls Try.prog 67 #[.int .i64 o, .float .f64 x, .float .f64 y] w fun e w' => e = .returned (.float .f64 (ofKey (rnd true cc))) ∧ Below w.heap.size w w') :=
  ⟨fun w => lower_any o x y cc hcut hnear hb0 w, fun w => upper_any o x y cc hcut hnear hb0 w⟩
theorem refround_any (o : Int) (x y : Nat) (up : Bool) (wx : Wd x) (wy : Wd y) (w : World) :
    Calls Try.prog 36 #[.int .i64 o, .float .f64 x, .float .f64 y, .bool up] w fun e w' => e = .returned (.float .f64 (roundW o x y up)) ∧ Below w.heap.size w w' := by
  by_cases fx : fin x
  · by_cases h3 : o = 3
    · subst h3
      by_cases hk : 0 ≤ key x
      · rw [round_yes up ⟨fx, .inl ⟨rfl, hk⟩⟩]
        have d := doc_round 3 x 4607182418800017408 (cSqrt (key x)) (cut_sqrt _) (near_3 x 4607182418800017408 fx one_fin wx one_wd hk) (fun u hu wu w => by
          by_cases hs : 0 ≤ key u
          · exact beyond_sqrt x _ u fx one_fin hu wx one_wd wu hs (by unfold nan; unfold fin at hu; omega) w
          · exact beyond_sqrt_neg x _ u fx one_fin hu wx one_wd wu (by omega) w)
        cases up
        · exact rr_3false x y wx wy fx hk _ d.1 w
        · exact rr_3true x y wx wy fx hk _ d.2 w
      · rw [round_no up (by omega)]
        exact rr_3n x y up wx wy fx (by omega) w
    by_cases ho : o = 6 ∨ o = 7 ∨ o = 8 ∨ o = 9
    · by_cases fy : fin y
      · rcases ho with rfl | rfl | rfl | rfl
        · rw [round_yes up ⟨fx, .inr ⟨fy, .inl rfl⟩⟩]
          have d := doc_round 6 x y (cAdd (key x) (key y)) (cut_add _ _) (near_6 x y fx fy wx wy) (fun u hu wu w => beyond_add x y u fx fy hu wx wy wu w)
          cases up
          · exact rr_6false x y wx wy fx fy _ d.1 w
          · exact rr_6true x y wx wy fx fy _ d.2 w
        · rw [round_yes up ⟨fx, .inr ⟨fy, .inr (.inl rfl)⟩⟩]
          have d := doc_round 7 x y (cAdd (key x) (-key y)) (cut_add _ _) (near_7 x y fx fy wx wy) (fun u hu wu w => beyond_sub x y u fx fy hu wx wy wu w)
          cases up
          · exact rr_7false x y wx wy fx fy _ d.1 w
          · exact rr_7true x y wx wy fx fy _ d.2 w
        · rw [round_yes up ⟨fx, .inr ⟨fy, .inr (.inr (.inl rfl))⟩⟩]
          have d := doc_round 8 x y (cMul (key x) (key y)) (cut_mul _ _) (near_8 x y fx fy wx wy) (fun u hu wu w => beyond_mul x y u fx fy hu wx wy wu w)
          cases up
          · exact rr_8false x y wx wy fx fy _ d.1 w
          · exact rr_8true x y wx wy fx fy _ d.2 w
        · by_cases hy : key y = 0
          · rw [round_no up (by omega)]
            exact rr_9z x y up wx wy fx fy hy w
          · rw [round_yes up ⟨fx, .inr ⟨fy, .inr (.inr (.inr ⟨rfl, hy⟩))⟩⟩]
            have d := doc_round 9 x y (cDiv (key x) (key y)) (cut_div _ _ hy) (near_9 x y fx fy wx wy hy) (fun u hu wu w => by
              by_cases hs : 0 < key y
              · exact beyond_div_p x y u fx fy hu wx wy wu hs w
              · exact beyond_div_n x y u fx fy hu wx wy wu (by omega) w)
            cases up
            · exact rr_9false x y wx wy fx fy _ hy d.1 w
            · exact rr_9true x y wx wy fx fy _ hy d.2 w
      · rw [round_no up (fun h => h.2.elim (fun g => h3 g.1) (fun g => fy g.1))]
        rcases ho with rfl | rfl | rfl | rfl
        · exact rr_6n x y up wx wy fx fy w
        · exact rr_7n x y up wx wy fx fy w
        · exact rr_8n x y up wx wy fx fy w
        · exact rr_9n x y up wx wy fx fy w
    · rw [round_no up (by omega)]
      by_cases h1 : o < 3
      · exact rr_lt o x y up wx wy fx h1 w
      by_cases h2 : 9 < o
      · exact rr_gt o x y up wx wy fx h2 w
      rcases (show o = 4 ∨ o = 5 by omega) with rfl | rfl
      · exact rr_4 x y up wx wy fx w
      · exact rr_5 x y up wx wy fx w
  · rw [round_no up (fun h => fx h.1)]
    exact rr_nx o x y up wx wy fx w
end Go.Proofs.Yteephgpefhodnaa
