/- Package ivl: Floor, find, Args. -/
import Derived.Test.YteephgpefhodnabC4
import Derived.Test.YteephgpefhodnabF18
namespace Go.Proofs.Yteephgpefhodnab
open Go.RowKit Go.Sort Go.Fl
set_option linter.unusedSimpArgs false
set_option linter.unusedVariables false

theorem read_num {k : Int} (h : Rg k) : (∃ s m p, FloatKind.f64.decode (ofKey k) = .number s m p) ∨ (∃ s, FloatKind.f64.decode (ofKey k) = .infinity s) := by
  have h1 := h.1; have h2 := h.2
  by_cases a : k = PI
  · subst a; exact .inr ⟨_, read_PI⟩
  · by_cases b : k = -PI
    · subst b; exact .inr ⟨_, read_MI⟩
    · exact .inl ⟨_, _, _, read_fin (fin_ofKey (k := k) (by omega) (by omega))⟩
theorem run_floor (k : Int) (h : Rg k) (w : World) : (callFunc 44 #[.float .f64 (ofKey k)]).run Try.prog w = .ok (.value (.float .f64 (ofKey (floorK k)))) w := by
  rw [← (floorK_all h).1]
  rw [run_callFunc_extern Try.func44 (by kernel_rfl) (by kernel_rfl) (by kernel_rfl) (by kernel_rfl : Extern.find _ = some (Extern.MathFloor.toIntegral "math.archFloor" .down))]
  have e : Extern.MathFloor.toIntegral "math.archFloor" .down #[.float .f64 (ofKey k)] = (match FloatKind.f64.decode (ofKey k) with
    | .nan s t =>
      if FloatKind.f64.format.quiet t = t then pure (.float .f64 (ofKey k)) else do
      let kept ← choose (.extern "math.Floor,Ceil,Trunc,RoundToEven.signallingNaN kept" 2)
      pure (.float .f64 (if kept == 1 then (ofKey k) else FloatKind.f64.encode (.nan s (FloatKind.f64.format.quiet t))))
    | d => pure (.float .f64 (FloatKind.f64.encode (d.integral .down)))) := rfl
  have e2 : floorW (ofKey k) = FloatKind.f64.encode ((FloatKind.f64.decode (ofKey k)).integral .down) := rfl
  rw [e, e2]
  rcases read_num h with ⟨s, m, p, h⟩ | ⟨s, h⟩ <;> rw [h] <;> rfl
theorem floor_any (k : Int) (h : Rg k) (w : World) :
    Calls Try.prog 27 #[.float .f64 (ofKey (k))] w fun e w' => e = .returned (.float .f64 (ofKey (floorK k))) ∧ w = w' := by
  have hr := run_floor k h
  go_enter Try.func27, Try.ntmps27
  go_wp2
  go_ret
  exact ⟨rfl, rfl⟩
theorem find1_any (a b : Int) (ha : Rg a) (hb : Rg b) (w : World) :
    Calls Try.prog 32 #[.agg #[.float .f64 (ofKey (a)), .float .f64 (ofKey (b))]] w fun e w' => e = .returned (.agg #[.float .f64 (ofKey (floorK a)), .float .f64 (ofKey (floorK b))]) ∧ Below w.heap.size w w' := by
  have FA := Lib.hid (fun w => floor_any a ha w)
  have FB := Lib.hid (fun w => floor_any b hb w)
  generalize floorK a = x at *
  generalize floorK b = y at *
  go_enter Try.func32, Try.ntmps32
  go_wp2_with fail
  have A0 : At (World.alloc (World.alloc w (.cells #[.float .f64 (ofKey (a)), .float .f64 (ofKey (b))] 27)) (.cells #[.float .f64 0, .float .f64 0] 27)) w.heap.size 0 (.float .f64 (ofKey (a))) := ⟨by simp [go_sem], by simp [go_sem]⟩
  have A1 : At (World.alloc (World.alloc w (.cells #[.float .f64 (ofKey (a)), .float .f64 (ofKey (b))] 27)) (.cells #[.float .f64 0, .float .f64 0] 27)) w.heap.size 1 (.float .f64 (ofKey (b))) := ⟨by simp [go_sem], by simp [go_sem]⟩
  have A2 : At (World.alloc (World.alloc w (.cells #[.float .f64 (ofKey (a)), .float .f64 (ofKey (b))] 27)) (.cells #[.float .f64 0, .float .f64 0] 27)) (w.heap.size + 1) 0 (.float .f64 0) := ⟨by simp [go_sem], by simp [go_sem]⟩
  have A3 : At (World.alloc (World.alloc w (.cells #[.float .f64 (ofKey (a)), .float .f64 (ofKey (b))] 27)) (.cells #[.float .f64 0, .float .f64 0] 27)) (w.heap.size + 1) 1 (.float .f64 0) := ⟨by simp [go_sem], by simp [go_sem]⟩
  have k0 := cell_regrown A0.1
  have k1 := cell_regrown A1.1
  refine wp_region_below_tail 7 (by kernel_rfl) (by kernel_rfl) ?_
  simp only [List.take_succ_cons, List.take_zero, List.drop_succ_cons, List.drop_zero]
  repeat (go_big_quiet_step ((first | (with_reducible exact quiet_same (FA.out _)) | (with_reducible exact quiet_same (FB.out _)))))
  refine wpQuiet_nil (fun w1 hbw1 => ?_)
  replace A2 := At.below A2 hbw1
  replace A3 := At.below A3 hbw1
  have F2 := A2.1; have G2 := A2.2; have F3 := A3.1; have G3 := A3.2
  have B := below_alloc (below_alloc hbw1)
  clear k0 k1 hbw1
  go_wp2_with fail
  refine bodyPost_ret (v := .agg #[.float .f64 (ofKey (x)), .float .f64 (ofKey (y))]) (by simp [results, Try.results32, go_sem, F2, G2, F3, G3]) rfl ⟨rfl, ?_⟩
  go_grown

@[go_sem] theorem run_store_func {P : Program} {w : World} {a : Addr} {m : Mode} (f : Fn) (x c : Array Value) : (store a (.func f x c) m).run P w = stored P w a (.func f x c) m := run_store P w a _ m rfl
@[go_sem] theorem run_store_nilfunc {P : Program} {w : World} {a : Addr} {m : Mode} : (store a .nilFunc m).run P w = stored P w a .nilFunc m := run_store P w a _ m rfl

theorem neq_one (f : FuncId) (w : World) : (binOp .neq 39 (.func (.func f) #[] #[]) .nilFunc).run Try.prog w = .ok (.bool true) w := by
  kernel_rfl
theorem neq_two (f : FuncId) (w : World) : (binOp .neq 44 (.func (.func f) #[] #[]) .nilFunc).run Try.prog w = .ok (.bool true) w := by
  kernel_rfl
theorem neq_one0 (w : World) : (binOp .neq 39 .nilFunc .nilFunc).run Try.prog w = .ok (.bool false) w := by
  kernel_rfl
theorem neq_two0 (w : World) : (binOp .neq 44 .nilFunc .nilFunc).run Try.prog w = .ok (.bool false) w := by
  kernel_rfl

/-- What find hands out: the function of one interval, the function of two. -/
def rowOne (f : FuncId) : Value := .agg #[.func (.func f) #[] #[], .nilFunc]
def rowTwo (f : FuncId) : Value := .agg #[.nilFunc, .func (.func f) #[] #[]]
theorem find_0 (w : World) : Calls Try.prog 22 #[.int .i64 0] w fun e w' => e = .returned (rowOne 28) ∧ Below w.heap.size w w' := by
  go_enter Try.func22, Try.ntmps22
  go_wp2
  go_returns
  exact ⟨rfl, by go_grown⟩
theorem enter_0 : Enters Try.prog 28 := enters_of Try.func28 (by kernel_rfl) rfl
theorem find_1 (w : World) : Calls Try.prog 22 #[.int .i64 1] w fun e w' => e = .returned (rowOne 29) ∧ Below w.heap.size w w' := by
  go_enter Try.func22, Try.ntmps22
  go_wp2
  go_returns
  exact ⟨rfl, by go_grown⟩
theorem enter_1 : Enters Try.prog 29 := enters_of Try.func29 (by kernel_rfl) rfl
theorem find_2 (w : World) : Calls Try.prog 22 #[.int .i64 2] w fun e w' => e = .returned (rowOne 30) ∧ Below w.heap.size w w' := by
  go_enter Try.func22, Try.ntmps22
  go_wp2
  go_returns
  exact ⟨rfl, by go_grown⟩
theorem enter_2 : Enters Try.prog 30 := enters_of Try.func30 (by kernel_rfl) rfl
theorem find_3 (w : World) : Calls Try.prog 22 #[.int .i64 3] w fun e w' => e = .returned (rowOne 31) ∧ Below w.heap.size w w' := by
  go_enter Try.func22, Try.ntmps22
  go_wp2
  go_returns
  exact ⟨rfl, by go_grown⟩
theorem enter_3 : Enters Try.prog 31 := enters_of Try.func31 (by kernel_rfl) rfl
theorem find_4 (w : World) : Calls Try.prog 22 #[.int .i64 4] w fun e w' => e = .returned (rowOne 32) ∧ Below w.heap.size w w' := by
  go_enter Try.func22, Try.ntmps22
  go_wp2
  go_returns
  exact ⟨rfl, by go_grown⟩
theorem enter_4 : Enters Try.prog 32 := enters_of Try.func32 (by kernel_rfl) rfl
theorem find_5 (w : World) : Calls Try.prog 22 #[.int .i64 5] w fun e w' => e = .returned (rowOne 33) ∧ Below w.heap.size w w' := by
  go_enter Try.func22, Try.ntmps22
  go_wp2
  go_returns
  exact ⟨rfl, by go_grown⟩
theorem enter_5 : Enters Try.prog 33 := enters_of Try.func33 (by kernel_rfl) rfl
theorem find_6 (w : World) : Calls Try.prog 22 #[.int .i64 6] w fun e w' => e = .returned (rowTwo 36) ∧ Below w.heap.size w w' := by
  go_enter Try.func22, Try.ntmps22
  go_wp2
  go_returns
  exact ⟨rfl, by go_grown⟩
theorem enter_6 : Enters Try.prog 36 := enters_of Try.func36 (by kernel_rfl) rfl
theorem find_7 (w : World) : Calls Try.prog 22 #[.int .i64 7] w fun e w' => e = .returned (rowTwo 35) ∧ Below w.heap.size w w' := by
  go_enter Try.func22, Try.ntmps22
  go_wp2
  go_returns
  exact ⟨rfl, by go_grown⟩
theorem enter_7 : Enters Try.prog 35 := enters_of Try.func35 (by kernel_rfl) rfl
theorem find_8 (w : World) : Calls Try.prog 22 #[.int .i64 8] w fun e w' => e = .returned (rowTwo 37) ∧ Below w.heap.size w w' := by
  go_enter Try.func22, Try.ntmps22
  go_wp2
  go_returns
  exact ⟨rfl, by go_grown⟩
theorem enter_8 : Enters Try.prog 37 := enters_of Try.func37 (by kernel_rfl) rfl
theorem find_9 (w : World) : Calls Try.prog 22 #[.int .i64 9] w fun e w' => e = .returned (rowTwo 34) ∧ Below w.heap.size w w' := by
  go_enter Try.func22, Try.ntmps22
  go_wp2
  go_returns
  exact ⟨rfl, by go_grown⟩
theorem enter_9 : Enters Try.prog 34 := enters_of Try.func34 (by kernel_rfl) rfl
theorem find_10 (w : World) : Calls Try.prog 22 #[.int .i64 10] w fun e w' => e = .returned (rowTwo 39) ∧ Below w.heap.size w w' := by
  go_enter Try.func22, Try.ntmps22
  go_wp2
  go_returns
  exact ⟨rfl, by go_grown⟩
theorem enter_10 : Enters Try.prog 39 := enters_of Try.func39 (by kernel_rfl) rfl
theorem find_11 (w : World) : Calls Try.prog 22 #[.int .i64 11] w fun e w' => e = .returned (rowTwo 40) ∧ Below w.heap.size w w' := by
  go_enter Try.func22, Try.ntmps22
  go_wp2
  go_returns
  exact ⟨rfl, by go_grown⟩
theorem enter_11 : Enters Try.prog 40 := enters_of Try.func40 (by kernel_rfl) rfl
theorem find_none (o : Int) (h : o < 0 ∨ 11 < o) (w : World) : Calls Try.prog 22 #[.int .i64 o] w fun e w' => e = .returned (.agg #[.nilFunc, .nilFunc]) ∧ Below w.heap.size w w' := by
  have d0 : (o == 0) = false := by rw [beq_eq_false_iff_ne]; omega
  have d1 : (o == 1) = false := by rw [beq_eq_false_iff_ne]; omega
  have d2 : (o == 2) = false := by rw [beq_eq_false_iff_ne]; omega
  have d3 : (o == 3) = false := by rw [beq_eq_false_iff_ne]; omega
  have d4 : (o == 4) = false := by rw [beq_eq_false_iff_ne]; omega
  have d5 : (o == 5) = false := by rw [beq_eq_false_iff_ne]; omega
  have d6 : (o == 6) = false := by rw [beq_eq_false_iff_ne]; omega
  have d7 : (o == 7) = false := by rw [beq_eq_false_iff_ne]; omega
  have d8 : (o == 8) = false := by rw [beq_eq_false_iff_ne]; omega
  have d9 : (o == 9) = false := by rw [beq_eq_false_iff_ne]; omega
  have d10 : (o == 10) = false := by rw [beq_eq_false_iff_ne]; omega
  have d11 : (o == 11) = false := by rw [beq_eq_false_iff_ne]; omega
  clear h
  go_enter Try.func22, Try.ntmps22
  go_wp2
  go_returns
  exact ⟨rfl, by go_grown⟩

/-- How many intervals an operation takes. -/
def argsK (o : Int) : Int := if 0 ≤ o ∧ o ≤ 5 then 1 else if 6 ≤ o ∧ o ≤ 11 then 2 else 0
theorem args_one (o : Int) (f : FuncId) (hf : ∀ w, Calls Try.prog 22 #[.int .i64 o] w fun e w' => e = .returned (rowOne f) ∧ Below w.heap.size w w') (w : World) :
    Calls Try.prog 20 #[.int .i64 o] w fun e w' => e = .returned (.int .i64 1) ∧ Below w.heap.size w w' := by
  have HF := Lib.hid hf
  clear hf
  unfold rowOne at HF
  have x1 := neq_one
  have x2 := neq_two
  have x3 := neq_one0
  have x4 := neq_two0
  go_enter Try.func20, Try.ntmps20
  go_wp2_with (go_at_call 22; refine (HF.out _).mono ?_; rintro e w1 ⟨rfl, hbw1⟩; skip)
  go_ret
  exact ⟨rfl, Below.alloc hbw1 hbw1.size _⟩
theorem args_two (o : Int) (f : FuncId) (hf : ∀ w, Calls Try.prog 22 #[.int .i64 o] w fun e w' => e = .returned (rowTwo f) ∧ Below w.heap.size w w') (w : World) :
    Calls Try.prog 20 #[.int .i64 o] w fun e w' => e = .returned (.int .i64 2) ∧ Below w.heap.size w w' := by
  have HF := Lib.hid hf
  clear hf
  unfold rowTwo at HF
  have x1 := neq_one
  have x2 := neq_two
  have x3 := neq_one0
  have x4 := neq_two0
  go_enter Try.func20, Try.ntmps20
  go_wp2_with (go_at_call 22; refine (HF.out _).mono ?_; rintro e w1 ⟨rfl, hbw1⟩; skip)
  go_ret
  exact ⟨rfl, Below.alloc hbw1 hbw1.size _⟩
theorem args_none (o : Int) (h : o < 0 ∨ 11 < o) (w : World) :
    Calls Try.prog 20 #[.int .i64 o] w fun e w' => e = .returned (.int .i64 0) ∧ Below w.heap.size w w' := by
  have HF := Lib.hid (fun w => find_none o h w)
  clear h
  have x1 := neq_one
  have x2 := neq_two
  have x3 := neq_one0
  have x4 := neq_two0
  go_enter Try.func20, Try.ntmps20
  go_wp2_with (go_at_call 22; refine (HF.out _).mono ?_; rintro e w1 ⟨rfl, hbw1⟩; skip)
  go_ret
  exact ⟨rfl, Below.alloc hbw1 hbw1.size _⟩
theorem ivlargs_any (o : Int) (w : World) :
    Calls Try.prog 20 #[.int .i64 o] w fun e w' => e = .returned (.int .i64 (argsK o)) ∧ Below w.heap.size w w' := by
  unfold argsK
  by_cases h1 : 0 ≤ o ∧ o ≤ 5
  · rw [if_pos h1]
    rcases (show o = 0 ∨ o = 1 ∨ o = 2 ∨ o = 3 ∨ o = 4 ∨ o = 5 by omega) with rfl | rfl | rfl | rfl | rfl | rfl
    · exact args_one _ _ find_0 w
    · exact args_one _ _ find_1 w
    · exact args_one _ _ find_2 w
    · exact args_one _ _ find_3 w
    · exact args_one _ _ find_4 w
    · exact args_one _ _ find_5 w
  · rw [if_neg h1]
    by_cases h2 : 6 ≤ o ∧ o ≤ 11
    · rw [if_pos h2]
      rcases (show o = 6 ∨ o = 7 ∨ o = 8 ∨ o = 9 ∨ o = 10 ∨ o = 11 by omega) with rfl | rfl | rfl | rfl | rfl | rfl
      · exact args_two _ _ find_6 w
      · exact args_two _ _ find_7 w
      · exact args_two _ _ find_8 w
      · exact args_two _ _ find_9 w
      · exact args_two _ _ find_10 w
      · exact args_two _ _ find_11 w
    · rw [if_neg h2]
      exact args_none o (by omega) w

end Go.Proofs.Yteephgpefhodnab
