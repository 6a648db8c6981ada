/- The document's Round. -/
import Derived.Test.YteephgpefhodnaaQ16
import Derived.Test.YteephgpefhodnaaB11
namespace Go.Proofs.Yteephgpefhodnaa
open Go.RowKit Go.Sort Go.Fl
set_option linter.unusedSimpArgs false
set_option linter.unusedVariables false

set_option maxHeartbeats 1000000 in
theorem rr_nx (o : Int) (x y : Nat) (up : Bool) (wx : Wd x) (wy : Wd y) (fx : ¬ fin x) (w : World) :
    Calls Try.prog 36 #[.int .i64 o, .float .f64 x, .float .f64 y, .bool up] w fun e w' => e = .returned (.float .f64 NANW) ∧ Below w.heap.size w w' := by
  have FX := Lib.hid (fun w => reffin_no x fx w)
  by_cases fy : fin y
  · have FY := Lib.hid (fun w => reffin_yes y fy w)
    have B := Below.refl w.heap.size w
    go_enter Try.func36, Try.ntmps36
    go_wp2_with (first | (go_at_call 65; (first | (with_reducible refine (FX.out _).mono ?_) | (with_reducible refine (FY.out _).mono ?_)); rintro e wf ⟨rfl, hbf⟩; replace B := below_step B B.size hbf; clear hbf) | (go_at_call 66; refine (mathnan_any _).mono ?_; rintro e w' ⟨rfl, rfl⟩))
    go_ret
    exact ⟨rfl, B⟩
  · have FY := Lib.hid (fun w => reffin_no y fy w)
    have B := Below.refl w.heap.size w
    go_enter Try.func36, Try.ntmps36
    go_wp2_with (first | (go_at_call 65; (first | (with_reducible refine (FX.out _).mono ?_) | (with_reducible refine (FY.out _).mono ?_)); rintro e wf ⟨rfl, hbf⟩; replace B := below_step B B.size hbf; clear hbf) | (go_at_call 66; refine (mathnan_any _).mono ?_; rintro e w' ⟨rfl, rfl⟩))
    go_ret
    exact ⟨rfl, B⟩
set_option maxHeartbeats 1000000 in
theorem rr_lt (o : Int) (x y : Nat) (up : Bool) (wx : Wd x) (wy : Wd y) (fx : fin x) (ho : o < 3) (w : World) :
    Calls Try.prog 36 #[.int .i64 o, .float .f64 x, .float .f64 y, .bool up] w fun e w' => e = .returned (.float .f64 NANW) ∧ Below w.heap.size w w' := by
  have FX := Lib.hid (fun w => reffin_yes x fx w)
  by_cases fy : fin y
  · have FY := Lib.hid (fun w => reffin_yes y fy w)
    have B := Below.refl w.heap.size w
    go_enter Try.func36, Try.ntmps36
    go_wp2_with (first | (go_at_call 65; (first | (with_reducible refine (FX.out _).mono ?_) | (with_reducible refine (FY.out _).mono ?_)); rintro e wf ⟨rfl, hbf⟩; replace B := below_step B B.size hbf; clear hbf) | (go_at_call 66; refine (mathnan_any _).mono ?_; rintro e w' ⟨rfl, rfl⟩))
    go_ret
    exact ⟨rfl, B⟩
  · have FY := Lib.hid (fun w => reffin_no y fy w)
    have B := Below.refl w.heap.size w
    go_enter Try.func36, Try.ntmps36
    go_wp2_with (first | (go_at_call 65; (first | (with_reducible refine (FX.out _).mono ?_) | (with_reducible refine (FY.out _).mono ?_)); rintro e wf ⟨rfl, hbf⟩; replace B := below_step B B.size hbf; clear hbf) | (go_at_call 66; refine (mathnan_any _).mono ?_; rintro e w' ⟨rfl, rfl⟩))
    go_ret
    exact ⟨rfl, B⟩
set_option maxHeartbeats 1000000 in
theorem rr_gt (o : Int) (x y : Nat) (up : Bool) (wx : Wd x) (wy : Wd y) (fx : fin x) (ho : 9 < o) (w : World) :
    Calls Try.prog 36 #[.int .i64 o, .float .f64 x, .float .f64 y, .bool up] w fun e w' => e = .returned (.float .f64 NANW) ∧ Below w.heap.size w w' := by
  have FX := Lib.hid (fun w => reffin_yes x fx w)
  have h1 : ¬ o < 3 := by omega
  by_cases fy : fin y
  · have FY := Lib.hid (fun w => reffin_yes y fy w)
    have B := Below.refl w.heap.size w
    go_enter Try.func36, Try.ntmps36
    go_wp2_with (first | (go_at_call 65; (first | (with_reducible refine (FX.out _).mono ?_) | (with_reducible refine (FY.out _).mono ?_)); rintro e wf ⟨rfl, hbf⟩; replace B := below_step B B.size hbf; clear hbf) | (go_at_call 66; refine (mathnan_any _).mono ?_; rintro e w' ⟨rfl, rfl⟩))
    go_ret
    exact ⟨rfl, B⟩
  · have FY := Lib.hid (fun w => reffin_no y fy w)
    have B := Below.refl w.heap.size w
    go_enter Try.func36, Try.ntmps36
    go_wp2_with (first | (go_at_call 65; (first | (with_reducible refine (FX.out _).mono ?_) | (with_reducible refine (FY.out _).mono ?_)); rintro e wf ⟨rfl, hbf⟩; replace B := below_step B B.size hbf; clear hbf) | (go_at_call 66; refine (mathnan_any _).mono ?_; rintro e w' ⟨rfl, rfl⟩))
    go_ret
    exact ⟨rfl, B⟩
set_option maxHeartbeats 1000000 in
theorem rr_4 (x y : Nat) (up : Bool) (wx : Wd x) (wy : Wd y) (fx : fin x) (w : World) :
    Calls Try.prog 36 #[.int .i64 4, .float .f64 x, .float .f64 y, .bool up] w fun e w' => e = .returned (.float .f64 NANW) ∧ Below w.heap.size w w' := by
  have FX := Lib.hid (fun w => reffin_yes x fx w)
  by_cases fy : fin y
  · have FY := Lib.hid (fun w => reffin_yes y fy w)
    have B := Below.refl w.heap.size w
    go_enter Try.func36, Try.ntmps36
    go_wp2_with (first | (go_at_call 65; (first | (with_reducible refine (FX.out _).mono ?_) | (with_reducible refine (FY.out _).mono ?_)); rintro e wf ⟨rfl, hbf⟩; replace B := below_step B B.size hbf; clear hbf) | (go_at_call 66; refine (mathnan_any _).mono ?_; rintro e w' ⟨rfl, rfl⟩))
    go_ret
    exact ⟨rfl, B⟩
  · have FY := Lib.hid (fun w => reffin_no y fy w)
    have B := Below.refl w.heap.size w
    go_enter Try.func36, Try.ntmps36
    go_wp2_with (first | (go_at_call 65; (first | (with_reducible refine (FX.out _).mono ?_) | (with_reducible refine (FY.out _).mono ?_)); rintro e wf ⟨rfl, hbf⟩; replace B := below_step B B.size hbf; clear hbf) | (go_at_call 66; refine (mathnan_any _).mono ?_; rintro e w' ⟨rfl, rfl⟩))
    go_ret
    exact ⟨rfl, B⟩
set_option maxHeartbeats 1000000 in
theorem rr_5 (x y : Nat) (up : Bool) (wx : Wd x) (wy : Wd y) (fx : fin x) (w : World) :
    Calls Try.prog 36 #[.int .i64 5, .float .f64 x, .float .f64 y, .bool up] w fun e w' => e = .returned (.float .f64 NANW) ∧ Below w.heap.size w w' := by
  have FX := Lib.hid (fun w => reffin_yes x fx w)
  by_cases fy : fin y
  · have FY := Lib.hid (fun w => reffin_yes y fy w)
    have B := Below.refl w.heap.size w
    go_enter Try.func36, Try.ntmps36
    go_wp2_with (first | (go_at_call 65; (first | (with_reducible refine (FX.out _).mono ?_) | (with_reducible refine (FY.out _).mono ?_)); rintro e wf ⟨rfl, hbf⟩; replace B := below_step B B.size hbf; clear hbf) | (go_at_call 66; refine (mathnan_any _).mono ?_; rintro e w' ⟨rfl, rfl⟩))
    go_ret
    exact ⟨rfl, B⟩
  · have FY := Lib.hid (fun w => reffin_no y fy w)
    have B := Below.refl w.heap.size w
    go_enter Try.func36, Try.ntmps36
    go_wp2_with (first | (go_at_call 65; (first | (with_reducible refine (FX.out _).mono ?_) | (with_reducible refine (FY.out _).mono ?_)); rintro e wf ⟨rfl, hbf⟩; replace B := below_step B B.size hbf; clear hbf) | (go_at_call 66; refine (mathnan_any _).mono ?_; rintro e w' ⟨rfl, rfl⟩))
    go_ret
    exact ⟨rfl, B⟩
set_option maxHeartbeats 1000000 in
theorem rr_3n (x y : Nat) (up : Bool) (wx : Wd x) (wy : Wd y) (fx : fin x) (hk : key x < 0) (w : World) :
    Calls Try.prog 36 #[.int .i64 3, .float .f64 x, .float .f64 y, .bool up] w fun e w' => e = .returned (.float .f64 NANW) ∧ Below w.heap.size w w' := by
  have FX := Lib.hid (fun w => reffin_yes x fx w)
  have nx : ¬ nan x := by unfold nan; unfold fin at fx; omega
  by_cases fy : fin y
  · have FY := Lib.hid (fun w => reffin_yes y fy w)
    have B := Below.refl w.heap.size w
    go_enter Try.func36, Try.ntmps36
    go_wp2_with (first | (go_at_call 65; (first | (with_reducible refine (FX.out _).mono ?_) | (with_reducible refine (FY.out _).mono ?_)); rintro e wf ⟨rfl, hbf⟩; replace B := below_step B B.size hbf; clear hbf) | (go_at_call 66; refine (mathnan_any _).mono ?_; rintro e w' ⟨rfl, rfl⟩))
    go_ret
    exact ⟨rfl, B⟩
  · have FY := Lib.hid (fun w => reffin_no y fy w)
    have B := Below.refl w.heap.size w
    go_enter Try.func36, Try.ntmps36
    go_wp2_with (first | (go_at_call 65; (first | (with_reducible refine (FX.out _).mono ?_) | (with_reducible refine (FY.out _).mono ?_)); rintro e wf ⟨rfl, hbf⟩; replace B := below_step B B.size hbf; clear hbf) | (go_at_call 66; refine (mathnan_any _).mono ?_; rintro e w' ⟨rfl, rfl⟩))
    go_ret
    exact ⟨rfl, B⟩
set_option maxHeartbeats 1000000 in
theorem rr_3true (x y : Nat) (wx : Wd x) (wy : Wd y) (fx : fin x) (hk : 0 ≤ key x) (r : Nat) (hl : ∀ w, Calls Try.prog 67 #[.int .i64 3, .float .f64 x, .float .f64 4607182418800017408] w fun e w' => e = .returned (.float .f64 r) ∧ Below w.heap.size w w') (w : World) :
    Calls Try.prog 36 #[.int .i64 3, .float .f64 x, .float .f64 y, .bool true] w fun e w' => e = .returned (.float .f64 r) ∧ Below w.heap.size w w' := by
  have FX := Lib.hid (fun w => reffin_yes x fx w)
  have nx : ¬ nan x := by unfold nan; unfold fin at fx; omega
  have LU := Lib.hid hl
  clear hl
  by_cases fy : fin y
  · have FY := Lib.hid (fun w => reffin_yes y fy w)
    have B := Below.refl w.heap.size w
    go_enter Try.func36, Try.ntmps36
    go_wp2_with (first | (go_at_call 65; (first | (with_reducible refine (FX.out _).mono ?_) | (with_reducible refine (FY.out _).mono ?_)); rintro e wf ⟨rfl, hbf⟩; replace B := below_step B B.size hbf; clear hbf) | (go_at_call 66; refine (mathnan_any _).mono ?_; rintro e w' ⟨rfl, rfl⟩) | (go_at_call 67; refine (LU.out _).mono ?_; rintro e wg ⟨rfl, hbg⟩; replace B := below_step B B.size hbg; clear hbg))
    go_ret
    exact ⟨rfl, B⟩
  · have FY := Lib.hid (fun w => reffin_no y fy w)
    have B := Below.refl w.heap.size w
    go_enter Try.func36, Try.ntmps36
    go_wp2_with (first | (go_at_call 65; (first | (with_reducible refine (FX.out _).mono ?_) | (with_reducible refine (FY.out _).mono ?_)); rintro e wf ⟨rfl, hbf⟩; replace B := below_step B B.size hbf; clear hbf) | (go_at_call 66; refine (mathnan_any _).mono ?_; rintro e w' ⟨rfl, rfl⟩) | (go_at_call 67; refine (LU.out _).mono ?_; rintro e wg ⟨rfl, hbg⟩; replace B := below_step B B.size hbg; clear hbg))
    go_ret
    exact ⟨rfl, B⟩
set_option maxHeartbeats 1000000 in
theorem rr_3false (x y : Nat) (wx : Wd x) (wy : Wd y) (fx : fin x) (hk : 0 ≤ key x) (r : Nat) (hl : ∀ w, Calls Try.prog 68 #[.int .i64 3, .float .f64 x, .float .f64 4607182418800017408] w fun e w' => e = .returned (.float .f64 r) ∧ Below w.heap.size w w') (w : World) :
    Calls Try.prog 36 #[.int .i64 3, .float .f64 x, .float .f64 y, .bool false] w fun e w' => e = .returned (.float .f64 r) ∧ Below w.heap.size w w' := by
  have FX := Lib.hid (fun w => reffin_yes x fx w)
  have nx : ¬ nan x := by unfold nan; unfold fin at fx; omega
  have LU := Lib.hid hl
  clear hl
  by_cases fy : fin y
  · have FY := Lib.hid (fun w => reffin_yes y fy w)
    have B := Below.refl w.heap.size w
    go_enter Try.func36, Try.ntmps36
    go_wp2_with (first | (go_at_call 65; (first | (with_reducible refine (FX.out _).mono ?_) | (with_reducible refine (FY.out _).mono ?_)); rintro e wf ⟨rfl, hbf⟩; replace B := below_step B B.size hbf; clear hbf) | (go_at_call 66; refine (mathnan_any _).mono ?_; rintro e w' ⟨rfl, rfl⟩) | (go_at_call 68; refine (LU.out _).mono ?_; rintro e wg ⟨rfl, hbg⟩; replace B := below_step B B.size hbg; clear hbg))
    go_ret
    exact ⟨rfl, B⟩
  · have FY := Lib.hid (fun w => reffin_no y fy w)
    have B := Below.refl w.heap.size w
    go_enter Try.func36, Try.ntmps36
    go_wp2_with (first | (go_at_call 65; (first | (with_reducible refine (FX.out _).mono ?_) | (with_reducible refine (FY.out _).mono ?_)); rintro e wf ⟨rfl, hbf⟩; replace B := below_step B B.size hbf; clear hbf) | (go_at_call 66; refine (mathnan_any _).mono ?_; rintro e w' ⟨rfl, rfl⟩) | (go_at_call 68; refine (LU.out _).mono ?_; rintro e wg ⟨rfl, hbg⟩; replace B := below_step B B.size hbg; clear hbg))
    go_ret
    exact ⟨rfl, B⟩
set_option maxHeartbeats 1000000 in
theorem rr_6n (x y : Nat) (up : Bool) (wx : Wd x) (wy : Wd y) (fx : fin x) (fy : ¬ fin y) (w : World) :
    Calls Try.prog 36 #[.int .i64 6, .float .f64 x, .float .f64 y, .bool up] w fun e w' => e = .returned (.float .f64 NANW) ∧ Below w.heap.size w w' := by
  have FX := Lib.hid (fun w => reffin_yes x fx w)
  have FY := Lib.hid (fun w => reffin_no y fy w)
  have B := Below.refl w.heap.size w
  go_enter Try.func36, Try.ntmps36
  go_wp2_with (first | (go_at_call 65; (first | (with_reducible refine (FX.out _).mono ?_) | (with_reducible refine (FY.out _).mono ?_)); rintro e wf ⟨rfl, hbf⟩; replace B := below_step B B.size hbf; clear hbf) | (go_at_call 66; refine (mathnan_any _).mono ?_; rintro e w' ⟨rfl, rfl⟩))
  go_ret
  exact ⟨rfl, B⟩
set_option maxHeartbeats 1000000 in
theorem rr_6true (x y : Nat) (wx : Wd x) (wy : Wd y) (fx : fin x) (fy : fin y) (r : Nat) (hl : ∀ w, Calls Try.prog 67 #[.int .i64 6, .float .f64 x, .float .f64 y] w fun e w' => e = .returned (.float .f64 r) ∧ Below w.heap.size w w') (w : World) :
    Calls Try.prog 36 #[.int .i64 6, .float .f64 x, .float .f64 y, .bool true] w fun e w' => e = .returned (.float .f64 r) ∧ Below w.heap.size w w' := by
  have FX := Lib.hid (fun w => reffin_yes x fx w)
  have LU := Lib.hid hl
  clear hl
  have FY := Lib.hid (fun w => reffin_yes y fy w)
  have B := Below.refl w.heap.size w
  go_enter Try.func36, Try.ntmps36
  go_wp2_with (first | (go_at_call 65; (first | (with_reducible refine (FX.out _).mono ?_) | (with_reducible refine (FY.out _).mono ?_)); rintro e wf ⟨rfl, hbf⟩; replace B := below_step B B.size hbf; clear hbf) | (go_at_call 66; refine (mathnan_any _).mono ?_; rintro e w' ⟨rfl, rfl⟩) | (go_at_call 67; refine (LU.out _).mono ?_; rintro e wg ⟨rfl, hbg⟩; replace B := below_step B B.size hbg; clear hbg))
  go_ret
  exact ⟨rfl, B⟩
set_option maxHeartbeats 1000000 in
theorem rr_6false (x y : Nat) (wx : Wd x) (wy : Wd y) (fx : fin x) (fy : fin y) (r : Nat) (hl : ∀ w, Calls Try.prog 68 #[.int .i64 6, .float .f64 x, .float .f64 y] w fun e w' => e = .returned (.float .f64 r) ∧ Below w.heap.size w w') (w : World) :
    Calls Try.prog 36 #[.int .i64 6, .float .f64 x, .float .f64 y, .bool false] w fun e w' => e = .returned (.float .f64 r) ∧ Below w.heap.size w w' := by
  have FX := Lib.hid (fun w => reffin_yes x fx w)
  have LU := Lib.hid hl
  clear hl
  have FY := Lib.hid (fun w => reffin_yes y fy w)
  have B := Below.refl w.heap.size w
  go_enter Try.func36, Try.ntmps36
  go_wp2_with (first | (go_at_call 65; (first | (with_reducible refine (FX.out _).mono ?_) | (with_reducible refine (FY.out _).mono ?_)); rintro e wf ⟨rfl, hbf⟩; replace B := below_step B B.size hbf; clear hbf) | (go_at_call 66; refine (mathnan_any _).mono ?_; rintro e w' ⟨rfl, rfl⟩) | (go_at_call 68; refine (LU.out _).mono ?_; rintro e wg ⟨rfl, hbg⟩; replace B := below_step B B.size hbg; clear hbg))
  go_ret
  exact ⟨rfl, B⟩
set_option maxHeartbeats 1000000 in
theorem rr_7n (x y : Nat) (up : Bool) (wx : Wd x) (wy : Wd y) (fx : fin x) (fy : ¬ fin y) (w : World) :
    Calls Try.prog 36 #[.int .i64 7, .float .f64 x, .float .f64 y, .bool up] w fun e w' => e = .returned (.float .f64 NANW) ∧ Below w.heap.size w w' := by
  have FX := Lib.hid (fun w => reffin_yes x fx w)
  have FY := Lib.hid (fun w => reffin_no y fy w)
  have B := Below.refl w.heap.size w
  go_enter Try.func36, Try.ntmps36
  go_wp2_with (first | (go_at_call 65; (first | (with_reducible refine (FX.out _).mono ?_) | (with_reducible refine (FY.out _).mono ?_)); rintro e wf ⟨rfl, hbf⟩; replace B := below_step B B.size hbf; clear hbf) | (go_at_call 66; refine (mathnan_any _).mono ?_; rintro e w' ⟨rfl, rfl⟩))
  go_ret
  exact ⟨rfl, B⟩
set_option maxHeartbeats 1000000 in
theorem rr_7true (x y : Nat) (wx : Wd x) (wy : Wd y) (fx : fin x) (fy : fin y) (r : Nat) (hl : ∀ w, Calls Try.prog 67 #[.int .i64 7, .float .f64 x, .float .f64 y] w fun e w' => e = .returned (.float .f64 r) ∧ Below w.heap.size w w') (w : World) :
    Calls Try.prog 36 #[.int .i64 7, .float .f64 x, .float .f64 y, .bool true] w fun e w' => e = .returned (.float .f64 r) ∧ Below w.heap.size w w' := by
  have FX := Lib.hid (fun w => reffin_yes x fx w)
  have LU := Lib.hid hl
  clear hl
  have FY := Lib.hid (fun w => reffin_yes y fy w)
  have B := Below.refl w.heap.size w
  go_enter Try.func36, Try.ntmps36
  go_wp2_with (first | (go_at_call 65; (first | (with_reducible refine (FX.out _).mono ?_) | (with_reducible refine (FY.out _).mono ?_)); rintro e wf ⟨rfl, hbf⟩; replace B := below_step B B.size hbf; clear hbf) | (go_at_call 66; refine (mathnan_any _).mono ?_; rintro e w' ⟨rfl, rfl⟩) | (go_at_call 67; refine (LU.out _).mono ?_; rintro e wg ⟨rfl, hbg⟩; replace B := below_step B B.size hbg; clear hbg))
  go_ret
  exact ⟨rfl, B⟩
set_option maxHeartbeats 1000000 in
theorem rr_7false (x y : Nat) (wx : Wd x) (wy : Wd y) (fx : fin x) (fy : fin y) (r : Nat) (hl : ∀ w, Calls Try.prog 68 #[.int .i64 7, .float .f64 x, .float .f64 y] w fun e w' => e = .returned (.float .f64 r) ∧ Below w.heap.size w w') (w : World) :
    Calls Try.prog 36 #[.int .i64 7, .float .f64 x, .float .f64 y, .bool false] w fun e w' => e = .returned (.float .f64 r) ∧ Below w.heap.size w w' := by
  have FX := Lib.hid (fun w => reffin_yes x fx w)
  have LU := Lib.hid hl
  clear hl
  have FY := Lib.hid (fun w => reffin_yes y fy w)
  have B := Below.refl w.heap.size w
  go_enter Try.func36, Try.ntmps36
  go_wp2_with (first | (go_at_call 65; (first | (with_reducible refine (FX.out _).mono ?_) | (with_reducible refine (FY.out _).mono ?_)); rintro e wf ⟨rfl, hbf⟩; replace B := below_step B B.size hbf; clear hbf) | (go_at_call 66; refine (mathnan_any _).mono ?_; rintro e w' ⟨rfl, rfl⟩) | (go_at_call 68; refine (LU.out _).mono ?_; rintro e wg ⟨rfl, hbg⟩; replace B := below_step B B.size hbg; clear hbg))
  go_ret
  exact ⟨rfl, B⟩
set_option maxHeartbeats 1000000 in
theorem rr_8n (x y : Nat) (up : Bool) (wx : Wd x) (wy : Wd y) (fx : fin x) (fy : ¬ fin y) (w : World) :
    Calls Try.prog 36 #[.int .i64 8, .float .f64 x, .float .f64 y, .bool up] w fun e w' => e = .returned (.float .f64 NANW) ∧ Below w.heap.size w w' := by
  have FX := Lib.hid (fun w => reffin_yes x fx w)
  have FY := Lib.hid (fun w => reffin_no y fy w)
  have B := Below.refl w.heap.size w
  go_enter Try.func36, Try.ntmps36
  go_wp2_with (first | (go_at_call 65; (first | (with_reducible refine (FX.out _).mono ?_) | (with_reducible refine (FY.out _).mono ?_)); rintro e wf ⟨rfl, hbf⟩; replace B := below_step B B.size hbf; clear hbf) | (go_at_call 66; refine (mathnan_any _).mono ?_; rintro e w' ⟨rfl, rfl⟩))
  go_ret
  exact ⟨rfl, B⟩
set_option maxHeartbeats 1000000 in
theorem rr_8true (x y : Nat) (wx : Wd x) (wy : Wd y) (fx : fin x) (fy : fin y) (r : Nat) (hl : ∀ w, Calls Try.prog 67 #[.int .i64 8, .float .f64 x, .float .f64 y] w fun e w' => e = .returned (.float .f64 r) ∧ Below w.heap.size w w') (w : World) :
    Calls Try.prog 36 #[.int .i64 8, .float .f64 x, .float .f64 y, .bool true] w fun e w' => e = .returned (.float .f64 r) ∧ Below w.heap.size w w' := by
  have FX := Lib.hid (fun w => reffin_yes x fx w)
  have LU := Lib.hid hl
  clear hl
  have FY := Lib.hid (fun w => reffin_yes y fy w)
  have B := Below.refl w.heap.size w
  go_enter Try.func36, Try.ntmps36
  go_wp2_with (first | (go_at_call 65; (first | (with_reducible refine (FX.out _).mono ?_) | (with_reducible refine (FY.out _).mono ?_)); rintro e wf ⟨rfl, hbf⟩; replace B := below_step B B.size hbf; clear hbf) | (go_at_call 66; refine (mathnan_any _).mono ?_; rintro e w' ⟨rfl, rfl⟩) | (go_at_call 67; refine (LU.out _).mono ?_; rintro e wg ⟨rfl, hbg⟩; replace B := below_step B B.size hbg; clear hbg))
  go_ret
  exact ⟨rfl, B⟩
set_option maxHeartbeats 1000000 in
theorem rr_8false (x y : Nat) (wx : Wd x) (wy : Wd y) (fx : fin x) (fy : fin y) (r : Nat) (hl : ∀ w, Calls Try.prog 68 #[.int .i64 8, .float .f64 x, .float .f64 y] w fun e w' => e = .returned (.float .f64 r) ∧ Below w.heap.size w w') (w : World) :
    Calls Try.prog 36 #[.int .i64 8, .float .f64 x, .float .f64 y, .bool false] w fun e w' => e = .returned (.float .f64 r) ∧ Below w.heap.size w w' := by
  have FX := Lib.hid (fun w => reffin_yes x fx w)
  have LU := Lib.hid hl
  clear hl
  have FY := Lib.hid (fun w => reffin_yes y fy w)
  have B := Below.refl w.heap.size w
  go_enter Try.func36, Try.ntmps36
  go_wp2_with (first | (go_at_call 65; (first | (with_reducible refine (FX.out _).mono ?_) | (with_reducible refine (FY.out _).mono ?_)); rintro e wf ⟨rfl, hbf⟩; replace B := below_step B B.size hbf; clear hbf) | (go_at_call 66; refine (mathnan_any _).mono ?_; rintro e w' ⟨rfl, rfl⟩) | (go_at_call 68; refine (LU.out _).mono ?_; rintro e wg ⟨rfl, hbg⟩; replace B := below_step B B.size hbg; clear hbg))
  go_ret
  exact ⟨rfl, B⟩
set_option maxHeartbeats 1000000 in
theorem rr_9n (x y : Nat) (up : Bool) (wx : Wd x) (wy : Wd y) (fx : fin x) (fy : ¬ fin y) (w : World) :
    Calls Try.prog 36 #[.int .i64 9, .float .f64 x, .float .f64 y, .bool up] w fun e w' => e = .returned (.float .f64 NANW) ∧ Below w.heap.size w w' := by
  have FX := Lib.hid (fun w => reffin_yes x fx w)
  have FY := Lib.hid (fun w => reffin_no y fy w)
  have B := Below.refl w.heap.size w
  go_enter Try.func36, Try.ntmps36
  go_wp2_with (first | (go_at_call 65; (first | (with_reducible refine (FX.out _).mono ?_) | (with_reducible refine (FY.out _).mono ?_)); rintro e wf ⟨rfl, hbf⟩; replace B := below_step B B.size hbf; clear hbf) | (go_at_call 66; refine (mathnan_any _).mono ?_; rintro e w' ⟨rfl, rfl⟩))
  go_ret
  exact ⟨rfl, B⟩
set_option maxHeartbeats 1000000 in
theorem rr_9true (x y : Nat) (wx : Wd x) (wy : Wd y) (fx : fin x) (fy : fin y) (r : Nat) (hy : ¬ key y = 0) (hl : ∀ w, Calls Try.prog 67 #[.int .i64 9, .float .f64 x, .float .f64 y] w fun e w' => e = .returned (.float .f64 r) ∧ Below w.heap.size w w') (w : World) :
    Calls Try.prog 36 #[.int .i64 9, .float .f64 x, .float .f64 y, .bool true] w fun e w' => e = .returned (.float .f64 r) ∧ Below w.heap.size w w' := by
  have FX := Lib.hid (fun w => reffin_yes x fx w)
  have ny : ¬ nan y := by unfold nan; unfold fin at fy; omega
  have LU := Lib.hid hl
  clear hl
  have FY := Lib.hid (fun w => reffin_yes y fy w)
  have B := Below.refl w.heap.size w
  go_enter Try.func36, Try.ntmps36
  go_wp2_with (first | (go_at_call 65; (first | (with_reducible refine (FX.out _).mono ?_) | (with_reducible refine (FY.out _).mono ?_)); rintro e wf ⟨rfl, hbf⟩; replace B := below_step B B.size hbf; clear hbf) | (go_at_call 66; refine (mathnan_any _).mono ?_; rintro e w' ⟨rfl, rfl⟩) | (go_at_call 67; refine (LU.out _).mono ?_; rintro e wg ⟨rfl, hbg⟩; replace B := below_step B B.size hbg; clear hbg))
  go_ret
  exact ⟨rfl, B⟩
set_option maxHeartbeats 1000000 in
theorem rr_9false (x y : Nat) (wx : Wd x) (wy : Wd y) (fx : fin x) (fy : fin y) (r : Nat) (hy : ¬ key y = 0) (hl : ∀ w, Calls Try.prog 68 #[.int .i64 9, .float .f64 x, .float .f64 y] w fun e w' => e = .returned (.float .f64 r) ∧ Below w.heap.size w w') (w : World) :
    Calls Try.prog 36 #[.int .i64 9, .float .f64 x, .float .f64 y, .bool false] w fun e w' => e = .returned (.float .f64 r) ∧ Below w.heap.size w w' := by
  have FX := Lib.hid (fun w => reffin_yes x fx w)
  have ny : ¬ nan y := by unfold nan; unfold fin at fy; omega
  have LU := Lib.hid hl
  clear hl
  have FY := Lib.hid (fun w => reffin_yes y fy w)
  have B := Below.refl w.heap.size w
  go_enter Try.func36, Try.ntmps36
  go_wp2_with (first | (go_at_call 65; (first | (with_reducible refine (FX.out _).mono ?_) | (with_reducible refine (FY.out _).mono ?_)); rintro e wf ⟨rfl, hbf⟩; replace B := below_step B B.size hbf; clear hbf) | (go_at_call 66; refine (mathnan_any _).mono ?_; rintro e w' ⟨rfl, rfl⟩) | (go_at_call 68; refine (LU.out _).mono ?_; rintro e wg ⟨rfl, hbg⟩; replace B := below_step B B.size hbg; clear hbg))
  go_ret
  exact ⟨rfl, B⟩
set_option maxHeartbeats 1000000 in
theorem rr_9z (x y : Nat) (up : Bool) (wx : Wd x) (wy : Wd y) (fx : fin x) (fy : fin y) (hy : key y = 0) (w : World) :
    Calls Try.prog 36 #[.int .i64 9, .float .f64 x, .float .f64 y, .bool up] w fun e w' => e = .returned (.float .f64 NANW) ∧ Below w.heap.size w w' := by
  have FX := Lib.hid (fun w => reffin_yes x fx w)
  have ny : ¬ nan y := by unfold nan; unfold fin at fy; omega
  have FY := Lib.hid (fun w => reffin_yes y fy w)
  have B := Below.refl w.heap.size w
  go_enter Try.func36, Try.ntmps36
  go_wp2_with (first | (go_at_call 65; (first | (with_reducible refine (FX.out _).mono ?_) | (with_reducible refine (FY.out _).mono ?_)); rintro e wf ⟨rfl, hbf⟩; replace B := below_step B B.size hbf; clear hbf) | (go_at_call 66; refine (mathnan_any _).mono ?_; rintro e w' ⟨rfl, rfl⟩))
  go_ret
  exact ⟨rfl, B⟩
end Go.Proofs.Yteephgpefhodnaa
