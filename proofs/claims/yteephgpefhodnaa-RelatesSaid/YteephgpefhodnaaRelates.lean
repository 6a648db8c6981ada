/- Proved: the statement Relates: for every input the call returns true: Meet, Hull and each relation of any two intervals are the document answer. Conditions: none. -/
import Derived.Test.YteephgpefhodnaaA6
import Derived.ProofKit
import Derived.OpenShut
namespace Go.Proofs.Yteephgpefhodnaa.relates
open Go.RowKit Go.Sort Go.Fl Go.ChangeShapes Go.WideShapes Go.ChangeAt
set_option linter.unusedSimpArgs false
set_option linter.unusedVariables false

set_option maxRecDepth 100000 in
set_option maxHeartbeats 2000000 in
theorem walk (a0 a1 a2 a3 a4 : Int) (w0 : (Lit.int .u64 a0).wf = true) (w1 : (Lit.int .u64 a1).wf = true) (w2 : (Lit.int .u64 a2).wf = true) (w3 : (Lit.int .u64 a3).wf = true) (w4 : (Lit.int .i64 a4).wf = true) (w : World) :
    Calls Try.prog 7 #[.int .u64 a0, .int .u64 a1, .int .u64 a2, .int .u64 a3, .int .i64 a4] w fun e w' => e = .returned (.bool true) ∧ Below w.heap.size w w' := by
  have ha := wd_of w0
  have hb := wd_of w1
  have hc := wd_of w2
  have hd := wd_of w3
  clear w0 w1 w2 w3 w4
  go_enter Try.func7, Try.ntmps7
  go_wp2_with (go_at_call 16; refine (lawof_any _ _).mono ?_; rintro e w' ⟨rfl, rfl⟩)
  go_loopw [13] (fun k wr => ∃ n : Int, -1 ≤ n ∧ n ≤ 8 ∧ k = .int .i64 n ∧ wr.cell? ⟨w.heap.size, 0, none⟩ = some (.float .f64 a0.toNat) ∧ wr.cell? ⟨w.heap.size, 1, none⟩ = some (.float .f64 a1.toNat) ∧ wr.cell? ⟨w.heap.size + 1, 0, none⟩ = some (.float .f64 a2.toNat) ∧ wr.cell? ⟨w.heap.size + 1, 1, none⟩ = some (.float .f64 a3.toNat) ∧ Below w.heap.size w wr ∧ w.heap.size + 1 < wr.heap.size) (fun k _ => (8 - intOf k).toNat)
  case atStart => exact ⟨-1, by omega, by omega, rfl, by simp [go_sem], by simp [go_sem], by simp [go_sem], by simp [go_sem], by go_grown, by simp⟩
  case round =>
    obtain ⟨n, hn1, hn2, rfl, F00, F01, F10, F11, B3, z3⟩ := hrel
    by_cases hlt : n < 8
    · by_cases h0 : n < 0
      all_goals go_wp2_with (first | (go_at_call 29; refine (spansis_any _ _ _ _ _ ha hb hc hd _).mono ?_; rintro e wn ⟨rfl, hbn⟩; replace F00 := hbn.cells F00; replace F01 := hbn.cells F01; replace F10 := hbn.cells F10; replace F11 := hbn.cells F11; replace B3 := below_step B3 B3.size hbn; replace z3 := Nat.lt_of_lt_of_le z3 hbn.size; clear hbn) | (go_at_call 30; refine (refis_any _ _ _ _ _ ha hb hc hd _).mono ?_; rintro e wn ⟨rfl, hbn⟩; replace F00 := hbn.cells F00; replace F01 := hbn.cells F01; replace F10 := hbn.cells F10; replace F11 := hbn.cells F11; replace B3 := below_step B3 B3.size hbn; replace z3 := Nat.lt_of_lt_of_le z3 hbn.size; clear hbn))
      all_goals
        go_roundw
        case rel => exact ⟨n + 1, by omega, by omega, rfl, F00, F01, F10, F11, B3, z3⟩
        case measure => simp [intOf]; omega
    · have rm := meet_rg (tk_iv a0.toNat a1.toNat) (tk_iv a2.toNat a3.toNat)
      have rh := hull_iv (tk_iv a0.toNat a1.toNat) (tk_iv a2.toNat a3.toNat)
      have z0 : w.heap.size < wr.heap.size := by omega
      go_wp2_with fail
      refine (spansmeet_any _ _ _ _ ha hb hc hd _).mono ?_
      rintro e x4 ⟨rfl, hx4⟩
      replace F00 := RowKit.Below.cells hx4 (b := w.heap.size) (o := 0) (v := .float .f64 a0.toNat) (by first | exact F00 | simp [go_sem, F00, F01, F10, F11, z0, z3])
      replace F01 := RowKit.Below.cells hx4 (b := w.heap.size) (o := 1) (v := .float .f64 a1.toNat) (by first | exact F01 | simp [go_sem, F00, F01, F10, F11, z0, z3])
      replace F10 := RowKit.Below.cells hx4 (b := w.heap.size + 1) (o := 0) (v := .float .f64 a2.toNat) (by first | exact F10 | simp [go_sem, F00, F01, F10, F11, z0, z3])
      replace F11 := RowKit.Below.cells hx4 (b := w.heap.size + 1) (o := 1) (v := .float .f64 a3.toNat) (by first | exact F11 | simp [go_sem, F00, F01, F10, F11, z0, z3])
      have Bx4 := below_step B3 B3.size hx4
      have sx4 := hx4.size
      replace z0 := Nat.lt_of_lt_of_le z0 (show _ ≤ x4.heap.size by omega)
      replace z3 := Nat.lt_of_lt_of_le z3 (show _ ≤ x4.heap.size by omega)
      clear hx4 sx4
      have Mx40 : True := trivial
      have Mx41 : True := trivial
      go_wp2_with fail
      refine (refmeet_any _ _ _ _ ha hb hc hd _).mono ?_
      rintro e x5 ⟨rfl, hx5⟩
      replace F00 := RowKit.Below.cells hx5 (b := w.heap.size) (o := 0) (v := .float .f64 a0.toNat) (by first | exact F00 | simp [go_sem, F00, F01, F10, F11, Mx40, Mx41, z0, z3])
      replace F01 := RowKit.Below.cells hx5 (b := w.heap.size) (o := 1) (v := .float .f64 a1.toNat) (by first | exact F01 | simp [go_sem, F00, F01, F10, F11, Mx40, Mx41, z0, z3])
      replace F10 := RowKit.Below.cells hx5 (b := w.heap.size + 1) (o := 0) (v := .float .f64 a2.toNat) (by first | exact F10 | simp [go_sem, F00, F01, F10, F11, Mx40, Mx41, z0, z3])
      replace F11 := RowKit.Below.cells hx5 (b := w.heap.size + 1) (o := 1) (v := .float .f64 a3.toNat) (by first | exact F11 | simp [go_sem, F00, F01, F10, F11, Mx40, Mx41, z0, z3])
      replace Mx40 := RowKit.Below.cells hx5 (b := x4.heap.size) (o := 0) (v := .float .f64 (ofKey (meetLo (tkLo a0.toNat a1.toNat) (tkHi a0.toNat a1.toNat) (tkLo a2.toNat a3.toNat) (tkHi a2.toNat a3.toNat)))) (by first | exact Mx40 | simp [go_sem, F00, F01, F10, F11, Mx40, Mx41, z0, z3])
      replace Mx41 := RowKit.Below.cells hx5 (b := x4.heap.size) (o := 1) (v := .float .f64 (ofKey (meetHi (tkLo a0.toNat a1.toNat) (tkHi a0.toNat a1.toNat) (tkLo a2.toNat a3.toNat) (tkHi a2.toNat a3.toNat)))) (by first | exact Mx41 | simp [go_sem, F00, F01, F10, F11, Mx40, Mx41, z0, z3])
      have Bx5 := below_step Bx4 Bx4.size (below_alloc hx5)
      have sx5 := hx5.size
      rw [World.size_alloc] at sx5
      replace z0 := Nat.lt_of_lt_of_le z0 (show _ ≤ x5.heap.size by omega)
      replace z3 := Nat.lt_of_lt_of_le z3 (show _ ≤ x5.heap.size by omega)
      have yx4 : x4.heap.size < x5.heap.size := by omega
      clear hx5 sx5
      have Mx50 : True := trivial
      have Mx51 : True := trivial
      go_wp2_with fail
      refine (spanshull_any _ _ _ _ ha hb hc hd _).mono ?_
      rintro e x6 ⟨rfl, hx6⟩
      replace F00 := RowKit.Below.cells hx6 (b := w.heap.size) (o := 0) (v := .float .f64 a0.toNat) (by first | exact F00 | simp [go_sem, F00, F01, F10, F11, Mx40, Mx41, Mx50, Mx51, z0, z3, yx4])
      replace F01 := RowKit.Below.cells hx6 (b := w.heap.size) (o := 1) (v := .float .f64 a1.toNat) (by first | exact F01 | simp [go_sem, F00, F01, F10, F11, Mx40, Mx41, Mx50, Mx51, z0, z3, yx4])
      replace F10 := RowKit.Below.cells hx6 (b := w.heap.size + 1) (o := 0) (v := .float .f64 a2.toNat) (by first | exact F10 | simp [go_sem, F00, F01, F10, F11, Mx40, Mx41, Mx50, Mx51, z0, z3, yx4])
      replace F11 := RowKit.Below.cells hx6 (b := w.heap.size + 1) (o := 1) (v := .float .f64 a3.toNat) (by first | exact F11 | simp [go_sem, F00, F01, F10, F11, Mx40, Mx41, Mx50, Mx51, z0, z3, yx4])
      replace Mx40 := RowKit.Below.cells hx6 (b := x4.heap.size) (o := 0) (v := .float .f64 (ofKey (meetLo (tkLo a0.toNat a1.toNat) (tkHi a0.toNat a1.toNat) (tkLo a2.toNat a3.toNat) (tkHi a2.toNat a3.toNat)))) (by first | exact Mx40 | simp [go_sem, F00, F01, F10, F11, Mx40, Mx41, Mx50, Mx51, z0, z3, yx4])
      replace Mx41 := RowKit.Below.cells hx6 (b := x4.heap.size) (o := 1) (v := .float .f64 (ofKey (meetHi (tkLo a0.toNat a1.toNat) (tkHi a0.toNat a1.toNat) (tkLo a2.toNat a3.toNat) (tkHi a2.toNat a3.toNat)))) (by first | exact Mx41 | simp [go_sem, F00, F01, F10, F11, Mx40, Mx41, Mx50, Mx51, z0, z3, yx4])
      replace Mx50 := RowKit.Below.cells hx6 (b := x5.heap.size) (o := 0) (v := .float .f64 (ofKey (meetLo (tkLo a0.toNat a1.toNat) (tkHi a0.toNat a1.toNat) (tkLo a2.toNat a3.toNat) (tkHi a2.toNat a3.toNat)))) (by first | exact Mx50 | simp [go_sem, F00, F01, F10, F11, Mx40, Mx41, Mx50, Mx51, z0, z3, yx4])
      replace Mx51 := RowKit.Below.cells hx6 (b := x5.heap.size) (o := 1) (v := .float .f64 (ofKey (meetHi (tkLo a0.toNat a1.toNat) (tkHi a0.toNat a1.toNat) (tkLo a2.toNat a3.toNat) (tkHi a2.toNat a3.toNat)))) (by first | exact Mx51 | simp [go_sem, F00, F01, F10, F11, Mx40, Mx41, Mx50, Mx51, z0, z3, yx4])
      have Bx6 := below_step Bx5 Bx5.size (below_alloc hx6)
      have sx6 := hx6.size
      rw [World.size_alloc] at sx6
      replace z0 := Nat.lt_of_lt_of_le z0 (show _ ≤ x6.heap.size by omega)
      replace z3 := Nat.lt_of_lt_of_le z3 (show _ ≤ x6.heap.size by omega)
      replace yx4 := Nat.lt_of_lt_of_le yx4 (show _ ≤ x6.heap.size by omega)
      have yx5 : x5.heap.size < x6.heap.size := by omega
      clear hx6 sx6
      have Mx60 : True := trivial
      have Mx61 : True := trivial
      go_wp2_with fail
      refine (refhull_any _ _ _ _ ha hb hc hd _).mono ?_
      rintro e x7 ⟨rfl, hx7⟩
      replace F00 := RowKit.Below.cells hx7 (b := w.heap.size) (o := 0) (v := .float .f64 a0.toNat) (by first | exact F00 | simp [go_sem, F00, F01, F10, F11, Mx40, Mx41, Mx50, Mx51, Mx60, Mx61, z0, z3, yx4, yx5])
      replace F01 := RowKit.Below.cells hx7 (b := w.heap.size) (o := 1) (v := .float .f64 a1.toNat) (by first | exact F01 | simp [go_sem, F00, F01, F10, F11, Mx40, Mx41, Mx50, Mx51, Mx60, Mx61, z0, z3, yx4, yx5])
      replace F10 := RowKit.Below.cells hx7 (b := w.heap.size + 1) (o := 0) (v := .float .f64 a2.toNat) (by first | exact F10 | simp [go_sem, F00, F01, F10, F11, Mx40, Mx41, Mx50, Mx51, Mx60, Mx61, z0, z3, yx4, yx5])
      replace F11 := RowKit.Below.cells hx7 (b := w.heap.size + 1) (o := 1) (v := .float .f64 a3.toNat) (by first | exact F11 | simp [go_sem, F00, F01, F10, F11, Mx40, Mx41, Mx50, Mx51, Mx60, Mx61, z0, z3, yx4, yx5])
      replace Mx40 := RowKit.Below.cells hx7 (b := x4.heap.size) (o := 0) (v := .float .f64 (ofKey (meetLo (tkLo a0.toNat a1.toNat) (tkHi a0.toNat a1.toNat) (tkLo a2.toNat a3.toNat) (tkHi a2.toNat a3.toNat)))) (by first | exact Mx40 | simp [go_sem, F00, F01, F10, F11, Mx40, Mx41, Mx50, Mx51, Mx60, Mx61, z0, z3, yx4, yx5])
      replace Mx41 := RowKit.Below.cells hx7 (b := x4.heap.size) (o := 1) (v := .float .f64 (ofKey (meetHi (tkLo a0.toNat a1.toNat) (tkHi a0.toNat a1.toNat) (tkLo a2.toNat a3.toNat) (tkHi a2.toNat a3.toNat)))) (by first | exact Mx41 | simp [go_sem, F00, F01, F10, F11, Mx40, Mx41, Mx50, Mx51, Mx60, Mx61, z0, z3, yx4, yx5])
      replace Mx50 := RowKit.Below.cells hx7 (b := x5.heap.size) (o := 0) (v := .float .f64 (ofKey (meetLo (tkLo a0.toNat a1.toNat) (tkHi a0.toNat a1.toNat) (tkLo a2.toNat a3.toNat) (tkHi a2.toNat a3.toNat)))) (by first | exact Mx50 | simp [go_sem, F00, F01, F10, F11, Mx40, Mx41, Mx50, Mx51, Mx60, Mx61, z0, z3, yx4, yx5])
      replace Mx51 := RowKit.Below.cells hx7 (b := x5.heap.size) (o := 1) (v := .float .f64 (ofKey (meetHi (tkLo a0.toNat a1.toNat) (tkHi a0.toNat a1.toNat) (tkLo a2.toNat a3.toNat) (tkHi a2.toNat a3.toNat)))) (by first | exact Mx51 | simp [go_sem, F00, F01, F10, F11, Mx40, Mx41, Mx50, Mx51, Mx60, Mx61, z0, z3, yx4, yx5])
      replace Mx60 := RowKit.Below.cells hx7 (b := x6.heap.size) (o := 0) (v := .float .f64 (ofKey (min (tkLo a0.toNat a1.toNat) (tkLo a2.toNat a3.toNat)))) (by first | exact Mx60 | simp [go_sem, F00, F01, F10, F11, Mx40, Mx41, Mx50, Mx51, Mx60, Mx61, z0, z3, yx4, yx5])
      replace Mx61 := RowKit.Below.cells hx7 (b := x6.heap.size) (o := 1) (v := .float .f64 (ofKey (max (tkHi a0.toNat a1.toNat) (tkHi a2.toNat a3.toNat)))) (by first | exact Mx61 | simp [go_sem, F00, F01, F10, F11, Mx40, Mx41, Mx50, Mx51, Mx60, Mx61, z0, z3, yx4, yx5])
      have Bx7 := below_step Bx6 Bx6.size (below_alloc hx7)
      have sx7 := hx7.size
      rw [World.size_alloc] at sx7
      replace z0 := Nat.lt_of_lt_of_le z0 (show _ ≤ x7.heap.size by omega)
      replace z3 := Nat.lt_of_lt_of_le z3 (show _ ≤ x7.heap.size by omega)
      replace yx4 := Nat.lt_of_lt_of_le yx4 (show _ ≤ x7.heap.size by omega)
      replace yx5 := Nat.lt_of_lt_of_le yx5 (show _ ≤ x7.heap.size by omega)
      have yx6 : x6.heap.size < x7.heap.size := by omega
      clear hx7 sx7
      have Mx70 : True := trivial
      have Mx71 : True := trivial
      go_wp2_with fail
      refine (alike_refl _ _ rm.1 rm.2 _).mono ?_
      rintro e x8 ⟨rfl, h8⟩
      replace Mx60 := RowKit.Below.cells h8 (b := x6.heap.size) (o := 0) (v := .float .f64 (ofKey (min (tkLo a0.toNat a1.toNat) (tkLo a2.toNat a3.toNat)))) (by simp [go_sem, Mx60, yx6])
      replace Mx61 := RowKit.Below.cells h8 (b := x6.heap.size) (o := 1) (v := .float .f64 (ofKey (max (tkHi a0.toNat a1.toNat) (tkHi a2.toNat a3.toNat)))) (by simp [go_sem, Mx61, yx6])
      have M70 := RowKit.Below.cells h8 (b := x7.heap.size) (o := 0) (v := .float .f64 (ofKey (min (tkLo a0.toNat a1.toNat) (tkLo a2.toNat a3.toNat)))) (by simp [go_sem])
      have M71 := RowKit.Below.cells h8 (b := x7.heap.size) (o := 1) (v := .float .f64 (ofKey (max (tkHi a0.toNat a1.toNat) (tkHi a2.toNat a3.toNat)))) (by simp [go_sem])
      go_wp2_with fail
      refine (alike_refl _ _ rh.1 rh.2.1 _).mono ?_
      rintro e x9 ⟨rfl, h9⟩
      go_wp2_with fail
      go_ret
      exact ⟨rfl, below_step (below_step Bx7 Bx7.size (below_alloc h8)) (below_step Bx7 Bx7.size (below_alloc h8)).size h9⟩

theorem own : ownKnob Try.prog.godebug = none := by kernel_rfl
set_option maxRecDepth 100000 in
theorem lifted (os : Os) (started : os.Started) (H : Type) (enc : TypeId × Value → H) :
    ReturnsInHanded {} Try.checked os 7 .any (Rows.relatesSpec.pre6 enc Try.prog Try.f7 Rows.relatesRow.domain false) (Rows.relatesSpec.post enc Try.prog Try.f7 false true false false) := by
  refine returnsInHanded_of_change (C := Try.checked) own started (by kernel_rfl) Try.func7
    (ChangeSpec.witness6 (enc := enc) (C := Try.checked) false ⟨#[], #[.int .u64 0, .int .u64 0, .int .u64 0, .int .u64 0, .int .i64 0], []⟩ 8 (by kernel_rfl) (by kernel_rfl) (by kernel_rfl) (by kernel_rfl)) ?_
  intro W base args ds gs before hval0 hW hcnd _
  have hval : ∀ (j : Nat) t v, Try.f7.params[j]? = some t → args[j]? = some v → Value.okWide Try.prog W .any base t v := hval0
  have hW' := hW
  obtain ⟨p, q, hA0, hV, rfl, hfz, hnd⟩ := hW
  have hA : DataW.TrodAll enc Try.prog W 0 (fun _ => true) true Try.f7.params.toList args.toList ds p := hA0
  rw [Try.params7] at hA hval
  obtain ⟨v0, vs0, d0, ds0, p0, q0, hargs, rfl, rfl, h0, r0⟩ := trodAll_cons hA
  obtain ⟨v1, vs1, d1, ds1, p1, q1, rfl, rfl, rfl, h1, r1⟩ := trodAll_cons r0
  obtain ⟨v2, vs2, d2, ds2, p2, q2, rfl, rfl, rfl, h2, r2⟩ := trodAll_cons r1
  obtain ⟨v3, vs3, d3, ds3, p3, q3, rfl, rfl, rfl, h3, r3⟩ := trodAll_cons r2
  obtain ⟨v4, vs4, d4, ds4, p4, q4, rfl, rfl, rfl, h4, r4⟩ := trodAll_cons r3
  obtain ⟨rfl, rfl, rfl⟩ := trodAll_nil r4
  obtain rfl : args = #[v0, v1, v2, v3, v4] := by cases args; simp_all
  obtain ⟨rfl, rfl⟩ := trodVars_none hV
  obtain ⟨a0, rfl, rfl, rfl, w0⟩ := open_int Try.underlying25 (hval 0 25 v0 rfl rfl) h0
  obtain ⟨a1, rfl, rfl, rfl, w1⟩ := open_int Try.underlying25 (hval 1 25 v1 rfl rfl) h1
  obtain ⟨a2, rfl, rfl, rfl, w2⟩ := open_int Try.underlying25 (hval 2 25 v2 rfl rfl) h2
  obtain ⟨a3, rfl, rfl, rfl, w3⟩ := open_int Try.underlying25 (hval 3 25 v3 rfl rfl) h3
  obtain ⟨a4, rfl, rfl, rfl, w4⟩ := open_int Try.underlying3 (hval 4 3 v4 rfl rfl) h4
  clear hA0 hval0
  simp only [List.append_nil] at hW'
  refine (walk a0 a1 a2 a3 a4 w0 w1 w2 w3 w4 W).mono fun e W' ⟨he, hg⟩ => ?_
  subst he
  exact ⟨_, rfl, _, _, _, [], [], [], hW', (trodAll_cons_mk (shut_bool Try.underlying4 _) trodAll_mk0), (trodAll_cons_mk (shut_int Try.underlying25 w0) (trodAll_cons_mk (shut_int Try.underlying25 w1) (trodAll_cons_mk (shut_int Try.underlying25 w2) (trodAll_cons_mk (shut_int Try.underlying25 w3) (trodAll_cons_mk (shut_int Try.underlying3 w4) trodAll_mk0))))), rfl, hg.frame _, fun h => by cases h⟩

theorem over : Rows.relatesRow.holds Try.pinned (OpenSpec.ofChange Rows.relatesSpec) :=
  OpenClaim.holds_of_wide 7 Try.f7 rfl rfl rfl rfl rfl rfl rfl ⟨rfl, rfl, rfl, rfl, rfl⟩ rfl rfl rfl rfl rfl (by kernel_rfl) Try.func7 (by kernel_rfl)
    (of_decide_eq_true (by kernel_rfl)) (by unfold Func.isWrapper; first | (rw [if_pos (by decide +kernel)]; kernel_rfl) | (rw [if_neg (by decide +kernel)]; exact ⟨rfl, rfl⟩))
    (fun os started H enc _ => lifted os started H enc)

theorem proved : Rows.RelatesSaid :=
  over
#print axioms proved

end Go.Proofs.Yteephgpefhodnaa.relates
