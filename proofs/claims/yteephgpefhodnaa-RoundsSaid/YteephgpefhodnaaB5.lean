/- A real given by two words, rounded: the method number, the upper word being nought. -/
import Derived.Test.YteephgpefhodnaaB4
namespace Go.Proofs.Yteephgpefhodnaa
open Go.RowKit Go.Sort Go.Fl
set_option linter.unusedSimpArgs false
set_option linter.unusedVariables false

set_option maxHeartbeats 2000000 in
theorem numberz_over (hi : Nat) (e : Int) (rest away : Bool) (n H : Nat) (hn : 64 - (Lib.bitLen hi : Int) = n) (hn2 : n ≤ 63) (hhi : ((hi : Int) == 0) = false) (b1 : hi < 2 ^ 64) (b2 : H < 2 ^ 64) (e1 : -5000 ≤ e) (e2 : e ≤ 5000) (hH : bits BinOp.or IntKind.u64 (IntKind.u64.wrap ((hi : Int) * 2 ^ n)) (0) = (H : Int)) (c1 : 1023 < e - 64 + 127 - n) (w : World) :
    Calls Try.prog 127 #[.agg #[.int .u64 0, .int .u64 hi, .int .i64 e, .bool rest], .bool away] w fun e w' => e = .returned (.float .f64 (if away = true then INF else INF - 1)) ∧ Below w.heap.size w w' := by
  have hz := Try.bits_LeadingZeros64 (hi : Int)
  have h0 : (0 : Int) ≤ hi := by omega
  have hm : (hi : Int) ≤ 18446744073709551615 := by omega
  have x1 : (0 : Int) ≤ n := by omega
  have x2 : (n : Int) ≤ 63 := by omega
  have HZ := Lib.hid hz
  have HN := Lib.hid hn
  have HM := Lib.hid hm
  clear hz hn b1 hm
  go_enter Try.func127, Try.ntmps127
  go_wp2_with (go_at_call 102; refine (HZ.out _ h0 HM.out).mono ?_; rintro e w' ⟨rfl, rfl⟩; rw [Int.toNat_natCast, HN.out])
  have k0 := cell_regrown (w := (World.alloc w (.cells #[.int .u64 hi, .int .u64 0, .int .i64 (e - 64), .bool rest] 93))) (a := ⟨w.heap.size, 0, none⟩) (v := .int .u64 hi) (by simp [go_sem])
  have k1 := cell_regrown (w := (World.alloc w (.cells #[.int .u64 hi, .int .u64 0, .int .i64 (e - 64), .bool rest] 93))) (a := ⟨w.heap.size, 1, none⟩) (v := .int .u64 0) (by simp [go_sem])
  have k2 := cell_regrown (w := (World.alloc w (.cells #[.int .u64 hi, .int .u64 0, .int .i64 (e - 64), .bool rest] 93))) (a := ⟨w.heap.size, 2, none⟩) (v := .int .i64 (e - 64)) (by simp [go_sem])
  have k3 := cell_regrown (w := (World.alloc w (.cells #[.int .u64 hi, .int .u64 0, .int .i64 (e - 64), .bool rest] 93))) (a := ⟨w.heap.size, 3, none⟩) (v := .bool rest) (by simp [go_sem])
  refine wp_region_below_tail 11 (by kernel_rfl) (by kernel_rfl) ?_
  simp only [List.take_succ_cons, List.take_zero, List.drop_succ_cons, List.drop_zero]
  repeat (go_big_quiet_step ((fail)))
  refine wpQuiet_nil (fun w2 hbw2 => ?_)
  have f0 := RowKit.Below.cells hbw2 (b := w.heap.size) (o := 0) (v := .int .u64 hi) (by simp [go_sem])
  have g0 := RowKit.Below.froz hbw2 (b := w.heap.size) (o := 0) (v := .int .u64 hi) (by simp [go_sem]) (by simp [go_sem])
  have f1 := RowKit.Below.cells hbw2 (b := w.heap.size) (o := 1) (v := .int .u64 0) (by simp [go_sem])
  have g1 := RowKit.Below.froz hbw2 (b := w.heap.size) (o := 1) (v := .int .u64 0) (by simp [go_sem]) (by simp [go_sem])
  have f2 := RowKit.Below.cells hbw2 (b := w.heap.size) (o := 2) (v := .int .i64 (e - 64)) (by simp [go_sem])
  have g2 := RowKit.Below.froz hbw2 (b := w.heap.size) (o := 2) (v := .int .i64 (e - 64)) (by simp [go_sem]) (by simp [go_sem])
  have f3 := RowKit.Below.cells hbw2 (b := w.heap.size) (o := 3) (v := .bool rest) (by simp [go_sem])
  have g3 := RowKit.Below.froz hbw2 (b := w.heap.size) (o := 3) (v := .bool rest) (by simp [go_sem]) (by simp [go_sem])
  clear k0 k1 k2 k3
  iterate 3 go_step
  obtain ⟨w3, hw3⟩ : ∃ w3, w3 = w2.setCell ⟨w.heap.size, 0, none⟩ (.int .u64 H) := ⟨_, rfl⟩
  rw [← hw3]
  have F0 : w3.cell? ⟨w.heap.size, 0, none⟩ = some (.int .u64 H) := by rw [hw3]; simp [go_sem, f0]
  have F1 : w3.cell? ⟨w.heap.size, 1, none⟩ = some (.int .u64 0) := by rw [hw3]; simp [go_sem, f0, f1]
  have F2 : w3.cell? ⟨w.heap.size, 2, none⟩ = some (.int .i64 (e - 64)) := by rw [hw3]; simp [go_sem, f0, f2]
  have F3 : w3.cell? ⟨w.heap.size, 3, none⟩ = some (.bool rest) := by rw [hw3]; simp [go_sem, f0, f3]
  have G1 : w3.frozen? ⟨w.heap.size, 1, none⟩ = false := by rw [hw3]; simp [go_sem, g1]
  have B2 := below_alloc hbw2
  have B3 : Below w.heap.size w w3 := by rw [hw3]; go_grown
  clear hw3 f0 f1 f2 f3 g0 g1 g2 g3 hbw2 B2 hH

  go_wp2_with (go_at_call 74; refine (mathinf_pos _ (by omega) _).mono ?_; rintro e w' ⟨rfl, rfl⟩)
  all_goals go_ret
  all_goals refine ⟨?_, by go_grown⟩
  all_goals first | rfl | (rw [if_pos (by assumption)]; rfl) | (rw [if_neg (by assumption)]; rfl)

set_option maxHeartbeats 2000000 in
theorem numberz_n53 (hi : Nat) (e : Int) (rest away : Bool) (n H : Nat) (hn : 64 - (Lib.bitLen hi : Int) = n) (hn2 : n ≤ 63) (hhi : ((hi : Int) == 0) = false) (b1 : hi < 2 ^ 64) (b2 : H < 2 ^ 64) (e1 : -5000 ≤ e) (e2 : e ≤ 5000) (hH : bits BinOp.or IntKind.u64 (IntKind.u64.wrap ((hi : Int) * 2 ^ n)) (0) = (H : Int)) (c1 : -1022 ≤ e - 64 + 127 - n) (c2 : e - 64 + 127 - n ≤ 1023) (xH : Bool) (hX : (IntKind.u64.wrap ((H : Int) * 9007199254740992) != 0) = xH) (r : Nat) (hl0 : ∀ w : World, Calls Try.prog 139 #[.float .f64 (floatOfInt FloatKind.f64 ((H : Int) / 2048)), .int .i64 (e - 64 + 127 - n - 53 + 1)] w fun e w' => e = .returned (.float .f64 r) ∧ w = w') (hl1 : ∀ w : World, Calls Try.prog 139 #[.float .f64 (floatOfInt FloatKind.f64 ((H : Int) / 2048 + 1)), .int .i64 (e - 64 + 127 - n - 53 + 1)] w fun e w' => e = .returned (.float .f64 (r + 1)) ∧ w = w') (w : World) :
    Calls Try.prog 127 #[.agg #[.int .u64 0, .int .u64 hi, .int .i64 e, .bool rest], .bool away] w fun e w' => e = .returned (.float .f64 (r + (away && (rest || xH)).toNat)) ∧ Below w.heap.size w w' := by
  have L0 := Lib.hid hl0
  have L1 := Lib.hid hl1
  have HX := Lib.hid hX
  clear hl0 hl1 hX
  have hz := Try.bits_LeadingZeros64 (hi : Int)
  have h0 : (0 : Int) ≤ hi := by omega
  have hm : (hi : Int) ≤ 18446744073709551615 := by omega
  have x1 : (0 : Int) ≤ n := by omega
  have x2 : (n : Int) ≤ 63 := by omega
  have HZ := Lib.hid hz
  have HN := Lib.hid hn
  have HM := Lib.hid hm
  clear hz hn b1 hm
  go_enter Try.func127, Try.ntmps127
  go_wp2_with (go_at_call 102; refine (HZ.out _ h0 HM.out).mono ?_; rintro e w' ⟨rfl, rfl⟩; rw [Int.toNat_natCast, HN.out])
  have k0 := cell_regrown (w := (World.alloc w (.cells #[.int .u64 hi, .int .u64 0, .int .i64 (e - 64), .bool rest] 93))) (a := ⟨w.heap.size, 0, none⟩) (v := .int .u64 hi) (by simp [go_sem])
  have k1 := cell_regrown (w := (World.alloc w (.cells #[.int .u64 hi, .int .u64 0, .int .i64 (e - 64), .bool rest] 93))) (a := ⟨w.heap.size, 1, none⟩) (v := .int .u64 0) (by simp [go_sem])
  have k2 := cell_regrown (w := (World.alloc w (.cells #[.int .u64 hi, .int .u64 0, .int .i64 (e - 64), .bool rest] 93))) (a := ⟨w.heap.size, 2, none⟩) (v := .int .i64 (e - 64)) (by simp [go_sem])
  have k3 := cell_regrown (w := (World.alloc w (.cells #[.int .u64 hi, .int .u64 0, .int .i64 (e - 64), .bool rest] 93))) (a := ⟨w.heap.size, 3, none⟩) (v := .bool rest) (by simp [go_sem])
  refine wp_region_below_tail 11 (by kernel_rfl) (by kernel_rfl) ?_
  simp only [List.take_succ_cons, List.take_zero, List.drop_succ_cons, List.drop_zero]
  repeat (go_big_quiet_step ((fail)))
  refine wpQuiet_nil (fun w2 hbw2 => ?_)
  have f0 := RowKit.Below.cells hbw2 (b := w.heap.size) (o := 0) (v := .int .u64 hi) (by simp [go_sem])
  have g0 := RowKit.Below.froz hbw2 (b := w.heap.size) (o := 0) (v := .int .u64 hi) (by simp [go_sem]) (by simp [go_sem])
  have f1 := RowKit.Below.cells hbw2 (b := w.heap.size) (o := 1) (v := .int .u64 0) (by simp [go_sem])
  have g1 := RowKit.Below.froz hbw2 (b := w.heap.size) (o := 1) (v := .int .u64 0) (by simp [go_sem]) (by simp [go_sem])
  have f2 := RowKit.Below.cells hbw2 (b := w.heap.size) (o := 2) (v := .int .i64 (e - 64)) (by simp [go_sem])
  have g2 := RowKit.Below.froz hbw2 (b := w.heap.size) (o := 2) (v := .int .i64 (e - 64)) (by simp [go_sem]) (by simp [go_sem])
  have f3 := RowKit.Below.cells hbw2 (b := w.heap.size) (o := 3) (v := .bool rest) (by simp [go_sem])
  have g3 := RowKit.Below.froz hbw2 (b := w.heap.size) (o := 3) (v := .bool rest) (by simp [go_sem]) (by simp [go_sem])
  clear k0 k1 k2 k3
  iterate 3 go_step
  obtain ⟨w3, hw3⟩ : ∃ w3, w3 = w2.setCell ⟨w.heap.size, 0, none⟩ (.int .u64 H) := ⟨_, rfl⟩
  rw [← hw3]
  have F0 : w3.cell? ⟨w.heap.size, 0, none⟩ = some (.int .u64 H) := by rw [hw3]; simp [go_sem, f0]
  have F1 : w3.cell? ⟨w.heap.size, 1, none⟩ = some (.int .u64 0) := by rw [hw3]; simp [go_sem, f0, f1]
  have F2 : w3.cell? ⟨w.heap.size, 2, none⟩ = some (.int .i64 (e - 64)) := by rw [hw3]; simp [go_sem, f0, f2]
  have F3 : w3.cell? ⟨w.heap.size, 3, none⟩ = some (.bool rest) := by rw [hw3]; simp [go_sem, f0, f3]
  have G1 : w3.frozen? ⟨w.heap.size, 1, none⟩ = false := by rw [hw3]; simp [go_sem, g1]
  have B2 := below_alloc hbw2
  have B3 : Below w.heap.size w w3 := by rw [hw3]; go_grown
  clear hw3 f0 f1 f2 f3 g0 g1 g2 g3 hbw2 B2 hH

  go_wp2_with (go_at_call 139; (first | (with_reducible refine (L0.out _).mono ?_) | (with_reducible refine (L1.out _).mono ?_)); rintro e w' ⟨rfl, rfl⟩)
  all_goals go_ret
  all_goals refine ⟨?_, by go_grown⟩
  all_goals refine ret_w ?_
  all_goals have hX := HX.out
  all_goals clear HZ HN HM L0 L1 HX F0 F1 F2 F3 G1 B3 hhi
  all_goals simp_all

set_option maxHeartbeats 2000000 in
theorem numberz_sub (hi : Nat) (e : Int) (rest away : Bool) (n H : Nat) (hn : 64 - (Lib.bitLen hi : Int) = n) (hn2 : n ≤ 63) (hhi : ((hi : Int) == 0) = false) (b1 : hi < 2 ^ 64) (b2 : H < 2 ^ 64) (e1 : -5000 ≤ e) (e2 : e ≤ 5000) (hH : bits BinOp.or IntKind.u64 (IntKind.u64.wrap ((hi : Int) * 2 ^ n)) (0) = (H : Int)) (c1 : e - 64 + 127 - n < -1022) (c2 : 0 < e - 64 + 127 - n - -1074 + 1) (xH : Bool) (hK : ((max 0 (e - 64 + 127 - ↑n + 1074 + 1)) == 0) = false) (hX : (IntKind.u64.wrap ((H : Int) * 2 ^ (max 0 (e - 64 + 127 - ↑n + 1074 + 1)).toNat) != 0) = xH) (r : Nat) (hl0 : (∀ w : World, Calls Try.prog 139 #[.float .f64 (floatOfInt FloatKind.f64 ((H : Int) / 2 ^ (64 - (max 0 (e - 64 + 127 - ↑n + 1074 + 1))).toNat)), .int .i64 (e - 64 + 127 - n - (max 0 (e - 64 + 127 - ↑n + 1074 + 1)) + 1)] w fun e w' => e = .returned (.float .f64 r) ∧ w = w')) (hl1 : (∀ w : World, Calls Try.prog 139 #[.float .f64 (floatOfInt FloatKind.f64 (IntKind.u64.wrap ((H : Int) / 2 ^ (64 - (max 0 (e - 64 + 127 - ↑n + 1074 + 1))).toNat + 1))), .int .i64 (e - 64 + 127 - n - (max 0 (e - 64 + 127 - ↑n + 1074 + 1)) + 1)] w fun e w' => e = .returned (.float .f64 (r + 1)) ∧ w = w')) (w : World) :
    Calls Try.prog 127 #[.agg #[.int .u64 0, .int .u64 hi, .int .i64 e, .bool rest], .bool away] w fun e w' => e = .returned (.float .f64 (r + (away && (rest || xH)).toNat)) ∧ Below w.heap.size w w' := by
  have L0 := Lib.hid hl0
  have L1 := Lib.hid hl1
  have HX := Lib.hid hX
  have HK := Lib.hid hK
  clear hl0 hl1 hX hK
  have hz := Try.bits_LeadingZeros64 (hi : Int)
  have h0 : (0 : Int) ≤ hi := by omega
  have hm : (hi : Int) ≤ 18446744073709551615 := by omega
  have x1 : (0 : Int) ≤ n := by omega
  have x2 : (n : Int) ≤ 63 := by omega
  have HZ := Lib.hid hz
  have HN := Lib.hid hn
  have HM := Lib.hid hm
  clear hz hn b1 hm
  go_enter Try.func127, Try.ntmps127
  go_wp2_with (go_at_call 102; refine (HZ.out _ h0 HM.out).mono ?_; rintro e w' ⟨rfl, rfl⟩; rw [Int.toNat_natCast, HN.out])
  have k0 := cell_regrown (w := (World.alloc w (.cells #[.int .u64 hi, .int .u64 0, .int .i64 (e - 64), .bool rest] 93))) (a := ⟨w.heap.size, 0, none⟩) (v := .int .u64 hi) (by simp [go_sem])
  have k1 := cell_regrown (w := (World.alloc w (.cells #[.int .u64 hi, .int .u64 0, .int .i64 (e - 64), .bool rest] 93))) (a := ⟨w.heap.size, 1, none⟩) (v := .int .u64 0) (by simp [go_sem])
  have k2 := cell_regrown (w := (World.alloc w (.cells #[.int .u64 hi, .int .u64 0, .int .i64 (e - 64), .bool rest] 93))) (a := ⟨w.heap.size, 2, none⟩) (v := .int .i64 (e - 64)) (by simp [go_sem])
  have k3 := cell_regrown (w := (World.alloc w (.cells #[.int .u64 hi, .int .u64 0, .int .i64 (e - 64), .bool rest] 93))) (a := ⟨w.heap.size, 3, none⟩) (v := .bool rest) (by simp [go_sem])
  refine wp_region_below_tail 11 (by kernel_rfl) (by kernel_rfl) ?_
  simp only [List.take_succ_cons, List.take_zero, List.drop_succ_cons, List.drop_zero]
  repeat (go_big_quiet_step ((fail)))
  refine wpQuiet_nil (fun w2 hbw2 => ?_)
  have f0 := RowKit.Below.cells hbw2 (b := w.heap.size) (o := 0) (v := .int .u64 hi) (by simp [go_sem])
  have g0 := RowKit.Below.froz hbw2 (b := w.heap.size) (o := 0) (v := .int .u64 hi) (by simp [go_sem]) (by simp [go_sem])
  have f1 := RowKit.Below.cells hbw2 (b := w.heap.size) (o := 1) (v := .int .u64 0) (by simp [go_sem])
  have g1 := RowKit.Below.froz hbw2 (b := w.heap.size) (o := 1) (v := .int .u64 0) (by simp [go_sem]) (by simp [go_sem])
  have f2 := RowKit.Below.cells hbw2 (b := w.heap.size) (o := 2) (v := .int .i64 (e - 64)) (by simp [go_sem])
  have g2 := RowKit.Below.froz hbw2 (b := w.heap.size) (o := 2) (v := .int .i64 (e - 64)) (by simp [go_sem]) (by simp [go_sem])
  have f3 := RowKit.Below.cells hbw2 (b := w.heap.size) (o := 3) (v := .bool rest) (by simp [go_sem])
  have g3 := RowKit.Below.froz hbw2 (b := w.heap.size) (o := 3) (v := .bool rest) (by simp [go_sem]) (by simp [go_sem])
  clear k0 k1 k2 k3
  iterate 3 go_step
  obtain ⟨w3, hw3⟩ : ∃ w3, w3 = w2.setCell ⟨w.heap.size, 0, none⟩ (.int .u64 H) := ⟨_, rfl⟩
  rw [← hw3]
  have F0 : w3.cell? ⟨w.heap.size, 0, none⟩ = some (.int .u64 H) := by rw [hw3]; simp [go_sem, f0]
  have F1 : w3.cell? ⟨w.heap.size, 1, none⟩ = some (.int .u64 0) := by rw [hw3]; simp [go_sem, f0, f1]
  have F2 : w3.cell? ⟨w.heap.size, 2, none⟩ = some (.int .i64 (e - 64)) := by rw [hw3]; simp [go_sem, f0, f2]
  have F3 : w3.cell? ⟨w.heap.size, 3, none⟩ = some (.bool rest) := by rw [hw3]; simp [go_sem, f0, f3]
  have G1 : w3.frozen? ⟨w.heap.size, 1, none⟩ = false := by rw [hw3]; simp [go_sem, g1]
  have B2 := below_alloc hbw2
  have B3 : Below w.heap.size w w3 := by rw [hw3]; go_grown
  clear hw3 f0 f1 f2 f3 g0 g1 g2 g3 hbw2 B2 hH

  go_wp2_with (first | (go_at_call 139; (first | (with_reducible refine (L0.out _).mono ?_) | (with_reducible refine (L1.out _).mono ?_)); rintro e w' ⟨rfl, rfl⟩) | (rw [HK.out]))
  all_goals go_ret
  all_goals refine ⟨?_, by go_grown⟩
  all_goals refine ret_w ?_
  all_goals have hX := HX.out
  all_goals have hK := HK.out
  all_goals clear HZ HN HM L0 L1 HX HK F0 F1 F2 F3 G1 B3 hhi
  all_goals simp_all

set_option maxHeartbeats 2000000 in
theorem numberz_k0 (hi : Nat) (e : Int) (rest away : Bool) (n H : Nat) (hn : 64 - (Lib.bitLen hi : Int) = n) (hn2 : n ≤ 63) (hhi : ((hi : Int) == 0) = false) (b1 : hi < 2 ^ 64) (b2 : H < 2 ^ 64) (e1 : -5000 ≤ e) (e2 : e ≤ 5000) (hH : bits BinOp.or IntKind.u64 (IntKind.u64.wrap ((hi : Int) * 2 ^ n)) (0) = (H : Int)) (c1 : e - 64 + 127 - n < -1022) (c2 : e - 64 + 127 - n - -1074 + 1 ≤ 0) (xH : Bool) (hK : ((max 0 (e - 64 + 127 - ↑n + 1074 + 1)) == 0) = true) (hX : (IntKind.u64.wrap ((H : Int) * 2 ^ (max 0 (e - 64 + 127 - ↑n + 1074 + 1)).toNat) != 0) = xH) (r : Nat) (hl0 : (∀ w : World, Calls Try.prog 139 #[.float .f64 (floatOfInt FloatKind.f64 ((H : Int) / 2 ^ (64 - (max 0 (e - 64 + 127 - ↑n + 1074 + 1))).toNat)), .int .i64 (-1074)] w fun e w' => e = .returned (.float .f64 r) ∧ w = w')) (hl1 : (∀ w : World, Calls Try.prog 139 #[.float .f64 (floatOfInt FloatKind.f64 (IntKind.u64.wrap ((H : Int) / 2 ^ (64 - (max 0 (e - 64 + 127 - ↑n + 1074 + 1))).toNat + 1))), .int .i64 (-1074)] w fun e w' => e = .returned (.float .f64 (r + 1)) ∧ w = w')) (w : World) :
    Calls Try.prog 127 #[.agg #[.int .u64 0, .int .u64 hi, .int .i64 e, .bool rest], .bool away] w fun e w' => e = .returned (.float .f64 (r + (away && (rest || xH)).toNat)) ∧ Below w.heap.size w w' := by
  have L0 := Lib.hid hl0
  have L1 := Lib.hid hl1
  have HX := Lib.hid hX
  have HK := Lib.hid hK
  clear hl0 hl1 hX hK
  have hz := Try.bits_LeadingZeros64 (hi : Int)
  have h0 : (0 : Int) ≤ hi := by omega
  have hm : (hi : Int) ≤ 18446744073709551615 := by omega
  have x1 : (0 : Int) ≤ n := by omega
  have x2 : (n : Int) ≤ 63 := by omega
  have HZ := Lib.hid hz
  have HN := Lib.hid hn
  have HM := Lib.hid hm
  clear hz hn b1 hm
  go_enter Try.func127, Try.ntmps127
  go_wp2_with (go_at_call 102; refine (HZ.out _ h0 HM.out).mono ?_; rintro e w' ⟨rfl, rfl⟩; rw [Int.toNat_natCast, HN.out])
  have k0 := cell_regrown (w := (World.alloc w (.cells #[.int .u64 hi, .int .u64 0, .int .i64 (e - 64), .bool rest] 93))) (a := ⟨w.heap.size, 0, none⟩) (v := .int .u64 hi) (by simp [go_sem])
  have k1 := cell_regrown (w := (World.alloc w (.cells #[.int .u64 hi, .int .u64 0, .int .i64 (e - 64), .bool rest] 93))) (a := ⟨w.heap.size, 1, none⟩) (v := .int .u64 0) (by simp [go_sem])
  have k2 := cell_regrown (w := (World.alloc w (.cells #[.int .u64 hi, .int .u64 0, .int .i64 (e - 64), .bool rest] 93))) (a := ⟨w.heap.size, 2, none⟩) (v := .int .i64 (e - 64)) (by simp [go_sem])
  have k3 := cell_regrown (w := (World.alloc w (.cells #[.int .u64 hi, .int .u64 0, .int .i64 (e - 64), .bool rest] 93))) (a := ⟨w.heap.size, 3, none⟩) (v := .bool rest) (by simp [go_sem])
  refine wp_region_below_tail 11 (by kernel_rfl) (by kernel_rfl) ?_
  simp only [List.take_succ_cons, List.take_zero, List.drop_succ_cons, List.drop_zero]
  repeat (go_big_quiet_step ((fail)))
  refine wpQuiet_nil (fun w2 hbw2 => ?_)
  have f0 := RowKit.Below.cells hbw2 (b := w.heap.size) (o := 0) (v := .int .u64 hi) (by simp [go_sem])
  have g0 := RowKit.Below.froz hbw2 (b := w.heap.size) (o := 0) (v := .int .u64 hi) (by simp [go_sem]) (by simp [go_sem])
  have f1 := RowKit.Below.cells hbw2 (b := w.heap.size) (o := 1) (v := .int .u64 0) (by simp [go_sem])
  have g1 := RowKit.Below.froz hbw2 (b := w.heap.size) (o := 1) (v := .int .u64 0) (by simp [go_sem]) (by simp [go_sem])
  have f2 := RowKit.Below.cells hbw2 (b := w.heap.size) (o := 2) (v := .int .i64 (e - 64)) (by simp [go_sem])
  have g2 := RowKit.Below.froz hbw2 (b := w.heap.size) (o := 2) (v := .int .i64 (e - 64)) (by simp [go_sem]) (by simp [go_sem])
  have f3 := RowKit.Below.cells hbw2 (b := w.heap.size) (o := 3) (v := .bool rest) (by simp [go_sem])
  have g3 := RowKit.Below.froz hbw2 (b := w.heap.size) (o := 3) (v := .bool rest) (by simp [go_sem]) (by simp [go_sem])
  clear k0 k1 k2 k3
  iterate 3 go_step
  obtain ⟨w3, hw3⟩ : ∃ w3, w3 = w2.setCell ⟨w.heap.size, 0, none⟩ (.int .u64 H) := ⟨_, rfl⟩
  rw [← hw3]
  have F0 : w3.cell? ⟨w.heap.size, 0, none⟩ = some (.int .u64 H) := by rw [hw3]; simp [go_sem, f0]
  have F1 : w3.cell? ⟨w.heap.size, 1, none⟩ = some (.int .u64 0) := by rw [hw3]; simp [go_sem, f0, f1]
  have F2 : w3.cell? ⟨w.heap.size, 2, none⟩ = some (.int .i64 (e - 64)) := by rw [hw3]; simp [go_sem, f0, f2]
  have F3 : w3.cell? ⟨w.heap.size, 3, none⟩ = some (.bool rest) := by rw [hw3]; simp [go_sem, f0, f3]
  have G1 : w3.frozen? ⟨w.heap.size, 1, none⟩ = false := by rw [hw3]; simp [go_sem, g1]
  have B2 := below_alloc hbw2
  have B3 : Below w.heap.size w w3 := by rw [hw3]; go_grown
  clear hw3 f0 f1 f2 f3 g0 g1 g2 g3 hbw2 B2 hH

  go_wp2_with (first | (go_at_call 139; (first | (with_reducible refine (L0.out _).mono ?_) | (with_reducible refine (L1.out _).mono ?_)); rintro e w' ⟨rfl, rfl⟩) | (rw [HK.out]))
  all_goals go_ret
  all_goals refine ⟨?_, by go_grown⟩
  all_goals refine ret_w ?_
  all_goals have hX := HX.out
  all_goals have hK := HK.out
  all_goals clear HZ HN HM L0 L1 HX HK F0 F1 F2 F3 G1 B3 hhi
  all_goals simp_all


end Go.Proofs.Yteephgpefhodnaa
