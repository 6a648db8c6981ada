/- The document's numbers: Plus. -/
import Derived.Test.YteephgpefhodnaaQ7
import Derived.Test.YteephgpefhodnaaQ8
namespace Go.Proofs.Yteephgpefhodnaa
open Go.RowKit Go.Sort Go.Fl
set_option linter.unusedSimpArgs false
set_option linter.unusedVariables false

theorem len_of {l : List Nat} {n : Nat} (ht : Trim l) (h : num l < BB ^ n) : l.length ≤ n := by
  refine Int.ofNat_le.1 (Int.not_lt.1 fun hl => ?_)
  have hl' : n < l.length := Int.ofNat_lt.1 hl
  have g := num_ge ht (fun e => by rw [e] at hl'; exact absurd hl' (Nat.not_lt_zero _))
  have := Nat.pow_le_pow_right BB_pos (show n ≤ l.length - 1 by omega)
  omega
theorem len_le_of {l m : List Nat} (tl : Trim l) (wm : Words m) (h : num l ≤ num m) : l.length ≤ m.length := by
  refine Nat.le_of_not_lt fun hl => ?_
  have := num_len wm tl hl
  omega
theorem Row.alloc {w : World} {v : Value} {l : List Nat} (h : Row w v l) (o : Obj) : Row (w.alloc o) v l := World.ownsRow.alloc h o
set_option maxRecDepth 8000 in
set_option maxHeartbeats 4000000 in
theorem plus_lt_same (s : Bool) (ea eb : Int) (he1 : -10000 ≤ ea ∧ ea ≤ 10000) (he2 : -10000 ≤ eb ∧ eb ≤ 10000) (hord : eb < ea) (n : Nat) (hn : (n : Int) = ea - eb) (va vb : Value) (a b : List Nat) (wa : Words a) (wb : Words b) (ha : a.length ≤ 1000) (hb : b.length ≤ 1000)
    (hx : 2 ^ n * num a < BB ^ 1000) (hy : 2 ^ 0 * num b < BB ^ 1000) (N : Int) (hN : N = (if s = true then -((2 ^ n * num a : Nat) : Int) else ((2 ^ n * num a : Nat) : Int)) + (if s = true then -((2 ^ 0 * num b : Nat) : Int) else ((2 ^ 0 * num b : Nat) : Int))) (w : World) (hr : Row w va a) (hs : Row w vb b) :
    Calls Try.prog 108 #[.agg #[.bool s, va, .int .i64 ea], .agg #[.bool s, vb, .int .i64 eb]] w fun e w' => GivesBig w' e N eb ∧ Below w.heap.size w w' := by
  obtain ⟨W, hW⟩ : ∃ W, W = (World.alloc (World.alloc (World.alloc w (.cells #[.bool s, va, .int .i64 ea] 100)) (.cells #[.bool s, vb, .int .i64 eb] 100)) (.cells #[.bool false, (.slice none 0 0), .int .i64 0] 100)) := ⟨_, rfl⟩
  have hWs : W.heap.size = w.heap.size + 3 := by rw [hW]; simp
  have A0 : W.cell? ⟨w.heap.size, 1, none⟩ = some va := by rw [hW]; simp [go_sem]
  have A1 : W.cell? ⟨w.heap.size + 1, 1, none⟩ = some vb := by rw [hW]; simp [go_sem]
  have A2 : W.cell? ⟨w.heap.size, 0, none⟩ = some (.bool s) := by rw [hW]; simp [go_sem]
  have A3 : W.cell? ⟨w.heap.size + 1, 0, none⟩ = some (.bool s) := by rw [hW]; simp [go_sem]
  have A4 : W.cell? ⟨w.heap.size, 2, none⟩ = some (.int .i64 ea) := by rw [hW]; simp [go_sem]
  have A5 : W.cell? ⟨w.heap.size + 1, 2, none⟩ = some (.int .i64 eb) := by rw [hW]; simp [go_sem]
  have R0 : At W (w.heap.size + 1 + 1) 0 (.bool false) := by rw [hW]; exact ⟨by simp [go_sem], by simp [go_sem]⟩
  have R1 : At W (w.heap.size + 1 + 1) 1 (.slice none 0 0) := by rw [hW]; exact ⟨by simp [go_sem], by simp [go_sem]⟩
  have R2 : At W (w.heap.size + 1 + 1) 2 (.int .i64 0) := by rw [hW]; exact ⟨by simp [go_sem], by simp [go_sem]⟩
  have HH : W.heap[w.heap.size + 1 + 1]? = some (.cells #[.bool false, .slice none 0 0, .int .i64 0] 100) := by rw [hW]; exact heap_last3 _ _ _ _
  have hra : Row W va a := by rw [hW]; exact ((hr.alloc _).alloc _).alloc _
  have hrb : Row W vb b := by rw [hW]; exact ((hs.alloc _).alloc _).alloc _
  have S1 : ∀ w, Row w va a → Calls Try.prog 131 #[va, .int .i64 (ea - eb)] w fun e w' => Gives w' e (2 ^ n * num a) ∧ Below w.heap.size w w' := fun w h => by
    have := shift_any va a n wa ha (by omega) w h
    rw [hn] at this
    exact this
  have S2 : ∀ w, Row w vb b → Calls Try.prog 131 #[vb, .int .i64 0] w fun e w' => Gives w' e (2 ^ 0 * num b) ∧ Below w.heap.size w w' := fun w h => by
    have := shift_any vb b 0 wb hb (by omega) w h
    rw [Int.natCast_zero] at this
    exact this
  have HS1 := Lib.hid S1
  have HS2 := Lib.hid S2
  have HWs := Lib.hid hWs
  have Hx := Lib.hid hx
  have Hy := Lib.hid hy
  have HN := Lib.hid hN
  clear hN
  have HW := Lib.hid hW
  clear S1 S2 hWs hx hy hn
  go_enter Try.func108, Try.ntmps108
  go_wp2_with fail
  rw [← HW.out]
  refine (HS1.out _ hra).mono ?_
  rintro e w1 ⟨⟨v1, l1, rfl, r1, w1', t1, m1⟩, hB1⟩
  have F0 := RowKit.Below.cells hB1 A0
  have F1 := RowKit.Below.cells hB1 A1
  have F2 := RowKit.Below.cells hB1 A2
  have F3 := RowKit.Below.cells hB1 A3
  have F4 := RowKit.Below.cells hB1 A4
  have F5 := RowKit.Below.cells hB1 A5
  have Hhid := Lib.hid (And.intro r1 (And.intro w1' (And.intro t1 m1)))
  clear r1 w1' t1 m1
  dsimp only
  go_wp2_with fail
  refine (HS2.out _ (hrb.below hB1)).mono ?_
  rintro e w2 ⟨⟨v2, l2, rfl, r2, w2', t2, m2⟩, hB2⟩
  have G1 := Lib.hid (And.intro (Hhid.out.1.below hB2) Hhid.out.2)
  have G2 := Lib.hid (And.intro r2 (And.intro w2' (And.intro t2 m2)))
  have hB3 := below_step hB1 hB1.size hB2
  clear r2 w2' t2 m2 F0 F1 F2 F3 F4 F5 hB1 hB2 Hhid
  have F0 := RowKit.Below.cells hB3 A0
  have F1 := RowKit.Below.cells hB3 A1
  have F2 := RowKit.Below.cells hB3 A2
  have F3 := RowKit.Below.cells hB3 A3
  have F4 := RowKit.Below.cells hB3 A4
  have F5 := RowKit.Below.cells hB3 A5
  cases s
  all_goals
    go_wp2_with fail
    refine (plus_any v1 v2 l1 l2 G1.out.2.1 G2.out.2.1 (Nat.le_trans (len_of G1.out.2.2.1 (by rw [G1.out.2.2.2]; exact Hx.out)) (by decide)) (Nat.le_trans (len_of G2.out.2.2.1 (by rw [G2.out.2.2.2]; exact Hy.out)) (by decide)) _ G1.out.1 G2.out.1).mono ?_
    rintro e w3 ⟨⟨v3, l3, rfl, r3, w3', t3, m3⟩, hB4⟩
    obtain ⟨p3, c3, rfl, _⟩ := r3.len
    have hB5 := below_step hB3 hB3.size hB4
    have R0' := At.below R0 hB5
    have R1' := At.below R1 hB5
    have R2' := At.below R2 hB5
    have hBl : w3.heap[w.heap.size + 1 + 1]? = some (.cells #[.bool false, .slice none 0 0, .int .i64 0] 100) := (hB5.block _ (by rw [HWs.out]; omega)).trans HH
    have hbw : Below w.heap.size w w3 := below3 (by rw [← HWs.out, ← HW.out]; exact hB5)
    have hne := row_ne r3 hBl (by decide)
    have G3 := Lib.hid (And.intro r3 (And.intro w3' (And.intro t3 (And.intro m3 hne))))
    have Hbw := Lib.hid hbw
    have Q2 := RowKit.Below.cells hB5 A2
    have Q3 := RowKit.Below.cells hB5 A3
    clear r3 w3' t3 m3 hne hBl hbw hB4 hB3 hB5 F0 F1 F2 F3
    have f0 := R0'.1; have f1 := R1'.1; have f2 := R2'.1; have z0 := R0'.2; have z1 := R1'.2; have z2 := R2'.2
    by_cases hl : l3.length = 0
    · have hl' := Lib.hid hl
      have hl0 : ¬ (0 : Int) < (l3.length : Int) := by omega
      have hd0 : decide (0 < l3.length) = false := decide_eq_false (by omega)
      clear hl
      dsimp only
      go_wp2
      first | (have bs := big_stored R0' R1' R2' (.bool false) (.slice p3 l3.length c3) (.int .i64 eb); refine bodyPost_ret (v := .agg #[.bool false, .slice p3 l3.length c3, .int .i64 eb]) (by simp [results, Try.results108, go_sem, bs]) rfl ?_; exact ⟨⟨false, _, l3, rfl, row_stored3 G3.out.1 G3.out.2.2.2.2 _ _ _, G3.out.2.1, G3.out.2.2.1, by have hm := G3.out.2.2.2.1; have h1 := G1.out.2.2.2; have h2 := G2.out.2.2.2; have hN := HN.out; have hz : num l3 = 0 := (by rw [List.length_eq_zero_iff.1 hl'.out]; rfl); generalize 2 ^ n * num a = x0 at h1 h2 hN; generalize 2 ^ 0 * num b = y0 at h1 h2 hN; clear G1 G2 G3 HN Hbw; simp at hN ⊢; omega⟩, below_stored3 Hbw.out (by omega) _ _ _⟩) | (have bs := big_stored R0' R1' R2' (.bool true) (.slice p3 l3.length c3) (.int .i64 eb); refine bodyPost_ret (v := .agg #[.bool true, .slice p3 l3.length c3, .int .i64 eb]) (by simp [results, Try.results108, go_sem, bs]) rfl ?_; exact ⟨⟨true, _, l3, rfl, row_stored3 G3.out.1 G3.out.2.2.2.2 _ _ _, G3.out.2.1, G3.out.2.2.1, by have hm := G3.out.2.2.2.1; have h1 := G1.out.2.2.2; have h2 := G2.out.2.2.2; have hN := HN.out; have hz : num l3 = 0 := (by rw [List.length_eq_zero_iff.1 hl'.out]; rfl); generalize 2 ^ n * num a = x0 at h1 h2 hN; generalize 2 ^ 0 * num b = y0 at h1 h2 hN; clear G1 G2 G3 HN Hbw; simp at hN ⊢; omega⟩, below_stored3 Hbw.out (by omega) _ _ _⟩)
    · have hl0 : (0 : Int) < (l3.length : Int) := by omega
      have hd0 : decide (0 < l3.length) = true := decide_eq_true (by omega)
      dsimp only
      go_wp2
      first | (have bs := big_stored R0' R1' R2' (.bool false) (.slice p3 l3.length c3) (.int .i64 eb); refine bodyPost_ret (v := .agg #[.bool false, .slice p3 l3.length c3, .int .i64 eb]) (by simp [results, Try.results108, go_sem, bs]) rfl ?_; exact ⟨⟨false, _, l3, rfl, row_stored3 G3.out.1 G3.out.2.2.2.2 _ _ _, G3.out.2.1, G3.out.2.2.1, by have hm := G3.out.2.2.2.1; have h1 := G1.out.2.2.2; have h2 := G2.out.2.2.2; have hN := HN.out; generalize 2 ^ n * num a = x0 at h1 h2 hN; generalize 2 ^ 0 * num b = y0 at h1 h2 hN; clear G1 G2 G3 HN Hbw; simp at hN ⊢; omega⟩, below_stored3 Hbw.out (by omega) _ _ _⟩) | (have bs := big_stored R0' R1' R2' (.bool true) (.slice p3 l3.length c3) (.int .i64 eb); refine bodyPost_ret (v := .agg #[.bool true, .slice p3 l3.length c3, .int .i64 eb]) (by simp [results, Try.results108, go_sem, bs]) rfl ?_; exact ⟨⟨true, _, l3, rfl, row_stored3 G3.out.1 G3.out.2.2.2.2 _ _ _, G3.out.2.1, G3.out.2.2.1, by have hm := G3.out.2.2.2.1; have h1 := G1.out.2.2.2; have h2 := G2.out.2.2.2; have hN := HN.out; generalize 2 ^ n * num a = x0 at h1 h2 hN; generalize 2 ^ 0 * num b = y0 at h1 h2 hN; clear G1 G2 G3 HN Hbw; simp at hN ⊢; omega⟩, below_stored3 Hbw.out (by omega) _ _ _⟩)
set_option maxRecDepth 8000 in
set_option maxHeartbeats 4000000 in
theorem plus_lt_less (s : Bool) (ea eb : Int) (he1 : -10000 ≤ ea ∧ ea ≤ 10000) (he2 : -10000 ≤ eb ∧ eb ≤ 10000) (hord : eb < ea) (n : Nat) (hn : (n : Int) = ea - eb) (va vb : Value) (a b : List Nat) (wa : Words a) (wb : Words b) (ha : a.length ≤ 1000) (hb : b.length ≤ 1000)
    (hx : 2 ^ n * num a < BB ^ 1000) (hy : 2 ^ 0 * num b < BB ^ 1000) (hk : 2 ^ n * num a < 2 ^ 0 * num b) (N : Int) (hN : N = (if s = true then -((2 ^ n * num a : Nat) : Int) else ((2 ^ n * num a : Nat) : Int)) + (if (!s) = true then -((2 ^ 0 * num b : Nat) : Int) else ((2 ^ 0 * num b : Nat) : Int))) (w : World) (hr : Row w va a) (hs : Row w vb b) :
    Calls Try.prog 108 #[.agg #[.bool s, va, .int .i64 ea], .agg #[.bool (!s), vb, .int .i64 eb]] w fun e w' => GivesBig w' e N eb ∧ Below w.heap.size w w' := by
  obtain ⟨W, hW⟩ : ∃ W, W = (World.alloc (World.alloc (World.alloc w (.cells #[.bool s, va, .int .i64 ea] 100)) (.cells #[.bool (!s), vb, .int .i64 eb] 100)) (.cells #[.bool false, (.slice none 0 0), .int .i64 0] 100)) := ⟨_, rfl⟩
  have hWs : W.heap.size = w.heap.size + 3 := by rw [hW]; simp
  have A0 : W.cell? ⟨w.heap.size, 1, none⟩ = some va := by rw [hW]; simp [go_sem]
  have A1 : W.cell? ⟨w.heap.size + 1, 1, none⟩ = some vb := by rw [hW]; simp [go_sem]
  have A2 : W.cell? ⟨w.heap.size, 0, none⟩ = some (.bool s) := by rw [hW]; simp [go_sem]
  have A3 : W.cell? ⟨w.heap.size + 1, 0, none⟩ = some (.bool (!s)) := by rw [hW]; simp [go_sem]
  have A4 : W.cell? ⟨w.heap.size, 2, none⟩ = some (.int .i64 ea) := by rw [hW]; simp [go_sem]
  have A5 : W.cell? ⟨w.heap.size + 1, 2, none⟩ = some (.int .i64 eb) := by rw [hW]; simp [go_sem]
  have R0 : At W (w.heap.size + 1 + 1) 0 (.bool false) := by rw [hW]; exact ⟨by simp [go_sem], by simp [go_sem]⟩
  have R1 : At W (w.heap.size + 1 + 1) 1 (.slice none 0 0) := by rw [hW]; exact ⟨by simp [go_sem], by simp [go_sem]⟩
  have R2 : At W (w.heap.size + 1 + 1) 2 (.int .i64 0) := by rw [hW]; exact ⟨by simp [go_sem], by simp [go_sem]⟩
  have HH : W.heap[w.heap.size + 1 + 1]? = some (.cells #[.bool false, .slice none 0 0, .int .i64 0] 100) := by rw [hW]; exact heap_last3 _ _ _ _
  have hra : Row W va a := by rw [hW]; exact ((hr.alloc _).alloc _).alloc _
  have hrb : Row W vb b := by rw [hW]; exact ((hs.alloc _).alloc _).alloc _
  have S1 : ∀ w, Row w va a → Calls Try.prog 131 #[va, .int .i64 (ea - eb)] w fun e w' => Gives w' e (2 ^ n * num a) ∧ Below w.heap.size w w' := fun w h => by
    have := shift_any va a n wa ha (by omega) w h
    rw [hn] at this
    exact this
  have S2 : ∀ w, Row w vb b → Calls Try.prog 131 #[vb, .int .i64 0] w fun e w' => Gives w' e (2 ^ 0 * num b) ∧ Below w.heap.size w w' := fun w h => by
    have := shift_any vb b 0 wb hb (by omega) w h
    rw [Int.natCast_zero] at this
    exact this
  have HS1 := Lib.hid S1
  have HS2 := Lib.hid S2
  have HWs := Lib.hid hWs
  have Hx := Lib.hid hx
  have Hy := Lib.hid hy
  have HN := Lib.hid hN
  clear hN
  have Hk := Lib.hid hk
  clear hk
  have HW := Lib.hid hW
  clear S1 S2 hWs hx hy hn
  go_enter Try.func108, Try.ntmps108
  go_wp2_with fail
  rw [← HW.out]
  refine (HS1.out _ hra).mono ?_
  rintro e w1 ⟨⟨v1, l1, rfl, r1, w1', t1, m1⟩, hB1⟩
  have F0 := RowKit.Below.cells hB1 A0
  have F1 := RowKit.Below.cells hB1 A1
  have F2 := RowKit.Below.cells hB1 A2
  have F3 := RowKit.Below.cells hB1 A3
  have F4 := RowKit.Below.cells hB1 A4
  have F5 := RowKit.Below.cells hB1 A5
  have Hhid := Lib.hid (And.intro r1 (And.intro w1' (And.intro t1 m1)))
  clear r1 w1' t1 m1
  dsimp only
  go_wp2_with fail
  refine (HS2.out _ (hrb.below hB1)).mono ?_
  rintro e w2 ⟨⟨v2, l2, rfl, r2, w2', t2, m2⟩, hB2⟩
  have G1 := Lib.hid (And.intro (Hhid.out.1.below hB2) Hhid.out.2)
  have G2 := Lib.hid (And.intro r2 (And.intro w2' (And.intro t2 m2)))
  have hB3 := below_step hB1 hB1.size hB2
  clear r2 w2' t2 m2 F0 F1 F2 F3 F4 F5 hB1 hB2 Hhid
  have F0 := RowKit.Below.cells hB3 A0
  have F1 := RowKit.Below.cells hB3 A1
  have F2 := RowKit.Below.cells hB3 A2
  have F3 := RowKit.Below.cells hB3 A3
  have F4 := RowKit.Below.cells hB3 A4
  have F5 := RowKit.Below.cells hB3 A5
  cases s
  all_goals
    go_wp2_with fail
    refine (less_any v1 v2 l1 l2 G1.out.2.1 G2.out.2.1 G1.out.2.2.1 G2.out.2.2.1 _ G1.out.1 G2.out.1).mono ?_
    rintro e w4 ⟨rfl, hB4⟩
    have hd : decide (num l1 < num l2) = true := by rw [G1.out.2.2.2, G2.out.2.2.2]; exact decide_eq_true Hk.out
    rw [hd]
    have K1 := Lib.hid (And.intro (G1.out.1.below hB4) G1.out.2)
    have K2 := Lib.hid (And.intro (G2.out.1.below hB4) G2.out.2)
    have hB5 := below_step hB3 hB3.size hB4
    clear hd hB3 hB4 F0 F1 F2 F3 F4 F5 G1 G2
    have hB3 := hB5
    clear hB5
    have F0 := RowKit.Below.cells hB3 A0
    have F1 := RowKit.Below.cells hB3 A1
    have F2 := RowKit.Below.cells hB3 A2
    have F3 := RowKit.Below.cells hB3 A3
    have G1 := K1
    have G2 := K2
    clear K1 K2
    dsimp only
    go_wp2_with fail
    refine (minus_any v2 v1 l2 l1 G2.out.2.1 G1.out.2.1 (Nat.le_trans (len_of G2.out.2.2.1 (by rw [G2.out.2.2.2]; exact Hy.out)) (by decide)) (len_le_of G1.out.2.2.1 G2.out.2.1 (by rw [G1.out.2.2.2, G2.out.2.2.2]; exact Nat.le_of_lt Hk.out)) (by rw [G1.out.2.2.2, G2.out.2.2.2]; exact Nat.le_of_lt Hk.out) _ G2.out.1 G1.out.1).mono ?_
    rintro e w3 ⟨⟨v3, l3, rfl, r3, w3', t3, m3⟩, hB4⟩
    obtain ⟨p3, c3, rfl, _⟩ := r3.len
    have hB5 := below_step hB3 hB3.size hB4
    have R0' := At.below R0 hB5
    have R1' := At.below R1 hB5
    have R2' := At.below R2 hB5
    have hBl : w3.heap[w.heap.size + 1 + 1]? = some (.cells #[.bool false, .slice none 0 0, .int .i64 0] 100) := (hB5.block _ (by rw [HWs.out]; omega)).trans HH
    have hbw : Below w.heap.size w w3 := below3 (by rw [← HWs.out, ← HW.out]; exact hB5)
    have hne := row_ne r3 hBl (by decide)
    have G3 := Lib.hid (And.intro r3 (And.intro w3' (And.intro t3 (And.intro m3 hne))))
    have Hbw := Lib.hid hbw
    have Q2 := RowKit.Below.cells hB5 A2
    have Q3 := RowKit.Below.cells hB5 A3
    clear r3 w3' t3 m3 hne hBl hbw hB4 hB3 hB5 F0 F1 F2 F3
    have f0 := R0'.1; have f1 := R1'.1; have f2 := R2'.1; have z0 := R0'.2; have z1 := R1'.2; have z2 := R2'.2
    by_cases hl : l3.length = 0
    · have hl' := Lib.hid hl
      have hl0 : ¬ (0 : Int) < (l3.length : Int) := by omega
      have hd0 : decide (0 < l3.length) = false := decide_eq_false (by omega)
      clear hl
      exfalso
      have hm := G3.out.2.2.2.1
      have hk := Hk.out
      have hz : num l3 = 0 := by rw [List.length_eq_zero_iff.1 hl'.out]; rfl
      rw [G1.out.2.2.2, G2.out.2.2.2, hz] at hm
      omega
    · have hl0 : (0 : Int) < (l3.length : Int) := by omega
      have hd0 : decide (0 < l3.length) = true := decide_eq_true (by omega)
      dsimp only
      go_wp2
      first | (have bs := big_stored R0' R1' R2' (.bool false) (.slice p3 l3.length c3) (.int .i64 eb); refine bodyPost_ret (v := .agg #[.bool false, .slice p3 l3.length c3, .int .i64 eb]) (by simp [results, Try.results108, go_sem, bs]) rfl ?_; exact ⟨⟨false, _, l3, rfl, row_stored3 G3.out.1 G3.out.2.2.2.2 _ _ _, G3.out.2.1, G3.out.2.2.1, by have hm := G3.out.2.2.2.1; have h1 := G1.out.2.2.2; have h2 := G2.out.2.2.2; have hN := HN.out; have hk := Hk.out; generalize 2 ^ n * num a = x0 at h1 h2 hN hk; generalize 2 ^ 0 * num b = y0 at h1 h2 hN hk; clear G1 G2 G3 HN Hbw; simp at hN ⊢; omega⟩, below_stored3 Hbw.out (by omega) _ _ _⟩) | (have bs := big_stored R0' R1' R2' (.bool true) (.slice p3 l3.length c3) (.int .i64 eb); refine bodyPost_ret (v := .agg #[.bool true, .slice p3 l3.length c3, .int .i64 eb]) (by simp [results, Try.results108, go_sem, bs]) rfl ?_; exact ⟨⟨true, _, l3, rfl, row_stored3 G3.out.1 G3.out.2.2.2.2 _ _ _, G3.out.2.1, G3.out.2.2.1, by have hm := G3.out.2.2.2.1; have h1 := G1.out.2.2.2; have h2 := G2.out.2.2.2; have hN := HN.out; have hk := Hk.out; generalize 2 ^ n * num a = x0 at h1 h2 hN hk; generalize 2 ^ 0 * num b = y0 at h1 h2 hN hk; clear G1 G2 G3 HN Hbw; simp at hN ⊢; omega⟩, below_stored3 Hbw.out (by omega) _ _ _⟩)
set_option maxRecDepth 8000 in
set_option maxHeartbeats 4000000 in
theorem plus_lt_more (s : Bool) (ea eb : Int) (he1 : -10000 ≤ ea ∧ ea ≤ 10000) (he2 : -10000 ≤ eb ∧ eb ≤ 10000) (hord : eb < ea) (n : Nat) (hn : (n : Int) = ea - eb) (va vb : Value) (a b : List Nat) (wa : Words a) (wb : Words b) (ha : a.length ≤ 1000) (hb : b.length ≤ 1000)
    (hx : 2 ^ n * num a < BB ^ 1000) (hy : 2 ^ 0 * num b < BB ^ 1000) (hk : ¬ 2 ^ n * num a < 2 ^ 0 * num b) (N : Int) (hN : N = (if s = true then -((2 ^ n * num a : Nat) : Int) else ((2 ^ n * num a : Nat) : Int)) + (if (!s) = true then -((2 ^ 0 * num b : Nat) : Int) else ((2 ^ 0 * num b : Nat) : Int))) (w : World) (hr : Row w va a) (hs : Row w vb b) :
    Calls Try.prog 108 #[.agg #[.bool s, va, .int .i64 ea], .agg #[.bool (!s), vb, .int .i64 eb]] w fun e w' => GivesBig w' e N eb ∧ Below w.heap.size w w' := by
  obtain ⟨W, hW⟩ : ∃ W, W = (World.alloc (World.alloc (World.alloc w (.cells #[.bool s, va, .int .i64 ea] 100)) (.cells #[.bool (!s), vb, .int .i64 eb] 100)) (.cells #[.bool false, (.slice none 0 0), .int .i64 0] 100)) := ⟨_, rfl⟩
  have hWs : W.heap.size = w.heap.size + 3 := by rw [hW]; simp
  have A0 : W.cell? ⟨w.heap.size, 1, none⟩ = some va := by rw [hW]; simp [go_sem]
  have A1 : W.cell? ⟨w.heap.size + 1, 1, none⟩ = some vb := by rw [hW]; simp [go_sem]
  have A2 : W.cell? ⟨w.heap.size, 0, none⟩ = some (.bool s) := by rw [hW]; simp [go_sem]
  have A3 : W.cell? ⟨w.heap.size + 1, 0, none⟩ = some (.bool (!s)) := by rw [hW]; simp [go_sem]
  have A4 : W.cell? ⟨w.heap.size, 2, none⟩ = some (.int .i64 ea) := by rw [hW]; simp [go_sem]
  have A5 : W.cell? ⟨w.heap.size + 1, 2, none⟩ = some (.int .i64 eb) := by rw [hW]; simp [go_sem]
  have R0 : At W (w.heap.size + 1 + 1) 0 (.bool false) := by rw [hW]; exact ⟨by simp [go_sem], by simp [go_sem]⟩
  have R1 : At W (w.heap.size + 1 + 1) 1 (.slice none 0 0) := by rw [hW]; exact ⟨by simp [go_sem], by simp [go_sem]⟩
  have R2 : At W (w.heap.size + 1 + 1) 2 (.int .i64 0) := by rw [hW]; exact ⟨by simp [go_sem], by simp [go_sem]⟩
  have HH : W.heap[w.heap.size + 1 + 1]? = some (.cells #[.bool false, .slice none 0 0, .int .i64 0] 100) := by rw [hW]; exact heap_last3 _ _ _ _
  have hra : Row W va a := by rw [hW]; exact ((hr.alloc _).alloc _).alloc _
  have hrb : Row W vb b := by rw [hW]; exact ((hs.alloc _).alloc _).alloc _
  have S1 : ∀ w, Row w va a → Calls Try.prog 131 #[va, .int .i64 (ea - eb)] w fun e w' => Gives w' e (2 ^ n * num a) ∧ Below w.heap.size w w' := fun w h => by
    have := shift_any va a n wa ha (by omega) w h
    rw [hn] at this
    exact this
  have S2 : ∀ w, Row w vb b → Calls Try.prog 131 #[vb, .int .i64 0] w fun e w' => Gives w' e (2 ^ 0 * num b) ∧ Below w.heap.size w w' := fun w h => by
    have := shift_any vb b 0 wb hb (by omega) w h
    rw [Int.natCast_zero] at this
    exact this
  have HS1 := Lib.hid S1
  have HS2 := Lib.hid S2
  have HWs := Lib.hid hWs
  have Hx := Lib.hid hx
  have Hy := Lib.hid hy
  have HN := Lib.hid hN
  clear hN
  have Hk := Lib.hid hk
  clear hk
  have HW := Lib.hid hW
  clear S1 S2 hWs hx hy hn
  go_enter Try.func108, Try.ntmps108
  go_wp2_with fail
  rw [← HW.out]
  refine (HS1.out _ hra).mono ?_
  rintro e w1 ⟨⟨v1, l1, rfl, r1, w1', t1, m1⟩, hB1⟩
  have F0 := RowKit.Below.cells hB1 A0
  have F1 := RowKit.Below.cells hB1 A1
  have F2 := RowKit.Below.cells hB1 A2
  have F3 := RowKit.Below.cells hB1 A3
  have F4 := RowKit.Below.cells hB1 A4
  have F5 := RowKit.Below.cells hB1 A5
  have Hhid := Lib.hid (And.intro r1 (And.intro w1' (And.intro t1 m1)))
  clear r1 w1' t1 m1
  dsimp only
  go_wp2_with fail
  refine (HS2.out _ (hrb.below hB1)).mono ?_
  rintro e w2 ⟨⟨v2, l2, rfl, r2, w2', t2, m2⟩, hB2⟩
  have G1 := Lib.hid (And.intro (Hhid.out.1.below hB2) Hhid.out.2)
  have G2 := Lib.hid (And.intro r2 (And.intro w2' (And.intro t2 m2)))
  have hB3 := below_step hB1 hB1.size hB2
  clear r2 w2' t2 m2 F0 F1 F2 F3 F4 F5 hB1 hB2 Hhid
  have F0 := RowKit.Below.cells hB3 A0
  have F1 := RowKit.Below.cells hB3 A1
  have F2 := RowKit.Below.cells hB3 A2
  have F3 := RowKit.Below.cells hB3 A3
  have F4 := RowKit.Below.cells hB3 A4
  have F5 := RowKit.Below.cells hB3 A5
  cases s
  all_goals
    go_wp2_with fail
    refine (less_any v1 v2 l1 l2 G1.out.2.1 G2.out.2.1 G1.out.2.2.1 G2.out.2.2.1 _ G1.out.1 G2.out.1).mono ?_
    rintro e w4 ⟨rfl, hB4⟩
    have hd : decide (num l1 < num l2) = false := by rw [G1.out.2.2.2, G2.out.2.2.2]; exact decide_eq_false Hk.out
    rw [hd]
    have K1 := Lib.hid (And.intro (G1.out.1.below hB4) G1.out.2)
    have K2 := Lib.hid (And.intro (G2.out.1.below hB4) G2.out.2)
    have hB5 := below_step hB3 hB3.size hB4
    clear hd hB3 hB4 F0 F1 F2 F3 F4 F5 G1 G2
    have hB3 := hB5
    clear hB5
    have F0 := RowKit.Below.cells hB3 A0
    have F1 := RowKit.Below.cells hB3 A1
    have F2 := RowKit.Below.cells hB3 A2
    have F3 := RowKit.Below.cells hB3 A3
    have G1 := K1
    have G2 := K2
    clear K1 K2
    dsimp only
    go_wp2_with fail
    refine (minus_any v1 v2 l1 l2 G1.out.2.1 G2.out.2.1 (Nat.le_trans (len_of G1.out.2.2.1 (by rw [G1.out.2.2.2]; exact Hx.out)) (by decide)) (len_le_of G2.out.2.2.1 G1.out.2.1 (by rw [G1.out.2.2.2, G2.out.2.2.2]; exact Nat.le_of_not_lt Hk.out)) (by rw [G1.out.2.2.2, G2.out.2.2.2]; exact Nat.le_of_not_lt Hk.out) _ G1.out.1 G2.out.1).mono ?_
    rintro e w3 ⟨⟨v3, l3, rfl, r3, w3', t3, m3⟩, hB4⟩
    obtain ⟨p3, c3, rfl, _⟩ := r3.len
    have hB5 := below_step hB3 hB3.size hB4
    have R0' := At.below R0 hB5
    have R1' := At.below R1 hB5
    have R2' := At.below R2 hB5
    have hBl : w3.heap[w.heap.size + 1 + 1]? = some (.cells #[.bool false, .slice none 0 0, .int .i64 0] 100) := (hB5.block _ (by rw [HWs.out]; omega)).trans HH
    have hbw : Below w.heap.size w w3 := below3 (by rw [← HWs.out, ← HW.out]; exact hB5)
    have hne := row_ne r3 hBl (by decide)
    have G3 := Lib.hid (And.intro r3 (And.intro w3' (And.intro t3 (And.intro m3 hne))))
    have Hbw := Lib.hid hbw
    have Q2 := RowKit.Below.cells hB5 A2
    have Q3 := RowKit.Below.cells hB5 A3
    clear r3 w3' t3 m3 hne hBl hbw hB4 hB3 hB5 F0 F1 F2 F3
    have f0 := R0'.1; have f1 := R1'.1; have f2 := R2'.1; have z0 := R0'.2; have z1 := R1'.2; have z2 := R2'.2
    by_cases hl : l3.length = 0
    · have hl' := Lib.hid hl
      have hl0 : ¬ (0 : Int) < (l3.length : Int) := by omega
      have hd0 : decide (0 < l3.length) = false := decide_eq_false (by omega)
      clear hl
      dsimp only
      go_wp2
      first | (have bs := big_stored R0' R1' R2' (.bool false) (.slice p3 l3.length c3) (.int .i64 eb); refine bodyPost_ret (v := .agg #[.bool false, .slice p3 l3.length c3, .int .i64 eb]) (by simp [results, Try.results108, go_sem, bs]) rfl ?_; exact ⟨⟨false, _, l3, rfl, row_stored3 G3.out.1 G3.out.2.2.2.2 _ _ _, G3.out.2.1, G3.out.2.2.1, by have hm := G3.out.2.2.2.1; have h1 := G1.out.2.2.2; have h2 := G2.out.2.2.2; have hN := HN.out; have hk := Hk.out; have hz : num l3 = 0 := (by rw [List.length_eq_zero_iff.1 hl'.out]; rfl); generalize 2 ^ n * num a = x0 at h1 h2 hN hk; generalize 2 ^ 0 * num b = y0 at h1 h2 hN hk; clear G1 G2 G3 HN Hbw; simp at hN ⊢; omega⟩, below_stored3 Hbw.out (by omega) _ _ _⟩) | (have bs := big_stored R0' R1' R2' (.bool true) (.slice p3 l3.length c3) (.int .i64 eb); refine bodyPost_ret (v := .agg #[.bool true, .slice p3 l3.length c3, .int .i64 eb]) (by simp [results, Try.results108, go_sem, bs]) rfl ?_; exact ⟨⟨true, _, l3, rfl, row_stored3 G3.out.1 G3.out.2.2.2.2 _ _ _, G3.out.2.1, G3.out.2.2.1, by have hm := G3.out.2.2.2.1; have h1 := G1.out.2.2.2; have h2 := G2.out.2.2.2; have hN := HN.out; have hk := Hk.out; have hz : num l3 = 0 := (by rw [List.length_eq_zero_iff.1 hl'.out]; rfl); generalize 2 ^ n * num a = x0 at h1 h2 hN hk; generalize 2 ^ 0 * num b = y0 at h1 h2 hN hk; clear G1 G2 G3 HN Hbw; simp at hN ⊢; omega⟩, below_stored3 Hbw.out (by omega) _ _ _⟩)
    · have hl0 : (0 : Int) < (l3.length : Int) := by omega
      have hd0 : decide (0 < l3.length) = true := decide_eq_true (by omega)
      dsimp only
      go_wp2
      first | (have bs := big_stored R0' R1' R2' (.bool false) (.slice p3 l3.length c3) (.int .i64 eb); refine bodyPost_ret (v := .agg #[.bool false, .slice p3 l3.length c3, .int .i64 eb]) (by simp [results, Try.results108, go_sem, bs]) rfl ?_; exact ⟨⟨false, _, l3, rfl, row_stored3 G3.out.1 G3.out.2.2.2.2 _ _ _, G3.out.2.1, G3.out.2.2.1, by have hm := G3.out.2.2.2.1; have h1 := G1.out.2.2.2; have h2 := G2.out.2.2.2; have hN := HN.out; have hk := Hk.out; generalize 2 ^ n * num a = x0 at h1 h2 hN hk; generalize 2 ^ 0 * num b = y0 at h1 h2 hN hk; clear G1 G2 G3 HN Hbw; simp at hN ⊢; omega⟩, below_stored3 Hbw.out (by omega) _ _ _⟩) | (have bs := big_stored R0' R1' R2' (.bool true) (.slice p3 l3.length c3) (.int .i64 eb); refine bodyPost_ret (v := .agg #[.bool true, .slice p3 l3.length c3, .int .i64 eb]) (by simp [results, Try.results108, go_sem, bs]) rfl ?_; exact ⟨⟨true, _, l3, rfl, row_stored3 G3.out.1 G3.out.2.2.2.2 _ _ _, G3.out.2.1, G3.out.2.2.1, by have hm := G3.out.2.2.2.1; have h1 := G1.out.2.2.2; have h2 := G2.out.2.2.2; have hN := HN.out; have hk := Hk.out; generalize 2 ^ n * num a = x0 at h1 h2 hN hk; generalize 2 ^ 0 * num b = y0 at h1 h2 hN hk; clear G1 G2 G3 HN Hbw; simp at hN ⊢; omega⟩, below_stored3 Hbw.out (by omega) _ _ _⟩)
set_option maxRecDepth 8000 in
set_option maxHeartbeats 4000000 in
theorem plus_ge_same (s : Bool) (ea eb : Int) (he1 : -10000 ≤ ea ∧ ea ≤ 10000) (he2 : -10000 ≤ eb ∧ eb ≤ 10000) (hord : ¬ eb < ea) (n : Nat) (hn : (n : Int) = eb - ea) (va vb : Value) (a b : List Nat) (wa : Words a) (wb : Words b) (ha : a.length ≤ 1000) (hb : b.length ≤ 1000)
    (hx : 2 ^ 0 * num a < BB ^ 1000) (hy : 2 ^ n * num b < BB ^ 1000) (N : Int) (hN : N = (if s = true then -((2 ^ 0 * num a : Nat) : Int) else ((2 ^ 0 * num a : Nat) : Int)) + (if s = true then -((2 ^ n * num b : Nat) : Int) else ((2 ^ n * num b : Nat) : Int))) (w : World) (hr : Row w va a) (hs : Row w vb b) :
    Calls Try.prog 108 #[.agg #[.bool s, va, .int .i64 ea], .agg #[.bool s, vb, .int .i64 eb]] w fun e w' => GivesBig w' e N ea ∧ Below w.heap.size w w' := by
  obtain ⟨W, hW⟩ : ∃ W, W = (World.alloc (World.alloc (World.alloc w (.cells #[.bool s, va, .int .i64 ea] 100)) (.cells #[.bool s, vb, .int .i64 eb] 100)) (.cells #[.bool false, (.slice none 0 0), .int .i64 0] 100)) := ⟨_, rfl⟩
  have hWs : W.heap.size = w.heap.size + 3 := by rw [hW]; simp
  have A0 : W.cell? ⟨w.heap.size, 1, none⟩ = some va := by rw [hW]; simp [go_sem]
  have A1 : W.cell? ⟨w.heap.size + 1, 1, none⟩ = some vb := by rw [hW]; simp [go_sem]
  have A2 : W.cell? ⟨w.heap.size, 0, none⟩ = some (.bool s) := by rw [hW]; simp [go_sem]
  have A3 : W.cell? ⟨w.heap.size + 1, 0, none⟩ = some (.bool s) := by rw [hW]; simp [go_sem]
  have A4 : W.cell? ⟨w.heap.size, 2, none⟩ = some (.int .i64 ea) := by rw [hW]; simp [go_sem]
  have A5 : W.cell? ⟨w.heap.size + 1, 2, none⟩ = some (.int .i64 eb) := by rw [hW]; simp [go_sem]
  have R0 : At W (w.heap.size + 1 + 1) 0 (.bool false) := by rw [hW]; exact ⟨by simp [go_sem], by simp [go_sem]⟩
  have R1 : At W (w.heap.size + 1 + 1) 1 (.slice none 0 0) := by rw [hW]; exact ⟨by simp [go_sem], by simp [go_sem]⟩
  have R2 : At W (w.heap.size + 1 + 1) 2 (.int .i64 0) := by rw [hW]; exact ⟨by simp [go_sem], by simp [go_sem]⟩
  have HH : W.heap[w.heap.size + 1 + 1]? = some (.cells #[.bool false, .slice none 0 0, .int .i64 0] 100) := by rw [hW]; exact heap_last3 _ _ _ _
  have hra : Row W va a := by rw [hW]; exact ((hr.alloc _).alloc _).alloc _
  have hrb : Row W vb b := by rw [hW]; exact ((hs.alloc _).alloc _).alloc _
  have S1 : ∀ w, Row w va a → Calls Try.prog 131 #[va, .int .i64 0] w fun e w' => Gives w' e (2 ^ 0 * num a) ∧ Below w.heap.size w w' := fun w h => by
    have := shift_any va a 0 wa ha (by omega) w h
    rw [Int.natCast_zero] at this
    exact this
  have S2 : ∀ w, Row w vb b → Calls Try.prog 131 #[vb, .int .i64 (eb - ea)] w fun e w' => Gives w' e (2 ^ n * num b) ∧ Below w.heap.size w w' := fun w h => by
    have := shift_any vb b n wb hb (by omega) w h
    rw [hn] at this
    exact this
  have HS1 := Lib.hid S1
  have HS2 := Lib.hid S2
  have HWs := Lib.hid hWs
  have Hx := Lib.hid hx
  have Hy := Lib.hid hy
  have HN := Lib.hid hN
  clear hN
  have HW := Lib.hid hW
  clear S1 S2 hWs hx hy hn
  go_enter Try.func108, Try.ntmps108
  go_wp2_with fail
  rw [← HW.out]
  refine (HS1.out _ hra).mono ?_
  rintro e w1 ⟨⟨v1, l1, rfl, r1, w1', t1, m1⟩, hB1⟩
  have F0 := RowKit.Below.cells hB1 A0
  have F1 := RowKit.Below.cells hB1 A1
  have F2 := RowKit.Below.cells hB1 A2
  have F3 := RowKit.Below.cells hB1 A3
  have F4 := RowKit.Below.cells hB1 A4
  have F5 := RowKit.Below.cells hB1 A5
  have Hhid := Lib.hid (And.intro r1 (And.intro w1' (And.intro t1 m1)))
  clear r1 w1' t1 m1
  dsimp only
  go_wp2_with fail
  refine (HS2.out _ (hrb.below hB1)).mono ?_
  rintro e w2 ⟨⟨v2, l2, rfl, r2, w2', t2, m2⟩, hB2⟩
  have G1 := Lib.hid (And.intro (Hhid.out.1.below hB2) Hhid.out.2)
  have G2 := Lib.hid (And.intro r2 (And.intro w2' (And.intro t2 m2)))
  have hB3 := below_step hB1 hB1.size hB2
  clear r2 w2' t2 m2 F0 F1 F2 F3 F4 F5 hB1 hB2 Hhid
  have F0 := RowKit.Below.cells hB3 A0
  have F1 := RowKit.Below.cells hB3 A1
  have F2 := RowKit.Below.cells hB3 A2
  have F3 := RowKit.Below.cells hB3 A3
  have F4 := RowKit.Below.cells hB3 A4
  have F5 := RowKit.Below.cells hB3 A5
  cases s
  all_goals
    go_wp2_with fail
    refine (plus_any v1 v2 l1 l2 G1.out.2.1 G2.out.2.1 (Nat.le_trans (len_of G1.out.2.2.1 (by rw [G1.out.2.2.2]; exact Hx.out)) (by decide)) (Nat.le_trans (len_of G2.out.2.2.1 (by rw [G2.out.2.2.2]; exact Hy.out)) (by decide)) _ G1.out.1 G2.out.1).mono ?_
    rintro e w3 ⟨⟨v3, l3, rfl, r3, w3', t3, m3⟩, hB4⟩
    obtain ⟨p3, c3, rfl, _⟩ := r3.len
    have hB5 := below_step hB3 hB3.size hB4
    have R0' := At.below R0 hB5
    have R1' := At.below R1 hB5
    have R2' := At.below R2 hB5
    have hBl : w3.heap[w.heap.size + 1 + 1]? = some (.cells #[.bool false, .slice none 0 0, .int .i64 0] 100) := (hB5.block _ (by rw [HWs.out]; omega)).trans HH
    have hbw : Below w.heap.size w w3 := below3 (by rw [← HWs.out, ← HW.out]; exact hB5)
    have hne := row_ne r3 hBl (by decide)
    have G3 := Lib.hid (And.intro r3 (And.intro w3' (And.intro t3 (And.intro m3 hne))))
    have Hbw := Lib.hid hbw
    have Q2 := RowKit.Below.cells hB5 A2
    have Q3 := RowKit.Below.cells hB5 A3
    clear r3 w3' t3 m3 hne hBl hbw hB4 hB3 hB5 F0 F1 F2 F3
    have f0 := R0'.1; have f1 := R1'.1; have f2 := R2'.1; have z0 := R0'.2; have z1 := R1'.2; have z2 := R2'.2
    by_cases hl : l3.length = 0
    · have hl' := Lib.hid hl
      have hl0 : ¬ (0 : Int) < (l3.length : Int) := by omega
      have hd0 : decide (0 < l3.length) = false := decide_eq_false (by omega)
      clear hl
      dsimp only
      go_wp2
      first | (have bs := big_stored R0' R1' R2' (.bool false) (.slice p3 l3.length c3) (.int .i64 ea); refine bodyPost_ret (v := .agg #[.bool false, .slice p3 l3.length c3, .int .i64 ea]) (by simp [results, Try.results108, go_sem, bs]) rfl ?_; exact ⟨⟨false, _, l3, rfl, row_stored3 G3.out.1 G3.out.2.2.2.2 _ _ _, G3.out.2.1, G3.out.2.2.1, by have hm := G3.out.2.2.2.1; have h1 := G1.out.2.2.2; have h2 := G2.out.2.2.2; have hN := HN.out; have hz : num l3 = 0 := (by rw [List.length_eq_zero_iff.1 hl'.out]; rfl); generalize 2 ^ 0 * num a = x0 at h1 h2 hN; generalize 2 ^ n * num b = y0 at h1 h2 hN; clear G1 G2 G3 HN Hbw; simp at hN ⊢; omega⟩, below_stored3 Hbw.out (by omega) _ _ _⟩) | (have bs := big_stored R0' R1' R2' (.bool true) (.slice p3 l3.length c3) (.int .i64 ea); refine bodyPost_ret (v := .agg #[.bool true, .slice p3 l3.length c3, .int .i64 ea]) (by simp [results, Try.results108, go_sem, bs]) rfl ?_; exact ⟨⟨true, _, l3, rfl, row_stored3 G3.out.1 G3.out.2.2.2.2 _ _ _, G3.out.2.1, G3.out.2.2.1, by have hm := G3.out.2.2.2.1; have h1 := G1.out.2.2.2; have h2 := G2.out.2.2.2; have hN := HN.out; have hz : num l3 = 0 := (by rw [List.length_eq_zero_iff.1 hl'.out]; rfl); generalize 2 ^ 0 * num a = x0 at h1 h2 hN; generalize 2 ^ n * num b = y0 at h1 h2 hN; clear G1 G2 G3 HN Hbw; simp at hN ⊢; omega⟩, below_stored3 Hbw.out (by omega) _ _ _⟩)
    · have hl0 : (0 : Int) < (l3.length : Int) := by omega
      have hd0 : decide (0 < l3.length) = true := decide_eq_true (by omega)
      dsimp only
      go_wp2
      first | (have bs := big_stored R0' R1' R2' (.bool false) (.slice p3 l3.length c3) (.int .i64 ea); refine bodyPost_ret (v := .agg #[.bool false, .slice p3 l3.length c3, .int .i64 ea]) (by simp [results, Try.results108, go_sem, bs]) rfl ?_; exact ⟨⟨false, _, l3, rfl, row_stored3 G3.out.1 G3.out.2.2.2.2 _ _ _, G3.out.2.1, G3.out.2.2.1, by have hm := G3.out.2.2.2.1; have h1 := G1.out.2.2.2; have h2 := G2.out.2.2.2; have hN := HN.out; generalize 2 ^ 0 * num a = x0 at h1 h2 hN; generalize 2 ^ n * num b = y0 at h1 h2 hN; clear G1 G2 G3 HN Hbw; simp at hN ⊢; omega⟩, below_stored3 Hbw.out (by omega) _ _ _⟩) | (have bs := big_stored R0' R1' R2' (.bool true) (.slice p3 l3.length c3) (.int .i64 ea); refine bodyPost_ret (v := .agg #[.bool true, .slice p3 l3.length c3, .int .i64 ea]) (by simp [results, Try.results108, go_sem, bs]) rfl ?_; exact ⟨⟨true, _, l3, rfl, row_stored3 G3.out.1 G3.out.2.2.2.2 _ _ _, G3.out.2.1, G3.out.2.2.1, by have hm := G3.out.2.2.2.1; have h1 := G1.out.2.2.2; have h2 := G2.out.2.2.2; have hN := HN.out; generalize 2 ^ 0 * num a = x0 at h1 h2 hN; generalize 2 ^ n * num b = y0 at h1 h2 hN; clear G1 G2 G3 HN Hbw; simp at hN ⊢; omega⟩, below_stored3 Hbw.out (by omega) _ _ _⟩)
set_option maxRecDepth 8000 in
set_option maxHeartbeats 4000000 in
theorem plus_ge_less (s : Bool) (ea eb : Int) (he1 : -10000 ≤ ea ∧ ea ≤ 10000) (he2 : -10000 ≤ eb ∧ eb ≤ 10000) (hord : ¬ eb < ea) (n : Nat) (hn : (n : Int) = eb - ea) (va vb : Value) (a b : List Nat) (wa : Words a) (wb : Words b) (ha : a.length ≤ 1000) (hb : b.length ≤ 1000)
    (hx : 2 ^ 0 * num a < BB ^ 1000) (hy : 2 ^ n * num b < BB ^ 1000) (hk : 2 ^ 0 * num a < 2 ^ n * num b) (N : Int) (hN : N = (if s = true then -((2 ^ 0 * num a : Nat) : Int) else ((2 ^ 0 * num a : Nat) : Int)) + (if (!s) = true then -((2 ^ n * num b : Nat) : Int) else ((2 ^ n * num b : Nat) : Int))) (w : World) (hr : Row w va a) (hs : Row w vb b) :
    Calls Try.prog 108 #[.agg #[.bool s, va, .int .i64 ea], .agg #[.bool (!s), vb, .int .i64 eb]] w fun e w' => GivesBig w' e N ea ∧ Below w.heap.size w w' := by
  obtain ⟨W, hW⟩ : ∃ W, W = (World.alloc (World.alloc (World.alloc w (.cells #[.bool s, va, .int .i64 ea] 100)) (.cells #[.bool (!s), vb, .int .i64 eb] 100)) (.cells #[.bool false, (.slice none 0 0), .int .i64 0] 100)) := ⟨_, rfl⟩
  have hWs : W.heap.size = w.heap.size + 3 := by rw [hW]; simp
  have A0 : W.cell? ⟨w.heap.size, 1, none⟩ = some va := by rw [hW]; simp [go_sem]
  have A1 : W.cell? ⟨w.heap.size + 1, 1, none⟩ = some vb := by rw [hW]; simp [go_sem]
  have A2 : W.cell? ⟨w.heap.size, 0, none⟩ = some (.bool s) := by rw [hW]; simp [go_sem]
  have A3 : W.cell? ⟨w.heap.size + 1, 0, none⟩ = some (.bool (!s)) := by rw [hW]; simp [go_sem]
  have A4 : W.cell? ⟨w.heap.size, 2, none⟩ = some (.int .i64 ea) := by rw [hW]; simp [go_sem]
  have A5 : W.cell? ⟨w.heap.size + 1, 2, none⟩ = some (.int .i64 eb) := by rw [hW]; simp [go_sem]
  have R0 : At W (w.heap.size + 1 + 1) 0 (.bool false) := by rw [hW]; exact ⟨by simp [go_sem], by simp [go_sem]⟩
  have R1 : At W (w.heap.size + 1 + 1) 1 (.slice none 0 0) := by rw [hW]; exact ⟨by simp [go_sem], by simp [go_sem]⟩
  have R2 : At W (w.heap.size + 1 + 1) 2 (.int .i64 0) := by rw [hW]; exact ⟨by simp [go_sem], by simp [go_sem]⟩
  have HH : W.heap[w.heap.size + 1 + 1]? = some (.cells #[.bool false, .slice none 0 0, .int .i64 0] 100) := by rw [hW]; exact heap_last3 _ _ _ _
  have hra : Row W va a := by rw [hW]; exact ((hr.alloc _).alloc _).alloc _
  have hrb : Row W vb b := by rw [hW]; exact ((hs.alloc _).alloc _).alloc _
  have S1 : ∀ w, Row w va a → Calls Try.prog 131 #[va, .int .i64 0] w fun e w' => Gives w' e (2 ^ 0 * num a) ∧ Below w.heap.size w w' := fun w h => by
    have := shift_any va a 0 wa ha (by omega) w h
    rw [Int.natCast_zero] at this
    exact this
  have S2 : ∀ w, Row w vb b → Calls Try.prog 131 #[vb, .int .i64 (eb - ea)] w fun e w' => Gives w' e (2 ^ n * num b) ∧ Below w.heap.size w w' := fun w h => by
    have := shift_any vb b n wb hb (by omega) w h
    rw [hn] at this
    exact this
  have HS1 := Lib.hid S1
  have HS2 := Lib.hid S2
  have HWs := Lib.hid hWs
  have Hx := Lib.hid hx
  have Hy := Lib.hid hy
  have HN := Lib.hid hN
  clear hN
  have Hk := Lib.hid hk
  clear hk
  have HW := Lib.hid hW
  clear S1 S2 hWs hx hy hn
  go_enter Try.func108, Try.ntmps108
  go_wp2_with fail
  rw [← HW.out]
  refine (HS1.out _ hra).mono ?_
  rintro e w1 ⟨⟨v1, l1, rfl, r1, w1', t1, m1⟩, hB1⟩
  have F0 := RowKit.Below.cells hB1 A0
  have F1 := RowKit.Below.cells hB1 A1
  have F2 := RowKit.Below.cells hB1 A2
  have F3 := RowKit.Below.cells hB1 A3
  have F4 := RowKit.Below.cells hB1 A4
  have F5 := RowKit.Below.cells hB1 A5
  have Hhid := Lib.hid (And.intro r1 (And.intro w1' (And.intro t1 m1)))
  clear r1 w1' t1 m1
  dsimp only
  go_wp2_with fail
  refine (HS2.out _ (hrb.below hB1)).mono ?_
  rintro e w2 ⟨⟨v2, l2, rfl, r2, w2', t2, m2⟩, hB2⟩
  have G1 := Lib.hid (And.intro (Hhid.out.1.below hB2) Hhid.out.2)
  have G2 := Lib.hid (And.intro r2 (And.intro w2' (And.intro t2 m2)))
  have hB3 := below_step hB1 hB1.size hB2
  clear r2 w2' t2 m2 F0 F1 F2 F3 F4 F5 hB1 hB2 Hhid
  have F0 := RowKit.Below.cells hB3 A0
  have F1 := RowKit.Below.cells hB3 A1
  have F2 := RowKit.Below.cells hB3 A2
  have F3 := RowKit.Below.cells hB3 A3
  have F4 := RowKit.Below.cells hB3 A4
  have F5 := RowKit.Below.cells hB3 A5
  cases s
  all_goals
    go_wp2_with fail
    refine (less_any v1 v2 l1 l2 G1.out.2.1 G2.out.2.1 G1.out.2.2.1 G2.out.2.2.1 _ G1.out.1 G2.out.1).mono ?_
    rintro e w4 ⟨rfl, hB4⟩
    have hd : decide (num l1 < num l2) = true := by rw [G1.out.2.2.2, G2.out.2.2.2]; exact decide_eq_true Hk.out
    rw [hd]
    have K1 := Lib.hid (And.intro (G1.out.1.below hB4) G1.out.2)
    have K2 := Lib.hid (And.intro (G2.out.1.below hB4) G2.out.2)
    have hB5 := below_step hB3 hB3.size hB4
    clear hd hB3 hB4 F0 F1 F2 F3 F4 F5 G1 G2
    have hB3 := hB5
    clear hB5
    have F0 := RowKit.Below.cells hB3 A0
    have F1 := RowKit.Below.cells hB3 A1
    have F2 := RowKit.Below.cells hB3 A2
    have F3 := RowKit.Below.cells hB3 A3
    have G1 := K1
    have G2 := K2
    clear K1 K2
    dsimp only
    go_wp2_with fail
    refine (minus_any v2 v1 l2 l1 G2.out.2.1 G1.out.2.1 (Nat.le_trans (len_of G2.out.2.2.1 (by rw [G2.out.2.2.2]; exact Hy.out)) (by decide)) (len_le_of G1.out.2.2.1 G2.out.2.1 (by rw [G1.out.2.2.2, G2.out.2.2.2]; exact Nat.le_of_lt Hk.out)) (by rw [G1.out.2.2.2, G2.out.2.2.2]; exact Nat.le_of_lt Hk.out) _ G2.out.1 G1.out.1).mono ?_
    rintro e w3 ⟨⟨v3, l3, rfl, r3, w3', t3, m3⟩, hB4⟩
    obtain ⟨p3, c3, rfl, _⟩ := r3.len
    have hB5 := below_step hB3 hB3.size hB4
    have R0' := At.below R0 hB5
    have R1' := At.below R1 hB5
    have R2' := At.below R2 hB5
    have hBl : w3.heap[w.heap.size + 1 + 1]? = some (.cells #[.bool false, .slice none 0 0, .int .i64 0] 100) := (hB5.block _ (by rw [HWs.out]; omega)).trans HH
    have hbw : Below w.heap.size w w3 := below3 (by rw [← HWs.out, ← HW.out]; exact hB5)
    have hne := row_ne r3 hBl (by decide)
    have G3 := Lib.hid (And.intro r3 (And.intro w3' (And.intro t3 (And.intro m3 hne))))
    have Hbw := Lib.hid hbw
    have Q2 := RowKit.Below.cells hB5 A2
    have Q3 := RowKit.Below.cells hB5 A3
    clear r3 w3' t3 m3 hne hBl hbw hB4 hB3 hB5 F0 F1 F2 F3
    have f0 := R0'.1; have f1 := R1'.1; have f2 := R2'.1; have z0 := R0'.2; have z1 := R1'.2; have z2 := R2'.2
    by_cases hl : l3.length = 0
    · have hl' := Lib.hid hl
      have hl0 : ¬ (0 : Int) < (l3.length : Int) := by omega
      have hd0 : decide (0 < l3.length) = false := decide_eq_false (by omega)
      clear hl
      exfalso
      have hm := G3.out.2.2.2.1
      have hk := Hk.out
      have hz : num l3 = 0 := by rw [List.length_eq_zero_iff.1 hl'.out]; rfl
      rw [G1.out.2.2.2, G2.out.2.2.2, hz] at hm
      omega
    · have hl0 : (0 : Int) < (l3.length : Int) := by omega
      have hd0 : decide (0 < l3.length) = true := decide_eq_true (by omega)
      dsimp only
      go_wp2
      first | (have bs := big_stored R0' R1' R2' (.bool false) (.slice p3 l3.length c3) (.int .i64 ea); refine bodyPost_ret (v := .agg #[.bool false, .slice p3 l3.length c3, .int .i64 ea]) (by simp [results, Try.results108, go_sem, bs]) rfl ?_; exact ⟨⟨false, _, l3, rfl, row_stored3 G3.out.1 G3.out.2.2.2.2 _ _ _, G3.out.2.1, G3.out.2.2.1, by have hm := G3.out.2.2.2.1; have h1 := G1.out.2.2.2; have h2 := G2.out.2.2.2; have hN := HN.out; have hk := Hk.out; generalize 2 ^ 0 * num a = x0 at h1 h2 hN hk; generalize 2 ^ n * num b = y0 at h1 h2 hN hk; clear G1 G2 G3 HN Hbw; simp at hN ⊢; omega⟩, below_stored3 Hbw.out (by omega) _ _ _⟩) | (have bs := big_stored R0' R1' R2' (.bool true) (.slice p3 l3.length c3) (.int .i64 ea); refine bodyPost_ret (v := .agg #[.bool true, .slice p3 l3.length c3, .int .i64 ea]) (by simp [results, Try.results108, go_sem, bs]) rfl ?_; exact ⟨⟨true, _, l3, rfl, row_stored3 G3.out.1 G3.out.2.2.2.2 _ _ _, G3.out.2.1, G3.out.2.2.1, by have hm := G3.out.2.2.2.1; have h1 := G1.out.2.2.2; have h2 := G2.out.2.2.2; have hN := HN.out; have hk := Hk.out; generalize 2 ^ 0 * num a = x0 at h1 h2 hN hk; generalize 2 ^ n * num b = y0 at h1 h2 hN hk; clear G1 G2 G3 HN Hbw; simp at hN ⊢; omega⟩, below_stored3 Hbw.out (by omega) _ _ _⟩)
set_option maxRecDepth 8000 in
set_option maxHeartbeats 4000000 in
theorem plus_ge_more (s : Bool) (ea eb : Int) (he1 : -10000 ≤ ea ∧ ea ≤ 10000) (he2 : -10000 ≤ eb ∧ eb ≤ 10000) (hord : ¬ eb < ea) (n : Nat) (hn : (n : Int) = eb - ea) (va vb : Value) (a b : List Nat) (wa : Words a) (wb : Words b) (ha : a.length ≤ 1000) (hb : b.length ≤ 1000)
    (hx : 2 ^ 0 * num a < BB ^ 1000) (hy : 2 ^ n * num b < BB ^ 1000) (hk : ¬ 2 ^ 0 * num a < 2 ^ n * num b) (N : Int) (hN : N = (if s = true then -((2 ^ 0 * num a : Nat) : Int) else ((2 ^ 0 * num a : Nat) : Int)) + (if (!s) = true then -((2 ^ n * num b : Nat) : Int) else ((2 ^ n * num b : Nat) : Int))) (w : World) (hr : Row w va a) (hs : Row w vb b) :
    Calls Try.prog 108 #[.agg #[.bool s, va, .int .i64 ea], .agg #[.bool (!s), vb, .int .i64 eb]] w fun e w' => GivesBig w' e N ea ∧ Below w.heap.size w w' := by
  obtain ⟨W, hW⟩ : ∃ W, W = (World.alloc (World.alloc (World.alloc w (.cells #[.bool s, va, .int .i64 ea] 100)) (.cells #[.bool (!s), vb, .int .i64 eb] 100)) (.cells #[.bool false, (.slice none 0 0), .int .i64 0] 100)) := ⟨_, rfl⟩
  have hWs : W.heap.size = w.heap.size + 3 := by rw [hW]; simp
  have A0 : W.cell? ⟨w.heap.size, 1, none⟩ = some va := by rw [hW]; simp [go_sem]
  have A1 : W.cell? ⟨w.heap.size + 1, 1, none⟩ = some vb := by rw [hW]; simp [go_sem]
  have A2 : W.cell? ⟨w.heap.size, 0, none⟩ = some (.bool s) := by rw [hW]; simp [go_sem]
  have A3 : W.cell? ⟨w.heap.size + 1, 0, none⟩ = some (.bool (!s)) := by rw [hW]; simp [go_sem]
  have A4 : W.cell? ⟨w.heap.size, 2, none⟩ = some (.int .i64 ea) := by rw [hW]; simp [go_sem]
  have A5 : W.cell? ⟨w.heap.size + 1, 2, none⟩ = some (.int .i64 eb) := by rw [hW]; simp [go_sem]
  have R0 : At W (w.heap.size + 1 + 1) 0 (.bool false) := by rw [hW]; exact ⟨by simp [go_sem], by simp [go_sem]⟩
  have R1 : At W (w.heap.size + 1 + 1) 1 (.slice none 0 0) := by rw [hW]; exact ⟨by simp [go_sem], by simp [go_sem]⟩
  have R2 : At W (w.heap.size + 1 + 1) 2 (.int .i64 0) := by rw [hW]; exact ⟨by simp [go_sem], by simp [go_sem]⟩
  have HH : W.heap[w.heap.size + 1 + 1]? = some (.cells #[.bool false, .slice none 0 0, .int .i64 0] 100) := by rw [hW]; exact heap_last3 _ _ _ _
  have hra : Row W va a := by rw [hW]; exact ((hr.alloc _).alloc _).alloc _
  have hrb : Row W vb b := by rw [hW]; exact ((hs.alloc _).alloc _).alloc _
  have S1 : ∀ w, Row w va a → Calls Try.prog 131 #[va, .int .i64 0] w fun e w' => Gives w' e (2 ^ 0 * num a) ∧ Below w.heap.size w w' := fun w h => by
    have := shift_any va a 0 wa ha (by omega) w h
    rw [Int.natCast_zero] at this
    exact this
  have S2 : ∀ w, Row w vb b → Calls Try.prog 131 #[vb, .int .i64 (eb - ea)] w fun e w' => Gives w' e (2 ^ n * num b) ∧ Below w.heap.size w w' := fun w h => by
    have := shift_any vb b n wb hb (by omega) w h
    rw [hn] at this
    exact this
  have HS1 := Lib.hid S1
  have HS2 := Lib.hid S2
  have HWs := Lib.hid hWs
  have Hx := Lib.hid hx
  have Hy := Lib.hid hy
  have HN := Lib.hid hN
  clear hN
  have Hk := Lib.hid hk
  clear hk
  have HW := Lib.hid hW
  clear S1 S2 hWs hx hy hn
  go_enter Try.func108, Try.ntmps108
  go_wp2_with fail
  rw [← HW.out]
  refine (HS1.out _ hra).mono ?_
  rintro e w1 ⟨⟨v1, l1, rfl, r1, w1', t1, m1⟩, hB1⟩
  have F0 := RowKit.Below.cells hB1 A0
  have F1 := RowKit.Below.cells hB1 A1
  have F2 := RowKit.Below.cells hB1 A2
  have F3 := RowKit.Below.cells hB1 A3
  have F4 := RowKit.Below.cells hB1 A4
  have F5 := RowKit.Below.cells hB1 A5
  have Hhid := Lib.hid (And.intro r1 (And.intro w1' (And.intro t1 m1)))
  clear r1 w1' t1 m1
  dsimp only
  go_wp2_with fail
  refine (HS2.out _ (hrb.below hB1)).mono ?_
  rintro e w2 ⟨⟨v2, l2, rfl, r2, w2', t2, m2⟩, hB2⟩
  have G1 := Lib.hid (And.intro (Hhid.out.1.below hB2) Hhid.out.2)
  have G2 := Lib.hid (And.intro r2 (And.intro w2' (And.intro t2 m2)))
  have hB3 := below_step hB1 hB1.size hB2
  clear r2 w2' t2 m2 F0 F1 F2 F3 F4 F5 hB1 hB2 Hhid
  have F0 := RowKit.Below.cells hB3 A0
  have F1 := RowKit.Below.cells hB3 A1
  have F2 := RowKit.Below.cells hB3 A2
  have F3 := RowKit.Below.cells hB3 A3
  have F4 := RowKit.Below.cells hB3 A4
  have F5 := RowKit.Below.cells hB3 A5
  cases s
  all_goals
    go_wp2_with fail
    refine (less_any v1 v2 l1 l2 G1.out.2.1 G2.out.2.1 G1.out.2.2.1 G2.out.2.2.1 _ G1.out.1 G2.out.1).mono ?_
    rintro e w4 ⟨rfl, hB4⟩
    have hd : decide (num l1 < num l2) = false := by rw [G1.out.2.2.2, G2.out.2.2.2]; exact decide_eq_false Hk.out
    rw [hd]
    have K1 := Lib.hid (And.intro (G1.out.1.below hB4) G1.out.2)
    have K2 := Lib.hid (And.intro (G2.out.1.below hB4) G2.out.2)
    have hB5 := below_step hB3 hB3.size hB4
    clear hd hB3 hB4 F0 F1 F2 F3 F4 F5 G1 G2
    have hB3 := hB5
    clear hB5
    have F0 := RowKit.Below.cells hB3 A0
    have F1 := RowKit.Below.cells hB3 A1
    have F2 := RowKit.Below.cells hB3 A2
    have F3 := RowKit.Below.cells hB3 A3
    have G1 := K1
    have G2 := K2
    clear K1 K2
    dsimp only
    go_wp2_with fail
    refine (minus_any v1 v2 l1 l2 G1.out.2.1 G2.out.2.1 (Nat.le_trans (len_of G1.out.2.2.1 (by rw [G1.out.2.2.2]; exact Hx.out)) (by decide)) (len_le_of G2.out.2.2.1 G1.out.2.1 (by rw [G1.out.2.2.2, G2.out.2.2.2]; exact Nat.le_of_not_lt Hk.out)) (by rw [G1.out.2.2.2, G2.out.2.2.2]; exact Nat.le_of_not_lt Hk.out) _ G1.out.1 G2.out.1).mono ?_
    rintro e w3 ⟨⟨v3, l3, rfl, r3, w3', t3, m3⟩, hB4⟩
    obtain ⟨p3, c3, rfl, _⟩ := r3.len
    have hB5 := below_step hB3 hB3.size hB4
    have R0' := At.below R0 hB5
    have R1' := At.below R1 hB5
    have R2' := At.below R2 hB5
    have hBl : w3.heap[w.heap.size + 1 + 1]? = some (.cells #[.bool false, .slice none 0 0, .int .i64 0] 100) := (hB5.block _ (by rw [HWs.out]; omega)).trans HH
    have hbw : Below w.heap.size w w3 := below3 (by rw [← HWs.out, ← HW.out]; exact hB5)
    have hne := row_ne r3 hBl (by decide)
    have G3 := Lib.hid (And.intro r3 (And.intro w3' (And.intro t3 (And.intro m3 hne))))
    have Hbw := Lib.hid hbw
    have Q2 := RowKit.Below.cells hB5 A2
    have Q3 := RowKit.Below.cells hB5 A3
    clear r3 w3' t3 m3 hne hBl hbw hB4 hB3 hB5 F0 F1 F2 F3
    have f0 := R0'.1; have f1 := R1'.1; have f2 := R2'.1; have z0 := R0'.2; have z1 := R1'.2; have z2 := R2'.2
    by_cases hl : l3.length = 0
    · have hl' := Lib.hid hl
      have hl0 : ¬ (0 : Int) < (l3.length : Int) := by omega
      have hd0 : decide (0 < l3.length) = false := decide_eq_false (by omega)
      clear hl
      dsimp only
      go_wp2
      first | (have bs := big_stored R0' R1' R2' (.bool false) (.slice p3 l3.length c3) (.int .i64 ea); refine bodyPost_ret (v := .agg #[.bool false, .slice p3 l3.length c3, .int .i64 ea]) (by simp [results, Try.results108, go_sem, bs]) rfl ?_; exact ⟨⟨false, _, l3, rfl, row_stored3 G3.out.1 G3.out.2.2.2.2 _ _ _, G3.out.2.1, G3.out.2.2.1, by have hm := G3.out.2.2.2.1; have h1 := G1.out.2.2.2; have h2 := G2.out.2.2.2; have hN := HN.out; have hk := Hk.out; have hz : num l3 = 0 := (by rw [List.length_eq_zero_iff.1 hl'.out]; rfl); generalize 2 ^ 0 * num a = x0 at h1 h2 hN hk; generalize 2 ^ n * num b = y0 at h1 h2 hN hk; clear G1 G2 G3 HN Hbw; simp at hN ⊢; omega⟩, below_stored3 Hbw.out (by omega) _ _ _⟩) | (have bs := big_stored R0' R1' R2' (.bool true) (.slice p3 l3.length c3) (.int .i64 ea); refine bodyPost_ret (v := .agg #[.bool true, .slice p3 l3.length c3, .int .i64 ea]) (by simp [results, Try.results108, go_sem, bs]) rfl ?_; exact ⟨⟨true, _, l3, rfl, row_stored3 G3.out.1 G3.out.2.2.2.2 _ _ _, G3.out.2.1, G3.out.2.2.1, by have hm := G3.out.2.2.2.1; have h1 := G1.out.2.2.2; have h2 := G2.out.2.2.2; have hN := HN.out; have hk := Hk.out; have hz : num l3 = 0 := (by rw [List.length_eq_zero_iff.1 hl'.out]; rfl); generalize 2 ^ 0 * num a = x0 at h1 h2 hN hk; generalize 2 ^ n * num b = y0 at h1 h2 hN hk; clear G1 G2 G3 HN Hbw; simp at hN ⊢; omega⟩, below_stored3 Hbw.out (by omega) _ _ _⟩)
    · have hl0 : (0 : Int) < (l3.length : Int) := by omega
      have hd0 : decide (0 < l3.length) = true := decide_eq_true (by omega)
      dsimp only
      go_wp2
      first | (have bs := big_stored R0' R1' R2' (.bool false) (.slice p3 l3.length c3) (.int .i64 ea); refine bodyPost_ret (v := .agg #[.bool false, .slice p3 l3.length c3, .int .i64 ea]) (by simp [results, Try.results108, go_sem, bs]) rfl ?_; exact ⟨⟨false, _, l3, rfl, row_stored3 G3.out.1 G3.out.2.2.2.2 _ _ _, G3.out.2.1, G3.out.2.2.1, by have hm := G3.out.2.2.2.1; have h1 := G1.out.2.2.2; have h2 := G2.out.2.2.2; have hN := HN.out; have hk := Hk.out; generalize 2 ^ 0 * num a = x0 at h1 h2 hN hk; generalize 2 ^ n * num b = y0 at h1 h2 hN hk; clear G1 G2 G3 HN Hbw; simp at hN ⊢; omega⟩, below_stored3 Hbw.out (by omega) _ _ _⟩) | (have bs := big_stored R0' R1' R2' (.bool true) (.slice p3 l3.length c3) (.int .i64 ea); refine bodyPost_ret (v := .agg #[.bool true, .slice p3 l3.length c3, .int .i64 ea]) (by simp [results, Try.results108, go_sem, bs]) rfl ?_; exact ⟨⟨true, _, l3, rfl, row_stored3 G3.out.1 G3.out.2.2.2.2 _ _ _, G3.out.2.1, G3.out.2.2.1, by have hm := G3.out.2.2.2.1; have h1 := G1.out.2.2.2; have h2 := G2.out.2.2.2; have hN := HN.out; have hk := Hk.out; generalize 2 ^ 0 * num a = x0 at h1 h2 hN hk; generalize 2 ^ n * num b = y0 at h1 h2 hN hk; clear G1 G2 G3 HN Hbw; simp at hN ⊢; omega⟩, below_stored3 Hbw.out (by omega) _ _ _⟩)
end Go.Proofs.Yteephgpefhodnaa
