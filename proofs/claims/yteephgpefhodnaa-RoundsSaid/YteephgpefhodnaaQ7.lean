/- The document's numbers: Of. -/
import Derived.Test.YteephgpefhodnaaQ6
import Derived.Test.YteephgpefhodnaaB2
namespace Go.Proofs.Yteephgpefhodnaa
open Go.RowKit Go.Sort Go.Fl
set_option linter.unusedSimpArgs false
set_option linter.unusedVariables false

theorem row_lit (w : World) (a b : Nat) : Row (w.alloc (.cells #[.int .u32 (a : Int), .int .u32 (b : Int)] 109)) (.slice (some ⟨w.heap.size, 0, none⟩) 2 2) [a, b] :=
  ⟨rfl, .inr ⟨w.heap.size, 2, #[.int .u32 (a : Int), .int .u32 (b : Int)], rfl, Nat.zero_le _, heap_alloc_new w _, Nat.le_refl _, by unfold maxLen; omega, rfl, rfl⟩⟩
theorem num_two (m : Nat) : num [m % BB, m / BB] = m := by
  simp only [num, Nat.mul_zero, Nat.add_zero]
  exact Nat.mod_add_div m BB
theorem words_two {m : Nat} (h : m ≤ 9007199254740992) : Words [m % BB, m / BB] := by
  intro x hx
  have e := BB_eq
  rcases List.mem_cons.1 hx with rfl | hx
  · exact Nat.mod_lt _ BB_pos
  · have := List.mem_singleton.1 hx
    subst this
    rw [e]; omega
theorem heap_first (w : World) (o1 o2 : Obj) : ((w.alloc o1).alloc o2).heap[w.heap.size]? = some o1 := by
  have h := heap_alloc_new w o1
  rw [heap_alloc_old _ o2 (by simp)]; exact h
set_option maxRecDepth 8000 in
set_option maxHeartbeats 4000000 in
theorem of_z (x : Nat) (hw : Wd x) (s : Bool) (hs : ((x : Int) / 9223372036854775808 == 1) = s) (m : Nat) (E : Int) (hm : bits BinOp.and IntKind.u64 (x : Int) 4503599627370495 = (m : Int)) (hf : bits BinOp.and IntKind.u64 ((x : Int) / 4503599627370496) 2047 = 0) (hM : m ≤ 9007199254740992) (hE : E = -1074) (w : World) :
    Calls Try.prog 106 #[.float .f64 x] w fun e w' => GivesBig w' e (if s = true then -(m : Int) else (m : Int)) E ∧ Below w.heap.size w w' := by
  have ht := run_tobits
  go_enter Try.func106, Try.ntmps106
  go_wp2_with fail
  have hrow := row_lit (w.alloc (.cells #[.bool false, .slice none 0 0, .int .i64 0] 100)) (m % BB) (m / BB)
  have e1 : (((m % BB : Nat) : Int)) = (m : Int) % 4294967296 := by rw [BB_eq]; omega
  have e2 : (((m / BB : Nat) : Int)) = (m : Int) / 4294967296 := by rw [BB_eq]; omega
  rw [e1, e2] at hrow
  have hsz : (w.alloc (.cells #[.bool false, .slice none 0 0, .int .i64 0] 100)).heap.size = w.heap.size + 1 := by simp
  rw [hsz] at hrow
  have LW : ∃ L, L = ((w.alloc (.cells #[.bool false, .slice none 0 0, .int .i64 0] 100)).alloc (.cells #[.int .u32 ((m : Int) % 4294967296), .int .u32 ((m : Int) / 4294967296)] 109)) := ⟨_, rfl⟩
  obtain ⟨L, hL⟩ := LW
  have R0 : At L w.heap.size 0 (.bool false) := by rw [hL]; exact ⟨by simp [go_sem], by simp [go_sem]⟩
  have R1 : At L w.heap.size 1 (.slice none 0 0) := by rw [hL]; exact ⟨by simp [go_sem], by simp [go_sem]⟩
  have R2 : At L w.heap.size 2 (.int .i64 0) := by rw [hL]; exact ⟨by simp [go_sem], by simp [go_sem]⟩
  have hBl : L.heap[w.heap.size]? = some (.cells #[.bool false, .slice none 0 0, .int .i64 0] 100) := by rw [hL]; exact heap_first _ _ _
  have hbw : Below w.heap.size w L := by rw [hL]; go_grown
  rw [← hL] at hrow ⊢
  clear hL hsz
  have f0 := R0.1; have f1 := R1.1; have f2 := R2.1; have z0 := R0.2; have z1 := R1.2; have z2 := R2.2
  have HBl := Lib.hid hBl
  have Hbw := Lib.hid hbw
  clear hBl hbw
  refine (trim_any _ _ (words_two hM) _ hrow).mono ?_
  rintro e w2 ⟨⟨v3, l3, rfl, g1, g2, g3, g4⟩, rfl⟩
  obtain ⟨p3, c3, rfl, _⟩ := g1.len
  have hne := row_ne g1 HBl.out (by decide)
  have G := Lib.hid (And.intro g1 (And.intro g2 (And.intro g3 (And.intro g4 hne))))
  subst hE
  clear g1 g2 g3 g4 hne hrow e1 e2
  by_cases hl : l3.length = 0
  · have hl' := Lib.hid hl
    have hl0 : ¬ (0 : Int) < (l3.length : Int) := by omega
    have hd0 : decide (0 < l3.length) = false := decide_eq_false (by omega)
    clear hl
    cases s
    · go_wp2
      have bs := big_stored R0 R1 R2 (.bool false) (.slice p3 l3.length c3) (.int .i64 (-1074))
      refine bodyPost_ret (v := .agg #[.bool false, .slice p3 l3.length c3, .int .i64 (-1074)]) (by simp [results, Try.results106, go_sem, bs]) rfl ?_
      refine ⟨⟨false, _, l3, rfl, row_stored3 G.out.1 G.out.2.2.2.2 _ _ _, G.out.2.1, G.out.2.2.1, ?_⟩, below_stored3 Hbw.out (Nat.le_refl _) _ _ _⟩
      have hg := G.out.2.2.2.1
      rw [num_two] at hg
      rw [List.length_eq_zero_iff.1 hl'.out] at hg ⊢
      rw [← hg]
      rfl
    · go_wp2
      have bs := big_stored R0 R1 R2 (.bool false) (.slice p3 l3.length c3) (.int .i64 (-1074))
      refine bodyPost_ret (v := .agg #[.bool false, .slice p3 l3.length c3, .int .i64 (-1074)]) (by simp [results, Try.results106, go_sem, bs]) rfl ?_
      refine ⟨⟨false, _, l3, rfl, row_stored3 G.out.1 G.out.2.2.2.2 _ _ _, G.out.2.1, G.out.2.2.1, ?_⟩, below_stored3 Hbw.out (Nat.le_refl _) _ _ _⟩
      have hg := G.out.2.2.2.1
      rw [num_two] at hg
      rw [List.length_eq_zero_iff.1 hl'.out] at hg ⊢
      rw [← hg]
      rfl
  · have hl0 : (0 : Int) < (l3.length : Int) := by omega
    have hd0 : decide (0 < l3.length) = true := decide_eq_true (by omega)
    cases s
    · go_wp2
      have bs := big_stored R0 R1 R2 (.bool false) (.slice p3 l3.length c3) (.int .i64 (-1074))
      refine bodyPost_ret (v := .agg #[.bool false, .slice p3 l3.length c3, .int .i64 (-1074)]) (by simp [results, Try.results106, go_sem, bs]) rfl ?_
      refine ⟨⟨false, _, l3, rfl, row_stored3 G.out.1 G.out.2.2.2.2 _ _ _, G.out.2.1, G.out.2.2.1, ?_⟩, below_stored3 Hbw.out (Nat.le_refl _) _ _ _⟩
      have hg := G.out.2.2.2.1
      rw [num_two] at hg
      rw [← hg]
      rfl
    · go_wp2
      have bs := big_stored R0 R1 R2 (.bool true) (.slice p3 l3.length c3) (.int .i64 (-1074))
      refine bodyPost_ret (v := .agg #[.bool true, .slice p3 l3.length c3, .int .i64 (-1074)]) (by simp [results, Try.results106, go_sem, bs]) rfl ?_
      refine ⟨⟨true, _, l3, rfl, row_stored3 G.out.1 G.out.2.2.2.2 _ _ _, G.out.2.1, G.out.2.2.1, ?_⟩, below_stored3 Hbw.out (Nat.le_refl _) _ _ _⟩
      have hg := G.out.2.2.2.1
      rw [num_two] at hg
      rw [← hg]
      rfl
set_option maxRecDepth 8000 in
set_option maxHeartbeats 4000000 in
theorem of_n (x : Nat) (hw : Wd x) (s : Bool) (hs : ((x : Int) / 9223372036854775808 == 1) = s) (m ef M : Nat) (E : Int) (hm : bits BinOp.and IntKind.u64 (x : Int) 4503599627370495 = (m : Int)) (hf : bits BinOp.and IntKind.u64 ((x : Int) / 4503599627370496) 2047 = (ef : Int)) (hor : bits BinOp.or IntKind.u64 (m : Int) 4503599627370496 = (M : Int)) (hb1 : (1 : Int) ≤ ef) (hb2 : (ef : Int) ≤ 2047) (hM : M ≤ 9007199254740992) (hE : E = (ef : Int) - 1075) (w : World) :
    Calls Try.prog 106 #[.float .f64 x] w fun e w' => GivesBig w' e (if s = true then -(M : Int) else (M : Int)) E ∧ Below w.heap.size w w' := by
  have ht := run_tobits
  go_enter Try.func106, Try.ntmps106
  go_wp2_with fail
  have hrow := row_lit (w.alloc (.cells #[.bool false, .slice none 0 0, .int .i64 0] 100)) (M % BB) (M / BB)
  have e1 : (((M % BB : Nat) : Int)) = (M : Int) % 4294967296 := by rw [BB_eq]; omega
  have e2 : (((M / BB : Nat) : Int)) = (M : Int) / 4294967296 := by rw [BB_eq]; omega
  rw [e1, e2] at hrow
  have hsz : (w.alloc (.cells #[.bool false, .slice none 0 0, .int .i64 0] 100)).heap.size = w.heap.size + 1 := by simp
  rw [hsz] at hrow
  have LW : ∃ L, L = ((w.alloc (.cells #[.bool false, .slice none 0 0, .int .i64 0] 100)).alloc (.cells #[.int .u32 ((M : Int) % 4294967296), .int .u32 ((M : Int) / 4294967296)] 109)) := ⟨_, rfl⟩
  obtain ⟨L, hL⟩ := LW
  have R0 : At L w.heap.size 0 (.bool false) := by rw [hL]; exact ⟨by simp [go_sem], by simp [go_sem]⟩
  have R1 : At L w.heap.size 1 (.slice none 0 0) := by rw [hL]; exact ⟨by simp [go_sem], by simp [go_sem]⟩
  have R2 : At L w.heap.size 2 (.int .i64 0) := by rw [hL]; exact ⟨by simp [go_sem], by simp [go_sem]⟩
  have hBl : L.heap[w.heap.size]? = some (.cells #[.bool false, .slice none 0 0, .int .i64 0] 100) := by rw [hL]; exact heap_first _ _ _
  have hbw : Below w.heap.size w L := by rw [hL]; go_grown
  rw [← hL] at hrow ⊢
  clear hL hsz
  have f0 := R0.1; have f1 := R1.1; have f2 := R2.1; have z0 := R0.2; have z1 := R1.2; have z2 := R2.2
  have HBl := Lib.hid hBl
  have Hbw := Lib.hid hbw
  clear hBl hbw
  refine (trim_any _ _ (words_two hM) _ hrow).mono ?_
  rintro e w2 ⟨⟨v3, l3, rfl, g1, g2, g3, g4⟩, rfl⟩
  obtain ⟨p3, c3, rfl, _⟩ := g1.len
  have hne := row_ne g1 HBl.out (by decide)
  have G := Lib.hid (And.intro g1 (And.intro g2 (And.intro g3 (And.intro g4 hne))))
  subst hE
  clear g1 g2 g3 g4 hne hrow e1 e2
  by_cases hl : l3.length = 0
  · have hl' := Lib.hid hl
    have hl0 : ¬ (0 : Int) < (l3.length : Int) := by omega
    have hd0 : decide (0 < l3.length) = false := decide_eq_false (by omega)
    clear hl
    cases s
    · go_wp2
      have bs := big_stored R0 R1 R2 (.bool false) (.slice p3 l3.length c3) (.int .i64 ((ef : Int) - 1075))
      refine bodyPost_ret (v := .agg #[.bool false, .slice p3 l3.length c3, .int .i64 ((ef : Int) - 1075)]) (by simp [results, Try.results106, go_sem, bs]) rfl ?_
      refine ⟨⟨false, _, l3, rfl, row_stored3 G.out.1 G.out.2.2.2.2 _ _ _, G.out.2.1, G.out.2.2.1, ?_⟩, below_stored3 Hbw.out (Nat.le_refl _) _ _ _⟩
      have hg := G.out.2.2.2.1
      rw [num_two] at hg
      rw [List.length_eq_zero_iff.1 hl'.out] at hg ⊢
      rw [← hg]
      rfl
    · go_wp2
      have bs := big_stored R0 R1 R2 (.bool false) (.slice p3 l3.length c3) (.int .i64 ((ef : Int) - 1075))
      refine bodyPost_ret (v := .agg #[.bool false, .slice p3 l3.length c3, .int .i64 ((ef : Int) - 1075)]) (by simp [results, Try.results106, go_sem, bs]) rfl ?_
      refine ⟨⟨false, _, l3, rfl, row_stored3 G.out.1 G.out.2.2.2.2 _ _ _, G.out.2.1, G.out.2.2.1, ?_⟩, below_stored3 Hbw.out (Nat.le_refl _) _ _ _⟩
      have hg := G.out.2.2.2.1
      rw [num_two] at hg
      rw [List.length_eq_zero_iff.1 hl'.out] at hg ⊢
      rw [← hg]
      rfl
  · have hl0 : (0 : Int) < (l3.length : Int) := by omega
    have hd0 : decide (0 < l3.length) = true := decide_eq_true (by omega)
    cases s
    · go_wp2
      have bs := big_stored R0 R1 R2 (.bool false) (.slice p3 l3.length c3) (.int .i64 ((ef : Int) - 1075))
      refine bodyPost_ret (v := .agg #[.bool false, .slice p3 l3.length c3, .int .i64 ((ef : Int) - 1075)]) (by simp [results, Try.results106, go_sem, bs]) rfl ?_
      refine ⟨⟨false, _, l3, rfl, row_stored3 G.out.1 G.out.2.2.2.2 _ _ _, G.out.2.1, G.out.2.2.1, ?_⟩, below_stored3 Hbw.out (Nat.le_refl _) _ _ _⟩
      have hg := G.out.2.2.2.1
      rw [num_two] at hg
      rw [← hg]
      rfl
    · go_wp2
      have bs := big_stored R0 R1 R2 (.bool true) (.slice p3 l3.length c3) (.int .i64 ((ef : Int) - 1075))
      refine bodyPost_ret (v := .agg #[.bool true, .slice p3 l3.length c3, .int .i64 ((ef : Int) - 1075)]) (by simp [results, Try.results106, go_sem, bs]) rfl ?_
      refine ⟨⟨true, _, l3, rfl, row_stored3 G.out.1 G.out.2.2.2.2 _ _ _, G.out.2.1, G.out.2.2.1, ?_⟩, below_stored3 Hbw.out (Nat.le_refl _) _ _ _⟩
      have hg := G.out.2.2.2.1
      rw [num_two] at hg
      rw [← hg]
      rfl
end Go.Proofs.Yteephgpefhodnaa
