/- Package ivl: sizes, squares, roots, and the functions that find hands out. -/
import Derived.Test.YteephgpefhodnabC2
namespace Go.Proofs.Yteephgpefhodnab
open Go.RowKit Go.Sort Go.Fl
set_option linter.unusedSimpArgs false
set_option linter.unusedVariables false

def absLo (a b : Int) : Int := if 0 ≤ a then a else if b ≤ 0 then -b else 0
def absHi (a b : Int) : Int := if 0 ≤ a then b else if b ≤ 0 then -a else max b (-a)
theorem absLo_rg {a b : Int} (ha : Rg a) (hb : Rg b) : Rg (absLo a b) := by
  unfold absLo; split
  · exact ha
  · split
    · exact Rg_neg hb
    · exact Rg_zero
theorem absHi_rg {a b : Int} (ha : Rg a) (hb : Rg b) : Rg (absHi a b) := by
  unfold absHi; split
  · exact hb
  · split
    · exact Rg_neg ha
    · exact rg_max hb (Rg_neg ha)

theorem ivlabs_any (a b : Int) (ha : Rg a) (hb : Rg b) (w : World) :
    Calls Try.prog 29 #[.agg #[.float .f64 (ofKey (a)), .float .f64 (ofKey (b))]] w fun e w' => e = .returned (.agg #[.float .f64 (ofKey (absLo a b)), .float .f64 (ofKey (absHi a b))]) ∧ Below w.heap.size w w' := by
  by_cases h1 : 0 ≤ a
  · rw [show absLo a b = a by unfold absLo; rw [if_pos h1], show absHi a b = b by unfold absHi; rw [if_pos h1]]
    go_enter Try.func29, Try.ntmps29
    go_wp2_with fail
    go_returns
    exact ⟨rfl, by go_grown⟩
  · by_cases h2 : b ≤ 0
    · rw [show absLo a b = -b by unfold absLo; rw [if_neg h1, if_pos h2], show absHi a b = -a by unfold absHi; rw [if_neg h1, if_pos h2]]
      go_enter Try.func29, Try.ntmps29
      go_wp2_with fail
      refine (ivlneg_any _ _ ha hb _).mono ?_
      rintro e w1 ⟨rfl, hbw1⟩
      have A0_0 : At (World.alloc (World.alloc w (.cells #[.float .f64 (ofKey (a)), .float .f64 (ofKey (b))] 27)) (.cells #[.float .f64 (0), .float .f64 (0)] 27)) (w.heap.size) 0 (.float .f64 (ofKey (a))) := ⟨by simp [go_sem], by simp [go_sem]⟩
      have A0_1 : At (World.alloc (World.alloc w (.cells #[.float .f64 (ofKey (a)), .float .f64 (ofKey (b))] 27)) (.cells #[.float .f64 (0), .float .f64 (0)] 27)) (w.heap.size) 1 (.float .f64 (ofKey (b))) := ⟨by simp [go_sem], by simp [go_sem]⟩
      have A1_0 : At (World.alloc (World.alloc w (.cells #[.float .f64 (ofKey (a)), .float .f64 (ofKey (b))] 27)) (.cells #[.float .f64 (0), .float .f64 (0)] 27)) (w.heap.size + 1) 0 (.float .f64 (0)) := ⟨by simp [go_sem], by simp [go_sem]⟩
      have A1_1 : At (World.alloc (World.alloc w (.cells #[.float .f64 (ofKey (a)), .float .f64 (ofKey (b))] 27)) (.cells #[.float .f64 (0), .float .f64 (0)] 27)) (w.heap.size + 1) 1 (.float .f64 (0)) := ⟨by simp [go_sem], by simp [go_sem]⟩
      replace A0_0 := At.below (A0_0) hbw1
      replace A0_1 := At.below (A0_1) hbw1
      replace A1_0 := At.below (A1_0) hbw1
      replace A1_1 := At.below (A1_1) hbw1
      have B := below_alloc (below_alloc (hbw1))
      clear hbw1
      have F0_0 := A0_0.1; have G0_0 := A0_0.2
      have F0_1 := A0_1.1; have G0_1 := A0_1.2
      have F1_0 := A1_0.1; have G1_0 := A1_0.2
      have F1_1 := A1_1.1; have G1_1 := A1_1.2
      have Z0 := A0_0.lt
      have Z1 := A1_0.lt
      go_wp2_with fail
      clear F0_0 G0_0 F0_1 G0_1 F1_0 G1_0 F1_1 G1_1 Z0 Z1
      replace A0_0 := At.set_blk (b' := w.heap.size + 1) (f' := 0) A0_0 (by first | omega | (have := B.size; omega)) (.float .f64 (ofKey (-b)))
      replace A0_1 := At.set_blk (b' := w.heap.size + 1) (f' := 0) A0_1 (by first | omega | (have := B.size; omega)) (.float .f64 (ofKey (-b)))
      replace A1_0 := At.set_same A1_0 (.float .f64 (ofKey (-b)))
      replace A1_1 := At.set_off (f' := 0) A1_1 (by decide) (.float .f64 (ofKey (-b)))
      replace A0_0 := At.set_blk (b' := w.heap.size + 1) (f' := 1) A0_0 (by first | omega | (have := B.size; omega)) (.float .f64 (ofKey (-a)))
      replace A0_1 := At.set_blk (b' := w.heap.size + 1) (f' := 1) A0_1 (by first | omega | (have := B.size; omega)) (.float .f64 (ofKey (-a)))
      replace A1_0 := At.set_off (f' := 1) A1_0 (by decide) (.float .f64 (ofKey (-a)))
      replace A1_1 := At.set_same A1_1 (.float .f64 (ofKey (-a)))
      have n1 : w.heap.size < w1.heap.size := by simpa only [World.size_setCell] using At.lt A0_0
      have n2 : w.heap.size + 1 < w1.heap.size := by simpa only [World.size_setCell] using At.lt A1_0
      replace A0_0 : At (World.alloc (World.setCell (World.setCell w1 ⟨w.heap.size + 1, 0, none⟩ (.float .f64 (ofKey (-b)))) ⟨w.heap.size + 1, 1, none⟩ (.float .f64 (ofKey (-a)))) (.cells #[.float .f64 (ofKey (-b)), .float .f64 (ofKey (-a))] 27)) _ _ _ := At.alloc (A0_0)
      replace A0_1 : At (World.alloc (World.setCell (World.setCell w1 ⟨w.heap.size + 1, 0, none⟩ (.float .f64 (ofKey (-b)))) ⟨w.heap.size + 1, 1, none⟩ (.float .f64 (ofKey (-a)))) (.cells #[.float .f64 (ofKey (-b)), .float .f64 (ofKey (-a))] 27)) _ _ _ := At.alloc (A0_1)
      replace A1_0 : At (World.alloc (World.setCell (World.setCell w1 ⟨w.heap.size + 1, 0, none⟩ (.float .f64 (ofKey (-b)))) ⟨w.heap.size + 1, 1, none⟩ (.float .f64 (ofKey (-a)))) (.cells #[.float .f64 (ofKey (-b)), .float .f64 (ofKey (-a))] 27)) _ _ _ := At.alloc (A1_0)
      replace A1_1 : At (World.alloc (World.setCell (World.setCell w1 ⟨w.heap.size + 1, 0, none⟩ (.float .f64 (ofKey (-b)))) ⟨w.heap.size + 1, 1, none⟩ (.float .f64 (ofKey (-a)))) (.cells #[.float .f64 (ofKey (-b)), .float .f64 (ofKey (-a))] 27)) _ _ _ := At.alloc (A1_1)
      have A2_0 : At (World.alloc (World.setCell (World.setCell w1 ⟨w.heap.size + 1, 0, none⟩ (.float .f64 (ofKey (-b)))) ⟨w.heap.size + 1, 1, none⟩ (.float .f64 (ofKey (-a)))) (.cells #[.float .f64 (ofKey (-b)), .float .f64 (ofKey (-a))] 27)) (w1.heap.size) 0 (.float .f64 (ofKey (-b))) := ⟨by simp [go_sem], by simp [go_sem]⟩
      have A2_1 : At (World.alloc (World.setCell (World.setCell w1 ⟨w.heap.size + 1, 0, none⟩ (.float .f64 (ofKey (-b)))) ⟨w.heap.size + 1, 1, none⟩ (.float .f64 (ofKey (-a)))) (.cells #[.float .f64 (ofKey (-b)), .float .f64 (ofKey (-a))] 27)) (w1.heap.size) 1 (.float .f64 (ofKey (-a))) := ⟨by simp [go_sem], by simp [go_sem]⟩
      have B' : Below w.heap.size w (World.alloc (World.setCell (World.setCell w1 ⟨w.heap.size + 1, 0, none⟩ (.float .f64 (ofKey (-b)))) ⟨w.heap.size + 1, 1, none⟩ (.float .f64 (ofKey (-a)))) (.cells #[.float .f64 (ofKey (-b)), .float .f64 (ofKey (-a))] 27)) := (Below.alloc (Below.setCell (Below.setCell B (p := ⟨w.heap.size + 1, 0, none⟩) (by first | (show w.heap.size ≤ w.heap.size + 1; omega) | (have := B.size; show w.heap.size ≤ w.heap.size + 1; omega)) (.float .f64 (ofKey (-b)))) (p := ⟨w.heap.size + 1, 1, none⟩) (by first | (show w.heap.size ≤ w.heap.size + 1; omega) | (have := B.size; show w.heap.size ≤ w.heap.size + 1; omega)) (.float .f64 (ofKey (-a)))) (by first | exact B.size | (simp only [World.size_setCell, World.size_alloc]; have := B.size; omega)) _)
      clear B
      obtain ⟨wz, hwz⟩ : ∃ wz, wz = (World.alloc (World.setCell (World.setCell w1 ⟨w.heap.size + 1, 0, none⟩ (.float .f64 (ofKey (-b)))) ⟨w.heap.size + 1, 1, none⟩ (.float .f64 (ofKey (-a)))) (.cells #[.float .f64 (ofKey (-b)), .float .f64 (ofKey (-a))] 27)) := ⟨_, rfl⟩
      rw [← hwz]
      replace A0_0 := At.of A0_0 hwz
      replace A0_1 := At.of A0_1 hwz
      replace A1_0 := At.of A1_0 hwz
      replace A1_1 := At.of A1_1 hwz
      replace A2_0 := At.of A2_0 hwz
      replace A2_1 := At.of A2_1 hwz
      have B := below_of B' hwz
      clear B' hwz
      have F0_0 := A0_0.1; have G0_0 := A0_0.2
      have F0_1 := A0_1.1; have G0_1 := A0_1.2
      have F1_0 := A1_0.1; have G1_0 := A1_0.2
      have F1_1 := A1_1.1; have G1_1 := A1_1.2
      have F2_0 := A2_0.1; have G2_0 := A2_0.2
      have F2_1 := A2_1.1; have G2_1 := A2_1.2
      have Z0 := A0_0.lt
      have Z1 := A1_0.lt
      have Z2 := A2_0.lt
      refine bodyPost_ret (v := .agg #[.float .f64 (ofKey (-b)), .float .f64 (ofKey (-a))]) (by simp [results, Try.results29, go_sem, F1_0, F1_1]) rfl ⟨rfl, ?_⟩
      exact B
    · have rm := rg_max hb (Rg_neg ha)
      rw [show absLo a b = 0 by unfold absLo; rw [if_neg h1, if_neg h2], show absHi a b = max b (-a) by unfold absHi; rw [if_neg h1, if_neg h2]]
      go_enter Try.func29, Try.ntmps29
      go_wp2_with fail
      refine (ivlneg_any _ _ ha hb _).mono ?_
      rintro e w1 ⟨rfl, hbw1⟩
      have A0_0 : At (World.alloc (World.alloc w (.cells #[.float .f64 (ofKey (a)), .float .f64 (ofKey (b))] 27)) (.cells #[.float .f64 (0), .float .f64 (0)] 27)) (w.heap.size) 0 (.float .f64 (ofKey (a))) := ⟨by simp [go_sem], by simp [go_sem]⟩
      have A0_1 : At (World.alloc (World.alloc w (.cells #[.float .f64 (ofKey (a)), .float .f64 (ofKey (b))] 27)) (.cells #[.float .f64 (0), .float .f64 (0)] 27)) (w.heap.size) 1 (.float .f64 (ofKey (b))) := ⟨by simp [go_sem], by simp [go_sem]⟩
      have A1_0 : At (World.alloc (World.alloc w (.cells #[.float .f64 (ofKey (a)), .float .f64 (ofKey (b))] 27)) (.cells #[.float .f64 (0), .float .f64 (0)] 27)) (w.heap.size + 1) 0 (.float .f64 (0)) := ⟨by simp [go_sem], by simp [go_sem]⟩
      have A1_1 : At (World.alloc (World.alloc w (.cells #[.float .f64 (ofKey (a)), .float .f64 (ofKey (b))] 27)) (.cells #[.float .f64 (0), .float .f64 (0)] 27)) (w.heap.size + 1) 1 (.float .f64 (0)) := ⟨by simp [go_sem], by simp [go_sem]⟩
      replace A0_0 := At.below (A0_0) hbw1
      replace A0_1 := At.below (A0_1) hbw1
      replace A1_0 := At.below (A1_0) hbw1
      replace A1_1 := At.below (A1_1) hbw1
      have B := below_alloc (below_alloc (hbw1))
      clear hbw1
      have F0_0 := A0_0.1; have G0_0 := A0_0.2
      have F0_1 := A0_1.1; have G0_1 := A0_1.2
      have F1_0 := A1_0.1; have G1_0 := A1_0.2
      have F1_1 := A1_1.1; have G1_1 := A1_1.2
      have Z0 := A0_0.lt
      have Z1 := A1_0.lt
      go_wp2_with fail
      clear F0_0 G0_0 F0_1 G0_1 F1_0 G1_0 F1_1 G1_1 Z0 Z1
      replace A0_0 := At.set_blk (b' := w.heap.size + 1) (f' := 0) A0_0 (by first | omega | (have := B.size; omega)) (.float .f64 (0))
      replace A0_1 := At.set_blk (b' := w.heap.size + 1) (f' := 0) A0_1 (by first | omega | (have := B.size; omega)) (.float .f64 (0))
      replace A1_0 := At.set_same A1_0 (.float .f64 (0))
      replace A1_1 := At.set_off (f' := 0) A1_1 (by decide) (.float .f64 (0))
      replace A0_0 := At.set_blk (b' := w.heap.size + 1) (f' := 1) A0_0 (by first | omega | (have := B.size; omega)) (.float .f64 (ofKey (max b (-a))))
      replace A0_1 := At.set_blk (b' := w.heap.size + 1) (f' := 1) A0_1 (by first | omega | (have := B.size; omega)) (.float .f64 (ofKey (max b (-a))))
      replace A1_0 := At.set_off (f' := 1) A1_0 (by decide) (.float .f64 (ofKey (max b (-a))))
      replace A1_1 := At.set_same A1_1 (.float .f64 (ofKey (max b (-a))))
      have n1 : w.heap.size < w1.heap.size := by simpa only [World.size_setCell] using At.lt A0_0
      have n2 : w.heap.size + 1 < w1.heap.size := by simpa only [World.size_setCell] using At.lt A1_0
      replace A0_0 : At (World.alloc (World.setCell (World.setCell w1 ⟨w.heap.size + 1, 0, none⟩ (.float .f64 (0))) ⟨w.heap.size + 1, 1, none⟩ (.float .f64 (ofKey (max b (-a))))) (.cells #[.float .f64 (ofKey (-b)), .float .f64 (ofKey (-a))] 27)) _ _ _ := At.alloc (A0_0)
      replace A0_1 : At (World.alloc (World.setCell (World.setCell w1 ⟨w.heap.size + 1, 0, none⟩ (.float .f64 (0))) ⟨w.heap.size + 1, 1, none⟩ (.float .f64 (ofKey (max b (-a))))) (.cells #[.float .f64 (ofKey (-b)), .float .f64 (ofKey (-a))] 27)) _ _ _ := At.alloc (A0_1)
      replace A1_0 : At (World.alloc (World.setCell (World.setCell w1 ⟨w.heap.size + 1, 0, none⟩ (.float .f64 (0))) ⟨w.heap.size + 1, 1, none⟩ (.float .f64 (ofKey (max b (-a))))) (.cells #[.float .f64 (ofKey (-b)), .float .f64 (ofKey (-a))] 27)) _ _ _ := At.alloc (A1_0)
      replace A1_1 : At (World.alloc (World.setCell (World.setCell w1 ⟨w.heap.size + 1, 0, none⟩ (.float .f64 (0))) ⟨w.heap.size + 1, 1, none⟩ (.float .f64 (ofKey (max b (-a))))) (.cells #[.float .f64 (ofKey (-b)), .float .f64 (ofKey (-a))] 27)) _ _ _ := At.alloc (A1_1)
      have A2_0 : At (World.alloc (World.setCell (World.setCell w1 ⟨w.heap.size + 1, 0, none⟩ (.float .f64 (0))) ⟨w.heap.size + 1, 1, none⟩ (.float .f64 (ofKey (max b (-a))))) (.cells #[.float .f64 (ofKey (-b)), .float .f64 (ofKey (-a))] 27)) (w1.heap.size) 0 (.float .f64 (ofKey (-b))) := ⟨by simp [go_sem], by simp [go_sem]⟩
      have A2_1 : At (World.alloc (World.setCell (World.setCell w1 ⟨w.heap.size + 1, 0, none⟩ (.float .f64 (0))) ⟨w.heap.size + 1, 1, none⟩ (.float .f64 (ofKey (max b (-a))))) (.cells #[.float .f64 (ofKey (-b)), .float .f64 (ofKey (-a))] 27)) (w1.heap.size) 1 (.float .f64 (ofKey (-a))) := ⟨by simp [go_sem], by simp [go_sem]⟩
      have B' : Below w.heap.size w (World.alloc (World.setCell (World.setCell w1 ⟨w.heap.size + 1, 0, none⟩ (.float .f64 (0))) ⟨w.heap.size + 1, 1, none⟩ (.float .f64 (ofKey (max b (-a))))) (.cells #[.float .f64 (ofKey (-b)), .float .f64 (ofKey (-a))] 27)) := (Below.alloc (Below.setCell (Below.setCell B (p := ⟨w.heap.size + 1, 0, none⟩) (by first | (show w.heap.size ≤ w.heap.size + 1; omega) | (have := B.size; show w.heap.size ≤ w.heap.size + 1; omega)) (.float .f64 (0))) (p := ⟨w.heap.size + 1, 1, none⟩) (by first | (show w.heap.size ≤ w.heap.size + 1; omega) | (have := B.size; show w.heap.size ≤ w.heap.size + 1; omega)) (.float .f64 (ofKey (max b (-a))))) (by first | exact B.size | (simp only [World.size_setCell, World.size_alloc]; have := B.size; omega)) _)
      clear B
      obtain ⟨wz, hwz⟩ : ∃ wz, wz = (World.alloc (World.setCell (World.setCell w1 ⟨w.heap.size + 1, 0, none⟩ (.float .f64 (0))) ⟨w.heap.size + 1, 1, none⟩ (.float .f64 (ofKey (max b (-a))))) (.cells #[.float .f64 (ofKey (-b)), .float .f64 (ofKey (-a))] 27)) := ⟨_, rfl⟩
      rw [← hwz]
      replace A0_0 := At.of A0_0 hwz
      replace A0_1 := At.of A0_1 hwz
      replace A1_0 := At.of A1_0 hwz
      replace A1_1 := At.of A1_1 hwz
      replace A2_0 := At.of A2_0 hwz
      replace A2_1 := At.of A2_1 hwz
      have B := below_of B' hwz
      clear B' hwz
      have F0_0 := A0_0.1; have G0_0 := A0_0.2
      have F0_1 := A0_1.1; have G0_1 := A0_1.2
      have F1_0 := A1_0.1; have G1_0 := A1_0.2
      have F1_1 := A1_1.1; have G1_1 := A1_1.2
      have F2_0 := A2_0.1; have G2_0 := A2_0.2
      have F2_1 := A2_1.1; have G2_1 := A2_1.2
      have Z0 := A0_0.lt
      have Z1 := A1_0.lt
      have Z2 := A2_0.lt
      refine bodyPost_ret (v := .agg #[.float .f64 0, .float .f64 (ofKey (max b (-a)))]) (by simp [results, Try.results29, go_sem, F1_0, F1_1]) rfl ⟨rfl, ?_⟩
      exact B

theorem ivlsqr_any (a b : Int) (ha : Rg a) (hb : Rg b) (w : World) :
    Calls Try.prog 30 #[.agg #[.float .f64 (ofKey (a)), .float .f64 (ofKey (b))]] w fun e w' => e = .returned (.agg #[.float .f64 (ofKey (endK 8 (absLo a b) (absLo a b) false)), .float .f64 (ofKey (endK 8 (absHi a b) (absHi a b) true))]) ∧ Below w.heap.size w w' := by
  have rl := absLo_rg ha hb
  have rh := absHi_rg ha hb
  have EA := Lib.hid (fun w => ivlend_any 8 (absLo a b) (absLo a b) false rl rl (.inr (.inl rfl)) w)
  have EB := Lib.hid (fun w => ivlend_any 8 (absHi a b) (absHi a b) true rh rh (.inr (.inl rfl)) w)
  have AB := Lib.hid (fun w => ivlabs_any a b ha hb w)
  generalize absLo a b = l at *
  generalize absHi a b = h at *
  generalize endK 8 l l false = x at *
  generalize endK 8 h h true = y at *
  go_enter Try.func30, Try.ntmps30
  go_wp2_with fail
  refine (AB.out _).mono ?_
  rintro e w1 ⟨rfl, hbw1⟩
  have A0_0 : At (World.alloc (World.alloc w (.cells #[.float .f64 (ofKey (a)), .float .f64 (ofKey (b))] 27)) (.cells #[.float .f64 (0), .float .f64 (0)] 27)) (w.heap.size) 0 (.float .f64 (ofKey (a))) := ⟨by simp [go_sem], by simp [go_sem]⟩
  have A0_1 : At (World.alloc (World.alloc w (.cells #[.float .f64 (ofKey (a)), .float .f64 (ofKey (b))] 27)) (.cells #[.float .f64 (0), .float .f64 (0)] 27)) (w.heap.size) 1 (.float .f64 (ofKey (b))) := ⟨by simp [go_sem], by simp [go_sem]⟩
  have A1_0 : At (World.alloc (World.alloc w (.cells #[.float .f64 (ofKey (a)), .float .f64 (ofKey (b))] 27)) (.cells #[.float .f64 (0), .float .f64 (0)] 27)) (w.heap.size + 1) 0 (.float .f64 (0)) := ⟨by simp [go_sem], by simp [go_sem]⟩
  have A1_1 : At (World.alloc (World.alloc w (.cells #[.float .f64 (ofKey (a)), .float .f64 (ofKey (b))] 27)) (.cells #[.float .f64 (0), .float .f64 (0)] 27)) (w.heap.size + 1) 1 (.float .f64 (0)) := ⟨by simp [go_sem], by simp [go_sem]⟩
  replace A0_0 := At.below (A0_0) hbw1
  replace A0_1 := At.below (A0_1) hbw1
  replace A1_0 := At.below (A1_0) hbw1
  replace A1_1 := At.below (A1_1) hbw1
  have B := below_alloc (below_alloc (hbw1))
  clear hbw1
  have F0_0 := A0_0.1; have G0_0 := A0_0.2
  have F0_1 := A0_1.1; have G0_1 := A0_1.2
  have F1_0 := A1_0.1; have G1_0 := A1_0.2
  have F1_1 := A1_1.1; have G1_1 := A1_1.2
  have Z0 := A0_0.lt
  have Z1 := A1_0.lt
  go_wp2_with fail
  clear F0_0 G0_0 F0_1 G0_1 F1_0 G1_0 F1_1 G1_1 Z0 Z1
  replace A0_0 := At.set_same A0_0 (.float .f64 (ofKey (l)))
  replace A0_1 := At.set_off (f' := 0) A0_1 (by decide) (.float .f64 (ofKey (l)))
  replace A1_0 := At.set_blk (b' := w.heap.size) (f' := 0) A1_0 (by first | omega | (have := B.size; omega)) (.float .f64 (ofKey (l)))
  replace A1_1 := At.set_blk (b' := w.heap.size) (f' := 0) A1_1 (by first | omega | (have := B.size; omega)) (.float .f64 (ofKey (l)))
  replace A0_0 := At.set_off (f' := 1) A0_0 (by decide) (.float .f64 (ofKey (h)))
  replace A0_1 := At.set_same A0_1 (.float .f64 (ofKey (h)))
  replace A1_0 := At.set_blk (b' := w.heap.size) (f' := 1) A1_0 (by first | omega | (have := B.size; omega)) (.float .f64 (ofKey (h)))
  replace A1_1 := At.set_blk (b' := w.heap.size) (f' := 1) A1_1 (by first | omega | (have := B.size; omega)) (.float .f64 (ofKey (h)))
  have B' : Below w.heap.size w (World.setCell (World.setCell w1 ⟨w.heap.size, 0, none⟩ (.float .f64 (ofKey (l)))) ⟨w.heap.size, 1, none⟩ (.float .f64 (ofKey (h)))) := (Below.setCell (Below.setCell B (p := ⟨w.heap.size, 0, none⟩) (by first | (show w.heap.size ≤ w.heap.size; omega) | (have := B.size; show w.heap.size ≤ w.heap.size; omega)) (.float .f64 (ofKey (l)))) (p := ⟨w.heap.size, 1, none⟩) (by first | (show w.heap.size ≤ w.heap.size; omega) | (have := B.size; show w.heap.size ≤ w.heap.size; omega)) (.float .f64 (ofKey (h))))
  clear B
  obtain ⟨w2, hw2⟩ : ∃ w2, w2 = (World.setCell (World.setCell w1 ⟨w.heap.size, 0, none⟩ (.float .f64 (ofKey (l)))) ⟨w.heap.size, 1, none⟩ (.float .f64 (ofKey (h)))) := ⟨_, rfl⟩
  rw [← hw2]
  replace A0_0 := At.of A0_0 hw2
  replace A0_1 := At.of A0_1 hw2
  replace A1_0 := At.of A1_0 hw2
  replace A1_1 := At.of A1_1 hw2
  have B := below_of B' hw2
  clear B' hw2
  have F0_0 := A0_0.1; have G0_0 := A0_0.2
  have F0_1 := A0_1.1; have G0_1 := A0_1.2
  have F1_0 := A1_0.1; have G1_0 := A1_0.2
  have F1_1 := A1_1.1; have G1_1 := A1_1.2
  have Z0 := A0_0.lt
  have Z1 := A1_0.lt
  have k0_0 := cell_regrown A0_0.1
  have k0_1 := cell_regrown A0_1.1
  have k1_0 := cell_regrown A1_0.1
  have k1_1 := cell_regrown A1_1.1
  refine wp_region_below_tail 11 (by kernel_rfl) (by kernel_rfl) ?_
  simp only [List.take_succ_cons, List.take_zero, List.drop_succ_cons, List.drop_zero]
  repeat (go_big_quiet_step ((first | (with_reducible exact Calls.regrown_of (EA.out _)) | (with_reducible exact Calls.regrown_of (EB.out _)))))
  refine wpQuiet_nil (fun w3 hbw3 => ?_)
  clear k0_0 k0_1 k1_0 k1_1
  clear F0_0 G0_0 F0_1 G0_1 F1_0 G1_0 F1_1 G1_1 Z0 Z1
  replace A0_0 := At.below (A0_0) hbw3
  replace A0_1 := At.below (A0_1) hbw3
  replace A1_0 := At.below (A1_0) hbw3
  replace A1_1 := At.below (A1_1) hbw3
  replace B := below_step B B.size (hbw3)
  clear hbw3
  have F0_0 := A0_0.1; have G0_0 := A0_0.2
  have F0_1 := A0_1.1; have G0_1 := A0_1.2
  have F1_0 := A1_0.1; have G1_0 := A1_0.2
  have F1_1 := A1_1.1; have G1_1 := A1_1.2
  have Z0 := A0_0.lt
  have Z1 := A1_0.lt
  go_wp2_with fail
  clear F0_0 G0_0 F0_1 G0_1 F1_0 G1_0 F1_1 G1_1 Z0 Z1
  replace A0_0 := At.set_blk (b' := w.heap.size + 1) (f' := 0) A0_0 (by first | omega | (have := B.size; omega)) (.float .f64 (ofKey (x)))
  replace A0_1 := At.set_blk (b' := w.heap.size + 1) (f' := 0) A0_1 (by first | omega | (have := B.size; omega)) (.float .f64 (ofKey (x)))
  replace A1_0 := At.set_same A1_0 (.float .f64 (ofKey (x)))
  replace A1_1 := At.set_off (f' := 0) A1_1 (by decide) (.float .f64 (ofKey (x)))
  replace A0_0 := At.set_blk (b' := w.heap.size + 1) (f' := 1) A0_0 (by first | omega | (have := B.size; omega)) (.float .f64 (ofKey (y)))
  replace A0_1 := At.set_blk (b' := w.heap.size + 1) (f' := 1) A0_1 (by first | omega | (have := B.size; omega)) (.float .f64 (ofKey (y)))
  replace A1_0 := At.set_off (f' := 1) A1_0 (by decide) (.float .f64 (ofKey (y)))
  replace A1_1 := At.set_same A1_1 (.float .f64 (ofKey (y)))
  have B' : Below w.heap.size w (World.setCell (World.setCell w3 ⟨w.heap.size + 1, 0, none⟩ (.float .f64 (ofKey (x)))) ⟨w.heap.size + 1, 1, none⟩ (.float .f64 (ofKey (y)))) := (Below.setCell (Below.setCell B (p := ⟨w.heap.size + 1, 0, none⟩) (by first | (show w.heap.size ≤ w.heap.size + 1; omega) | (have := B.size; show w.heap.size ≤ w.heap.size + 1; omega)) (.float .f64 (ofKey (x)))) (p := ⟨w.heap.size + 1, 1, none⟩) (by first | (show w.heap.size ≤ w.heap.size + 1; omega) | (have := B.size; show w.heap.size ≤ w.heap.size + 1; omega)) (.float .f64 (ofKey (y))))
  clear B
  obtain ⟨wz, hwz⟩ : ∃ wz, wz = (World.setCell (World.setCell w3 ⟨w.heap.size + 1, 0, none⟩ (.float .f64 (ofKey (x)))) ⟨w.heap.size + 1, 1, none⟩ (.float .f64 (ofKey (y)))) := ⟨_, rfl⟩
  rw [← hwz]
  replace A0_0 := At.of A0_0 hwz
  replace A0_1 := At.of A0_1 hwz
  replace A1_0 := At.of A1_0 hwz
  replace A1_1 := At.of A1_1 hwz
  have B := below_of B' hwz
  clear B' hwz
  have F0_0 := A0_0.1; have G0_0 := A0_0.2
  have F0_1 := A0_1.1; have G0_1 := A0_1.2
  have F1_0 := A1_0.1; have G1_0 := A1_0.2
  have F1_1 := A1_1.1; have G1_1 := A1_1.2
  have Z0 := A0_0.lt
  have Z1 := A1_0.lt
  refine bodyPost_ret (v := .agg #[.float .f64 (ofKey (x)), .float .f64 (ofKey (y))]) (by simp [results, Try.results30, go_sem, F1_0, F1_1]) rfl ⟨rfl, ?_⟩
  exact B

theorem find3_any (a b c d : Int) (ha : Rg a) (hb : Rg b) (hc : Rg c) (hd : Rg d) (h1 : EndOk 6 a (-d)) (h2 : EndOk 6 b (-c)) (w : World) :
    Calls Try.prog 35 #[.agg #[.float .f64 (ofKey (a)), .float .f64 (ofKey (b))], .agg #[.float .f64 (ofKey (c)), .float .f64 (ofKey (d))]] w fun e w' => e = .returned (.agg #[.float .f64 (ofKey (endK 6 a (-d) false)), .float .f64 (ofKey (endK 6 b (-c) true))]) ∧ Below w.heap.size w w' := by
  have NE := Lib.hid (fun w => ivlneg_any c d hc hd w)
  have AD := Lib.hid (fun w => ivladd_any a b (-d) (-c) ha hb (Rg_neg hd) (Rg_neg hc) h1 h2 w)
  generalize endK 6 a (-d) false = x at *
  generalize endK 6 b (-c) true = y at *
  clear h1 h2
  go_enter Try.func35, Try.ntmps35
  go_wp2_with fail
  have A0_0 : At (World.alloc (World.alloc (World.alloc w (.cells #[.float .f64 (ofKey (a)), .float .f64 (ofKey (b))] 27)) (.cells #[.float .f64 (ofKey (c)), .float .f64 (ofKey (d))] 27)) (.cells #[.float .f64 (0), .float .f64 (0)] 27)) (w.heap.size) 0 (.float .f64 (ofKey (a))) := ⟨by simp [go_sem], by simp [go_sem]⟩
  have A0_1 : At (World.alloc (World.alloc (World.alloc w (.cells #[.float .f64 (ofKey (a)), .float .f64 (ofKey (b))] 27)) (.cells #[.float .f64 (ofKey (c)), .float .f64 (ofKey (d))] 27)) (.cells #[.float .f64 (0), .float .f64 (0)] 27)) (w.heap.size) 1 (.float .f64 (ofKey (b))) := ⟨by simp [go_sem], by simp [go_sem]⟩
  have A1_0 : At (World.alloc (World.alloc (World.alloc w (.cells #[.float .f64 (ofKey (a)), .float .f64 (ofKey (b))] 27)) (.cells #[.float .f64 (ofKey (c)), .float .f64 (ofKey (d))] 27)) (.cells #[.float .f64 (0), .float .f64 (0)] 27)) (w.heap.size + 1) 0 (.float .f64 (ofKey (c))) := ⟨by simp [go_sem], by simp [go_sem]⟩
  have A1_1 : At (World.alloc (World.alloc (World.alloc w (.cells #[.float .f64 (ofKey (a)), .float .f64 (ofKey (b))] 27)) (.cells #[.float .f64 (ofKey (c)), .float .f64 (ofKey (d))] 27)) (.cells #[.float .f64 (0), .float .f64 (0)] 27)) (w.heap.size + 1) 1 (.float .f64 (ofKey (d))) := ⟨by simp [go_sem], by simp [go_sem]⟩
  have A2_0 : At (World.alloc (World.alloc (World.alloc w (.cells #[.float .f64 (ofKey (a)), .float .f64 (ofKey (b))] 27)) (.cells #[.float .f64 (ofKey (c)), .float .f64 (ofKey (d))] 27)) (.cells #[.float .f64 (0), .float .f64 (0)] 27)) (w.heap.size + 1 + 1) 0 (.float .f64 (0)) := ⟨by simp [go_sem], by simp [go_sem]⟩
  have A2_1 : At (World.alloc (World.alloc (World.alloc w (.cells #[.float .f64 (ofKey (a)), .float .f64 (ofKey (b))] 27)) (.cells #[.float .f64 (ofKey (c)), .float .f64 (ofKey (d))] 27)) (.cells #[.float .f64 (0), .float .f64 (0)] 27)) (w.heap.size + 1 + 1) 1 (.float .f64 (0)) := ⟨by simp [go_sem], by simp [go_sem]⟩
  have k0_0 := cell_regrown A0_0.1
  have k0_1 := cell_regrown A0_1.1
  have k1_0 := cell_regrown A1_0.1
  have k1_1 := cell_regrown A1_1.1
  have k2_0 := cell_regrown A2_0.1
  have k2_1 := cell_regrown A2_1.1
  refine wp_region_below_tail 4 (by kernel_rfl) (by kernel_rfl) ?_
  simp only [List.take_succ_cons, List.take_zero, List.drop_succ_cons, List.drop_zero]
  repeat (go_big_quiet_step ((first | (with_reducible exact Calls.regrown_of (NE.out _)) | (with_reducible exact Calls.regrown_of (AD.out _)))))
  refine wpQuiet_nil (fun w1 hbw1 => ?_)
  clear k0_0 k0_1 k1_0 k1_1 k2_0 k2_1
  replace A0_0 := At.below A0_0 hbw1
  replace A0_1 := At.below A0_1 hbw1
  replace A1_0 := At.below A1_0 hbw1
  replace A1_1 := At.below A1_1 hbw1
  replace A2_0 := At.below A2_0 hbw1
  replace A2_1 := At.below A2_1 hbw1
  have B := below_alloc (below_alloc (below_alloc (hbw1)))
  clear hbw1
  have F0_0 := A0_0.1; have G0_0 := A0_0.2
  have F0_1 := A0_1.1; have G0_1 := A0_1.2
  have F1_0 := A1_0.1; have G1_0 := A1_0.2
  have F1_1 := A1_1.1; have G1_1 := A1_1.2
  have F2_0 := A2_0.1; have G2_0 := A2_0.2
  have F2_1 := A2_1.1; have G2_1 := A2_1.2
  have Z0 := A0_0.lt
  have Z1 := A1_0.lt
  have Z2 := A2_0.lt
  go_wp2_with fail
  clear F0_0 G0_0 F0_1 G0_1 F1_0 G1_0 F1_1 G1_1 F2_0 G2_0 F2_1 G2_1 Z0 Z1 Z2
  replace A0_0 := At.set_blk (b' := w.heap.size + 1 + 1) (f' := 0) A0_0 (by first | omega | (have := B.size; omega)) (.float .f64 (ofKey (x)))
  replace A0_1 := At.set_blk (b' := w.heap.size + 1 + 1) (f' := 0) A0_1 (by first | omega | (have := B.size; omega)) (.float .f64 (ofKey (x)))
  replace A1_0 := At.set_blk (b' := w.heap.size + 1 + 1) (f' := 0) A1_0 (by first | omega | (have := B.size; omega)) (.float .f64 (ofKey (x)))
  replace A1_1 := At.set_blk (b' := w.heap.size + 1 + 1) (f' := 0) A1_1 (by first | omega | (have := B.size; omega)) (.float .f64 (ofKey (x)))
  replace A2_0 := At.set_same A2_0 (.float .f64 (ofKey (x)))
  replace A2_1 := At.set_off (f' := 0) A2_1 (by decide) (.float .f64 (ofKey (x)))
  replace A0_0 := At.set_blk (b' := w.heap.size + 1 + 1) (f' := 1) A0_0 (by first | omega | (have := B.size; omega)) (.float .f64 (ofKey (y)))
  replace A0_1 := At.set_blk (b' := w.heap.size + 1 + 1) (f' := 1) A0_1 (by first | omega | (have := B.size; omega)) (.float .f64 (ofKey (y)))
  replace A1_0 := At.set_blk (b' := w.heap.size + 1 + 1) (f' := 1) A1_0 (by first | omega | (have := B.size; omega)) (.float .f64 (ofKey (y)))
  replace A1_1 := At.set_blk (b' := w.heap.size + 1 + 1) (f' := 1) A1_1 (by first | omega | (have := B.size; omega)) (.float .f64 (ofKey (y)))
  replace A2_0 := At.set_off (f' := 1) A2_0 (by decide) (.float .f64 (ofKey (y)))
  replace A2_1 := At.set_same A2_1 (.float .f64 (ofKey (y)))
  have B' : Below w.heap.size w (World.setCell (World.setCell w1 ⟨w.heap.size + 1 + 1, 0, none⟩ (.float .f64 (ofKey (x)))) ⟨w.heap.size + 1 + 1, 1, none⟩ (.float .f64 (ofKey (y)))) := (Below.setCell (Below.setCell B (p := ⟨w.heap.size + 1 + 1, 0, none⟩) (by first | (show w.heap.size ≤ w.heap.size + 1 + 1; omega) | (have := B.size; show w.heap.size ≤ w.heap.size + 1 + 1; omega)) (.float .f64 (ofKey (x)))) (p := ⟨w.heap.size + 1 + 1, 1, none⟩) (by first | (show w.heap.size ≤ w.heap.size + 1 + 1; omega) | (have := B.size; show w.heap.size ≤ w.heap.size + 1 + 1; omega)) (.float .f64 (ofKey (y))))
  clear B
  obtain ⟨wz, hwz⟩ : ∃ wz, wz = (World.setCell (World.setCell w1 ⟨w.heap.size + 1 + 1, 0, none⟩ (.float .f64 (ofKey (x)))) ⟨w.heap.size + 1 + 1, 1, none⟩ (.float .f64 (ofKey (y)))) := ⟨_, rfl⟩
  rw [← hwz]
  replace A0_0 := At.of A0_0 hwz
  replace A0_1 := At.of A0_1 hwz
  replace A1_0 := At.of A1_0 hwz
  replace A1_1 := At.of A1_1 hwz
  replace A2_0 := At.of A2_0 hwz
  replace A2_1 := At.of A2_1 hwz
  have B := below_of B' hwz
  clear B' hwz
  have F0_0 := A0_0.1; have G0_0 := A0_0.2
  have F0_1 := A0_1.1; have G0_1 := A0_1.2
  have F1_0 := A1_0.1; have G1_0 := A1_0.2
  have F1_1 := A1_1.1; have G1_1 := A1_1.2
  have F2_0 := A2_0.1; have G2_0 := A2_0.2
  have F2_1 := A2_1.1; have G2_1 := A2_1.2
  have Z0 := A0_0.lt
  have Z1 := A1_0.lt
  have Z2 := A2_0.lt
  refine bodyPost_ret (v := .agg #[.float .f64 (ofKey (x)), .float .f64 (ofKey (y))]) (by simp [results, Try.results35, go_sem, F2_0, F2_1]) rfl ⟨rfl, ?_⟩
  exact B

theorem find4_any (a b c d : Int) (ha : Rg a) (hb : Rg b) (hc : Rg c) (hd : Rg d) (w : World) :
    Calls Try.prog 37 #[.agg #[.float .f64 (ofKey (a)), .float .f64 (ofKey (b))], .agg #[.float .f64 (ofKey (c)), .float .f64 (ofKey (d))]] w fun e w' => e = .returned (.agg #[.float .f64 (ofKey (loN 8 a b c d 4)), .float .f64 (ofKey (hiN 8 a b c d 4))]) ∧ Below w.heap.size w w' := by
  have EN := Lib.hid (fun w => ends_any 8 a b c d ha hb hc hd (fun _ _ _ _ => .inr (.inl rfl)) w)
  generalize loN 8 a b c d 4 = x at *
  generalize hiN 8 a b c d 4 = y at *
  go_enter Try.func37, Try.ntmps37
  go_wp2_with fail
  refine (EN.out _).mono ?_
  rintro e w1 ⟨rfl, hbw1⟩
  have A0_0 : At (World.alloc (World.alloc (World.alloc w (.cells #[.float .f64 (ofKey (a)), .float .f64 (ofKey (b))] 27)) (.cells #[.float .f64 (ofKey (c)), .float .f64 (ofKey (d))] 27)) (.cells #[.float .f64 (0), .float .f64 (0)] 27)) (w.heap.size) 0 (.float .f64 (ofKey (a))) := ⟨by simp [go_sem], by simp [go_sem]⟩
  have A0_1 : At (World.alloc (World.alloc (World.alloc w (.cells #[.float .f64 (ofKey (a)), .float .f64 (ofKey (b))] 27)) (.cells #[.float .f64 (ofKey (c)), .float .f64 (ofKey (d))] 27)) (.cells #[.float .f64 (0), .float .f64 (0)] 27)) (w.heap.size) 1 (.float .f64 (ofKey (b))) := ⟨by simp [go_sem], by simp [go_sem]⟩
  have A1_0 : At (World.alloc (World.alloc (World.alloc w (.cells #[.float .f64 (ofKey (a)), .float .f64 (ofKey (b))] 27)) (.cells #[.float .f64 (ofKey (c)), .float .f64 (ofKey (d))] 27)) (.cells #[.float .f64 (0), .float .f64 (0)] 27)) (w.heap.size + 1) 0 (.float .f64 (ofKey (c))) := ⟨by simp [go_sem], by simp [go_sem]⟩
  have A1_1 : At (World.alloc (World.alloc (World.alloc w (.cells #[.float .f64 (ofKey (a)), .float .f64 (ofKey (b))] 27)) (.cells #[.float .f64 (ofKey (c)), .float .f64 (ofKey (d))] 27)) (.cells #[.float .f64 (0), .float .f64 (0)] 27)) (w.heap.size + 1) 1 (.float .f64 (ofKey (d))) := ⟨by simp [go_sem], by simp [go_sem]⟩
  have A2_0 : At (World.alloc (World.alloc (World.alloc w (.cells #[.float .f64 (ofKey (a)), .float .f64 (ofKey (b))] 27)) (.cells #[.float .f64 (ofKey (c)), .float .f64 (ofKey (d))] 27)) (.cells #[.float .f64 (0), .float .f64 (0)] 27)) (w.heap.size + 1 + 1) 0 (.float .f64 (0)) := ⟨by simp [go_sem], by simp [go_sem]⟩
  have A2_1 : At (World.alloc (World.alloc (World.alloc w (.cells #[.float .f64 (ofKey (a)), .float .f64 (ofKey (b))] 27)) (.cells #[.float .f64 (ofKey (c)), .float .f64 (ofKey (d))] 27)) (.cells #[.float .f64 (0), .float .f64 (0)] 27)) (w.heap.size + 1 + 1) 1 (.float .f64 (0)) := ⟨by simp [go_sem], by simp [go_sem]⟩
  replace A0_0 := At.below (A0_0) hbw1
  replace A0_1 := At.below (A0_1) hbw1
  replace A1_0 := At.below (A1_0) hbw1
  replace A1_1 := At.below (A1_1) hbw1
  replace A2_0 := At.below (A2_0) hbw1
  replace A2_1 := At.below (A2_1) hbw1
  have B := below_alloc (below_alloc (below_alloc (hbw1)))
  clear hbw1
  have F0_0 := A0_0.1; have G0_0 := A0_0.2
  have F0_1 := A0_1.1; have G0_1 := A0_1.2
  have F1_0 := A1_0.1; have G1_0 := A1_0.2
  have F1_1 := A1_1.1; have G1_1 := A1_1.2
  have F2_0 := A2_0.1; have G2_0 := A2_0.2
  have F2_1 := A2_1.1; have G2_1 := A2_1.2
  have Z0 := A0_0.lt
  have Z1 := A1_0.lt
  have Z2 := A2_0.lt
  go_wp2_with fail
  clear F0_0 G0_0 F0_1 G0_1 F1_0 G1_0 F1_1 G1_1 F2_0 G2_0 F2_1 G2_1 Z0 Z1 Z2
  replace A0_0 := At.set_blk (b' := w.heap.size + 1 + 1) (f' := 0) A0_0 (by first | omega | (have := B.size; omega)) (.float .f64 (ofKey (x)))
  replace A0_1 := At.set_blk (b' := w.heap.size + 1 + 1) (f' := 0) A0_1 (by first | omega | (have := B.size; omega)) (.float .f64 (ofKey (x)))
  replace A1_0 := At.set_blk (b' := w.heap.size + 1 + 1) (f' := 0) A1_0 (by first | omega | (have := B.size; omega)) (.float .f64 (ofKey (x)))
  replace A1_1 := At.set_blk (b' := w.heap.size + 1 + 1) (f' := 0) A1_1 (by first | omega | (have := B.size; omega)) (.float .f64 (ofKey (x)))
  replace A2_0 := At.set_same A2_0 (.float .f64 (ofKey (x)))
  replace A2_1 := At.set_off (f' := 0) A2_1 (by decide) (.float .f64 (ofKey (x)))
  replace A0_0 := At.set_blk (b' := w.heap.size + 1 + 1) (f' := 1) A0_0 (by first | omega | (have := B.size; omega)) (.float .f64 (ofKey (y)))
  replace A0_1 := At.set_blk (b' := w.heap.size + 1 + 1) (f' := 1) A0_1 (by first | omega | (have := B.size; omega)) (.float .f64 (ofKey (y)))
  replace A1_0 := At.set_blk (b' := w.heap.size + 1 + 1) (f' := 1) A1_0 (by first | omega | (have := B.size; omega)) (.float .f64 (ofKey (y)))
  replace A1_1 := At.set_blk (b' := w.heap.size + 1 + 1) (f' := 1) A1_1 (by first | omega | (have := B.size; omega)) (.float .f64 (ofKey (y)))
  replace A2_0 := At.set_off (f' := 1) A2_0 (by decide) (.float .f64 (ofKey (y)))
  replace A2_1 := At.set_same A2_1 (.float .f64 (ofKey (y)))
  have B' : Below w.heap.size w (World.setCell (World.setCell w1 ⟨w.heap.size + 1 + 1, 0, none⟩ (.float .f64 (ofKey (x)))) ⟨w.heap.size + 1 + 1, 1, none⟩ (.float .f64 (ofKey (y)))) := (Below.setCell (Below.setCell B (p := ⟨w.heap.size + 1 + 1, 0, none⟩) (by first | (show w.heap.size ≤ w.heap.size + 1 + 1; omega) | (have := B.size; show w.heap.size ≤ w.heap.size + 1 + 1; omega)) (.float .f64 (ofKey (x)))) (p := ⟨w.heap.size + 1 + 1, 1, none⟩) (by first | (show w.heap.size ≤ w.heap.size + 1 + 1; omega) | (have := B.size; show w.heap.size ≤ w.heap.size + 1 + 1; omega)) (.float .f64 (ofKey (y))))
  clear B
  obtain ⟨wz, hwz⟩ : ∃ wz, wz = (World.setCell (World.setCell w1 ⟨w.heap.size + 1 + 1, 0, none⟩ (.float .f64 (ofKey (x)))) ⟨w.heap.size + 1 + 1, 1, none⟩ (.float .f64 (ofKey (y)))) := ⟨_, rfl⟩
  rw [← hwz]
  replace A0_0 := At.of A0_0 hwz
  replace A0_1 := At.of A0_1 hwz
  replace A1_0 := At.of A1_0 hwz
  replace A1_1 := At.of A1_1 hwz
  replace A2_0 := At.of A2_0 hwz
  replace A2_1 := At.of A2_1 hwz
  have B := below_of B' hwz
  clear B' hwz
  have F0_0 := A0_0.1; have G0_0 := A0_0.2
  have F0_1 := A0_1.1; have G0_1 := A0_1.2
  have F1_0 := A1_0.1; have G1_0 := A1_0.2
  have F1_1 := A1_1.1; have G1_1 := A1_1.2
  have F2_0 := A2_0.1; have G2_0 := A2_0.2
  have F2_1 := A2_1.1; have G2_1 := A2_1.2
  have Z0 := A0_0.lt
  have Z1 := A1_0.lt
  have Z2 := A2_0.lt
  refine bodyPost_ret (v := .agg #[.float .f64 (ofKey (x)), .float .f64 (ofKey (y))]) (by simp [results, Try.results37, go_sem, F2_0, F2_1]) rfl ⟨rfl, ?_⟩
  exact B

theorem find5_any (a b c d : Int) (ha : Rg a) (hb : Rg b) (hc : Rg c) (hd : Rg d) (w : World) :
    Calls Try.prog 39 #[.agg #[.float .f64 (ofKey (a)), .float .f64 (ofKey (b))], .agg #[.float .f64 (ofKey (c)), .float .f64 (ofKey (d))]] w fun e w' => e = .returned (.agg #[.float .f64 (ofKey (min a c)), .float .f64 (ofKey (min b d))]) ∧ Below w.heap.size w w' := by
  skip
  go_enter Try.func39, Try.ntmps39
  go_wp2_with fail
  go_returns
  exact ⟨rfl, by go_grown⟩

theorem find6_any (a b c d : Int) (ha : Rg a) (hb : Rg b) (hc : Rg c) (hd : Rg d) (w : World) :
    Calls Try.prog 40 #[.agg #[.float .f64 (ofKey (a)), .float .f64 (ofKey (b))], .agg #[.float .f64 (ofKey (c)), .float .f64 (ofKey (d))]] w fun e w' => e = .returned (.agg #[.float .f64 (ofKey (max a c)), .float .f64 (ofKey (max b d))]) ∧ Below w.heap.size w w' := by
  skip
  go_enter Try.func40, Try.ntmps40
  go_wp2_with fail
  go_returns
  exact ⟨rfl, by go_grown⟩

/-- The root of an interval that is not empty. -/
theorem ivlsqrt_any (a b : Int) (ha : Rg a) (hb : Rg b) (hl : a < PI) (w : World) :
    Calls Try.prog 31 #[.agg #[.float .f64 (ofKey (a)), .float .f64 (ofKey (b))]] w fun e w' => e = .returned (.agg #[.float .f64 (ofKey (if b < 0 then PI else sqrtK (max a 0) false)), .float .f64 (ofKey (if b < 0 then -PI else if b < PI then sqrtK b true else PI))]) ∧ Below w.heap.size w w' := by
  have hP := PI_pos
  by_cases h1 : b < 0
  · rw [if_pos h1, if_pos h1]
    go_enter Try.func31, Try.ntmps31
    go_wp2_with fail
    refine (ivlempty_any _).mono ?_
    rintro e w1 ⟨rfl, hbw1⟩
    have A0_0 : At (World.alloc (World.alloc w (.cells #[.float .f64 (ofKey (a)), .float .f64 (ofKey (b))] 27)) (.cells #[.float .f64 (0), .float .f64 (0)] 27)) (w.heap.size) 0 (.float .f64 (ofKey (a))) := ⟨by simp [go_sem], by simp [go_sem]⟩
    have A0_1 : At (World.alloc (World.alloc w (.cells #[.float .f64 (ofKey (a)), .float .f64 (ofKey (b))] 27)) (.cells #[.float .f64 (0), .float .f64 (0)] 27)) (w.heap.size) 1 (.float .f64 (ofKey (b))) := ⟨by simp [go_sem], by simp [go_sem]⟩
    have A1_0 : At (World.alloc (World.alloc w (.cells #[.float .f64 (ofKey (a)), .float .f64 (ofKey (b))] 27)) (.cells #[.float .f64 (0), .float .f64 (0)] 27)) (w.heap.size + 1) 0 (.float .f64 (0)) := ⟨by simp [go_sem], by simp [go_sem]⟩
    have A1_1 : At (World.alloc (World.alloc w (.cells #[.float .f64 (ofKey (a)), .float .f64 (ofKey (b))] 27)) (.cells #[.float .f64 (0), .float .f64 (0)] 27)) (w.heap.size + 1) 1 (.float .f64 (0)) := ⟨by simp [go_sem], by simp [go_sem]⟩
    replace A0_0 := At.below (A0_0) hbw1
    replace A0_1 := At.below (A0_1) hbw1
    replace A1_0 := At.below (A1_0) hbw1
    replace A1_1 := At.below (A1_1) hbw1
    have B := below_alloc (below_alloc (hbw1))
    clear hbw1
    have F0_0 := A0_0.1; have G0_0 := A0_0.2
    have F0_1 := A0_1.1; have G0_1 := A0_1.2
    have F1_0 := A1_0.1; have G1_0 := A1_0.2
    have F1_1 := A1_1.1; have G1_1 := A1_1.2
    have Z0 := A0_0.lt
    have Z1 := A1_0.lt
    go_wp2_with fail
    clear F0_0 G0_0 F0_1 G0_1 F1_0 G1_0 F1_1 G1_1 Z0 Z1
    replace A0_0 := At.set_blk (b' := w.heap.size + 1) (f' := 0) A0_0 (by first | omega | (have := B.size; omega)) (.float .f64 (ofKey (PI)))
    replace A0_1 := At.set_blk (b' := w.heap.size + 1) (f' := 0) A0_1 (by first | omega | (have := B.size; omega)) (.float .f64 (ofKey (PI)))
    replace A1_0 := At.set_same A1_0 (.float .f64 (ofKey (PI)))
    replace A1_1 := At.set_off (f' := 0) A1_1 (by decide) (.float .f64 (ofKey (PI)))
    replace A0_0 := At.set_blk (b' := w.heap.size + 1) (f' := 1) A0_0 (by first | omega | (have := B.size; omega)) (.float .f64 (ofKey (-PI)))
    replace A0_1 := At.set_blk (b' := w.heap.size + 1) (f' := 1) A0_1 (by first | omega | (have := B.size; omega)) (.float .f64 (ofKey (-PI)))
    replace A1_0 := At.set_off (f' := 1) A1_0 (by decide) (.float .f64 (ofKey (-PI)))
    replace A1_1 := At.set_same A1_1 (.float .f64 (ofKey (-PI)))
    have B' : Below w.heap.size w (World.setCell (World.setCell w1 ⟨w.heap.size + 1, 0, none⟩ (.float .f64 (ofKey (PI)))) ⟨w.heap.size + 1, 1, none⟩ (.float .f64 (ofKey (-PI)))) := (Below.setCell (Below.setCell B (p := ⟨w.heap.size + 1, 0, none⟩) (by first | (show w.heap.size ≤ w.heap.size + 1; omega) | (have := B.size; show w.heap.size ≤ w.heap.size + 1; omega)) (.float .f64 (ofKey (PI)))) (p := ⟨w.heap.size + 1, 1, none⟩) (by first | (show w.heap.size ≤ w.heap.size + 1; omega) | (have := B.size; show w.heap.size ≤ w.heap.size + 1; omega)) (.float .f64 (ofKey (-PI))))
    clear B
    obtain ⟨wz, hwz⟩ : ∃ wz, wz = (World.setCell (World.setCell w1 ⟨w.heap.size + 1, 0, none⟩ (.float .f64 (ofKey (PI)))) ⟨w.heap.size + 1, 1, none⟩ (.float .f64 (ofKey (-PI)))) := ⟨_, rfl⟩
    rw [← hwz]
    replace A0_0 := At.of A0_0 hwz
    replace A0_1 := At.of A0_1 hwz
    replace A1_0 := At.of A1_0 hwz
    replace A1_1 := At.of A1_1 hwz
    have B := below_of B' hwz
    clear B' hwz
    have F0_0 := A0_0.1; have G0_0 := A0_0.2
    have F0_1 := A0_1.1; have G0_1 := A0_1.2
    have F1_0 := A1_0.1; have G1_0 := A1_0.2
    have F1_1 := A1_1.1; have G1_1 := A1_1.2
    have Z0 := A0_0.lt
    have Z1 := A1_0.lt
    refine bodyPost_ret (v := .agg #[.float .f64 (ofKey (PI)), .float .f64 (ofKey (-PI))]) (by simp [results, Try.results31, go_sem, F1_0, F1_1]) rfl ⟨rfl, ?_⟩
    exact B
  · rw [if_neg h1, if_neg h1]
    have rm : Rg (max a 0) := rg_max ha Rg_zero
    have b1 := ha.1
    have SA := Lib.hid (fun w => fpsqrt_any (ofKey (max a 0)) false (fin_ofKey (by omega) (by omega)) (ofKey_lt rm) (by rw [key_ofKey rm]; omega) w)
    rw [key_ofKey rm] at SA
    have rs : Rg (sqrtK (max a 0) false) := rnd_rg _ _
    generalize sqrtK (max a 0) false = x at *
    have hm : (Builtin.max_ = Builtin.max_) := rfl
    have q2 := hb.2
    by_cases h2 : b < PI
    · rw [if_pos h2]
      have FB := Lib.hid (fun w => finite_yes (ofKey b) (ofKey_lt hb) (fin_ofKey (by omega) h2) w)
      have SB := Lib.hid (fun w => fpsqrt_any (ofKey b) true (fin_ofKey (by omega) h2) (ofKey_lt hb) (by rw [key_ofKey hb]; omega) w)
      rw [key_ofKey hb] at SB
      have rt : Rg (sqrtK b true) := rnd_rg _ _
      generalize sqrtK b true = y at *
      have mx : ∀ (w : World) (ts : Array TypeId) (t : TypeId), (Builtin.max_ ts t #[.float .f64 (ofKey a), .float .f64 0]).run Try.prog w = .ok (.float .f64 (ofKey (max a 0))) w := fun w ts t => run_max_k ha Rg_zero
      clear h2 q2 b1 hm hl
      go_enter Try.func31, Try.ntmps31
      go_wp2_with (first | (go_at_call 47; (first | (with_reducible refine (SA.out _).mono ?_) | (with_reducible refine (SB.out _).mono ?_)); rintro e w' ⟨rfl, rfl⟩) | (go_at_call 24; refine (ivlinf_any _).mono ?_; rintro e w' ⟨rfl, rfl⟩) | (go_at_call 25; refine (FB.out _).mono ?_; rintro e w' ⟨rfl, rfl⟩))
      go_returns
      exact ⟨rfl, by go_grown⟩
    · rw [if_neg h2]
      obtain rfl : b = PI := by omega
      have FB := Lib.hid (fun w => finite_no (ofKey PI) (ofKey_lt hb) (by decide) w)
      have mx : ∀ (w : World) (ts : Array TypeId) (t : TypeId), (Builtin.max_ ts t #[.float .f64 (ofKey a), .float .f64 0]).run Try.prog w = .ok (.float .f64 (ofKey (max a 0))) w := fun w ts t => run_max_k ha Rg_zero
      clear h2 q2 b1 hm hl
      go_enter Try.func31, Try.ntmps31
      go_wp2_with (first | (go_at_call 47; (with_reducible refine (SA.out _).mono ?_); rintro e w' ⟨rfl, rfl⟩) | (go_at_call 24; refine (ivlinf_any _).mono ?_; rintro e w' ⟨rfl, rfl⟩) | (go_at_call 25; refine (FB.out _).mono ?_; rintro e w' ⟨rfl, rfl⟩))
      go_returns
      exact ⟨rfl, by go_grown⟩

end Go.Proofs.Yteephgpefhodnab
