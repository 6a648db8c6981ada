/- What the statements without the document's answer begin with. -/
import Derived.Test.YteephgpefhodnaaC7
import Derived.Test.YteephgpefhodnaaA6
namespace Go.Proofs.Yteephgpefhodnaa
open Go.RowKit Go.Sort Go.Fl
set_option linter.unusedSimpArgs false
set_option linter.unusedVariables false

theorem add_exact {a b k : Int} (h : V a + V b = V k) (h1 : -PI < k) (h2 : k < PI) (up : Bool) : addK a b up = k := by
  refine rnd_eq (cut_add a b) ?_
  have v1 := V_lt (show k < k + 1 by omega)
  have v2 := V_lt (show k - 1 < k by omega)
  cases up
  · exact ⟨by omega, by omega, fun _ => by unfold cAdd; omega, fun _ => by unfold cAdd; omega⟩
  · exact ⟨by omega, by omega, fun _ => by unfold cAdd; omega, fun _ => by unfold cAdd; omega⟩
theorem V_at (l kept : Nat) (h : 2 ^ 52 ≤ kept) (h1 : kept ≤ 2 ^ 53) (k : Int) (hk : k = ((l * 2 ^ 52 + kept : Nat) : Int)) : V k = ((kept * 2 ^ l : Nat) : Int) := by
  rw [hk, V_nat, M_at l kept (.inr h) h1]
theorem one_three (up : Bool) : addK 4607182418800017408 4613937818241073152 up = 4616189618054758400 := by
  refine add_exact ?_ (by decide) (by decide) up
  obtain ⟨l, hl⟩ : ∃ l, l = 1022 := ⟨_, rfl⟩
  rw [V_at l (2 ^ 52) (by omega) (by omega) _ (by omega), V_at (l + 1) (2 ^ 52 + 2 ^ 51) (by omega) (by omega) _ (by omega), V_at (l + 2) (2 ^ 52) (by omega) (by omega) _ (by omega)]
  refine (Int.natCast_add _ _).symm.trans (congrArg _ ?_)
  rw [show (2 : Nat) ^ (l + 1) = 2 ^ l * 2 from Nat.pow_succ _ _, show (2 : Nat) ^ (l + 2) = 2 ^ l * 4 from Nat.pow_add 2 l 2]
  generalize (2 : Nat) ^ l = u
  omega
theorem two_four (up : Bool) : addK 4611686018427387904 4616189618054758400 up = 4618441417868443648 := by
  refine add_exact ?_ (by decide) (by decide) up
  obtain ⟨l, hl⟩ : ∃ l, l = 1022 := ⟨_, rfl⟩
  rw [V_at (l + 1) (2 ^ 52) (by omega) (by omega) _ (by omega), V_at (l + 2) (2 ^ 52) (by omega) (by omega) _ (by omega), V_at (l + 2) (2 ^ 52 + 2 ^ 51) (by omega) (by omega) _ (by omega)]
  refine (Int.natCast_add _ _).symm.trans (congrArg _ ?_)
  rw [show (2 : Nat) ^ (l + 1) = 2 ^ l * 2 from Nat.pow_succ _ _, show (2 : Nat) ^ (l + 2) = 2 ^ l * 4 from Nat.pow_add 2 l 2]
  generalize (2 : Nat) ^ l = u
  omega
theorem alive_sum (w : World) : Calls Try.prog 37 #[.int .i64 6, .agg #[.float .f64 (4607182418800017408), .float .f64 (4611686018427387904)], .agg #[.float .f64 (4613937818241073152), .float .f64 (4616189618054758400)]] w fun e w' => e = .returned (.agg #[.float .f64 (4616189618054758400), .float .f64 (4618441417868443648)]) ∧ Below w.heap.size w w' := by
  have h := spansapply_any 6 4607182418800017408 4611686018427387904 4613937818241073152 4616189618054758400 (by unfold Wd; omega) (by unfold Wd; omega) (by unfold Wd; omega) (by unfold Wd; omega) w
  have e1 : tkLo 4607182418800017408 4611686018427387904 = 4607182418800017408 := by decide
  have e2 : tkHi 4607182418800017408 4611686018427387904 = 4611686018427387904 := by decide
  have e3 : tkLo 4613937818241073152 4616189618054758400 = 4613937818241073152 := by decide
  have e4 : tkHi 4613937818241073152 4616189618054758400 = 4616189618054758400 := by decide
  have hl : opLo 6 4607182418800017408 4611686018427387904 4613937818241073152 4616189618054758400 = 4616189618054758400 := by
    rw [opLo_6]
    unfold endK
    rw [if_pos (by decide)]
    exact one_three false
  have hh : opHi 6 4607182418800017408 4611686018427387904 4613937818241073152 4616189618054758400 = 4618441417868443648 := by
    rw [opHi_6]
    unfold endK
    rw [if_pos (by decide)]
    exact two_four true
  have a1 : apLo 6 4607182418800017408 4611686018427387904 4613937818241073152 4616189618054758400 = 4616189618054758400 := by
    unfold apLo
    rw [if_pos (by decide), hl, hh]
    decide
  have a2 : apHi 6 4607182418800017408 4611686018427387904 4613937818241073152 4616189618054758400 = 4618441417868443648 := by
    unfold apHi
    rw [if_pos (by decide), hl, hh]
    decide
  have w1 : ofKey 4616189618054758400 = 4616189618054758400 := by decide
  have w2 : ofKey 4618441417868443648 = 4618441417868443648 := by decide
  rw [e1, e2, e3, e4, a1, a2, w1, w2] at h
  exact h
theorem alive_any (w : World) :
    Calls Try.prog 28 #[] w fun e w' => e = .returned (.bool true) ∧ Below w.heap.size w w' := by
  have AS := Lib.hid alive_sum
  have n1 : ¬ nan 4616189618054758400 := by decide
  have n2 : ¬ nan 4618441417868443648 := by decide
  go_enter Try.func28, Try.ntmps28
  go_wp2_with (go_at_call 37; refine (AS.out _).mono ?_; rintro e w1 ⟨rfl, hbw1⟩; skip)
  go_ret
  exact ⟨rfl, Below.alloc hbw1 hbw1.size _⟩
theorem keepof_any (n : Int) (w : World) :
    Calls Try.prog 39 #[.int .u64 n] w fun e w' => e = .returned (.float .f64 n.toNat) ∧ w = w' := by
  have h := run_frombits
  go_enter Try.func39, Try.ntmps39
  go_wp2
  go_ret
  exact ⟨rfl, rfl⟩

/-- The ends of an interval that is not empty. -/
def NE (A B : Int) : Prop := Rg A ∧ Rg B ∧ A ≤ B ∧ A < PI ∧ -PI < B
theorem NE.iv {A B : Int} (h : NE A B) : Iv A B := ⟨h.1, h.2.1, .inr h.2.2⟩
theorem NE.no {A B : Int} (h : NE A B) : ¬ (A = PI ∧ B = -PI) := by have := h.2.2.2.1; omega

theorem some_walk (a b : Int) (x y : Nat) (g : Bool) (hx : a.toNat = x) (hy : b.toNat = y) (hg : (FloatKind.f64.format.order x y == some .gt) = g) (u v : Nat) (huv : if g = true then u = y ∧ v = x else u = x ∧ v = y) (A Bh : Int) (s : Bool) (rA : Rg A) (rB : Rg Bh)
    (hn : ∀ w, Calls Try.prog 15 #[.float .f64 u, .float .f64 v] w fun e w' => e = .returned (.tuple #[.agg #[.float .f64 (ofKey (A)), .float .f64 (ofKey (Bh))], .bool s]) ∧ Below w.heap.size w w') (l h : Nat) (hr : if s = true then l = ofKey A ∧ h = ofKey Bh else l = 0 ∧ h = 4607182418800017408) (w : World) :
    Calls Try.prog 25 #[.int .u64 a, .int .u64 b] w fun e w' => e = .returned (.agg #[.float .f64 (l), .float .f64 (h)]) ∧ Below w.heap.size w w' := by
  have NW := Lib.hid hn
  clear hn
  have O1 := Lib.hid (keepof_any a)
  have O2 := Lib.hid (keepof_any b)
  rw [hx] at O1
  rw [hy] at O2
  clear hx hy
  cases g
  · simp only [Bool.false_eq_true, if_false] at huv
    obtain ⟨rfl, rfl⟩ := huv
    cases s
    · simp only [Bool.false_eq_true, if_false] at hr
      obtain ⟨rfl, rfl⟩ := hr
      go_enter Try.func25, Try.ntmps25
      go_wp2_with (go_at_call 39; (first | (with_reducible refine (O1.out _).mono ?_) | (with_reducible refine (O2.out _).mono ?_)); rintro e w' ⟨rfl, rfl⟩)
      refine (NW.out _).mono ?_
      rintro e w1 ⟨rfl, hbw1⟩
      have A0_0 : At (World.alloc w (.cells #[.float .f64 (0), .float .f64 (0)] 28)) (w.heap.size) 0 (.float .f64 (0)) := ⟨by simp [go_sem], by simp [go_sem]⟩
      have A0_1 : At (World.alloc w (.cells #[.float .f64 (0), .float .f64 (0)] 28)) (w.heap.size) 1 (.float .f64 (0)) := ⟨by simp [go_sem], by simp [go_sem]⟩
      replace A0_0 := At.below (A0_0) hbw1
      replace A0_1 := At.below (A0_1) hbw1
      have B := below_alloc (hbw1)
      clear hbw1
      have F0_0 := A0_0.1; have G0_0 := A0_0.2
      have F0_1 := A0_1.1; have G0_1 := A0_1.2
      have Z0 := A0_0.lt
      go_wp2_with fail
      clear F0_0 G0_0 F0_1 G0_1 Z0
      replace A0_0 := At.set_same A0_0 (.float .f64 (0))
      replace A0_1 := At.set_off (f' := 0) A0_1 (by decide) (.float .f64 (0))
      replace A0_0 := At.set_off (f' := 1) A0_0 (by decide) (.float .f64 (4607182418800017408))
      replace A0_1 := At.set_same A0_1 (.float .f64 (4607182418800017408))
      have n1 : w.heap.size < w1.heap.size := by simpa only [World.size_setCell] using At.lt A0_0
      replace A0_0 : At (World.alloc (World.setCell (World.setCell w1 ⟨w.heap.size, 0, none⟩ (.float .f64 (0))) ⟨w.heap.size, 1, none⟩ (.float .f64 (4607182418800017408))) (.cells #[.float .f64 (ofKey (A)), .float .f64 (ofKey (Bh))] 28)) _ _ _ := At.alloc (A0_0)
      replace A0_1 : At (World.alloc (World.setCell (World.setCell w1 ⟨w.heap.size, 0, none⟩ (.float .f64 (0))) ⟨w.heap.size, 1, none⟩ (.float .f64 (4607182418800017408))) (.cells #[.float .f64 (ofKey (A)), .float .f64 (ofKey (Bh))] 28)) _ _ _ := At.alloc (A0_1)
      have A1_0 : At (World.alloc (World.setCell (World.setCell w1 ⟨w.heap.size, 0, none⟩ (.float .f64 (0))) ⟨w.heap.size, 1, none⟩ (.float .f64 (4607182418800017408))) (.cells #[.float .f64 (ofKey (A)), .float .f64 (ofKey (Bh))] 28)) (w1.heap.size) 0 (.float .f64 (ofKey (A))) := ⟨by simp [go_sem], by simp [go_sem]⟩
      have A1_1 : At (World.alloc (World.setCell (World.setCell w1 ⟨w.heap.size, 0, none⟩ (.float .f64 (0))) ⟨w.heap.size, 1, none⟩ (.float .f64 (4607182418800017408))) (.cells #[.float .f64 (ofKey (A)), .float .f64 (ofKey (Bh))] 28)) (w1.heap.size) 1 (.float .f64 (ofKey (Bh))) := ⟨by simp [go_sem], by simp [go_sem]⟩
      have B' : Below w.heap.size w (World.alloc (World.setCell (World.setCell w1 ⟨w.heap.size, 0, none⟩ (.float .f64 (0))) ⟨w.heap.size, 1, none⟩ (.float .f64 (4607182418800017408))) (.cells #[.float .f64 (ofKey (A)), .float .f64 (ofKey (Bh))] 28)) := (Below.alloc (Below.setCell (Below.setCell B (p := ⟨w.heap.size, 0, none⟩) (by first | (show w.heap.size ≤ w.heap.size; omega) | (have := B.size; show w.heap.size ≤ w.heap.size; omega)) (.float .f64 (0))) (p := ⟨w.heap.size, 1, none⟩) (by first | (show w.heap.size ≤ w.heap.size; omega) | (have := B.size; show w.heap.size ≤ w.heap.size; omega)) (.float .f64 (4607182418800017408))) (by first | exact B.size | (simp only [World.size_setCell, World.size_alloc]; have := B.size; omega)) _)
      clear B
      obtain ⟨wz, hwz⟩ : ∃ wz, wz = (World.alloc (World.setCell (World.setCell w1 ⟨w.heap.size, 0, none⟩ (.float .f64 (0))) ⟨w.heap.size, 1, none⟩ (.float .f64 (4607182418800017408))) (.cells #[.float .f64 (ofKey (A)), .float .f64 (ofKey (Bh))] 28)) := ⟨_, rfl⟩
      rw [← hwz]
      replace A0_0 := At.of A0_0 hwz
      replace A0_1 := At.of A0_1 hwz
      replace A1_0 := At.of A1_0 hwz
      replace A1_1 := At.of A1_1 hwz
      have B := below_of B' hwz
      clear B' hwz
      have F0_0 := A0_0.1; have G0_0 := A0_0.2
      have F0_1 := A0_1.1; have G0_1 := A0_1.2
      have F1_0 := A1_0.1; have G1_0 := A1_0.2
      have F1_1 := A1_1.1; have G1_1 := A1_1.2
      have Z0 := A0_0.lt
      have Z1 := A1_0.lt
      refine bodyPost_ret (v := .agg #[.float .f64 (0), .float .f64 (4607182418800017408)]) (by simp [results, Try.results25, go_sem, F0_0, F0_1]) rfl ⟨rfl, ?_⟩
      exact B
    · simp only [if_true] at hr
      obtain ⟨rfl, rfl⟩ := hr
      go_enter Try.func25, Try.ntmps25
      go_wp2_with (go_at_call 39; (first | (with_reducible refine (O1.out _).mono ?_) | (with_reducible refine (O2.out _).mono ?_)); rintro e w' ⟨rfl, rfl⟩)
      refine (NW.out _).mono ?_
      rintro e w1 ⟨rfl, hbw1⟩
      have A0_0 : At (World.alloc w (.cells #[.float .f64 (0), .float .f64 (0)] 28)) (w.heap.size) 0 (.float .f64 (0)) := ⟨by simp [go_sem], by simp [go_sem]⟩
      have A0_1 : At (World.alloc w (.cells #[.float .f64 (0), .float .f64 (0)] 28)) (w.heap.size) 1 (.float .f64 (0)) := ⟨by simp [go_sem], by simp [go_sem]⟩
      replace A0_0 := At.below (A0_0) hbw1
      replace A0_1 := At.below (A0_1) hbw1
      have B := below_alloc (hbw1)
      clear hbw1
      have F0_0 := A0_0.1; have G0_0 := A0_0.2
      have F0_1 := A0_1.1; have G0_1 := A0_1.2
      have Z0 := A0_0.lt
      go_wp2_with fail
      clear F0_0 G0_0 F0_1 G0_1 Z0
      replace A0_0 := At.set_same A0_0 (.float .f64 (ofKey (A)))
      replace A0_1 := At.set_off (f' := 0) A0_1 (by decide) (.float .f64 (ofKey (A)))
      replace A0_0 := At.set_off (f' := 1) A0_0 (by decide) (.float .f64 (ofKey (Bh)))
      replace A0_1 := At.set_same A0_1 (.float .f64 (ofKey (Bh)))
      have n1 : w.heap.size < w1.heap.size := by simpa only [World.size_setCell] using At.lt A0_0
      replace A0_0 : At (World.alloc (World.setCell (World.setCell w1 ⟨w.heap.size, 0, none⟩ (.float .f64 (ofKey (A)))) ⟨w.heap.size, 1, none⟩ (.float .f64 (ofKey (Bh)))) (.cells #[.float .f64 (ofKey (A)), .float .f64 (ofKey (Bh))] 28)) _ _ _ := At.alloc (A0_0)
      replace A0_1 : At (World.alloc (World.setCell (World.setCell w1 ⟨w.heap.size, 0, none⟩ (.float .f64 (ofKey (A)))) ⟨w.heap.size, 1, none⟩ (.float .f64 (ofKey (Bh)))) (.cells #[.float .f64 (ofKey (A)), .float .f64 (ofKey (Bh))] 28)) _ _ _ := At.alloc (A0_1)
      have A1_0 : At (World.alloc (World.setCell (World.setCell w1 ⟨w.heap.size, 0, none⟩ (.float .f64 (ofKey (A)))) ⟨w.heap.size, 1, none⟩ (.float .f64 (ofKey (Bh)))) (.cells #[.float .f64 (ofKey (A)), .float .f64 (ofKey (Bh))] 28)) (w1.heap.size) 0 (.float .f64 (ofKey (A))) := ⟨by simp [go_sem], by simp [go_sem]⟩
      have A1_1 : At (World.alloc (World.setCell (World.setCell w1 ⟨w.heap.size, 0, none⟩ (.float .f64 (ofKey (A)))) ⟨w.heap.size, 1, none⟩ (.float .f64 (ofKey (Bh)))) (.cells #[.float .f64 (ofKey (A)), .float .f64 (ofKey (Bh))] 28)) (w1.heap.size) 1 (.float .f64 (ofKey (Bh))) := ⟨by simp [go_sem], by simp [go_sem]⟩
      have B' : Below w.heap.size w (World.alloc (World.setCell (World.setCell w1 ⟨w.heap.size, 0, none⟩ (.float .f64 (ofKey (A)))) ⟨w.heap.size, 1, none⟩ (.float .f64 (ofKey (Bh)))) (.cells #[.float .f64 (ofKey (A)), .float .f64 (ofKey (Bh))] 28)) := (Below.alloc (Below.setCell (Below.setCell B (p := ⟨w.heap.size, 0, none⟩) (by first | (show w.heap.size ≤ w.heap.size; omega) | (have := B.size; show w.heap.size ≤ w.heap.size; omega)) (.float .f64 (ofKey (A)))) (p := ⟨w.heap.size, 1, none⟩) (by first | (show w.heap.size ≤ w.heap.size; omega) | (have := B.size; show w.heap.size ≤ w.heap.size; omega)) (.float .f64 (ofKey (Bh)))) (by first | exact B.size | (simp only [World.size_setCell, World.size_alloc]; have := B.size; omega)) _)
      clear B
      obtain ⟨wz, hwz⟩ : ∃ wz, wz = (World.alloc (World.setCell (World.setCell w1 ⟨w.heap.size, 0, none⟩ (.float .f64 (ofKey (A)))) ⟨w.heap.size, 1, none⟩ (.float .f64 (ofKey (Bh)))) (.cells #[.float .f64 (ofKey (A)), .float .f64 (ofKey (Bh))] 28)) := ⟨_, rfl⟩
      rw [← hwz]
      replace A0_0 := At.of A0_0 hwz
      replace A0_1 := At.of A0_1 hwz
      replace A1_0 := At.of A1_0 hwz
      replace A1_1 := At.of A1_1 hwz
      have B := below_of B' hwz
      clear B' hwz
      have F0_0 := A0_0.1; have G0_0 := A0_0.2
      have F0_1 := A0_1.1; have G0_1 := A0_1.2
      have F1_0 := A1_0.1; have G1_0 := A1_0.2
      have F1_1 := A1_1.1; have G1_1 := A1_1.2
      have Z0 := A0_0.lt
      have Z1 := A1_0.lt
      refine bodyPost_ret (v := .agg #[.float .f64 (ofKey (A)), .float .f64 (ofKey (Bh))]) (by simp [results, Try.results25, go_sem, F0_0, F0_1]) rfl ⟨rfl, ?_⟩
      exact B
  · simp only [if_true] at huv
    obtain ⟨rfl, rfl⟩ := huv
    cases s
    · simp only [Bool.false_eq_true, if_false] at hr
      obtain ⟨rfl, rfl⟩ := hr
      go_enter Try.func25, Try.ntmps25
      go_wp2_with (go_at_call 39; (first | (with_reducible refine (O1.out _).mono ?_) | (with_reducible refine (O2.out _).mono ?_)); rintro e w' ⟨rfl, rfl⟩)
      refine (NW.out _).mono ?_
      rintro e w1 ⟨rfl, hbw1⟩
      have A0_0 : At (World.alloc w (.cells #[.float .f64 (0), .float .f64 (0)] 28)) (w.heap.size) 0 (.float .f64 (0)) := ⟨by simp [go_sem], by simp [go_sem]⟩
      have A0_1 : At (World.alloc w (.cells #[.float .f64 (0), .float .f64 (0)] 28)) (w.heap.size) 1 (.float .f64 (0)) := ⟨by simp [go_sem], by simp [go_sem]⟩
      replace A0_0 := At.below (A0_0) hbw1
      replace A0_1 := At.below (A0_1) hbw1
      have B := below_alloc (hbw1)
      clear hbw1
      have F0_0 := A0_0.1; have G0_0 := A0_0.2
      have F0_1 := A0_1.1; have G0_1 := A0_1.2
      have Z0 := A0_0.lt
      go_wp2_with fail
      clear F0_0 G0_0 F0_1 G0_1 Z0
      replace A0_0 := At.set_same A0_0 (.float .f64 (0))
      replace A0_1 := At.set_off (f' := 0) A0_1 (by decide) (.float .f64 (0))
      replace A0_0 := At.set_off (f' := 1) A0_0 (by decide) (.float .f64 (4607182418800017408))
      replace A0_1 := At.set_same A0_1 (.float .f64 (4607182418800017408))
      have n1 : w.heap.size < w1.heap.size := by simpa only [World.size_setCell] using At.lt A0_0
      replace A0_0 : At (World.alloc (World.setCell (World.setCell w1 ⟨w.heap.size, 0, none⟩ (.float .f64 (0))) ⟨w.heap.size, 1, none⟩ (.float .f64 (4607182418800017408))) (.cells #[.float .f64 (ofKey (A)), .float .f64 (ofKey (Bh))] 28)) _ _ _ := At.alloc (A0_0)
      replace A0_1 : At (World.alloc (World.setCell (World.setCell w1 ⟨w.heap.size, 0, none⟩ (.float .f64 (0))) ⟨w.heap.size, 1, none⟩ (.float .f64 (4607182418800017408))) (.cells #[.float .f64 (ofKey (A)), .float .f64 (ofKey (Bh))] 28)) _ _ _ := At.alloc (A0_1)
      have A1_0 : At (World.alloc (World.setCell (World.setCell w1 ⟨w.heap.size, 0, none⟩ (.float .f64 (0))) ⟨w.heap.size, 1, none⟩ (.float .f64 (4607182418800017408))) (.cells #[.float .f64 (ofKey (A)), .float .f64 (ofKey (Bh))] 28)) (w1.heap.size) 0 (.float .f64 (ofKey (A))) := ⟨by simp [go_sem], by simp [go_sem]⟩
      have A1_1 : At (World.alloc (World.setCell (World.setCell w1 ⟨w.heap.size, 0, none⟩ (.float .f64 (0))) ⟨w.heap.size, 1, none⟩ (.float .f64 (4607182418800017408))) (.cells #[.float .f64 (ofKey (A)), .float .f64 (ofKey (Bh))] 28)) (w1.heap.size) 1 (.float .f64 (ofKey (Bh))) := ⟨by simp [go_sem], by simp [go_sem]⟩
      have B' : Below w.heap.size w (World.alloc (World.setCell (World.setCell w1 ⟨w.heap.size, 0, none⟩ (.float .f64 (0))) ⟨w.heap.size, 1, none⟩ (.float .f64 (4607182418800017408))) (.cells #[.float .f64 (ofKey (A)), .float .f64 (ofKey (Bh))] 28)) := (Below.alloc (Below.setCell (Below.setCell B (p := ⟨w.heap.size, 0, none⟩) (by first | (show w.heap.size ≤ w.heap.size; omega) | (have := B.size; show w.heap.size ≤ w.heap.size; omega)) (.float .f64 (0))) (p := ⟨w.heap.size, 1, none⟩) (by first | (show w.heap.size ≤ w.heap.size; omega) | (have := B.size; show w.heap.size ≤ w.heap.size; omega)) (.float .f64 (4607182418800017408))) (by first | exact B.size | (simp only [World.size_setCell, World.size_alloc]; have := B.size; omega)) _)
      clear B
      obtain ⟨wz, hwz⟩ : ∃ wz, wz = (World.alloc (World.setCell (World.setCell w1 ⟨w.heap.size, 0, none⟩ (.float .f64 (0))) ⟨w.heap.size, 1, none⟩ (.float .f64 (4607182418800017408))) (.cells #[.float .f64 (ofKey (A)), .float .f64 (ofKey (Bh))] 28)) := ⟨_, rfl⟩
      rw [← hwz]
      replace A0_0 := At.of A0_0 hwz
      replace A0_1 := At.of A0_1 hwz
      replace A1_0 := At.of A1_0 hwz
      replace A1_1 := At.of A1_1 hwz
      have B := below_of B' hwz
      clear B' hwz
      have F0_0 := A0_0.1; have G0_0 := A0_0.2
      have F0_1 := A0_1.1; have G0_1 := A0_1.2
      have F1_0 := A1_0.1; have G1_0 := A1_0.2
      have F1_1 := A1_1.1; have G1_1 := A1_1.2
      have Z0 := A0_0.lt
      have Z1 := A1_0.lt
      refine bodyPost_ret (v := .agg #[.float .f64 (0), .float .f64 (4607182418800017408)]) (by simp [results, Try.results25, go_sem, F0_0, F0_1]) rfl ⟨rfl, ?_⟩
      exact B
    · simp only [if_true] at hr
      obtain ⟨rfl, rfl⟩ := hr
      go_enter Try.func25, Try.ntmps25
      go_wp2_with (go_at_call 39; (first | (with_reducible refine (O1.out _).mono ?_) | (with_reducible refine (O2.out _).mono ?_)); rintro e w' ⟨rfl, rfl⟩)
      refine (NW.out _).mono ?_
      rintro e w1 ⟨rfl, hbw1⟩
      have A0_0 : At (World.alloc w (.cells #[.float .f64 (0), .float .f64 (0)] 28)) (w.heap.size) 0 (.float .f64 (0)) := ⟨by simp [go_sem], by simp [go_sem]⟩
      have A0_1 : At (World.alloc w (.cells #[.float .f64 (0), .float .f64 (0)] 28)) (w.heap.size) 1 (.float .f64 (0)) := ⟨by simp [go_sem], by simp [go_sem]⟩
      replace A0_0 := At.below (A0_0) hbw1
      replace A0_1 := At.below (A0_1) hbw1
      have B := below_alloc (hbw1)
      clear hbw1
      have F0_0 := A0_0.1; have G0_0 := A0_0.2
      have F0_1 := A0_1.1; have G0_1 := A0_1.2
      have Z0 := A0_0.lt
      go_wp2_with fail
      clear F0_0 G0_0 F0_1 G0_1 Z0
      replace A0_0 := At.set_same A0_0 (.float .f64 (ofKey (A)))
      replace A0_1 := At.set_off (f' := 0) A0_1 (by decide) (.float .f64 (ofKey (A)))
      replace A0_0 := At.set_off (f' := 1) A0_0 (by decide) (.float .f64 (ofKey (Bh)))
      replace A0_1 := At.set_same A0_1 (.float .f64 (ofKey (Bh)))
      have n1 : w.heap.size < w1.heap.size := by simpa only [World.size_setCell] using At.lt A0_0
      replace A0_0 : At (World.alloc (World.setCell (World.setCell w1 ⟨w.heap.size, 0, none⟩ (.float .f64 (ofKey (A)))) ⟨w.heap.size, 1, none⟩ (.float .f64 (ofKey (Bh)))) (.cells #[.float .f64 (ofKey (A)), .float .f64 (ofKey (Bh))] 28)) _ _ _ := At.alloc (A0_0)
      replace A0_1 : At (World.alloc (World.setCell (World.setCell w1 ⟨w.heap.size, 0, none⟩ (.float .f64 (ofKey (A)))) ⟨w.heap.size, 1, none⟩ (.float .f64 (ofKey (Bh)))) (.cells #[.float .f64 (ofKey (A)), .float .f64 (ofKey (Bh))] 28)) _ _ _ := At.alloc (A0_1)
      have A1_0 : At (World.alloc (World.setCell (World.setCell w1 ⟨w.heap.size, 0, none⟩ (.float .f64 (ofKey (A)))) ⟨w.heap.size, 1, none⟩ (.float .f64 (ofKey (Bh)))) (.cells #[.float .f64 (ofKey (A)), .float .f64 (ofKey (Bh))] 28)) (w1.heap.size) 0 (.float .f64 (ofKey (A))) := ⟨by simp [go_sem], by simp [go_sem]⟩
      have A1_1 : At (World.alloc (World.setCell (World.setCell w1 ⟨w.heap.size, 0, none⟩ (.float .f64 (ofKey (A)))) ⟨w.heap.size, 1, none⟩ (.float .f64 (ofKey (Bh)))) (.cells #[.float .f64 (ofKey (A)), .float .f64 (ofKey (Bh))] 28)) (w1.heap.size) 1 (.float .f64 (ofKey (Bh))) := ⟨by simp [go_sem], by simp [go_sem]⟩
      have B' : Below w.heap.size w (World.alloc (World.setCell (World.setCell w1 ⟨w.heap.size, 0, none⟩ (.float .f64 (ofKey (A)))) ⟨w.heap.size, 1, none⟩ (.float .f64 (ofKey (Bh)))) (.cells #[.float .f64 (ofKey (A)), .float .f64 (ofKey (Bh))] 28)) := (Below.alloc (Below.setCell (Below.setCell B (p := ⟨w.heap.size, 0, none⟩) (by first | (show w.heap.size ≤ w.heap.size; omega) | (have := B.size; show w.heap.size ≤ w.heap.size; omega)) (.float .f64 (ofKey (A)))) (p := ⟨w.heap.size, 1, none⟩) (by first | (show w.heap.size ≤ w.heap.size; omega) | (have := B.size; show w.heap.size ≤ w.heap.size; omega)) (.float .f64 (ofKey (Bh)))) (by first | exact B.size | (simp only [World.size_setCell, World.size_alloc]; have := B.size; omega)) _)
      clear B
      obtain ⟨wz, hwz⟩ : ∃ wz, wz = (World.alloc (World.setCell (World.setCell w1 ⟨w.heap.size, 0, none⟩ (.float .f64 (ofKey (A)))) ⟨w.heap.size, 1, none⟩ (.float .f64 (ofKey (Bh)))) (.cells #[.float .f64 (ofKey (A)), .float .f64 (ofKey (Bh))] 28)) := ⟨_, rfl⟩
      rw [← hwz]
      replace A0_0 := At.of A0_0 hwz
      replace A0_1 := At.of A0_1 hwz
      replace A1_0 := At.of A1_0 hwz
      replace A1_1 := At.of A1_1 hwz
      have B := below_of B' hwz
      clear B' hwz
      have F0_0 := A0_0.1; have G0_0 := A0_0.2
      have F0_1 := A0_1.1; have G0_1 := A0_1.2
      have F1_0 := A1_0.1; have G1_0 := A1_0.2
      have F1_1 := A1_1.1; have G1_1 := A1_1.2
      have Z0 := A0_0.lt
      have Z1 := A1_0.lt
      refine bodyPost_ret (v := .agg #[.float .f64 (ofKey (A)), .float .f64 (ofKey (Bh))]) (by simp [results, Try.results25, go_sem, F0_0, F0_1]) rfl ⟨rfl, ?_⟩
      exact B

theorem one_key : ofKey 4607182418800017408 = 4607182418800017408 := by decide
theorem some_any (a b : Int) (wa : Wd a.toNat) (wb : Wd b.toNat) : ∃ A B, NE A B ∧ ∀ w, Calls Try.prog 25 #[.int .u64 a, .int .u64 b] w fun e w' => e = .returned (.agg #[.float .f64 (ofKey (A)), .float .f64 (ofKey (B))]) ∧ Below w.heap.size w w' := by
  obtain ⟨g, hg⟩ : ∃ g, (FloatKind.f64.format.order a.toNat b.toNat == some .gt) = g := ⟨_, rfl⟩
  obtain ⟨u, v, huv, wu, wv⟩ : ∃ u v : Nat, (if g = true then u = b.toNat ∧ v = a.toNat else u = a.toNat ∧ v = b.toNat) ∧ Wd u ∧ Wd v := by
    cases g
    · exact ⟨_, _, ⟨rfl, rfl⟩, wa, wb⟩
    · exact ⟨_, _, ⟨rfl, rfl⟩, wb, wa⟩
  obtain ⟨rA, rB, vA⟩ := tk_iv u v
  have hn := fun w => new_any u v wu wv w
  have hP := PI_pos
  by_cases hs : some2 u v = true
  · have hne : NE (tkLo u v) (tkHi u v) := by
      refine ⟨rA, rB, ?_⟩
      rcases vA with h | h
      · exfalso
        unfold some2 at hs
        rw [h.1, h.2] at hs
        simp at hs <;> omega
      · exact h
    exact ⟨_, _, hne, fun w => some_walk a b _ _ g rfl rfl hg u v huv _ _ _ rA rB hn _ _ (by rw [hs]; exact ⟨rfl, rfl⟩) w⟩
  · have hs' : some2 u v = false := by simpa using hs
    refine ⟨0, 4607182418800017408, ⟨Rg_zero, rg_one, by omega, by omega, by omega⟩, fun w => ?_⟩
    have := some_walk a b _ _ g rfl rfl hg u v huv _ _ _ rA rB hn 0 4607182418800017408 (by rw [hs']; exact ⟨rfl, rfl⟩) w
    rw [one_key, ← zero_ofKey]
    exact this

end Go.Proofs.Yteephgpefhodnaa
