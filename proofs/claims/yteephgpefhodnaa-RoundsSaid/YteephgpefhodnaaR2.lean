/- Cells that are carried from world to world; a loop of a known number of rounds. -/
import Derived.Test.YteephgpefhodnaaW0
import Derived.Laws.NewBlocks
namespace Go
open Go.Sort Go.RowKit
set_option linter.unusedVariables false

theorem cell_alloc {w : World} {o : Obj} {b f : Nat} {v : Value} (h : w.cell? ⟨b, f, none⟩ = some v) : (w.alloc o).cell? ⟨b, f, none⟩ = some v := by
  rw [World.cell?_alloc_past _ _ _ (show b < w.heap.size from block_lt_of_cell (a := ⟨b, f, none⟩) h)]; exact h
theorem froz_alloc {w : World} {o : Obj} {b f : Nat} {v : Value} (h : w.cell? ⟨b, f, none⟩ = some v) (hf : w.frozen? ⟨b, f, none⟩ = false) : (w.alloc o).frozen? ⟨b, f, none⟩ = false := by
  rw [World.frozen?_alloc_past _ _ _ (show b < w.heap.size from block_lt_of_cell (a := ⟨b, f, none⟩) h)]; exact hf
/-- A cell that holds v and may be written. -/
def At (w : World) (b f : Nat) (v : Value) : Prop := w.cell? ⟨b, f, none⟩ = some v ∧ w.frozen? ⟨b, f, none⟩ = false
theorem At.alloc {w : World} {o : Obj} {b f : Nat} {v : Value} (h : At w b f v) : At (w.alloc o) b f v := ⟨cell_alloc h.1, froz_alloc h.1 h.2⟩
theorem At.below {w w1 : World} {b f : Nat} {v : Value} (h : At w b f v) (hb : Below w.heap.size w w1) : At w1 b f v := ⟨hb.cells h.1, hb.froz h.1 h.2⟩
theorem At.drew {w : World} {b f : Nat} {v : Value} (h : At w b f v) : At w.drew b f v := h
theorem At.lt {w : World} {b f : Nat} {v : Value} (h : At w b f v) : b < w.heap.size := block_lt_of_cell (a := ⟨b, f, none⟩) h.1

theorem At.set_same {w : World} {b f : Nat} {u : Value} (h : At w b f u) (v : Value) : At (w.setCell ⟨b, f, none⟩ v) b f v := by
  refine ⟨World.cell?_setCell_same w _ _ h.1, ?_⟩
  have := h.2
  simpa [go_sem] using this
theorem At.set_off {w : World} {b f f' : Nat} {u : Value} (h : At w b f u) (hne : f' ≠ f) (v : Value) : At (w.setCell ⟨b, f', none⟩ v) b f u := by
  refine ⟨by rw [World.cell?_setCell_other w _ _ v (by intro e; apply hne; cases e; rfl)]; exact h.1, ?_⟩
  have := h.2
  simpa [go_sem] using this
theorem At.set_blk {w : World} {b b' f f' : Nat} {u : Value} (h : At w b f u) (hne : b' ≠ b) (v : Value) : At (w.setCell ⟨b', f', none⟩ v) b f u := by
  refine ⟨by rw [World.cell?_setCell_other w _ _ v (by intro e; apply hne; cases e; rfl)]; exact h.1, ?_⟩
  have := h.2
  simpa [go_sem] using this
theorem At.of {w w1 : World} {b f : Nat} {v : Value} (h : At w b f v) (e : w1 = w) : At w1 b f v := by rw [e]; exact h
theorem below_of {B : Nat} {w w1 w2 : World} (h : Below B w w1) (e : w2 = w1) : Below B w w2 := by rw [e]; exact h

/-- A loop that ends within n rounds. -/
def Rounds (P : Program) (c : Code) (Q : Exit → Act → World → Prop) : Nat → Act → World → Prop
  | 0, _, _ => False
  | n + 1, a, w => c.wp P (Exit.then (Rounds P c Q n) Q) a w
theorem wp_rounds {P : Program} {c : Code} {Q : Exit → Act → World → Prop} {a : Act} {w : World} (n : Nat) (h : Rounds P c Q n a w) : (Code.loop c).wp P Q a w := by
  intro b k cs
  have key : ∀ n a w, Rounds P c Q n a w → ∃ e a' w', Q e a' w' ∧ Arrives P (lone (b.at a (.code c :: .inLoop c :: k)) cs w) b k cs e a' w' := by
    intro n
    induction n with
    | zero => intro a w h; exact h.elim
    | succ n ih =>
      intro a w h
      obtain ⟨e, a₁, w₁, hq, harr⟩ := h b (.inLoop c :: k) cs
      cases e with
      | normal =>
        obtain ⟨e₂, a₂, w₂, hq₂, harr₂⟩ := ih a₁ w₁ hq
        exact ⟨e₂, a₂, w₂, hq₂, .of_steps (Steps.trans harr (.one step_inLoop)) harr₂⟩
      | exit id => exact ⟨_, a₁, w₁, hq, .pass (x := .inLoop c) rfl (fun _ _ => .inl (by simp)) harr⟩
      | goto l => exact ⟨_, a₁, w₁, hq, .pass (x := .inLoop c) rfl (fun _ _ => .inl (by simp)) harr⟩
      | ret => exact ⟨_, a₁, w₁, hq, .pass (x := .inLoop c) rfl (fun _ _ => .inl (by simp)) harr⟩
      | panic ch => exact ⟨_, a₁, w₁, hq, .pass (x := .inLoop c) rfl (fun _ _ => .inl (by simp)) harr⟩
      | outgrown => exact ⟨_, a₁, w₁, hq, .pass (x := .inLoop c) rfl (fun _ _ => .inl (by simp)) harr⟩
  obtain ⟨e, a', w', hq, harr⟩ := key n a w h
  exact ⟨e, a', w', hq, .of_steps (.one step_loop) harr⟩

end Go
