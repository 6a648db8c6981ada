/- Slices that a function lays itself; an append where no room is left. -/
import Derived.Test.YteephgpefhodnaaV4
import Derived.Test.YteephgpefhodnaaV8
import Derived.ArgAppend
namespace Go.Proofs.Yteephgpefhodnaa
open Go.RowKit Go.Sort Go.Fl
set_option linter.unusedSimpArgs false
set_option linter.unusedVariables false

theorem lit_own {α : Type} {f : α → List Value} {T : TypeId} {l : List α} {cs : Array Value} {W : World} {B n : Nat} (hB : B = W.heap.size) (hn : n = l.length) (h : l.flatMap f = cs.toList) (hs : cs.size = n * 3) (h4 : n ≤ 4) :
    Own f T 0 (W.alloc (.cells cs T)) (.slice (some ⟨B, 0, none⟩) n n) l := by
  subst hB hn
  unfold Own
  rw [h]
  exact World.ownsRow_lit W cs _ (Nat.zero_le _) (by unfold maxLen; omega) hs
theorem callGo {P : Program} {f : FuncId} {args : Array Value} {R : Ending → World → Prop} {W : World} {p : World → Prop} (h : p W) (k : ∀ x, p x → Calls P f args x R) : Calls P f args W R := k W h
theorem wpHold {P : Program} {c : Code} {Q : Exit → Act → World → Prop} {a : Act} {W : World} {p : World → Prop} (h : p W) (k : ∀ x, p x → c.wp P Q a x) : c.wp P Q a W := k W h
theorem bA {w0 w : World} (h : Below w0.heap.size w0 w) (o : Obj) : Below w0.heap.size w0 (w.alloc o) := h.alloc h.size o
theorem bS {w0 w : World} (h : Below w0.heap.size w0 w) {p : Addr} (hp : w0.heap.size ≤ p.block) (u : Value) : Below w0.heap.size w0 (w.setCell p u) := h.setCell hp u
theorem bS2 {w0 w : World} {p : Addr} (hp : w0.heap.size ≤ p.block) (u : Value) (h : Below w0.heap.size w0 w) : Below w0.heap.size w0 (w.setCell p u) := h.setCell hp u
theorem bT {w0 w w1 : World} (h : Below w0.heap.size w0 w) (hb : Below w.heap.size w w1) : Below w0.heap.size w0 w1 := h.trans (hb.mono h.size)
theorem step_grow {α : Type} {f : α → List Value} {P : Program} {ops : Array Oper} {o : Oper} {a : Act} {w : World} {K : Act → World → Prop} {Q : Exit → Act → World → Prop} {E : Prop}
    (hg : o.guard = none) (s x : Operand) (t : TypeId) (hop : o.op = Op.call { callee := Callee.builtin Builtin.append, args := #[s, x], argTypes := #[t, t] })
    (e : TypeId) (i : TypeInfo) (z : Value) (h1 : P.underlying t = some (.slice e)) (h2 : P.info? e = some i) (h3 : i.zero = some z) (h4 : i.size = 3) (h5 : i.bytes = 24) (h6 : z.cells.size = 3)
    (l m : List α) (g B n k : Nat) (hn : n = l.length) (hk : k = m.length) (hf : ∀ x, ∀ u ∈ f x, u.oneCell' = true) (hk0 : 0 < k) (hsz : n + k ≤ 65536) (hs : a.eval s = .slice (some ⟨g, 0, none⟩) n n) (hx : a.eval x = .slice (some ⟨B, 0, none⟩) k k)
    (hl : Own f e 0 w (.slice (some ⟨g, 0, none⟩) n n) l) (hm : Own f e 0 w (.slice (some ⟨B, 0, none⟩) k k) m)
    (hK : ∀ v' w', Own f e w.heap.size w' v' (l ++ m) → Below w.heap.size w w' → K (a.put o.dst v') w') :
    if Region.wanted o (yielded ops a.tmps) = true then Oper.wp P o a w K Q else E := by
  have hw : Region.wanted o (yielded ops a.tmps) = true := by simp [Region.wanted, hg]
  rw [if_pos hw]
  subst hn hk
  obtain ⟨v', w', hrun, r1, r2⟩ := run_append_arg_grows (P := P) w t o.type e i z 3 24 h1 h2 h3 h4 h5 h6 (by decide) ⟨g, 0, none⟩ l.length l.length (l.flatMap f) hl.1 (World.ownsRow.cells hl (g := g) rfl) ⟨B, 0, none⟩ m.length m.length (m.flatMap f) hm.1 (World.ownsRow.cells hm (g := B) rfl) (by omega) (by unfold maxLen; omega) (by omega)
  unfold Oper.wp
  simp [execOp, hop, resolve, invoke, builtin, hs, hx, hrun, Result.andThen]
  refine hK v' w' ?_ ((Below.refl _ w).grown r2 (Nat.le_refl _) (fun _ h => by cases h))
  unfold Own
  rw [List.length_append, List.flatMap_append]
  exact r1
theorem one_cS : ∀ x, ∀ u ∈ cS x, u.oneCell' = true := by
  intro x u hu
  simp [cS] at hu
  rcases hu with rfl | rfl | rfl <;> rfl
/-- A block whose cells are nought. -/
def Z3 (W : World) (b : Nat) : Prop := At W b 0 (.float .f64 0) ∧ At W b 1 (.float .f64 0) ∧ At W b 2 (.int .i64 0)
theorem Z3.below {W w2 : World} {b : Nat} (hb : Below W.heap.size W w2) (h : Z3 W b) : Z3 w2 b := ⟨At.below h.1 hb, At.below h.2.1 hb, At.below h.2.2 hb⟩
theorem Z3.alloc {W : World} {b : Nat} (h : Z3 W b) (o : Obj) : Z3 (W.alloc o) b := ⟨At.alloc h.1, At.alloc h.2.1, At.alloc h.2.2⟩
theorem Z3.drew {W : World} {b : Nat} (h : Z3 W b) : Z3 W.drew b := h
theorem Z3.lit {W : World} {b : Nat} {T : TypeId} (h : b = W.heap.size) : Z3 (W.alloc (.cells #[.float .f64 0, .float .f64 0, .int .i64 0] T)) b := by
  subst h
  exact ⟨⟨by simp [go_sem], by simp [go_sem]⟩, ⟨by simp [go_sem], by simp [go_sem]⟩, ⟨by simp [go_sem], by simp [go_sem]⟩⟩
theorem rel_out {w w0 W : World} {L : List (Nat × Nat × Value)} {v u u' : Value} {l : List St} (H : Hold w w0 L) (OS : Hid (Own cS 44 0 w0 v l)) (e : u = u') (hB : Below w0.heap.size w0 W) : u = u' ∧ Hold w W L ∧ Hid (Own cS 44 0 W v l) := ⟨e, H.below hB, Lib.hid (OS.out.grown hB)⟩
end Go.Proofs.Yteephgpefhodnaa
