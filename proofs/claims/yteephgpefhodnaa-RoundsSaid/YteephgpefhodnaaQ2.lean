/- Slices of words: what they hold; trim, less. -/
import Derived.Test.YteephgpefhodnaaQ1
import Derived.Test.YteephgpefhodnaaA1
import Derived.Test.YteephgpefhodnaaR2
import Derived.LoopTactic
namespace Go.Proofs.Yteephgpefhodnaa
open Go.RowKit Go.Sort Go.Fl
set_option linter.unusedSimpArgs false
set_option linter.unusedVariables false

def W32 (n : Nat) : Value := .int .u32 (n : Int)
/-- The slice v holds these words, in a row of its own. -/
def Row (w : World) (v : Value) (l : List Nat) : Prop := w.ownsRow 0 109 1 v l.length (l.map W32)
theorem Row.cases {w : World} {v : Value} {l : List Nat} (h : Row w v l) :
    (v = .slice none 0 0 ∧ l = []) ∨ ∃ g cap, v = .slice (some ⟨g, 0, none⟩) l.length cap ∧ l.length ≤ cap ∧ cap ≤ maxLen ∧ g < w.heap.size ∧ ∀ j, j < l.length → w.cell? ⟨g, j, none⟩ = some (.int .u32 (l.getD j 0 : Nat)) := by
  have hc := fun g (e : v.ownBlock = some g) => World.ownsRow.cells h e
  have hl := World.ownsRow.lt h
  rcases h.2 with ⟨h1, h2⟩ | ⟨g, cap, cur, rfl, _, h3, h4, h5, _, _⟩
  · exact .inl ⟨h1, List.length_eq_zero_iff.1 h2⟩
  · refine .inr ⟨g, cap, rfl, h4, h5, (hl g rfl).2, fun j hj => ?_⟩
    have := hc g rfl j (W32 (l.getD j 0)) (by
      rw [List.getElem?_map, List.getD_eq_getElem?_getD, List.getElem?_eq_getElem hj]; rfl)
    have e : (⟨g, 0, none⟩ : Addr).add j = ⟨g, j, none⟩ := by unfold Addr.add; split <;> simp_all
    rw [e] at this
    exact this
theorem Row.below {w w' : World} {v : Value} {l : List Nat} (h : Row w v l) (hb : Below w.heap.size w w') : Row w' v l := by
  refine ⟨h.1, ?_⟩
  rcases h.2 with h1 | ⟨g, cap, cur, rfl, h2, h3, rest⟩
  · exact .inl h1
  · exact .inr ⟨g, cap, cur, rfl, h2, (hb.block g (Array.getElem?_eq_some_iff.1 h3).1).trans h3, rest⟩
theorem Row.take {w : World} {g n cap : Nat} {l : List Nat} (h : Row w (.slice (some ⟨g, 0, none⟩) n cap) l) (k : Nat) (hk : k ≤ l.length) : Row w (.slice (some ⟨g, 0, none⟩) k cap) (l.take k) := by
  rcases h.2 with ⟨h1, _⟩ | ⟨g', cap', cur, e, h2, h3, h4, h5, h6, h7⟩
  · cases h1
  · cases e
    refine ⟨by simp [List.length_take], .inr ⟨g, cap, cur, ?_, h2, h3, ?_, h5, h6, ?_⟩⟩
    · rw [List.length_take, Nat.min_eq_left hk]
    · rw [List.length_take]; omega
    · rw [List.length_take, Nat.min_eq_left hk, List.map_take, ← h7, List.take_take, Nat.mul_one, Nat.mul_one, Nat.min_eq_left hk]
def lenOf : Value → Nat
  | .slice _ n _ => n
  | _ => 0
theorem num_drop_last {l : List Nat} {k : Nat} (h : 0 < k) (h0 : l.getD (k - 1) 0 = 0) : num (l.take (k - 1)) = num (l.take k) := by
  have := num_take l (k - 1)
  rw [show k - 1 + 1 = k by omega, h0] at this
  omega
theorem trim_take {l : List Nat} {k : Nat} (hk : k ≤ l.length) (h : 0 < k) (h0 : ¬ l.getD (k - 1) 0 = 0) : Trim (l.take k) := by
  right
  rw [List.length_take, Nat.min_eq_left hk, List.getD_eq_getElem?_getD, List.getElem?_take_of_lt (by omega), ← List.getD_eq_getElem?_getD]
  exact h0
/-- A call gives a whole number's words. -/
def Gives (w : World) (e : Ending) (N : Nat) : Prop := ∃ v l, e = .returned v ∧ Row w v l ∧ Words l ∧ Trim l ∧ num l = N
theorem trim_any (v : Value) (l : List Nat) (hw : Words l) (w : World) (hr : Row w v l) :
    Calls Try.prog 130 #[v] w fun e w' => Gives w' e (num l) ∧ w' = w := by
  rcases hr.cases with ⟨rfl, rfl⟩ | ⟨g, cap, rfl, h1, h2, hg, hc⟩
  · go_enter Try.func130, Try.ntmps130
    go_wp2
    go_loop [0] (fun d => d = .slice none 0 0) (fun d => lenOf d)
    case atStart => rfl
    case round =>
      subst hrel
      go_wp2
      go_ret
      exact ⟨⟨_, [], rfl, hr, hw, .inl rfl, rfl⟩, rfl⟩
  · go_enter Try.func130, Try.ntmps130
    go_wp2
    unfold maxLen at h2
    go_loop [0] (fun d => ∃ k : Nat, k ≤ l.length ∧ d = .slice (some ⟨g, 0, none⟩) k cap ∧ num (l.take k) = num l) (fun d => lenOf d)
    case atStart => exact ⟨l.length, Nat.le_refl _, rfl, by rw [List.take_length]⟩
    case round =>
      obtain ⟨k, hk, rfl, hn⟩ := hrel
      have hcell : 0 < k → w.cell? ⟨g, k - 1, none⟩ = some (.int .u32 (l.getD (k - 1) 0 : Nat)) := fun _ => hc _ (by omega)
      go_wp2
      · have h0 : 0 < k := by assumption
        have hq : ((l[k - 1]?.getD 0 : Nat) == (0 : Int)) = true := by assumption
        go_round
        case rel => exact ⟨k - 1, by omega, rfl, by rw [num_drop_last h0 (by rw [List.getD_eq_getElem?_getD]; have := eq_of_beq hq; omega)]; exact hn⟩
        case measure => simp only [lenOf]; omega
      · have h0 : 0 < k := by assumption
        have hq : ((l[k - 1]?.getD 0 : Nat) == (0 : Int)) = false := by assumption
        go_ret
        exact ⟨⟨_, l.take k, rfl, hr.take k hk, hw.take k, trim_take hk h0 (by rw [List.getD_eq_getElem?_getD]; have := ne_of_beq_false hq; omega), hn⟩, rfl⟩
      · have h0 : k = 0 := by omega
        subst h0
        go_ret
        exact ⟨⟨_, l.take 0, rfl, hr.take 0 hk, hw.take 0, .inl (by simp), hn⟩, rfl⟩
theorem Row.len {w : World} {v : Value} {l : List Nat} (h : Row w v l) : ∃ p cap, v = .slice p l.length cap ∧ l.length ≤ 9223372036854775807 := by
  rcases h.cases with ⟨rfl, rfl⟩ | ⟨g, cap, rfl, h1, h2, _⟩
  · exact ⟨none, 0, rfl, by simp⟩
  · unfold maxLen at h2
    exact ⟨_, cap, rfl, by omega⟩
theorem below_drewN {B n : Nat} {w w' : World} (h : Below B w w') : Below B w (w'.drewN n) := h.trans ⟨rfl, rfl, rfl, Nat.le_refl _, fun _ _ => rfl⟩
theorem less_any (v u : Value) (a b : List Nat) (wa : Words a) (wb : Words b) (ta : Trim a) (tb : Trim b) (w : World) (hr : Row w v a) (hs : Row w u b) :
    Calls Try.prog 133 #[v, u] w fun e w' => e = .returned (.bool (decide (num a < num b))) ∧ Below w.heap.size w w' := by
  by_cases hl : a.length = b.length
  · by_cases h0 : a.length = 0
    · have ea := List.length_eq_zero_iff.1 h0
      have eb := List.length_eq_zero_iff.1 (hl ▸ h0)
      obtain ⟨p, c, rfl, _⟩ := hr.len
      obtain ⟨p', c', rfl, _⟩ := hs.len
      subst ea
      subst eb
      simp only [List.length_nil]
      go_enter Try.func133, Try.ntmps133
      go_wp2
      go_loop [5] (fun i => i = .int .i64 (-1)) (fun i => 0)
      case atStart => rfl
      case round =>
        subst hrel
        go_wp2
        go_ret
        exact ⟨rfl, Below.refl _ _⟩
    · rcases hr.cases with ⟨_, ea⟩ | ⟨g, c, rfl, h1, h2, _, hc⟩
      · rw [ea] at h0; exact absurd rfl h0
      rcases hs.cases with ⟨_, eb⟩ | ⟨g', c', rfl, h1', h2', _, hc'⟩
      · rw [eb] at hl; rw [hl] at h0; exact absurd rfl h0
      unfold maxLen at h2 h2'
      obtain ⟨n, hn⟩ : ∃ n, b.length = n := ⟨_, rfl⟩
      rw [hn] at hl
      rw [hl] at hc h1 h0 ⊢
      rw [hn] at hc' h1' ⊢
      have hz : decide (num a < num b) = false ↔ ¬ num a < num b := by simp
      go_enter Try.func133, Try.ntmps133
      go_wp2
      go_loopw [5] (fun i wr => ∃ k : Nat, k ≤ n ∧ i = .int .i64 ((k : Int) - 1) ∧ a.drop k = b.drop k ∧ Below w.heap.size w wr) (fun i _ => (intOf i + 1).toNat)
      case atStart => exact ⟨n, Nat.le_refl _, by go_num, by rw [List.drop_of_length_le (by omega), List.drop_of_length_le (by omega)], Below.refl _ _⟩
      case round =>
        obtain ⟨k, hk, rfl, hd, hB⟩ := hrel
        go_wp2
        · have h1k : (1 : Int) ≤ (k : Int) := by assumption
          have hA := RowKit.Below.cells hB (hc (k - 1) (by omega))
          have hA' := RowKit.Below.cells hB (hc' (k - 1) (by omega))
          have hd' : a.drop (k - 1 + 1) = b.drop (k - 1 + 1) := by rw [show k - 1 + 1 = k by omega]; exact hd
          refine wp_region_quiet_lit (by kernel_rfl) (by kernel_rfl) ?_
          repeat (any_goals (first | go_big_quiet_step (fail) | quiet_step (fail) | (refine wpQuiet_step (fun K hK => ?_); go_simp; split <;> (refine hK _ ?_; clear hK K))))
          all_goals (refine wpQuiet_nil ?_; intro _ hw'; obtain ⟨nq, hw''⟩ := hw'; subst hw'')
          go_wp2
          · have hq : ((a[k - 1]?.getD 0 : Nat) != ((b[k - 1]?.getD 0 : Nat) : Int)) = true := by assumption
            have hne : a.getD (k - 1) 0 ≠ b.getD (k - 1) 0 := by
              rw [List.getD_eq_getElem?_getD, List.getD_eq_getElem?_getD]
              intro e
              rw [e] at hq
              simp at hq
            have hl2 := less_at wa wb (k - 1) (by omega) (by omega) hd' hne
            rw [List.getD_eq_getElem?_getD, List.getD_eq_getElem?_getD] at hl2
            refine wp_region_quiet_lit (by kernel_rfl) (by kernel_rfl) ?_
            repeat (any_goals (first | go_big_quiet_step (fail) | quiet_step (fail) | (refine wpQuiet_step (fun K hK => ?_); go_simp; split <;> (refine hK _ ?_; clear hK K))))
            all_goals (refine wpQuiet_nil ?_; intro _ hw'; obtain ⟨nq, hw''⟩ := hw'; subst hw'')
            go_wp2
            go_ret
            exact ⟨ret_b (decide_eq_decide.2 (by rw [hl2]; first | done | exact Int.ofNat_lt)), below_drewN (below_drewN hB)⟩
          · have hq : ((a[k - 1]?.getD 0 : Nat) != ((b[k - 1]?.getD 0 : Nat) : Int)) = false := by assumption
            have he : a.getD (k - 1) 0 = b.getD (k - 1) 0 := by
              rw [List.getD_eq_getElem?_getD, List.getD_eq_getElem?_getD]
              have := eq_of_beq (by simpa using hq : ((a[k - 1]?.getD 0 : Nat) == ((b[k - 1]?.getD 0 : Nat) : Int)) = true)
              omega
            go_roundw
            case rel => exact ⟨k - 1, by omega, by go_num, drop_step (k - 1) (by omega) (by omega) hd' he, below_drewN hB⟩
            case measure => simp only [intOf]; omega
        · have h0 : k = 0 := by omega
          subst h0
          rw [List.drop_zero, List.drop_zero] at hd
          subst hd
          go_ret
          exact ⟨ret_b (by simp), hB⟩
  · obtain ⟨p, c, rfl, _⟩ := hr.len
    obtain ⟨p', c', rfl, _⟩ := hs.len
    have e : decide (num a < num b) = decide (a.length < b.length) := by
      by_cases h : a.length < b.length
      · rw [decide_eq_true h, decide_eq_true (num_len wa tb h)]
      · have := num_len wb ta (show b.length < a.length by omega)
        rw [decide_eq_false h, decide_eq_false (by omega)]
    rw [e]
    go_enter Try.func133, Try.ntmps133
    go_wp2
    go_ret
    exact ⟨rfl, Below.refl _ _⟩
end Go.Proofs.Yteephgpefhodnaa
