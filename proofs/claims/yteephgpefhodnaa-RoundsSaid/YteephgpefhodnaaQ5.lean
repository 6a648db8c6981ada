/- Slices of words: shift. -/
import Derived.Test.YteephgpefhodnaaQ4
import Derived.Laws.OwnMore
namespace Go.Proofs.Yteephgpefhodnaa
open Go.RowKit Go.Sort Go.Fl
set_option linter.unusedSimpArgs false
set_option linter.unusedVariables false

theorem made_zeros (z : Nat) : (madeCells (Value.int .u32 0).cells (z * 1)).toList = (List.replicate z 0).map W32 := by
  rw [Nat.mul_one]
  apply List.ext_getElem
  · simp [size_madeCells]
  · intro i h1 h2
    simp [madeCells, Value.cells, Nat.mod_one, W32]
theorem grown_none {B : Nat} {w w1 : World} (hg : w.grownBy w1 none) (hB : B ≤ w.heap.size) : Below B w w1 :=
  ⟨hg.os, hg.tape, hg.output, hg.size, fun k hk => hg.block k (by omega) (by simp)⟩
/-- The word's bits moved up, laid on those that were left. -/
theorem or_shift (x cc s : Nat) (hx : x ≤ 4294967295) (hs : s ≤ 31) (hc : cc < 2 ^ s) : bits BinOp.or IntKind.u64 (cc : Int) (IntKind.u64.wrap ((x : Int) * 2 ^ s)) = ((cc + x * 2 ^ s : Nat) : Int) ∧ cc + x * 2 ^ s ≤ 9223372036854775807 := by
  have h31 : 2 ^ s ≤ 2 ^ 31 := Nat.pow_le_pow_right (by omega) hs
  have hm : x * 2 ^ s ≤ 4294967295 * 2 ^ 31 := Nat.mul_le_mul hx h31
  have e : ((x : Int) * 2 ^ s) = ((x * 2 ^ s : Nat) : Int) := by rw [Int.natCast_mul, Int.natCast_pow]; rfl
  have hw : IntKind.u64.wrap ((x * 2 ^ s : Nat) : Int) = ((x * 2 ^ s : Nat) : Int) := by rw [IntKind.wrap_u64]; omega
  rw [e, hw, u64_or_nat cc (x * 2 ^ s) (by omega) (by omega)]
  have o := Nat.two_pow_add_eq_or_of_lt hc x
  rw [Nat.or_comm, Nat.mul_comm x, ← o]
  rw [Nat.mul_comm x] at hm
  exact ⟨congrArg _ (by omega), by omega⟩
set_option maxRecDepth 4000 in
set_option maxHeartbeats 1000000 in
theorem shift_1 (a : List Nat) (wa : Words a) (g c : Nat) (h0 : 0 < a.length) (h1 : a.length ≤ 1000) (n z s : Nat) (hz : (n : Int).tdiv 32 = (z : Int)) (hs : (n : Int).tmod 32 = (s : Int)) (hs2 : s ≤ 31) (hn : n ≤ 60000) (hzb : z ≤ 2000) (w : World)
    (hc : ∀ j, j < a.length → w.cell? ⟨g, j, none⟩ = some (.int .u32 (a.getD j 0 : Nat))) :
    Calls Try.prog 131 #[.slice (some ⟨g, 0, none⟩) a.length c, .int .i64 n] w fun e w' => Gives w' e (2 ^ (32 * z + s) * num a) ∧ Below w.heap.size w w' := by
  obtain ⟨i0, hi, hz0, hz1, hz2⟩ := info_parts info_u32
  obtain ⟨w0, hmk, hown0, hg0⟩ := run_make_full (P := Try.prog) w w.heap.size 98 109 i0 (.int .u32 0) 1 Try.underlying98 hi hz0 hz1 .i64 .i64 z (by rw [hz2]; omega) (by unfold maxLen; omega) (Nat.le_refl _)
  have b0 : ((a.length : Int) == 0) = false := by rw [beq_eq_false_iff_ne]; omega
  go_enter Try.func131, Try.ntmps131
  go_wp2
  have hB0 := grown_none (B := w.heap.size) hg0 (Nat.le_refl _)
  rw [made_zeros] at hown0
  clear hmk hg0
  go_loopw [5, 7, 8] (fun out cv i wr => ∃ (k cc : Nat) (o : List Nat), i = .int .i64 k ∧ cv = .int .u64 cc ∧ k ≤ a.length ∧ ShiftAt a o z s k cc ∧ wr.ownsRow w.heap.size 109 1 out o.length (o.map W32) ∧ Below w.heap.size w wr)
    (fun _ _ i _ => a.length - (intOf i).toNat)
  case atStart => exact ⟨0, 0, List.replicate z 0, rfl, rfl, by omega, ⟨[], by simp, rfl, Words.nil, Nat.two_pow_pos _, by simp [num]⟩, by rw [List.length_replicate]; exact hown0, hB0⟩
  case round =>
    obtain ⟨k, cc, o, rfl, rfl, hk, hp, hown, hB⟩ := hrel
    have hst := shift_step wa hp
    obtain ⟨oo, ho1, ho2, ho3, hcc, ho4⟩ := id hp
    have hol : o.length = z + k := by rw [ho1, List.length_append, List.length_replicate, ho2]
    clear ho1 ho2 ho3 ho4
    obtain ⟨x, hx⟩ : ∃ x, x = a.getD k 0 := ⟨_, rfl⟩
    rw [← hx] at hst
    have gx : x ≤ 4294967295 := by have := wa.getD k; rw [← hx, BB_eq] at this; omega
    have hcell : k < a.length → wr.cell? ⟨g, k, none⟩ = some (.int .u32 (x : Nat)) := fun h => hx ▸ RowKit.Below.cells hB (hc k h)
    have Hst := Lib.hid hst
    have Hp := Lib.hid hp
    have Hc := Lib.hid hc
    have Hx := Lib.hid hx
    have Hcc := Lib.hid hcc
    clear hst hp hc hx hcc wa
    obtain ⟨m, hm⟩ : ∃ m, m = cc + x * 2 ^ s := ⟨_, rfl⟩
    have ho := or_shift x cc s gx hs2 Hcc.out
    rw [← hm] at ho
    obtain ⟨hor, hmb⟩ := ho
    have hst := Hst.out
    rw [← hm] at hst
    clear Hst
    have Hst := Lib.hid hst
    have Hm := Lib.hid hm
    clear hst hm
    by_cases hka : k < a.length
    · have c1 := hcell hka
      clear hcell
      go_wp2_with (at_builtin; refine wpList_append_own _ rfl _ _ 98 rfl w.heap.size 109 i0 (.int .u32 0) 1 4 Try.underlying98 hi hz0 hz1 hz2 rfl (by decide) _ _ _ rfl (hown.alloc _) ⟨wr.heap.size, 0, none⟩ 1 1 [.int .u32 ((m : Int) % 4294967296)] rfl rfl (by intro j u hj; match j, hj with | 0, hj => (simp at hj; subst hj; simp [Addr.add])) (by intro u hu; simp at hu; subst hu; rfl) (by unfold maxLen; omega) (by omega) (by have := hB.size; simp; omega) ?_; intro v' w1 hown' hgrow _)
      have R := append_rel (d := m % BB) hB hown hown' hgrow (by unfold W32; rw [BB_eq]; exact congrArg _ (by omega))
      clear hown' hgrow hown
      go_wp2
      go_roundw
      case rel => exact ⟨k + 1, m / BB, _, by go_num, by rw [BB_eq]; exact congrArg _ (by omega), by omega, Hst.out, R.1, R.2⟩
      case measure => simp only [intOf]; omega
    · have hd := shift_done Hp.out (by omega) (by omega)
      have Hd := Lib.hid hd
      clear hd hcell
      have hcb : cc ≤ 4294967295 := by
        have : 2 ^ s ≤ 2 ^ 31 := Nat.pow_le_pow_right (by omega) hs2
        have := Hcc.out
        omega
      go_wp2_with (first | (at_builtin; refine wpList_append_own _ rfl _ _ 98 rfl w.heap.size 109 i0 (.int .u32 0) 1 4 Try.underlying98 hi hz0 hz1 hz2 rfl (by decide) _ _ _ rfl (hown.alloc _) ⟨wr.heap.size, 0, none⟩ 1 1 [.int .u32 ((cc : Int))] rfl rfl (by intro j u hj; match j, hj with | 0, hj => (simp at hj; subst hj; simp [Addr.add])) (by intro u hu; simp at hu; subst hu; rfl) (by unfold maxLen; omega) (by omega) (by have := hB.size; simp; omega) ?_; intro v' w1 hown' hgrow _) | (go_at_call 130; refine (trim_any _ _ Hd.out.1 _ (own_row (append_rel (d := cc) hB hown hown' hgrow rfl).1 (by simp))).mono ?_; rintro e w2 ⟨⟨v3, l3, rfl, g1, g2, g3, g4⟩, rfl⟩))
      go_ret
      exact ⟨⟨_, l3, rfl, g1, g2, g3, g4.trans Hd.out.2⟩, (append_rel (d := cc) hB hown hown' hgrow rfl).2⟩
theorem shift_0 (p : Option Addr) (c n : Nat) (w : World) (hr : Row w (.slice p 0 c) []) :
    Calls Try.prog 131 #[.slice p 0 c, .int .i64 n] w fun e w' => Gives w' e 0 ∧ Below w.heap.size w w' := by
  go_enter Try.func131, Try.ntmps131
  go_wp2
  go_ret
  exact ⟨⟨_, [], rfl, ⟨rfl, .inl ⟨rfl, rfl⟩⟩, Words.nil, .inl rfl, rfl⟩, Below.refl _ _⟩
theorem shift_any (v : Value) (a : List Nat) (n : Nat) (wa : Words a) (h1 : a.length ≤ 1000) (hn : n ≤ 60000) (w : World) (hr : Row w v a) :
    Calls Try.prog 131 #[v, .int .i64 n] w fun e w' => Gives w' e (2 ^ n * num a) ∧ Below w.heap.size w w' := by
  by_cases h0 : a.length = 0
  · have e := List.length_eq_zero_iff.1 h0
    subst e
    obtain ⟨p, c, rfl, _⟩ := hr.len
    have := shift_0 p c n w hr
    rw [show 2 ^ n * num [] = 0 from Nat.mul_zero _]
    exact this
  · rcases hr.cases with ⟨_, e⟩ | ⟨g, c, rfl, _, _, _, hc⟩
    · rw [e] at h0; exact absurd rfl h0
    have := shift_1 a wa g c (by omega) h1 n (n / 32) (n % 32) (by rw [Int.tdiv_eq_ediv_of_nonneg (by omega)]; omega) (by rw [Int.tmod_eq_emod_of_nonneg (by omega)]; omega) (by omega) hn (by omega) w hc
    rw [show 32 * (n / 32) + n % 32 = n by omega] at this
    exact this
end Go.Proofs.Yteephgpefhodnaa
