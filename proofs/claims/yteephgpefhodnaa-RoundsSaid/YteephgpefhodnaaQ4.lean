/- Slices of words: minus, shift. -/
import Derived.Test.YteephgpefhodnaaQ3
namespace Go.Proofs.Yteephgpefhodnaa
open Go.RowKit Go.Sort Go.Fl
set_option linter.unusedSimpArgs false
set_option linter.unusedVariables false

theorem w32_toNat {z : Int} (h : 0 ≤ z) : Value.int .u32 z = W32 z.toNat := by unfold W32; rw [Int.toNat_of_nonneg h]
theorem minus_digit (z : Int) : Value.int .u32 (z % 4294967296) = W32 (z % (BB : Int)).toNat := by
  rw [← w32_toNat (Int.emod_nonneg _ (by rw [BB_eq]; omega)), BB_eq]; rfl
set_option maxRecDepth 4000 in
set_option maxHeartbeats 1000000 in
theorem minus_11 (a : List Nat) (wa : Words a) (g c : Nat) (h1 : a.length ≤ 4000) (b : List Nat) (wb : Words b) (g' c' : Nat) (h2 : b.length ≤ a.length) (hle : num b ≤ num a) (w : World)
    (hc : ∀ j, j < a.length → w.cell? ⟨g, j, none⟩ = some (.int .u32 (a.getD j 0 : Nat)))
    (hc' : ∀ j, j < b.length → w.cell? ⟨g', j, none⟩ = some (.int .u32 (b.getD j 0 : Nat))) :
    Calls Try.prog 134 #[.slice (some ⟨g, 0, none⟩) a.length c, .slice (some ⟨g', 0, none⟩) b.length c'] w fun e w' => Gives w' e (num a - num b) ∧ Below w.heap.size w w' := by
  obtain ⟨i0, hi, hz0, hz1, hz2⟩ := info_parts info_u32
  go_enter Try.func134, Try.ntmps134
  go_wp2
  go_loopw [5, 6, 7] (fun out cv i wr => ∃ (k : Nat) (cc : Int) (o : List Nat), i = .int .i64 k ∧ cv = .int .i64 cc ∧ k ≤ a.length ∧ MinusAt a b o k cc ∧ wr.ownsRow w.heap.size 109 1 out o.length (o.map W32) ∧ Below w.heap.size w wr)
    (fun _ _ i _ => a.length - (intOf i).toNat)
  case atStart => exact ⟨0, 0, [], rfl, rfl, by omega, ⟨rfl, Words.nil, by omega, by omega, by simp [num]⟩, World.ownsRow_nil _ _ _ _, Below.refl _ _⟩
  case round =>
    obtain ⟨k, cc, o, rfl, rfl, hk, hp, hown, hB⟩ := hrel
    have hcc : -1 ≤ cc := hp.2.2.1
    have hcc2 : cc ≤ 0 := hp.2.2.2.1
    have hol : o.length = k := hp.1
    have hst := minus_step wa wb hp
    obtain ⟨x, hx⟩ : ∃ x, x = (a : List Nat).getD k 0 := ⟨_, rfl⟩
    obtain ⟨y, hy⟩ : ∃ y, y = (b : List Nat).getD k 0 := ⟨_, rfl⟩
    rw [← hx, ← hy] at hst
    have gx : x ≤ 4294967295 := by have := wa.getD k; rw [← hx, BB_eq] at this; omega
    have gy : y ≤ 4294967295 := by have := wb.getD k; rw [← hy, BB_eq] at this; omega
    have hcell : k < a.length → wr.cell? ⟨g, k, none⟩ = some (.int .u32 (x : Nat)) := fun h => hx ▸ RowKit.Below.cells hB (hc k h)
    have hcell' : k < b.length → wr.cell? ⟨g', k, none⟩ = some (.int .u32 (y : Nat)) := fun h => hy ▸ RowKit.Below.cells hB (hc' k h)
    have zy : ¬ k < b.length → y = 0 := fun h => by rw [hy, List.getD_eq_getElem?_getD, List.getElem?_eq_none (by omega)]; rfl
    have Hhst := Lib.hid hst
    have Hhp := Lib.hid hp
    have Hhx := Lib.hid hx
    have Hhy := Lib.hid hy
    have Hhc := Lib.hid hc
    have Hhc' := Lib.hid hc'
    have Hhle := Lib.hid hle
    clear hst hp hx hy hc hc' hle wa wb
    by_cases hka : k < a.length
    · by_cases hkb : k < b.length
      · have c1 := hcell hka
        have c2 := hcell' hkb
        clear hcell hcell' zy
        go_wp2_with (at_builtin; refine wpList_append_own _ rfl _ _ 98 rfl w.heap.size 109 i0 (.int .u32 0) 1 4 Try.underlying98 hi hz0 hz1 hz2 rfl (by decide) _ _ _ rfl (hown.alloc _) ⟨wr.heap.size, 0, none⟩ 1 1 [.int .u32 ((cc + (x : Int) - (y : Int)) % 4294967296)] rfl rfl (by intro j u hj; match j, hj with | 0, hj => (simp at hj; subst hj; simp [Addr.add])) (by intro u hu; simp at hu; subst hu; rfl) (by unfold maxLen; omega) (by omega) (by have := hB.size; simp; omega) ?_; intro v' w1 hown' hgrow _)
        have R := append_rel (d := ((cc + (x : Int) - (y : Int)) % (BB : Int)).toNat) hB hown hown' hgrow (by rw [← minus_digit]; first | done | exact congrArg _ (by omega))
        clear hown' hgrow hown
        go_wp2
        go_roundw
        case rel => exact ⟨k + 1, _, _, by go_num, by rw [BB_eq]; exact congrArg _ (by omega), by omega, Hhst.out, R.1, R.2⟩
        case measure => simp only [intOf]; omega
      · have c1 := hcell hka
        have ey : y = 0 := zy hkb
        subst ey
        clear hcell hcell' zy
        go_wp2_with (at_builtin; refine wpList_append_own _ rfl _ _ 98 rfl w.heap.size 109 i0 (.int .u32 0) 1 4 Try.underlying98 hi hz0 hz1 hz2 rfl (by decide) _ _ _ rfl (hown.alloc _) ⟨wr.heap.size, 0, none⟩ 1 1 [.int .u32 ((cc + (x : Int)) % 4294967296)] rfl rfl (by intro j u hj; match j, hj with | 0, hj => (simp at hj; subst hj; simp [Addr.add])) (by intro u hu; simp at hu; subst hu; rfl) (by unfold maxLen; omega) (by omega) (by have := hB.size; simp; omega) ?_; intro v' w1 hown' hgrow _)
        have R := append_rel (d := ((cc + (x : Int) - ((0 : Nat) : Int)) % (BB : Int)).toNat) hB hown hown' hgrow (by rw [← minus_digit]; first | done | exact congrArg _ (by omega))
        clear hown' hgrow hown
        go_wp2
        go_roundw
        case rel => exact ⟨k + 1, _, _, by go_num, by rw [BB_eq]; exact congrArg _ (by omega), by omega, Hhst.out, R.1, R.2⟩
        case measure => simp only [intOf]; omega
    · have hd := minus_done Hhp.out (by omega) (by omega) Hhle.out
      have Hd := Lib.hid hd
      clear hd
      go_wp2_with (go_at_call 130; refine (trim_any _ _ Hhp.out.2.1 _ (own_row hown rfl)).mono ?_; rintro e w2 ⟨⟨v3, l3, rfl, g1, g2, g3, g4⟩, rfl⟩)
      go_ret
      exact ⟨⟨_, l3, rfl, g1, g2, g3, g4.trans Hd.out⟩, hB⟩

set_option maxRecDepth 4000 in
set_option maxHeartbeats 1000000 in
theorem minus_10 (a : List Nat) (wa : Words a) (g c : Nat) (h1 : a.length ≤ 4000) (w : World)
    (hc : ∀ j, j < a.length → w.cell? ⟨g, j, none⟩ = some (.int .u32 (a.getD j 0 : Nat))) :
    Calls Try.prog 134 #[.slice (some ⟨g, 0, none⟩) a.length c, .slice none 0 0] w fun e w' => Gives w' e (num a - num ([] : List Nat)) ∧ Below w.heap.size w w' := by
  have wb := Words.nil
  obtain ⟨i0, hi, hz0, hz1, hz2⟩ := info_parts info_u32
  go_enter Try.func134, Try.ntmps134
  go_wp2
  go_loopw [5, 6, 7] (fun out cv i wr => ∃ (k : Nat) (cc : Int) (o : List Nat), i = .int .i64 k ∧ cv = .int .i64 cc ∧ k ≤ a.length ∧ MinusAt a [] o k cc ∧ wr.ownsRow w.heap.size 109 1 out o.length (o.map W32) ∧ Below w.heap.size w wr)
    (fun _ _ i _ => a.length - (intOf i).toNat)
  case atStart => exact ⟨0, 0, [], rfl, rfl, by omega, ⟨rfl, Words.nil, by omega, by omega, by simp [num]⟩, World.ownsRow_nil _ _ _ _, Below.refl _ _⟩
  case round =>
    obtain ⟨k, cc, o, rfl, rfl, hk, hp, hown, hB⟩ := hrel
    have hcc : -1 ≤ cc := hp.2.2.1
    have hcc2 : cc ≤ 0 := hp.2.2.2.1
    have hol : o.length = k := hp.1
    have hst := minus_step wa wb hp
    obtain ⟨x, hx⟩ : ∃ x, x = (a : List Nat).getD k 0 := ⟨_, rfl⟩
    obtain ⟨y, hy⟩ : ∃ y, y = ([] : List Nat).getD k 0 := ⟨_, rfl⟩
    rw [← hx, ← hy] at hst
    have gx : x ≤ 4294967295 := by have := wa.getD k; rw [← hx, BB_eq] at this; omega
    have gy : y ≤ 4294967295 := by have := wb.getD k; rw [← hy, BB_eq] at this; omega
    have hcell : k < a.length → wr.cell? ⟨g, k, none⟩ = some (.int .u32 (x : Nat)) := fun h => hx ▸ RowKit.Below.cells hB (hc k h)
    have zy : y = 0 := by rw [hy]; rfl
    have Hhst := Lib.hid hst
    have Hhp := Lib.hid hp
    have Hhx := Lib.hid hx
    have Hhy := Lib.hid hy
    have Hhc := Lib.hid hc
    clear hst hp hx hy hc wa wb
    by_cases hka : k < a.length
    · have c1 := hcell hka
      have ey : y = 0 := zy
      subst ey
      clear hcell
      go_wp2_with (at_builtin; refine wpList_append_own _ rfl _ _ 98 rfl w.heap.size 109 i0 (.int .u32 0) 1 4 Try.underlying98 hi hz0 hz1 hz2 rfl (by decide) _ _ _ rfl (hown.alloc _) ⟨wr.heap.size, 0, none⟩ 1 1 [.int .u32 ((cc + (x : Int)) % 4294967296)] rfl rfl (by intro j u hj; match j, hj with | 0, hj => (simp at hj; subst hj; simp [Addr.add])) (by intro u hu; simp at hu; subst hu; rfl) (by unfold maxLen; omega) (by omega) (by have := hB.size; simp; omega) ?_; intro v' w1 hown' hgrow _)
      have R := append_rel (d := ((cc + (x : Int) - ((0 : Nat) : Int)) % (BB : Int)).toNat) hB hown hown' hgrow (by rw [← minus_digit]; first | done | exact congrArg _ (by omega))
      clear hown' hgrow hown
      go_wp2
      go_roundw
      case rel => exact ⟨k + 1, _, _, by go_num, by rw [BB_eq]; exact congrArg _ (by omega), by omega, Hhst.out, R.1, R.2⟩
      case measure => simp only [intOf]; omega
    · have hd := minus_done Hhp.out (by omega) (by simp) (Nat.zero_le _)
      have Hd := Lib.hid hd
      clear hd
      go_wp2_with (go_at_call 130; refine (trim_any _ _ Hhp.out.2.1 _ (own_row hown rfl)).mono ?_; rintro e w2 ⟨⟨v3, l3, rfl, g1, g2, g3, g4⟩, rfl⟩)
      go_ret
      exact ⟨⟨_, l3, rfl, g1, g2, g3, g4.trans Hd.out⟩, hB⟩

set_option maxRecDepth 4000 in
set_option maxHeartbeats 1000000 in
theorem minus_00 (w : World) :
    Calls Try.prog 134 #[.slice none 0 0, .slice none 0 0] w fun e w' => Gives w' e (num ([] : List Nat) - num ([] : List Nat)) ∧ Below w.heap.size w w' := by
  have wa := Words.nil
  have wb := Words.nil
  obtain ⟨i0, hi, hz0, hz1, hz2⟩ := info_parts info_u32
  go_enter Try.func134, Try.ntmps134
  go_wp2
  go_loopw [5, 6, 7] (fun out cv i wr => ∃ (k : Nat) (cc : Int) (o : List Nat), i = .int .i64 k ∧ cv = .int .i64 cc ∧ k ≤ 0 ∧ MinusAt [] [] o k cc ∧ wr.ownsRow w.heap.size 109 1 out o.length (o.map W32) ∧ Below w.heap.size w wr)
    (fun _ _ i _ => 0 - (intOf i).toNat)
  case atStart => exact ⟨0, 0, [], rfl, rfl, by omega, ⟨rfl, Words.nil, by omega, by omega, by simp [num]⟩, World.ownsRow_nil _ _ _ _, Below.refl _ _⟩
  case round =>
    obtain ⟨k, cc, o, rfl, rfl, hk, hp, hown, hB⟩ := hrel
    have hcc : -1 ≤ cc := hp.2.2.1
    have hcc2 : cc ≤ 0 := hp.2.2.2.1
    have hol : o.length = k := hp.1
    have hst := minus_step wa wb hp
    obtain ⟨x, hx⟩ : ∃ x, x = ([] : List Nat).getD k 0 := ⟨_, rfl⟩
    obtain ⟨y, hy⟩ : ∃ y, y = ([] : List Nat).getD k 0 := ⟨_, rfl⟩
    rw [← hx] at hst
    have gx : x ≤ 4294967295 := by have := wa.getD k; rw [← hx, BB_eq] at this; omega
    have gy : y ≤ 4294967295 := by have := wb.getD k; rw [← hy, BB_eq] at this; omega
    have zy : y = 0 := by rw [hy]; rfl
    have Hhst := Lib.hid hst
    have Hhp := Lib.hid hp
    have Hhx := Lib.hid hx
    have Hhy := Lib.hid hy
    clear hst hp hx hy wa wb
    have hd := minus_done Hhp.out (by simp; omega) (by simp) (Nat.zero_le _)
    have Hd := Lib.hid hd
    clear hd
    go_wp2_with (go_at_call 130; refine (trim_any _ _ Hhp.out.2.1 _ (own_row hown rfl)).mono ?_; rintro e w2 ⟨⟨v3, l3, rfl, g1, g2, g3, g4⟩, rfl⟩)
    go_ret
    exact ⟨⟨_, l3, rfl, g1, g2, g3, g4.trans Hd.out⟩, hB⟩

set_option maxRecDepth 4000 in
set_option maxHeartbeats 1000000 in
theorem minus_0x (g' c' : Nat) (w : World) :
    Calls Try.prog 134 #[.slice none 0 0, .slice (some ⟨g', 0, none⟩) 0 c'] w fun e w' => Gives w' e (num ([] : List Nat) - num ([] : List Nat)) ∧ Below w.heap.size w w' := by
  have wa := Words.nil
  have wb := Words.nil
  obtain ⟨i0, hi, hz0, hz1, hz2⟩ := info_parts info_u32
  go_enter Try.func134, Try.ntmps134
  go_wp2
  go_loopw [5, 6, 7] (fun out cv i wr => ∃ (k : Nat) (cc : Int) (o : List Nat), i = .int .i64 k ∧ cv = .int .i64 cc ∧ k ≤ 0 ∧ MinusAt [] [] o k cc ∧ wr.ownsRow w.heap.size 109 1 out o.length (o.map W32) ∧ Below w.heap.size w wr)
    (fun _ _ i _ => 0 - (intOf i).toNat)
  case atStart => exact ⟨0, 0, [], rfl, rfl, by omega, ⟨rfl, Words.nil, by omega, by omega, by simp [num]⟩, World.ownsRow_nil _ _ _ _, Below.refl _ _⟩
  case round =>
    obtain ⟨k, cc, o, rfl, rfl, hk, hp, hown, hB⟩ := hrel
    have hcc : -1 ≤ cc := hp.2.2.1
    have hcc2 : cc ≤ 0 := hp.2.2.2.1
    have hol : o.length = k := hp.1
    have hst := minus_step wa wb hp
    obtain ⟨x, hx⟩ : ∃ x, x = ([] : List Nat).getD k 0 := ⟨_, rfl⟩
    obtain ⟨y, hy⟩ : ∃ y, y = ([] : List Nat).getD k 0 := ⟨_, rfl⟩
    rw [← hx] at hst
    have gx : x ≤ 4294967295 := by have := wa.getD k; rw [← hx, BB_eq] at this; omega
    have gy : y ≤ 4294967295 := by have := wb.getD k; rw [← hy, BB_eq] at this; omega
    have zy : y = 0 := by rw [hy]; rfl
    have Hhst := Lib.hid hst
    have Hhp := Lib.hid hp
    have Hhx := Lib.hid hx
    have Hhy := Lib.hid hy
    clear hst hp hx hy wa wb
    have hd := minus_done Hhp.out (by simp; omega) (by simp) (Nat.zero_le _)
    have Hd := Lib.hid hd
    clear hd
    go_wp2_with (go_at_call 130; refine (trim_any _ _ Hhp.out.2.1 _ (own_row hown rfl)).mono ?_; rintro e w2 ⟨⟨v3, l3, rfl, g1, g2, g3, g4⟩, rfl⟩)
    go_ret
    exact ⟨⟨_, l3, rfl, g1, g2, g3, g4.trans Hd.out⟩, hB⟩

theorem minus_any (v u : Value) (a b : List Nat) (wa : Words a) (wb : Words b) (h1 : a.length ≤ 4000) (h2 : b.length ≤ a.length) (hle : num b ≤ num a) (w : World) (hr : Row w v a) (hs : Row w u b) :
    Calls Try.prog 134 #[v, u] w fun e w' => Gives w' e (num a - num b) ∧ Below w.heap.size w w' := by
  rcases hr.cases with ⟨rfl, rfl⟩ | ⟨g, c, rfl, _, _, _, hc⟩ <;> rcases hs.cases with ⟨rfl, rfl⟩ | ⟨g', c', rfl, _, _, _, hc'⟩
  · exact minus_00 w
  · have eb : b = [] := List.length_eq_zero_iff.1 (by simpa using h2)
    subst eb
    exact minus_0x g' c' w
  · exact minus_10 a wa g c h1 w hc
  · exact minus_11 a wa g c h1 b wb g' c' h2 hle w hc hc'
end Go.Proofs.Yteephgpefhodnaa
