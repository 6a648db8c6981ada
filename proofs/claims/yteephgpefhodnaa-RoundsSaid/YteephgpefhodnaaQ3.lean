/- Slices of words: plus, minus. -/
import Derived.Test.YteephgpefhodnaaQ2
import Derived.Lib.Hide
namespace Go.Proofs.Yteephgpefhodnaa
open Go.RowKit Go.Sort Go.Fl
set_option linter.unusedSimpArgs false
set_option linter.unusedVariables false

theorem info_u32 : (Try.prog.info? 109).map (fun i => (i.zero, i.size, i.bytes)) = some (some (.int .u32 0), 1, 4) := by kernel_rfl
theorem grown_below {B : Nat} {w wr w1 : World} {row : Option Nat} (hB : Below B w wr) (hg : wr.grownBy w1 row) (hr : ∀ k, row = some k → B ≤ k) (hs : B ≤ w.heap.size) : Below B w w1 :=
  hB.trans ⟨hg.os, hg.tape, hg.output, hg.size, fun k hk => hg.block k (by have := hB.size; omega) (fun e => by have := hr k e.symm; omega)⟩
/-- What an append leaves. -/
theorem append_rel {w wr w1 : World} {v v' : Value} {o : List Nat} {d : Nat} {u : Value} {obj : Obj} (hB : Below w.heap.size w wr) (hown : wr.ownsRow w.heap.size 109 1 v o.length (o.map W32))
    (hown' : w1.ownsRow w.heap.size 109 1 v' (o.length + 1) (o.map W32 ++ [u])) (hg : (wr.alloc obj).grownBy w1 v.ownBlock) (hu : u = W32 d) :
    w1.ownsRow w.heap.size 109 1 v' (o ++ [d]).length ((o ++ [d]).map W32) ∧ Below w.heap.size w w1 := by
  constructor
  · rw [List.length_append, List.map_append, List.map_singleton, ← hu]
    exact hown'
  · exact grown_below (hB.alloc hB.size obj) hg (fun k hk => (World.ownsRow.lt hown k hk).1) (Nat.le_refl _)
theorem own_row {w : World} {B n : Nat} {v : Value} {l : List Nat} (h : w.ownsRow B 109 1 v n (l.map W32)) (hn : n = l.length) : Row w v l := by
  subst hn
  refine ⟨h.1, ?_⟩
  rcases h.2 with h1 | ⟨g, cap, cur, e, h2, rest⟩
  · exact .inl h1
  · exact .inr ⟨g, cap, cur, e, Nat.zero_le _, rest⟩
set_option maxRecDepth 4000 in
set_option maxHeartbeats 1000000 in
theorem plus_11 (a : List Nat) (wa : Words a) (g c : Nat) (h1 : a.length ≤ 4000) (b : List Nat) (wb : Words b) (g' c' : Nat) (h2 : b.length ≤ 4000) (w : World)
    (hc : ∀ j, j < a.length → w.cell? ⟨g, j, none⟩ = some (.int .u32 (a.getD j 0 : Nat)))
    (hc' : ∀ j, j < b.length → w.cell? ⟨g', j, none⟩ = some (.int .u32 (b.getD j 0 : Nat))) :
    Calls Try.prog 132 #[.slice (some ⟨g, 0, none⟩) a.length c, .slice (some ⟨g', 0, none⟩) b.length c'] w fun e w' => Gives w' e (num a + num b) ∧ Below w.heap.size w w' := by
  obtain ⟨i0, hi, hz0, hz1, hz2⟩ := info_parts info_u32
  go_enter Try.func132, Try.ntmps132
  go_wp2
  go_loopw [5, 6, 7] (fun out cv i wr => ∃ (k cc : Nat) (o : List Nat), i = .int .i64 k ∧ cv = .int .u64 cc ∧ (k ≤ a.length ∨ k ≤ b.length) ∧ PlusAt a b o k cc ∧ wr.ownsRow w.heap.size 109 1 out o.length (o.map W32) ∧ Below w.heap.size w wr)
    (fun _ _ i _ => a.length + b.length - (intOf i).toNat)
  case atStart => exact ⟨0, 0, [], rfl, rfl, by omega, ⟨rfl, Words.nil, by omega, by simp [num]⟩, World.ownsRow_nil _ _ _ _, Below.refl _ _⟩
  case round =>
    obtain ⟨k, cc, o, rfl, rfl, hk, hp, hown, hB⟩ := hrel
    have hcc : cc ≤ 1 := hp.2.2.1
    have hol : o.length = k := hp.1
    have hst := plus_step wa wb hp
    obtain ⟨x, hx⟩ : ∃ x, x = (a : List Nat).getD k 0 := ⟨_, rfl⟩
    obtain ⟨y, hy⟩ : ∃ y, y = (b : List Nat).getD k 0 := ⟨_, rfl⟩
    rw [← hx, ← hy] at hst
    have gx : x ≤ 4294967295 := by have := wa.getD k; rw [← hx, BB_eq] at this; omega
    have gy : y ≤ 4294967295 := by have := wb.getD k; rw [← hy, BB_eq] at this; omega
    have hcell : k < a.length → wr.cell? ⟨g, k, none⟩ = some (.int .u32 (x : Nat)) := fun h => hx ▸ RowKit.Below.cells hB (hc k h)
    have zx : ¬ k < a.length → x = 0 := fun h => by rw [hx, List.getD_eq_getElem?_getD, List.getElem?_eq_none (by omega)]; rfl
    have hcell' : k < b.length → wr.cell? ⟨g', k, none⟩ = some (.int .u32 (y : Nat)) := fun h => hy ▸ RowKit.Below.cells hB (hc' k h)
    have zy : ¬ k < b.length → y = 0 := fun h => by rw [hy, List.getD_eq_getElem?_getD, List.getElem?_eq_none (by omega)]; rfl
    have Hhst := Lib.hid hst
    have Hhp := Lib.hid hp
    have Hhx := Lib.hid hx
    have Hhy := Lib.hid hy
    have Hhc := Lib.hid hc
    have Hhc' := Lib.hid hc'
    clear hst hp hx hy hc hc' wa wb
    by_cases hka : k < a.length <;> by_cases hkb : k < b.length
    · have c1 := hcell hka
      have c2 := hcell' hkb
      clear hcell hcell' zx zy
      go_wp2_with (at_builtin; refine wpList_append_own _ rfl _ _ 98 rfl w.heap.size 109 i0 (.int .u32 0) 1 4 Try.underlying98 hi hz0 hz1 hz2 rfl (by decide) _ _ _ rfl (hown.alloc _) ⟨wr.heap.size, 0, none⟩ 1 1 [.int .u32 (((cc : Int) + (x : Int) + (y : Int)) % 4294967296)] rfl rfl (by intro j u hj; match j, hj with | 0, hj => (simp at hj; subst hj; simp [Addr.add])) (by intro u hu; simp at hu; subst hu; rfl) (by unfold maxLen; omega) (by omega) (by have := hB.size; simp; omega) ?_; intro v' w1 hown' hgrow _)
      have R := append_rel (d := (cc + x + y) % BB) hB hown hown' hgrow (by unfold W32; rw [BB_eq]; exact congrArg _ (by omega))
      clear hown' hgrow hown
      go_wp2
      go_roundw
      case rel => exact ⟨k + 1, _, _, by go_num, by rw [BB_eq]; exact congrArg _ (by omega), by omega, Hhst.out, R.1, R.2⟩
      case measure => simp only [intOf]; omega
    · have c1 := hcell hka
      have ey : y = 0 := zy hkb
      subst ey
      clear hcell hcell' zx zy
      go_wp2_with (at_builtin; refine wpList_append_own _ rfl _ _ 98 rfl w.heap.size 109 i0 (.int .u32 0) 1 4 Try.underlying98 hi hz0 hz1 hz2 rfl (by decide) _ _ _ rfl (hown.alloc _) ⟨wr.heap.size, 0, none⟩ 1 1 [.int .u32 (((cc : Int) + (x : Int)) % 4294967296)] rfl rfl (by intro j u hj; match j, hj with | 0, hj => (simp at hj; subst hj; simp [Addr.add])) (by intro u hu; simp at hu; subst hu; rfl) (by unfold maxLen; omega) (by omega) (by have := hB.size; simp; omega) ?_; intro v' w1 hown' hgrow _)
      have R := append_rel (d := (cc + x + 0) % BB) hB hown hown' hgrow (by unfold W32; rw [BB_eq]; exact congrArg _ (by omega))
      clear hown' hgrow hown
      go_wp2
      go_roundw
      case rel => exact ⟨k + 1, _, _, by go_num, by rw [BB_eq]; exact congrArg _ (by omega), by omega, Hhst.out, R.1, R.2⟩
      case measure => simp only [intOf]; omega
    · have ex : x = 0 := zx hka
      subst ex
      have c2 := hcell' hkb
      clear hcell hcell' zx zy
      go_wp2_with (at_builtin; refine wpList_append_own _ rfl _ _ 98 rfl w.heap.size 109 i0 (.int .u32 0) 1 4 Try.underlying98 hi hz0 hz1 hz2 rfl (by decide) _ _ _ rfl (hown.alloc _) ⟨wr.heap.size, 0, none⟩ 1 1 [.int .u32 (((cc : Int) + (y : Int)) % 4294967296)] rfl rfl (by intro j u hj; match j, hj with | 0, hj => (simp at hj; subst hj; simp [Addr.add])) (by intro u hu; simp at hu; subst hu; rfl) (by unfold maxLen; omega) (by omega) (by have := hB.size; simp; omega) ?_; intro v' w1 hown' hgrow _)
      have R := append_rel (d := (cc + 0 + y) % BB) hB hown hown' hgrow (by unfold W32; rw [BB_eq]; exact congrArg _ (by omega))
      clear hown' hgrow hown
      go_wp2
      go_roundw
      case rel => exact ⟨k + 1, _, _, by go_num, by rw [BB_eq]; exact congrArg _ (by omega), by omega, Hhst.out, R.1, R.2⟩
      case measure => simp only [intOf]; omega
    · have ex : x = 0 := zx hka
      subst ex
      have ey : y = 0 := zy hkb
      subst ey
      clear hcell hcell' zx zy
      have hd := plus_done Hhp.out (by omega) (by omega)
      have Hd := Lib.hid hd
      clear hd
      go_wp2_with (first | (at_builtin; refine wpList_append_own _ rfl _ _ 98 rfl w.heap.size 109 i0 (.int .u32 0) 1 4 Try.underlying98 hi hz0 hz1 hz2 rfl (by decide) _ _ _ rfl (hown.alloc _) ⟨wr.heap.size, 0, none⟩ 1 1 [.int .u32 ((cc : Int))] rfl rfl (by intro j u hj; match j, hj with | 0, hj => (simp at hj; subst hj; simp [Addr.add])) (by intro u hu; simp at hu; subst hu; rfl) (by unfold maxLen; omega) (by omega) (by have := hB.size; simp; omega) ?_; intro v' w1 hown' hgrow _) | (go_at_call 130; refine (trim_any _ _ Hd.out.1 _ (own_row (append_rel (d := cc) hB hown hown' hgrow rfl).1 (by simp))).mono ?_; rintro e w2 ⟨⟨v3, l3, rfl, g1, g2, g3, g4⟩, rfl⟩))
      go_ret
      exact ⟨⟨_, l3, rfl, g1, g2, g3, g4.trans Hd.out.2⟩, (append_rel (d := cc) hB hown hown' hgrow rfl).2⟩

set_option maxRecDepth 4000 in
set_option maxHeartbeats 1000000 in
theorem plus_10 (a : List Nat) (wa : Words a) (g c : Nat) (h1 : a.length ≤ 4000) (w : World)
    (hc : ∀ j, j < a.length → w.cell? ⟨g, j, none⟩ = some (.int .u32 (a.getD j 0 : Nat))) :
    Calls Try.prog 132 #[.slice (some ⟨g, 0, none⟩) a.length c, .slice none 0 0] w fun e w' => Gives w' e (num a + num ([] : List Nat)) ∧ Below w.heap.size w w' := by
  have wb := Words.nil
  obtain ⟨i0, hi, hz0, hz1, hz2⟩ := info_parts info_u32
  go_enter Try.func132, Try.ntmps132
  go_wp2
  go_loopw [5, 6, 7] (fun out cv i wr => ∃ (k cc : Nat) (o : List Nat), i = .int .i64 k ∧ cv = .int .u64 cc ∧ (k ≤ a.length ∨ k ≤ 0) ∧ PlusAt a [] o k cc ∧ wr.ownsRow w.heap.size 109 1 out o.length (o.map W32) ∧ Below w.heap.size w wr)
    (fun _ _ i _ => a.length + 0 - (intOf i).toNat)
  case atStart => exact ⟨0, 0, [], rfl, rfl, by omega, ⟨rfl, Words.nil, by omega, by simp [num]⟩, World.ownsRow_nil _ _ _ _, Below.refl _ _⟩
  case round =>
    obtain ⟨k, cc, o, rfl, rfl, hk, hp, hown, hB⟩ := hrel
    have hcc : cc ≤ 1 := hp.2.2.1
    have hol : o.length = k := hp.1
    have hst := plus_step wa wb hp
    obtain ⟨x, hx⟩ : ∃ x, x = (a : List Nat).getD k 0 := ⟨_, rfl⟩
    obtain ⟨y, hy⟩ : ∃ y, y = ([] : List Nat).getD k 0 := ⟨_, rfl⟩
    rw [← hx, ← hy] at hst
    have gx : x ≤ 4294967295 := by have := wa.getD k; rw [← hx, BB_eq] at this; omega
    have gy : y ≤ 4294967295 := by have := wb.getD k; rw [← hy, BB_eq] at this; omega
    have hcell : k < a.length → wr.cell? ⟨g, k, none⟩ = some (.int .u32 (x : Nat)) := fun h => hx ▸ RowKit.Below.cells hB (hc k h)
    have zx : ¬ k < a.length → x = 0 := fun h => by rw [hx, List.getD_eq_getElem?_getD, List.getElem?_eq_none (by omega)]; rfl
    have zy : y = 0 := by rw [hy]; rfl
    have Hhst := Lib.hid hst
    have Hhp := Lib.hid hp
    have Hhx := Lib.hid hx
    have Hhy := Lib.hid hy
    have Hhc := Lib.hid hc
    clear hst hp hx hy hc wa wb
    by_cases hka : k < a.length
    · have c1 := hcell hka
      have ey : y = 0 := zy
      subst ey
      clear hcell zx
      go_wp2_with (at_builtin; refine wpList_append_own _ rfl _ _ 98 rfl w.heap.size 109 i0 (.int .u32 0) 1 4 Try.underlying98 hi hz0 hz1 hz2 rfl (by decide) _ _ _ rfl (hown.alloc _) ⟨wr.heap.size, 0, none⟩ 1 1 [.int .u32 (((cc : Int) + (x : Int)) % 4294967296)] rfl rfl (by intro j u hj; match j, hj with | 0, hj => (simp at hj; subst hj; simp [Addr.add])) (by intro u hu; simp at hu; subst hu; rfl) (by unfold maxLen; omega) (by omega) (by have := hB.size; simp; omega) ?_; intro v' w1 hown' hgrow _)
      have R := append_rel (d := (cc + x + 0) % BB) hB hown hown' hgrow (by unfold W32; rw [BB_eq]; exact congrArg _ (by omega))
      clear hown' hgrow hown
      go_wp2
      go_roundw
      case rel => exact ⟨k + 1, _, _, by go_num, by rw [BB_eq]; exact congrArg _ (by omega), by omega, Hhst.out, R.1, R.2⟩
      case measure => simp only [intOf]; omega
    · have ex : x = 0 := zx hka
      subst ex
      have ey : y = 0 := zy
      subst ey
      clear hcell zx
      have hd := plus_done Hhp.out (by omega) (by simp)
      have Hd := Lib.hid hd
      clear hd
      go_wp2_with (first | (at_builtin; refine wpList_append_own _ rfl _ _ 98 rfl w.heap.size 109 i0 (.int .u32 0) 1 4 Try.underlying98 hi hz0 hz1 hz2 rfl (by decide) _ _ _ rfl (hown.alloc _) ⟨wr.heap.size, 0, none⟩ 1 1 [.int .u32 ((cc : Int))] rfl rfl (by intro j u hj; match j, hj with | 0, hj => (simp at hj; subst hj; simp [Addr.add])) (by intro u hu; simp at hu; subst hu; rfl) (by unfold maxLen; omega) (by omega) (by have := hB.size; simp; omega) ?_; intro v' w1 hown' hgrow _) | (go_at_call 130; refine (trim_any _ _ Hd.out.1 _ (own_row (append_rel (d := cc) hB hown hown' hgrow rfl).1 (by simp))).mono ?_; rintro e w2 ⟨⟨v3, l3, rfl, g1, g2, g3, g4⟩, rfl⟩))
      go_ret
      exact ⟨⟨_, l3, rfl, g1, g2, g3, g4.trans Hd.out.2⟩, (append_rel (d := cc) hB hown hown' hgrow rfl).2⟩

set_option maxRecDepth 4000 in
set_option maxHeartbeats 1000000 in
theorem plus_01 (b : List Nat) (wb : Words b) (g' c' : Nat) (h2 : b.length ≤ 4000) (w : World)
    (hc' : ∀ j, j < b.length → w.cell? ⟨g', j, none⟩ = some (.int .u32 (b.getD j 0 : Nat))) :
    Calls Try.prog 132 #[.slice none 0 0, .slice (some ⟨g', 0, none⟩) b.length c'] w fun e w' => Gives w' e (num ([] : List Nat) + num b) ∧ Below w.heap.size w w' := by
  have wa := Words.nil
  obtain ⟨i0, hi, hz0, hz1, hz2⟩ := info_parts info_u32
  go_enter Try.func132, Try.ntmps132
  go_wp2
  go_loopw [5, 6, 7] (fun out cv i wr => ∃ (k cc : Nat) (o : List Nat), i = .int .i64 k ∧ cv = .int .u64 cc ∧ (k ≤ 0 ∨ k ≤ b.length) ∧ PlusAt [] b o k cc ∧ wr.ownsRow w.heap.size 109 1 out o.length (o.map W32) ∧ Below w.heap.size w wr)
    (fun _ _ i _ => 0 + b.length - (intOf i).toNat)
  case atStart => exact ⟨0, 0, [], rfl, rfl, by omega, ⟨rfl, Words.nil, by omega, by simp [num]⟩, World.ownsRow_nil _ _ _ _, Below.refl _ _⟩
  case round =>
    obtain ⟨k, cc, o, rfl, rfl, hk, hp, hown, hB⟩ := hrel
    have hcc : cc ≤ 1 := hp.2.2.1
    have hol : o.length = k := hp.1
    have hst := plus_step wa wb hp
    obtain ⟨x, hx⟩ : ∃ x, x = ([] : List Nat).getD k 0 := ⟨_, rfl⟩
    obtain ⟨y, hy⟩ : ∃ y, y = (b : List Nat).getD k 0 := ⟨_, rfl⟩
    rw [← hx, ← hy] at hst
    have gx : x ≤ 4294967295 := by have := wa.getD k; rw [← hx, BB_eq] at this; omega
    have gy : y ≤ 4294967295 := by have := wb.getD k; rw [← hy, BB_eq] at this; omega
    have zx : x = 0 := by rw [hx]; rfl
    have hcell' : k < b.length → wr.cell? ⟨g', k, none⟩ = some (.int .u32 (y : Nat)) := fun h => hy ▸ RowKit.Below.cells hB (hc' k h)
    have zy : ¬ k < b.length → y = 0 := fun h => by rw [hy, List.getD_eq_getElem?_getD, List.getElem?_eq_none (by omega)]; rfl
    have Hhst := Lib.hid hst
    have Hhp := Lib.hid hp
    have Hhx := Lib.hid hx
    have Hhy := Lib.hid hy
    have Hhc' := Lib.hid hc'
    clear hst hp hx hy hc' wa wb
    by_cases hkb : k < b.length
    · have ex : x = 0 := zx
      subst ex
      have c2 := hcell' hkb
      clear hcell' zy
      go_wp2_with (at_builtin; refine wpList_append_own _ rfl _ _ 98 rfl w.heap.size 109 i0 (.int .u32 0) 1 4 Try.underlying98 hi hz0 hz1 hz2 rfl (by decide) _ _ _ rfl (hown.alloc _) ⟨wr.heap.size, 0, none⟩ 1 1 [.int .u32 (((cc : Int) + (y : Int)) % 4294967296)] rfl rfl (by intro j u hj; match j, hj with | 0, hj => (simp at hj; subst hj; simp [Addr.add])) (by intro u hu; simp at hu; subst hu; rfl) (by unfold maxLen; omega) (by omega) (by have := hB.size; simp; omega) ?_; intro v' w1 hown' hgrow _)
      have R := append_rel (d := (cc + 0 + y) % BB) hB hown hown' hgrow (by unfold W32; rw [BB_eq]; exact congrArg _ (by omega))
      clear hown' hgrow hown
      go_wp2
      go_roundw
      case rel => exact ⟨k + 1, _, _, by go_num, by rw [BB_eq]; exact congrArg _ (by omega), by omega, Hhst.out, R.1, R.2⟩
      case measure => simp only [intOf]; omega
    · have ex : x = 0 := zx
      subst ex
      have ey : y = 0 := zy hkb
      subst ey
      clear hcell' zy
      have hd := plus_done Hhp.out (by simp) (by omega)
      have Hd := Lib.hid hd
      clear hd
      go_wp2_with (first | (at_builtin; refine wpList_append_own _ rfl _ _ 98 rfl w.heap.size 109 i0 (.int .u32 0) 1 4 Try.underlying98 hi hz0 hz1 hz2 rfl (by decide) _ _ _ rfl (hown.alloc _) ⟨wr.heap.size, 0, none⟩ 1 1 [.int .u32 ((cc : Int))] rfl rfl (by intro j u hj; match j, hj with | 0, hj => (simp at hj; subst hj; simp [Addr.add])) (by intro u hu; simp at hu; subst hu; rfl) (by unfold maxLen; omega) (by omega) (by have := hB.size; simp; omega) ?_; intro v' w1 hown' hgrow _) | (go_at_call 130; refine (trim_any _ _ Hd.out.1 _ (own_row (append_rel (d := cc) hB hown hown' hgrow rfl).1 (by simp))).mono ?_; rintro e w2 ⟨⟨v3, l3, rfl, g1, g2, g3, g4⟩, rfl⟩))
      go_ret
      exact ⟨⟨_, l3, rfl, g1, g2, g3, g4.trans Hd.out.2⟩, (append_rel (d := cc) hB hown hown' hgrow rfl).2⟩

set_option maxRecDepth 4000 in
set_option maxHeartbeats 1000000 in
theorem plus_00 (w : World) :
    Calls Try.prog 132 #[.slice none 0 0, .slice none 0 0] w fun e w' => Gives w' e (num ([] : List Nat) + num ([] : List Nat)) ∧ Below w.heap.size w w' := by
  have wa := Words.nil
  have wb := Words.nil
  obtain ⟨i0, hi, hz0, hz1, hz2⟩ := info_parts info_u32
  go_enter Try.func132, Try.ntmps132
  go_wp2
  go_loopw [5, 6, 7] (fun out cv i wr => ∃ (k cc : Nat) (o : List Nat), i = .int .i64 k ∧ cv = .int .u64 cc ∧ (k ≤ 0 ∨ k ≤ 0) ∧ PlusAt [] [] o k cc ∧ wr.ownsRow w.heap.size 109 1 out o.length (o.map W32) ∧ Below w.heap.size w wr)
    (fun _ _ i _ => 0 + 0 - (intOf i).toNat)
  case atStart => exact ⟨0, 0, [], rfl, rfl, by omega, ⟨rfl, Words.nil, by omega, by simp [num]⟩, World.ownsRow_nil _ _ _ _, Below.refl _ _⟩
  case round =>
    obtain ⟨k, cc, o, rfl, rfl, hk, hp, hown, hB⟩ := hrel
    have hcc : cc ≤ 1 := hp.2.2.1
    have hol : o.length = k := hp.1
    have hst := plus_step wa wb hp
    obtain ⟨x, hx⟩ : ∃ x, x = ([] : List Nat).getD k 0 := ⟨_, rfl⟩
    obtain ⟨y, hy⟩ : ∃ y, y = ([] : List Nat).getD k 0 := ⟨_, rfl⟩
    rw [← hx] at hst
    have gx : x ≤ 4294967295 := by have := wa.getD k; rw [← hx, BB_eq] at this; omega
    have gy : y ≤ 4294967295 := by have := wb.getD k; rw [← hy, BB_eq] at this; omega
    have zx : x = 0 := by rw [hx]; rfl
    have zy : y = 0 := by rw [hy]; rfl
    have Hhst := Lib.hid hst
    have Hhp := Lib.hid hp
    have Hhx := Lib.hid hx
    have Hhy := Lib.hid hy
    clear hst hp hx hy wa wb
    have ex : x = 0 := zx
    subst ex
    have ey : y = 0 := zy
    subst ey
    have hd := plus_done Hhp.out (by simp) (by simp)
    have Hd := Lib.hid hd
    clear hd
    go_wp2_with (first | (at_builtin; refine wpList_append_own _ rfl _ _ 98 rfl w.heap.size 109 i0 (.int .u32 0) 1 4 Try.underlying98 hi hz0 hz1 hz2 rfl (by decide) _ _ _ rfl (hown.alloc _) ⟨wr.heap.size, 0, none⟩ 1 1 [.int .u32 ((cc : Int))] rfl rfl (by intro j u hj; match j, hj with | 0, hj => (simp at hj; subst hj; simp [Addr.add])) (by intro u hu; simp at hu; subst hu; rfl) (by unfold maxLen; omega) (by omega) (by have := hB.size; simp; omega) ?_; intro v' w1 hown' hgrow _) | (go_at_call 130; refine (trim_any _ _ Hd.out.1 _ (own_row (append_rel (d := cc) hB hown hown' hgrow rfl).1 (by simp))).mono ?_; rintro e w2 ⟨⟨v3, l3, rfl, g1, g2, g3, g4⟩, rfl⟩))
    go_ret
    exact ⟨⟨_, l3, rfl, g1, g2, g3, g4.trans Hd.out.2⟩, (append_rel (d := cc) hB hown hown' hgrow rfl).2⟩

theorem plus_any (v u : Value) (a b : List Nat) (wa : Words a) (wb : Words b) (h1 : a.length ≤ 4000) (h2 : b.length ≤ 4000) (w : World) (hr : Row w v a) (hs : Row w u b) :
    Calls Try.prog 132 #[v, u] w fun e w' => Gives w' e (num a + num b) ∧ Below w.heap.size w w' := by
  rcases hr.cases with ⟨rfl, rfl⟩ | ⟨g, c, rfl, _, _, _, hc⟩ <;> rcases hs.cases with ⟨rfl, rfl⟩ | ⟨g', c', rfl, _, _, _, hc'⟩
  · exact plus_00 w
  · exact plus_01 b wb g' c' h2 w hc'
  · exact plus_10 a wa g c h1 w hc
  · exact plus_11 a wa g c h1 b wb g' c' h2 w hc hc'
end Go.Proofs.Yteephgpefhodnaa
