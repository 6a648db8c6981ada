/- The document's numbers: Times, where a factor is nought. -/
import Derived.Test.YteephgpefhodnaaQ6
namespace Go.Proofs.Yteephgpefhodnaa
open Go.RowKit Go.Sort Go.Fl
set_option linter.unusedSimpArgs false
set_option linter.unusedVariables false

theorem zero_row {l : List Nat} (h : num l = 0) (ht : Trim l) : l = [] := (num_pos ht).1 h
set_option maxRecDepth 8000 in
set_option maxHeartbeats 4000000 in
theorem times_0x (sa sb : Bool) (ea eb : Int) (he1 : -10000 ≤ ea ∧ ea ≤ 10000) (he2 : -10000 ≤ eb ∧ eb ≤ 10000) (p p' : Option Addr) (c c' lb : Nat) (h1 : lb ≤ 4) (w : World) :
    Calls Try.prog 107 #[.agg #[.bool sa, (.slice p 0 c), .int .i64 ea], .agg #[.bool sb, (.slice p' lb c'), .int .i64 eb]] w fun e w' => GivesBig w' e 0 (ea + eb) ∧ Below w.heap.size w w' := by
  obtain ⟨i0, hi, hz0, hz1, hz2⟩ := info_parts info_u32
  obtain ⟨W, hW⟩ : ∃ W, W = (World.alloc (World.alloc (World.alloc w (.cells #[.bool sa, (.slice p 0 c), .int .i64 ea] 100)) (.cells #[.bool sb, (.slice p' lb c'), .int .i64 eb] 100)) (.cells #[.bool false, (.slice none 0 0), .int .i64 0] 100)) := ⟨_, rfl⟩
  have hWs : W.heap.size = w.heap.size + 3 := by rw [hW]; simp
  obtain ⟨w0, hmk, hown0, hg0⟩ := run_make_full (P := Try.prog) W W.heap.size 98 109 i0 (.int .u32 0) 1 Try.underlying98 hi hz0 hz1 .i64 .i64 lb (by rw [hz2]; omega) (by unfold maxLen; omega) (Nat.le_refl _)
  have hB0 : Below W.heap.size W w0 := grown_none hg0 (Nat.le_refl _)
  rw [made_zeros] at hown0
  have A0 : W.cell? ⟨w.heap.size, 1, none⟩ = some (.slice p 0 c) := by rw [hW]; simp [go_sem]
  have A1 : W.cell? ⟨w.heap.size + 1, 1, none⟩ = some (.slice p' lb c') := by rw [hW]; simp [go_sem]
  have A2 : W.cell? ⟨w.heap.size, 0, none⟩ = some (.bool sa) := by rw [hW]; simp [go_sem]
  have A3 : W.cell? ⟨w.heap.size + 1, 0, none⟩ = some (.bool sb) := by rw [hW]; simp [go_sem]
  have A4 : W.cell? ⟨w.heap.size, 2, none⟩ = some (.int .i64 ea) := by rw [hW]; simp [go_sem]
  have A5 : W.cell? ⟨w.heap.size + 1, 2, none⟩ = some (.int .i64 eb) := by rw [hW]; simp [go_sem]
  have R0 : At W (w.heap.size + 1 + 1) 0 (.bool false) := by rw [hW]; exact ⟨by simp [go_sem], by simp [go_sem]⟩
  have R1 : At W (w.heap.size + 1 + 1) 1 (.slice none 0 0) := by rw [hW]; exact ⟨by simp [go_sem], by simp [go_sem]⟩
  have R2 : At W (w.heap.size + 1 + 1) 2 (.int .i64 0) := by rw [hW]; exact ⟨by simp [go_sem], by simp [go_sem]⟩
  have HH : W.heap[w.heap.size + 1 + 1]? = some (.cells #[.bool false, .slice none 0 0, .int .i64 0] 100) := by rw [hW]; exact heap_last3 _ _ _ _
  have HWs := Lib.hid hWs
  clear hWs hg0
  go_enter Try.func107, Try.ntmps107
  go_wp2_with fail
  rw [← hW]
  have HW := Lib.hid hW
  clear hW
  simp only [hmk, Result.andThen_ok]
  clear hmk
  go_wp2
  go_loopw [6] (fun i wr => ∃ (k : Nat) (o : List Nat), i = .int .i64 k ∧ k ≤ 0 ∧ (o.length = lb ∧ Words o ∧ num o = 0) ∧ wr.ownsRow W.heap.size 109 1 (.slice (some ⟨W.heap.size, 0, none⟩) lb lb) lb (o.map W32) ∧ Below W.heap.size W wr)
    (fun i _ => 0 - (intOf i).toNat)
  case atStart => exact ⟨0, List.replicate lb 0, rfl, by omega, ⟨by simp, Words.zeros _, num_zeros _⟩, hown0, hB0⟩
  case round =>
    obtain ⟨k, o, rfl, hk, hp, hown, hB⟩ := hrel
    have F0 := RowKit.Below.cells hB A0
    have F1 := RowKit.Below.cells hB A1
    have F2 := RowKit.Below.cells hB A2
    have F3 := RowKit.Below.cells hB A3
    have F4 := RowKit.Below.cells hB A4
    have F5 := RowKit.Below.cells hB A5
    have hnum : num o = 0 := hp.2.2
    have hrow : Row wr (.slice (some ⟨W.heap.size, 0, none⟩) lb lb) o := own_row (n := lb) hown hp.1.symm
    have hwo := hp.2.1
    have R0' := At.below R0 hB
    have R1' := At.below R1 hB
    have R2' := At.below R2 hB
    have hBl : wr.heap[w.heap.size + 1 + 1]? = some (.cells #[.bool false, .slice none 0 0, .int .i64 0] 100) := (hB.block _ (by rw [HWs.out]; omega)).trans HH
    have hbw : Below w.heap.size w wr := below3 (by rw [← HWs.out, ← HW.out]; exact hB)
    have f0 := R0'.1; have f1 := R1'.1; have f2 := R2'.1; have z0 := R0'.2; have z1 := R1'.2; have z2 := R2'.2
    have HBl := Lib.hid hBl
    have Hbw := Lib.hid hbw
    have Hn := Lib.hid hnum
    have Hwo := Lib.hid hwo
    have Hrow := Lib.hid hrow
    clear hBl hbw hB hnum hwo hrow hown hp
    go_wp2_with fail
    refine (trim_any _ _ Hwo.out _ Hrow.out).mono ?_
    rintro e w2 ⟨⟨v3, l3, rfl, g1, g2, g3, g4⟩, rfl⟩
    rw [Hn.out] at g4
    have el := zero_row g4 g3
    subst el
    obtain ⟨p3, c3, rfl, _⟩ := g1.len
    have hne := row_ne g1 HBl.out (by decide)
    have G := Lib.hid (And.intro g1 hne)
    clear g1 g2 g3 g4 hne
    have e0 : ([] : List Nat).length = 0 := rfl
    rw [e0] at *
    cases sa <;> cases sb
    all_goals
      go_wp2
      have bs := big_stored R0' R1' R2' (.bool false) (.slice p3 0 c3) (.int .i64 (ea + eb))
      refine bodyPost_ret (v := .agg #[.bool false, .slice p3 0 c3, .int .i64 (ea + eb)]) (by simp [results, Try.results107, go_sem, bs]) rfl ?_
      exact ⟨⟨false, _, [], rfl, row_stored3 G.out.1 G.out.2 _ _ _, Words.nil, .inl rfl, rfl⟩, below_stored3 Hbw.out (by omega) _ _ _⟩
set_option maxRecDepth 8000 in
set_option maxHeartbeats 4000000 in
theorem times_x0 (sa sb : Bool) (ea eb : Int) (he1 : -10000 ≤ ea ∧ ea ≤ 10000) (he2 : -10000 ≤ eb ∧ eb ≤ 10000) (p p' : Option Addr) (c c' la : Nat) (h1 : la ≤ 4) (h0 : 0 < la) (w : World) :
    Calls Try.prog 107 #[.agg #[.bool sa, (.slice p la c), .int .i64 ea], .agg #[.bool sb, (.slice p' 0 c'), .int .i64 eb]] w fun e w' => GivesBig w' e 0 (ea + eb) ∧ Below w.heap.size w w' := by
  obtain ⟨i0, hi, hz0, hz1, hz2⟩ := info_parts info_u32
  obtain ⟨W, hW⟩ : ∃ W, W = (World.alloc (World.alloc (World.alloc w (.cells #[.bool sa, (.slice p la c), .int .i64 ea] 100)) (.cells #[.bool sb, (.slice p' 0 c'), .int .i64 eb] 100)) (.cells #[.bool false, (.slice none 0 0), .int .i64 0] 100)) := ⟨_, rfl⟩
  have hWs : W.heap.size = w.heap.size + 3 := by rw [hW]; simp
  obtain ⟨w0, hmk, hown0, hg0⟩ := run_make_full (P := Try.prog) W W.heap.size 98 109 i0 (.int .u32 0) 1 Try.underlying98 hi hz0 hz1 .i64 .i64 la (by rw [hz2]; omega) (by unfold maxLen; omega) (Nat.le_refl _)
  have hB0 : Below W.heap.size W w0 := grown_none hg0 (Nat.le_refl _)
  rw [made_zeros] at hown0
  have A0 : W.cell? ⟨w.heap.size, 1, none⟩ = some (.slice p la c) := by rw [hW]; simp [go_sem]
  have A1 : W.cell? ⟨w.heap.size + 1, 1, none⟩ = some (.slice p' 0 c') := by rw [hW]; simp [go_sem]
  have A2 : W.cell? ⟨w.heap.size, 0, none⟩ = some (.bool sa) := by rw [hW]; simp [go_sem]
  have A3 : W.cell? ⟨w.heap.size + 1, 0, none⟩ = some (.bool sb) := by rw [hW]; simp [go_sem]
  have A4 : W.cell? ⟨w.heap.size, 2, none⟩ = some (.int .i64 ea) := by rw [hW]; simp [go_sem]
  have A5 : W.cell? ⟨w.heap.size + 1, 2, none⟩ = some (.int .i64 eb) := by rw [hW]; simp [go_sem]
  have R0 : At W (w.heap.size + 1 + 1) 0 (.bool false) := by rw [hW]; exact ⟨by simp [go_sem], by simp [go_sem]⟩
  have R1 : At W (w.heap.size + 1 + 1) 1 (.slice none 0 0) := by rw [hW]; exact ⟨by simp [go_sem], by simp [go_sem]⟩
  have R2 : At W (w.heap.size + 1 + 1) 2 (.int .i64 0) := by rw [hW]; exact ⟨by simp [go_sem], by simp [go_sem]⟩
  have HH : W.heap[w.heap.size + 1 + 1]? = some (.cells #[.bool false, .slice none 0 0, .int .i64 0] 100) := by rw [hW]; exact heap_last3 _ _ _ _
  have HWs := Lib.hid hWs
  clear hWs hg0
  go_enter Try.func107, Try.ntmps107
  go_wp2_with fail
  rw [← hW]
  have HW := Lib.hid hW
  clear hW
  simp only [hmk, Result.andThen_ok]
  clear hmk
  go_wp2
  go_loopw [6] (fun i wr => ∃ (k : Nat) (o : List Nat), i = .int .i64 k ∧ k ≤ la ∧ (o.length = la ∧ Words o ∧ num o = 0) ∧ wr.ownsRow W.heap.size 109 1 (.slice (some ⟨W.heap.size, 0, none⟩) la la) la (o.map W32) ∧ Below W.heap.size W wr)
    (fun i _ => la - (intOf i).toNat)
  case atStart => exact ⟨0, List.replicate la 0, rfl, by omega, ⟨by simp, Words.zeros _, num_zeros _⟩, hown0, hB0⟩
  case round =>
    obtain ⟨k, o, rfl, hk, hp, hown, hB⟩ := hrel
    have F0 := RowKit.Below.cells hB A0
    have F1 := RowKit.Below.cells hB A1
    have F2 := RowKit.Below.cells hB A2
    have F3 := RowKit.Below.cells hB A3
    have F4 := RowKit.Below.cells hB A4
    have F5 := RowKit.Below.cells hB A5
    by_cases hka : k < la
    · have f3 := World.ownsRow.frozenAt hown k
      have c4 : wr.cell? ⟨W.heap.size, k, none⟩ = some _ := row_cell hown k (by omega)
      have hz0' : num (o.set k 0) = 0 := by
        have := num_set o k 0 (by omega)
        have h3 := hp.2.2
        rw [h3, Nat.mul_zero] at this
        omega
      have hrel' : (o.set k 0).length = la ∧ Words (o.set k 0) ∧ num (o.set k 0) = 0 := ⟨by rw [List.length_set]; exact hp.1, hp.2.1.set k BB_pos, hz0'⟩
      have Hrel := Lib.hid hrel'
      clear hrel' hp hz0'
      go_wp2
      go_loopw [7, 8] (fun cv jv wr2 => cv = .int .u64 0 ∧ jv = .int .i64 0 ∧ wr2 = wr) (fun _ _ _ => 0)
      case atStart => exact ⟨rfl, rfl, rfl⟩
      case round =>
        obtain ⟨rfl, rfl, rfl⟩ := hrel
        go_wp2
        go_roundw
        case rel => exact ⟨k + 1, _, by go_num, by omega, Hrel.out, row_stored hown k 0 _ rfl, Below.setCell hB (by show W.heap.size ≤ W.heap.size; omega) _⟩
        case measure => simp only [intOf]; omega
    · have hnum : num o = 0 := hp.2.2
      have hrow : Row wr (.slice (some ⟨W.heap.size, 0, none⟩) la la) o := own_row (n := la) hown hp.1.symm
      have hwo := hp.2.1
      have R0' := At.below R0 hB
      have R1' := At.below R1 hB
      have R2' := At.below R2 hB
      have hBl : wr.heap[w.heap.size + 1 + 1]? = some (.cells #[.bool false, .slice none 0 0, .int .i64 0] 100) := (hB.block _ (by rw [HWs.out]; omega)).trans HH
      have hbw : Below w.heap.size w wr := below3 (by rw [← HWs.out, ← HW.out]; exact hB)
      have f0 := R0'.1; have f1 := R1'.1; have f2 := R2'.1; have z0 := R0'.2; have z1 := R1'.2; have z2 := R2'.2
      have HBl := Lib.hid hBl
      have Hbw := Lib.hid hbw
      have Hn := Lib.hid hnum
      have Hwo := Lib.hid hwo
      have Hrow := Lib.hid hrow
      clear hBl hbw hB hnum hwo hrow hown hp
      go_wp2_with fail
      refine (trim_any _ _ Hwo.out _ Hrow.out).mono ?_
      rintro e w2 ⟨⟨v3, l3, rfl, g1, g2, g3, g4⟩, rfl⟩
      rw [Hn.out] at g4
      have el := zero_row g4 g3
      subst el
      obtain ⟨p3, c3, rfl, _⟩ := g1.len
      have hne := row_ne g1 HBl.out (by decide)
      have G := Lib.hid (And.intro g1 hne)
      clear g1 g2 g3 g4 hne
      have e0 : ([] : List Nat).length = 0 := rfl
      rw [e0] at *
      cases sa <;> cases sb
      all_goals
        go_wp2
        have bs := big_stored R0' R1' R2' (.bool false) (.slice p3 0 c3) (.int .i64 (ea + eb))
        refine bodyPost_ret (v := .agg #[.bool false, .slice p3 0 c3, .int .i64 (ea + eb)]) (by simp [results, Try.results107, go_sem, bs]) rfl ?_
        exact ⟨⟨false, _, [], rfl, row_stored3 G.out.1 G.out.2 _ _ _, Words.nil, .inl rfl, rfl⟩, below_stored3 Hbw.out (by omega) _ _ _⟩
theorem sgn_eq (s : Bool) (n : Nat) : (if s = true then -(n : Int) else (n : Int)) = (if s = true then -1 else 1) * (n : Int) := by cases s <;> simp
/-- The product of two reals. -/
theorem times_any (sa sb : Bool) (ea eb : Int) (he1 : -10000 ≤ ea ∧ ea ≤ 10000) (he2 : -10000 ≤ eb ∧ eb ≤ 10000) (va vb : Value) (a b : List Nat) (wa : Words a) (wb : Words b) (ha : a.length ≤ 4) (hb : b.length ≤ 4) (w : World) (hr : Row w va a) (hs : Row w vb b) :
    Calls Try.prog 107 #[.agg #[.bool sa, va, .int .i64 ea], .agg #[.bool sb, vb, .int .i64 eb]] w fun e w' => GivesBig w' e ((if sa = true then -(num a : Int) else num a) * (if sb = true then -(num b : Int) else num b)) (ea + eb) ∧ Below w.heap.size w w' := by
  by_cases h0 : a.length = 0
  · have e := List.length_eq_zero_iff.1 h0
    subst e
    obtain ⟨p, c, rfl, _⟩ := hr.len
    obtain ⟨p', c', rfl, _⟩ := hs.len
    have := times_0x sa sb ea eb he1 he2 p p' c c' b.length hb w
    rw [sgn_eq sa, show ((num [] : Nat) : Int) = 0 from rfl, Int.mul_zero, Int.zero_mul]
    exact this
  by_cases h0' : b.length = 0
  · have e := List.length_eq_zero_iff.1 h0'
    subst e
    obtain ⟨p, c, rfl, _⟩ := hr.len
    obtain ⟨p', c', rfl, _⟩ := hs.len
    have := times_x0 sa sb ea eb he1 he2 p p' c c' a.length ha (by omega) w
    rw [sgn_eq sb, show ((num [] : Nat) : Int) = 0 from rfl, Int.mul_zero, Int.mul_zero]
    exact this
  rcases hr.cases with ⟨_, e⟩ | ⟨g, c, rfl, _, _, hg, hc⟩
  · rw [e] at h0; exact absurd rfl h0
  rcases hs.cases with ⟨_, e⟩ | ⟨g', c', rfl, _, _, hg', hc'⟩
  · rw [e] at h0'; exact absurd rfl h0'
  have := times_11 sa sb ea eb he1 he2 a wa g c (by omega) ha b wb g' c' (by omega) hb w hg hg' hc hc'
  have e : (if sa = true then -1 else 1) * (if sb = true then -1 else 1) * ((num a : Int) * num b) = (if sa = true then -(num a : Int) else num a) * (if sb = true then -(num b : Int) else num b) := by
    cases sa <;> cases sb <;> simp [Int.neg_mul, Int.mul_neg]
  rw [e] at this
  exact this
end Go.Proofs.Yteephgpefhodnaa
