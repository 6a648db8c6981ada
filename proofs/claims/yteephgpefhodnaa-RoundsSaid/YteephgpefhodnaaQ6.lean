/- The document's numbers: Times. -/
import Derived.Test.YteephgpefhodnaaQ5
import Derived.OneCell
namespace Go.Proofs.Yteephgpefhodnaa
open Go.RowKit Go.Sort Go.Fl
set_option linter.unusedSimpArgs false
set_option linter.unusedVariables false

/-- A call gives a real N * 2^E. -/
def GivesBig (w : World) (e : Ending) (N E : Int) : Prop := ∃ s v l, e = .returned (.agg #[.bool s, v, .int .i64 E]) ∧ Row w v l ∧ Words l ∧ Trim l ∧ N = (if s = true then -(num l : Int) else (num l : Int))
theorem below3 {w w1 : World} {o1 o2 o3 : Obj} (h : Below (w.heap.size + 3) (((w.alloc o1).alloc o2).alloc o3) w1) : Below w.heap.size w w1 := by
  have h' : Below (((w.alloc o1).alloc o2).alloc o3).heap.size (((w.alloc o1).alloc o2).alloc o3) w1 := by
    have e : (((w.alloc o1).alloc o2).alloc o3).heap.size = w.heap.size + 3 := by simp
    rw [e]; exact h
  exact below_alloc (below_alloc (below_alloc h'))
theorem row_ne {w : World} {v : Value} {l : List Nat} {B : Nat} {cs : Array Value} {T : TypeId} {z : Nat × Nat} (h : Row w v l) (hb : w.heap[B]? = some (.cells cs T z)) (hT : T ≠ 109) : v.ownBlock ≠ some B := by
  rcases h.2 with ⟨rfl, _⟩ | ⟨g, cap, cur, rfl, _, h3, _⟩
  · simp [Value.ownBlock]
  · intro e
    simp [Value.ownBlock] at e
    subst e
    rw [hb] at h3
    simp at h3
    exact hT h3.2.1
theorem row_set {w : World} {v : Value} {l : List Nat} {B f : Nat} (h : Row w v l) (hne : v.ownBlock ≠ some B) (u : Value) : Row (w.setCell ⟨B, f, none⟩ u) v l := ownsRow_setCell_other h hne u
theorem row_cell {w : World} {g n cap : Nat} {o : List Nat} {B : Nat} (h : w.ownsRow B 109 1 (.slice (some ⟨g, 0, none⟩) n cap) n (o.map W32)) (j : Nat) (hj : j < n) : w.cell? ⟨g, j, none⟩ = some (.int .u32 (o.getD j 0 : Nat)) := by
  have hl : o.length = n := by have := h.1; simpa using this
  have := World.ownsRow.cells h (g := g) rfl j (W32 (o.getD j 0)) (by rw [List.getElem?_map, List.getD_eq_getElem?_getD, List.getElem?_eq_getElem (by omega)]; rfl)
  have e : (⟨g, 0, none⟩ : Addr).add j = ⟨g, j, none⟩ := by unfold Addr.add; split <;> simp_all
  rw [e] at this
  exact this
theorem row_stored {w : World} {g n cap : Nat} {o : List Nat} {B : Nat} (h : w.ownsRow B 109 1 (.slice (some ⟨g, 0, none⟩) n cap) n (o.map W32)) (j d : Nat) (u : Value) (hu : u = W32 d) : (w.setCell ⟨g, j, none⟩ u).ownsRow B 109 1 (.slice (some ⟨g, 0, none⟩) n cap) n ((o.set j d).map W32) := by
  have := (World.ownsRow.stored h j u).1
  rw [List.map_set, ← hu]
  exact this
theorem big_stored {w : World} {B : Nat} {v0 v1 v2 : Value} (R0 : At w B 0 v0) (R1 : At w B 1 v1) (R2 : At w B 2 v2) (b s e : Value) :
    (((w.setCell ⟨B, 0, none⟩ b).setCell ⟨B, 1, none⟩ s).setCell ⟨B, 2, none⟩ e).cell? ⟨B, 0, none⟩ = some b ∧ (((w.setCell ⟨B, 0, none⟩ b).setCell ⟨B, 1, none⟩ s).setCell ⟨B, 2, none⟩ e).cell? ⟨B, 1, none⟩ = some s ∧ (((w.setCell ⟨B, 0, none⟩ b).setCell ⟨B, 1, none⟩ s).setCell ⟨B, 2, none⟩ e).cell? ⟨B, 2, none⟩ = some e :=
  ⟨(At.set_off (f' := 2) (At.set_off (f' := 1) (At.set_same R0 b) (by decide) s) (by decide) e).1, (At.set_off (f' := 2) (At.set_same (At.set_off (f' := 0) R1 (by decide) b) s) (by decide) e).1, (At.set_same (At.set_off (f' := 1) (At.set_off (f' := 0) R2 (by decide) b) (by decide) s) e).1⟩
theorem row_stored3 {w : World} {B : Nat} {v : Value} {l : List Nat} (h : Row w v l) (hne : v.ownBlock ≠ some B) (b s e : Value) : Row (((w.setCell ⟨B, 0, none⟩ b).setCell ⟨B, 1, none⟩ s).setCell ⟨B, 2, none⟩ e) v l := row_set (row_set (row_set h hne b) hne s) hne e
theorem below_stored3 {w0 w : World} {B : Nat} (h : Below w0.heap.size w0 w) (hB : w0.heap.size ≤ B) (b s e : Value) : Below w0.heap.size w0 (((w.setCell ⟨B, 0, none⟩ b).setCell ⟨B, 1, none⟩ s).setCell ⟨B, 2, none⟩ e) :=
  Below.setCell (Below.setCell (Below.setCell h (p := ⟨B, 0, none⟩) hB b) (p := ⟨B, 1, none⟩) hB s) (p := ⟨B, 2, none⟩) hB e
theorem heap_last3 (w : World) (o1 o2 o3 : Obj) : (((w.alloc o1).alloc o2).alloc o3).heap[w.heap.size + 1 + 1]? = some o3 := by
  have h := heap_alloc_new ((w.alloc o1).alloc o2) o3
  have e : ((w.alloc o1).alloc o2).heap.size = w.heap.size + 1 + 1 := by simp
  rw [e] at h; exact h
theorem mul_words (x y : Nat) (hx : x ≤ 4294967295) (hy : y ≤ 4294967295) : IntKind.u64.wrap ((x : Int) * (y : Int)) = ((x * y : Nat) : Int) ∧ x * y ≤ 18446744065119617025 := by
  have h : x * y ≤ 4294967295 * 4294967295 := Nat.mul_le_mul hx hy
  rw [← Int.natCast_mul, IntKind.wrap_u64]
  omega
set_option maxRecDepth 8000 in
set_option maxHeartbeats 4000000 in
theorem times_11 (sa sb : Bool) (ea eb : Int) (he1 : -10000 ≤ ea ∧ ea ≤ 10000) (he2 : -10000 ≤ eb ∧ eb ≤ 10000) (a : List Nat) (wa : Words a) (g c : Nat) (h0 : 0 < a.length) (h1 : a.length ≤ 4) (b : List Nat) (wb : Words b) (g' c' : Nat) (h0' : 0 < b.length) (h2 : b.length ≤ 4) (w : World)
    (hga : g < w.heap.size) (hgb : g' < w.heap.size)
    (hc : ∀ j, j < a.length → w.cell? ⟨g, j, none⟩ = some (.int .u32 (a.getD j 0 : Nat))) (hc' : ∀ j, j < b.length → w.cell? ⟨g', j, none⟩ = some (.int .u32 (b.getD j 0 : Nat))) :
    Calls Try.prog 107 #[.agg #[.bool sa, (.slice (some ⟨g, 0, none⟩) a.length c), .int .i64 ea], .agg #[.bool sb, (.slice (some ⟨g', 0, none⟩) b.length c'), .int .i64 eb]] w fun e w' => GivesBig w' e ((if sa = true then -1 else 1) * (if sb = true then -1 else 1) * ((num a : Int) * num b)) (ea + eb) ∧ Below w.heap.size w w' := by
  obtain ⟨i0, hi, hz0, hz1, hz2⟩ := info_parts info_u32
  obtain ⟨W, hW⟩ : ∃ W, W = (World.alloc (World.alloc (World.alloc w (.cells #[.bool sa, (.slice (some ⟨g, 0, none⟩) a.length c), .int .i64 ea] 100)) (.cells #[.bool sb, (.slice (some ⟨g', 0, none⟩) b.length c'), .int .i64 eb] 100)) (.cells #[.bool false, (.slice none 0 0), .int .i64 0] 100)) := ⟨_, rfl⟩
  have hWs : W.heap.size = w.heap.size + 3 := by rw [hW]; simp
  obtain ⟨w0, hmk, hown0, hg0⟩ := run_make_full (P := Try.prog) W W.heap.size 98 109 i0 (.int .u32 0) 1 Try.underlying98 hi hz0 hz1 .i64 .i64 (a.length + b.length) (by rw [hz2]; omega) (by unfold maxLen; omega) (Nat.le_refl _)
  have hB0 : Below W.heap.size W w0 := grown_none hg0 (Nat.le_refl _)
  rw [made_zeros] at hown0
  rw [Int.natCast_add] at hmk
  have A0 : W.cell? ⟨w.heap.size, 1, none⟩ = some (.slice (some ⟨g, 0, none⟩) a.length c) := by rw [hW]; simp [go_sem]
  have A1 : W.cell? ⟨w.heap.size + 1, 1, none⟩ = some (.slice (some ⟨g', 0, none⟩) b.length c') := by rw [hW]; simp [go_sem]
  have A2 : W.cell? ⟨w.heap.size, 0, none⟩ = some (.bool sa) := by rw [hW]; simp [go_sem]
  have A3 : W.cell? ⟨w.heap.size + 1, 0, none⟩ = some (.bool sb) := by rw [hW]; simp [go_sem]
  have A4 : W.cell? ⟨w.heap.size, 2, none⟩ = some (.int .i64 ea) := by rw [hW]; simp [go_sem]
  have A5 : W.cell? ⟨w.heap.size + 1, 2, none⟩ = some (.int .i64 eb) := by rw [hW]; simp [go_sem]
  have R0 : At W (w.heap.size + 1 + 1) 0 (.bool false) := by rw [hW]; exact ⟨by simp [go_sem], by simp [go_sem]⟩
  have R1 : At W (w.heap.size + 1 + 1) 1 (.slice none 0 0) := by rw [hW]; exact ⟨by simp [go_sem], by simp [go_sem]⟩
  have R2 : At W (w.heap.size + 1 + 1) 2 (.int .i64 0) := by rw [hW]; exact ⟨by simp [go_sem], by simp [go_sem]⟩
  have HH : W.heap[w.heap.size + 1 + 1]? = some (.cells #[.bool false, .slice none 0 0, .int .i64 0] 100) := by rw [hW]; exact heap_last3 _ _ _ _
  have C1 : ∀ j, j < a.length → W.cell? ⟨g, j, none⟩ = some (.int .u32 (a.getD j 0 : Nat)) := fun j hj => by rw [hW]; exact cell_alloc (cell_alloc (cell_alloc (hc j hj)))
  have C2 : ∀ j, j < b.length → W.cell? ⟨g', j, none⟩ = some (.int .u32 (b.getD j 0 : Nat)) := fun j hj => by rw [hW]; exact cell_alloc (cell_alloc (cell_alloc (hc' j hj)))
  have HWs := Lib.hid hWs
  have HC1 := Lib.hid C1
  have HC2 := Lib.hid C2
  have Hwa := Lib.hid wa
  have Hwb := Lib.hid wb
  clear hc hc' hWs hg0 C1 C2 wa wb
  go_enter Try.func107, Try.ntmps107
  go_wp2_with fail
  rw [← hW]
  have HW := Lib.hid hW
  clear hW
  simp only [hmk, Result.andThen_ok]
  clear hmk
  go_wp2
  go_loopw [6] (fun i wr => ∃ (k : Nat) (o : List Nat), i = .int .i64 k ∧ k ≤ a.length ∧ TimesAt a b o k ∧ wr.ownsRow W.heap.size 109 1 (.slice (some ⟨W.heap.size, 0, none⟩) (a.length + b.length) (a.length + b.length)) (a.length + b.length) (o.map W32) ∧ Below W.heap.size W wr)
    (fun i _ => a.length - (intOf i).toNat)
  case atStart => exact ⟨0, List.replicate (a.length + b.length) 0, rfl, by omega, ⟨by simp, Words.zeros _, by simp [num, num_zeros], fun t _ => by rw [List.getD_eq_getElem?_getD, List.getElem?_replicate]; split <;> rfl⟩, hown0, hB0⟩
  case round =>
    obtain ⟨k, o, rfl, hk, hp, hown, hB⟩ := hrel
    have F0 := RowKit.Below.cells hB A0
    have F1 := RowKit.Below.cells hB A1
    have F2 := RowKit.Below.cells hB A2
    have F3 := RowKit.Below.cells hB A3
    have F4 := RowKit.Below.cells hB A4
    have F5 := RowKit.Below.cells hB A5
    have Hp := Lib.hid hp
    clear hp
    by_cases hka : k < a.length
    · go_wp2
      clear F0 F1 F2 F3 F4 F5
      go_loopw [7, 8] (fun cv jv wr => ∃ (j cc : Nat) (o : List Nat), jv = .int .i64 j ∧ cv = .int .u64 cc ∧ j ≤ b.length ∧ TimesIn a b o k j cc ∧ wr.ownsRow W.heap.size 109 1 (.slice (some ⟨W.heap.size, 0, none⟩) (a.length + b.length) (a.length + b.length)) (a.length + b.length) (o.map W32) ∧ Below W.heap.size W wr)
        (fun _ jv _ => b.length - (intOf jv).toNat)
      case atStart => exact ⟨0, 0, o, rfl, rfl, by omega, times_in Hp.out, hown, hB⟩
      case round =>
        obtain ⟨j, cc, o2, rfl, rfl, hj, hp2, hown2, hB2⟩ := hrel
        have F0 := RowKit.Below.cells hB2 A0
        have F1 := RowKit.Below.cells hB2 A1
        have hfz : ∀ j, wr.frozen? ⟨W.heap.size, j, none⟩ = false := fun j => World.ownsRow.frozenAt hown2 j
        have hst := fun hj => times_step Hwa.out Hwb.out hp2 hka hj
        have hout := fun e : j = b.length => times_out (e ▸ hp2) hka
        have hcc : cc ≤ 4294967295 := by have := hp2.2.2.1; rw [BB_eq] at this; omega
        obtain ⟨x, hx⟩ : ∃ x, x = a.getD k 0 := ⟨_, rfl⟩
        obtain ⟨y, hy⟩ : ∃ y, y = b.getD j 0 := ⟨_, rfl⟩
        obtain ⟨z, hz⟩ : ∃ z, z = o2.getD (k + j) 0 := ⟨_, rfl⟩
        rw [← hx, ← hy, ← hz] at hst
        have gx : x ≤ 4294967295 := by have := Hwa.out.getD k; rw [← hx, BB_eq] at this; omega
        have gy : y ≤ 4294967295 := by have := Hwb.out.getD j; rw [← hy, BB_eq] at this; omega
        have gz : z ≤ 4294967295 := by have := hp2.2.1.getD (k + j); rw [← hz, BB_eq] at this; omega
        have cX : wr.cell? ⟨g, k, none⟩ = some (.int .u32 (x : Nat)) := hx ▸ RowKit.Below.cells hB2 (HC1.out k hka)
        have cY : j < b.length → wr.cell? ⟨g', j, none⟩ = some (.int .u32 (y : Nat)) := fun h => hy ▸ RowKit.Below.cells hB2 (HC2.out j h)
        have cZ : j < b.length → wr.cell? ⟨W.heap.size, k + j, none⟩ = some (.int .u32 (z : Nat)) := fun h => hz ▸ row_cell hown2 (k + j) (by omega)
        obtain ⟨hm, hmb⟩ := mul_words x y gx gy
        obtain ⟨p, hp⟩ : ∃ p, p = x * y := ⟨_, rfl⟩
        rw [← hp] at hst hm hmb
        have Hst := Lib.hid hst
        have Hout := Lib.hid hout
        have Hp2 := Lib.hid hp2
        have Hxyz := Lib.hid (And.intro hx (And.intro hy (And.intro hz hp)))
        clear hst hout hp2 hx hy hz hp
        by_cases hjb : j < b.length
        · have c2 := cY hjb
          have c3 := cZ hjb
          have f3 := hfz (k + j)
          clear cY cZ hfz
          go_wp2
          refine wp_region_quiet_lit (by kernel_rfl) (by kernel_rfl) ?_
          repeat (any_goals (first | go_big_quiet_step (fail) | quiet_step (fail) | (refine wpQuiet_step (fun K hK => ?_); go_simp; split <;> (refine hK _ ?_; clear hK K))))
          all_goals (refine wpQuiet_nil ?_; intro _ hw'; obtain ⟨nq, hw''⟩ := hw'; subst hw'')
          go_wp2
          go_roundw
          case rel => exact ⟨j + 1, (cc + p + z) / BB, _, by go_num, by rw [BB_eq]; exact congrArg _ (by omega), by omega, Hst.out hjb, row_stored (by exact hown2) _ _ _ (by unfold W32; rw [BB_eq]; exact congrArg _ (by omega)), Below.setCell (below_drewN hB2) (by show W.heap.size ≤ W.heap.size; omega) _⟩
          case measure => simp only [intOf]; omega
        · have hje : j = b.length := by omega
          subst hje
          have f3 := hfz (k + b.length)
          have c4 : wr.cell? ⟨W.heap.size, k + b.length, none⟩ = some _ := row_cell hown2 (k + b.length) (by omega)
          clear cY cZ cX hm hfz
          go_wp2
          go_roundw
          case rel => exact ⟨k + 1, _, by go_num, by omega, Hout.out rfl, row_stored hown2 _ _ _ (by unfold W32; exact congrArg _ (by omega)), Below.setCell hB2 (by show W.heap.size ≤ W.heap.size; omega) _⟩
          case measure => simp only [intOf]; omega
    · have hke : k = a.length := by omega
      subst hke
      have hpp := Hp.out
      have hnum : num o = num a * num b := by rw [hpp.2.2.1, List.take_length]
      have hrow : Row wr (.slice (some ⟨W.heap.size, 0, none⟩) (a.length + b.length) (a.length + b.length)) o := own_row (n := a.length + b.length) hown hpp.1.symm
      have hwo := hpp.2.1
      have Hn := Lib.hid hnum
      have Hwo := Lib.hid hwo
      have Hrow := Lib.hid hrow
      clear hnum hpp hwo hrow hown Hp
      have R0' := At.below R0 hB
      have R1' := At.below R1 hB
      have R2' := At.below R2 hB
      have hBl : wr.heap[w.heap.size + 1 + 1]? = some (.cells #[.bool false, .slice none 0 0, .int .i64 0] 100) := (hB.block _ (by rw [HWs.out]; omega)).trans HH
      have hbw : Below w.heap.size w wr := below3 (by rw [← HWs.out, ← HW.out]; exact hB)
      have f0 := R0'.1; have f1 := R1'.1; have f2 := R2'.1; have z0 := R0'.2; have z1 := R1'.2; have z2 := R2'.2
      have HBl := Lib.hid hBl
      have Hbw := Lib.hid hbw
      clear hBl hbw hB
      go_wp2_with fail
      refine (trim_any _ _ Hwo.out _ Hrow.out).mono ?_
      rintro e w2 ⟨⟨v3, l3, rfl, g1, g2, g3, g4⟩, rfl⟩
      obtain ⟨p3, c3, rfl, _⟩ := g1.len
      have hne := row_ne g1 HBl.out (by decide)
      have G := Lib.hid (And.intro g1 (And.intro g2 (And.intro g3 (And.intro g4 hne))))
      clear g1 g2 g3 g4 hne
      by_cases hl : l3.length = 0
      · have hl' := Lib.hid hl
        have hl0 : ¬ (0 : Int) < (l3.length : Int) := by omega
        have hd0 : decide (0 < l3.length) = false := decide_eq_false (by omega)
        clear hl
        cases sa <;> cases sb
        · go_wp2
          have bs := big_stored R0' R1' R2' (.bool false) (.slice p3 l3.length c3) (.int .i64 (ea + eb))
          refine bodyPost_ret (v := .agg #[.bool false, .slice p3 l3.length c3, .int .i64 (ea + eb)]) (by simp [results, Try.results107, go_sem, bs]) rfl ?_
          refine ⟨⟨false, _, l3, rfl, row_stored3 G.out.1 G.out.2.2.2.2 _ _ _, G.out.2.1, G.out.2.2.1, ?_⟩, below_stored3 Hbw.out (by omega) _ _ _⟩
          have hg := G.out.2.2.2.1
          rw [Hn.out] at hg
          rw [List.length_eq_zero_iff.1 hl'.out] at hg ⊢
          rw [← Int.natCast_mul, ← hg]
          rfl
        · go_wp2
          have bs := big_stored R0' R1' R2' (.bool false) (.slice p3 l3.length c3) (.int .i64 (ea + eb))
          refine bodyPost_ret (v := .agg #[.bool false, .slice p3 l3.length c3, .int .i64 (ea + eb)]) (by simp [results, Try.results107, go_sem, bs]) rfl ?_
          refine ⟨⟨false, _, l3, rfl, row_stored3 G.out.1 G.out.2.2.2.2 _ _ _, G.out.2.1, G.out.2.2.1, ?_⟩, below_stored3 Hbw.out (by omega) _ _ _⟩
          have hg := G.out.2.2.2.1
          rw [Hn.out] at hg
          rw [List.length_eq_zero_iff.1 hl'.out] at hg ⊢
          rw [← Int.natCast_mul, ← hg]
          rfl
        · go_wp2
          have bs := big_stored R0' R1' R2' (.bool false) (.slice p3 l3.length c3) (.int .i64 (ea + eb))
          refine bodyPost_ret (v := .agg #[.bool false, .slice p3 l3.length c3, .int .i64 (ea + eb)]) (by simp [results, Try.results107, go_sem, bs]) rfl ?_
          refine ⟨⟨false, _, l3, rfl, row_stored3 G.out.1 G.out.2.2.2.2 _ _ _, G.out.2.1, G.out.2.2.1, ?_⟩, below_stored3 Hbw.out (by omega) _ _ _⟩
          have hg := G.out.2.2.2.1
          rw [Hn.out] at hg
          rw [List.length_eq_zero_iff.1 hl'.out] at hg ⊢
          rw [← Int.natCast_mul, ← hg]
          rfl
        · go_wp2
          have bs := big_stored R0' R1' R2' (.bool false) (.slice p3 l3.length c3) (.int .i64 (ea + eb))
          refine bodyPost_ret (v := .agg #[.bool false, .slice p3 l3.length c3, .int .i64 (ea + eb)]) (by simp [results, Try.results107, go_sem, bs]) rfl ?_
          refine ⟨⟨false, _, l3, rfl, row_stored3 G.out.1 G.out.2.2.2.2 _ _ _, G.out.2.1, G.out.2.2.1, ?_⟩, below_stored3 Hbw.out (by omega) _ _ _⟩
          have hg := G.out.2.2.2.1
          rw [Hn.out] at hg
          rw [List.length_eq_zero_iff.1 hl'.out] at hg ⊢
          rw [← Int.natCast_mul, ← hg]
          rfl
      · have hl0 : (0 : Int) < (l3.length : Int) := by omega
        have hd0 : decide (0 < l3.length) = true := decide_eq_true (by omega)
        cases sa <;> cases sb
        · go_wp2
          have bs := big_stored R0' R1' R2' (.bool false) (.slice p3 l3.length c3) (.int .i64 (ea + eb))
          refine bodyPost_ret (v := .agg #[.bool false, .slice p3 l3.length c3, .int .i64 (ea + eb)]) (by simp [results, Try.results107, go_sem, bs]) rfl ?_
          refine ⟨⟨false, _, l3, rfl, row_stored3 G.out.1 G.out.2.2.2.2 _ _ _, G.out.2.1, G.out.2.2.1, ?_⟩, below_stored3 Hbw.out (by omega) _ _ _⟩
          have hg := G.out.2.2.2.1
          rw [Hn.out] at hg
          rw [← Int.natCast_mul, ← hg]
          simp
        · go_wp2
          have bs := big_stored R0' R1' R2' (.bool true) (.slice p3 l3.length c3) (.int .i64 (ea + eb))
          refine bodyPost_ret (v := .agg #[.bool true, .slice p3 l3.length c3, .int .i64 (ea + eb)]) (by simp [results, Try.results107, go_sem, bs]) rfl ?_
          refine ⟨⟨true, _, l3, rfl, row_stored3 G.out.1 G.out.2.2.2.2 _ _ _, G.out.2.1, G.out.2.2.1, ?_⟩, below_stored3 Hbw.out (by omega) _ _ _⟩
          have hg := G.out.2.2.2.1
          rw [Hn.out] at hg
          rw [← Int.natCast_mul, ← hg]
          simp
        · go_wp2
          have bs := big_stored R0' R1' R2' (.bool true) (.slice p3 l3.length c3) (.int .i64 (ea + eb))
          refine bodyPost_ret (v := .agg #[.bool true, .slice p3 l3.length c3, .int .i64 (ea + eb)]) (by simp [results, Try.results107, go_sem, bs]) rfl ?_
          refine ⟨⟨true, _, l3, rfl, row_stored3 G.out.1 G.out.2.2.2.2 _ _ _, G.out.2.1, G.out.2.2.1, ?_⟩, below_stored3 Hbw.out (by omega) _ _ _⟩
          have hg := G.out.2.2.2.1
          rw [Hn.out] at hg
          rw [← Int.natCast_mul, ← hg]
          simp
        · go_wp2
          have bs := big_stored R0' R1' R2' (.bool false) (.slice p3 l3.length c3) (.int .i64 (ea + eb))
          refine bodyPost_ret (v := .agg #[.bool false, .slice p3 l3.length c3, .int .i64 (ea + eb)]) (by simp [results, Try.results107, go_sem, bs]) rfl ?_
          refine ⟨⟨false, _, l3, rfl, row_stored3 G.out.1 G.out.2.2.2.2 _ _ _, G.out.2.1, G.out.2.2.1, ?_⟩, below_stored3 Hbw.out (by omega) _ _ _⟩
          have hg := G.out.2.2.2.1
          rw [Hn.out] at hg
          rw [← Int.natCast_mul, ← hg]
          simp
end Go.Proofs.Yteephgpefhodnaa
