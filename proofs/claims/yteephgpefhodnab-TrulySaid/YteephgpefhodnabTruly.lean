/- Proved: the statement Truly: for every input the call returns true: what decorations say is so. Conditions: none. -/
import Derived.Test.YteephgpefhodnabK7
import Derived.ProofKit
import Derived.OpenShut
namespace Go.Proofs.Yteephgpefhodnab.truly
open Go.RowKit Go.Sort Go.Fl Go.ChangeShapes Go.WideShapes Go.ChangeAt
set_option linter.unusedSimpArgs false
set_option linter.unusedVariables false
theorem osm (o : Int) {A B C D : Int} (h : NE A B) (h' : NE C D) (h9 : ¬ o = 9) (h5 : ¬ o = 5) (h3n : o = 3 → ¬ B < 0) : opLo o A B C D ≤ opHi o A B C D ∧ opLo o A B C D < PI ∧ -PI < opHi o A B C D := by
  have hP := PI_pos
  obtain ⟨r1, r2, h1, h2, h3⟩ := id h
  obtain ⟨r1', r2', h1', h2', h3'⟩ := id h'
  by_cases h0 : o = 0
  · subst h0; rw [opLo_0, opHi_0]; omega
  by_cases g1 : o = 1
  · subst g1; rw [opLo_1, opHi_1]
    have := abs_facts h
    omega
  by_cases g2 : o = 2
  · subst g2; rw [opLo_2, opHi_2]
    obtain ⟨a1, a2, a3, a4⟩ := abs_facts h
    have f : Fi (absLo A B) := ⟨by omega, a3⟩
    obtain ⟨l1, l2⟩ := endK_fi_lt (o := 8) (.inr (.inl rfl)) (fun e => by omega) f f
    have t := endK_two (o := 8) (x := absLo A B) (y := absLo A B) (.inr (.inl rfl)) (fun e => by omega)
    have m := sqr_mono f.rg (absHi_rg r1 r2) a1 a2 true
    omega
  by_cases g3 : o = 3
  · subst g3; rw [opLo_3, opHi_3]
    have hb := h3n rfl
    by_cases hb : B < 0
    · omega
    · rw [if_neg hb, if_neg hb]
      have l := (low_lt (cSqrt (max A 0))).1
      by_cases hi : B < PI
      · rw [if_pos hi]
        have a := (rnd_two (cut_sqrt (max A 0))).1
        have b := root_mono (show max A 0 ≤ B by omega) true
        have c := (high_gt (cSqrt B)).1
        unfold sqrtK; omega
      · rw [if_neg hi]
        unfold sqrtK; omega
  by_cases g4 : o = 4
  · subst g4; rw [opLo_4, opHi_4]
    have := floor_le r1
    have := floor_mono r1 r2 h1
    have := floor_gt r2 h3
    omega
  by_cases g6 : o = 6
  · subst g6; rw [opLo_6, opHi_6]; exact sum_iv h h'
  by_cases g7 : o = 7
  · subst g7; rw [opLo_7, opHi_7]; exact sum_iv h h'.neg
  by_cases g8 : o = 8
  · subst g8; rw [opLo_8, opHi_8]
    obtain ⟨x, fx, x1, x2⟩ := h.pick
    obtain ⟨y, fy, y1, y2⟩ := h'.pick
    obtain ⟨w1, w2⟩ := prod_within r1 r2 r1' r2' x1 x2 y1 y2
    obtain ⟨l1, l2⟩ := endK_fi_lt (o := 8) (.inr (.inl rfl)) (fun e => by omega) fx fy
    have t := endK_two (o := 8) (x := x) (y := y) (.inr (.inl rfl)) (fun e => by omega)
    omega
  by_cases g10 : o = 10
  · subst g10; rw [opLo_10, opHi_10]; omega
  have e1 : opLo o A B C D = max A C := by unfold opLo; rw [if_neg h0, if_neg g1, if_neg g2, if_neg g3, if_neg g4, if_neg h5, if_neg g6, if_neg g7, if_neg g8, if_neg h9, if_neg g10]
  have e2 : opHi o A B C D = max B D := by unfold opHi; rw [if_neg h0, if_neg g1, if_neg g2, if_neg g3, if_neg g4, if_neg h5, if_neg g6, if_neg g7, if_neg g8, if_neg h9, if_neg g10]
  rw [e1, e2]; omega
theorem dsm {a b c d : Int} (h : NE a b) (h' : NE c d) (hz : ¬ (c ≤ 0 ∧ 0 ≤ d)) : divLo a b c d ≤ divHi a b c d := by
  have i := (div_iv h h').2.2
  have hP := PI_pos
  rcases i with ⟨e1, e2⟩ | i
  · rcases div_case h h' with ⟨f1, f2, f3, f4⟩ | ⟨f1, f2, f0, f3, f4⟩ | ⟨f1, f2, f3, f4⟩ | ⟨f1, f2, f3, f4⟩ | ⟨f1, f2, f3, f4⟩
    · omega
    · omega
    · omega
    · exfalso
      have := (q_iv h.1 h.2.1 h.2.2.1 h.2.2.2.1 h.2.2.2.2 f1 f2 h'.2.2.1 h'.2.1.2 h'.2.2.2.1).2.1
      omega
    · exfalso
      have k2 := h'.2.1.2
      have k1 := h'.1.1
      have hn := h.neg
      have hm := h'.neg
      have := (q_iv hn.1 hn.2.1 hn.2.2.1 hn.2.2.2.1 hn.2.2.2.2 (show 0 ≤ -d by omega) (show 0 < -c by omega) hm.2.2.1 hm.2.1.2 hm.2.2.2.1).2.1
      omega
  · exact i.1
theorem op_one {o : Int} (hl : 0 ≤ o) (ho : o ≤ 5) (A B C D C' D' : Int) : opLo o A B C D = opLo o A B C' D' ∧ opHi o A B C D = opHi o A B C' D' := by
  rcases (show o = 0 ∨ o = 1 ∨ o = 2 ∨ o = 3 ∨ o = 4 ∨ o = 5 by omega) with rfl | rfl | rfl | rfl | rfl | rfl <;> exact ⟨rfl, rfl⟩
theorem lsm {o A B C D : Int} (ho : 0 ≤ o ∧ o ≤ 11) (h : NE A B) (h' : NE C D) (X Y : Int) (hl : ¬ localK o A B C D X Y = 1) : opLo o A B C D ≤ opHi o A B C D := by
  unfold localK at hl
  by_cases h5 : o = 5
  · subst h5
    by_cases hz : A ≤ 0 ∧ 0 ≤ B
    · rw [if_pos ⟨rfl, hz⟩] at hl; exact absurd rfl hl
    · exact dsm ne_one h hz
  by_cases h9 : o = 9
  · subst h9
    rw [if_neg (fun h => h5 h.1)] at hl
    by_cases hz : C ≤ 0 ∧ 0 ≤ D
    · rw [if_pos ⟨rfl, hz⟩] at hl; exact absurd rfl hl
    · exact dsm h h' hz
  refine (osm o h h' h9 h5 fun e => ?_).1
  intro hb
  rw [if_neg (fun h => h5 h.1), if_neg (fun h => h9 h.1), if_pos ⟨e, by have := h.2.2.1; omega⟩] at hl
  exact hl rfl
def Dc (A B m : Int) : Prop := Iv A B ∧ ((m = 0 ∧ A = PI ∧ B = -PI) ∨ (1 ≤ m ∧ m ≤ 4 ∧ (A = PI ∧ B = -PI → m = 1) ∧ (m = 4 → Bnd A B)))
theorem dc_fix {A B m : Int} (h : Dc A B m) : dLo (ofKey A) (ofKey B) m = A ∧ dHi (ofKey A) (ofKey B) m = B ∧ dD (ofKey A) (ofKey B) m = m := by
  obtain ⟨e1, e2, e3⟩ := dc_canon h.1 m
  rw [e1, e2, e3]
  rcases h.2 with ⟨h1, h2, h3⟩ | ⟨h1, h2, h3, h4⟩
  · have : m ≤ 0 ∨ 4 < m := by omega
    rw [if_pos this, if_pos this, if_pos this]; omega
  · have : ¬ (m ≤ 0 ∨ 4 < m) := by omega
    rw [if_neg this, if_neg this, if_neg this]
    refine ⟨rfl, rfl, ?_⟩
    by_cases he : A = PI ∧ B = -PI
    · rw [if_pos he]; exact (h3 he).symm
    · rw [if_neg he]
      by_cases hb : Bnd A B
      · rw [if_pos hb]
      · rw [if_neg hb]
        have : m ≠ 4 := fun e => hb (h4 e)
        omega
theorem dec_of {A B : Int} (h : NE A B) (d : Int) : ∃ A' B' m, Dc A' B' m ∧ (∀ w, Calls Try.prog 6 #[.agg #[.float .f64 (ofKey (A)), .float .f64 (ofKey (B))], .int .i64 d] w fun e w' => e = .returned (.agg #[.float .f64 (ofKey (A')), .float .f64 (ofKey (B')), .int .i64 (m)]) ∧ Below w.heap.size w w') ∧
    ((m = 0 ∧ ¬ d = 4) ∨ (A' = A ∧ B' = B ∧ 1 ≤ m ∧ (d = 4 → 3 ≤ m) ∧ (m = 4 → Bnd A B) ∧ (Bnd A B → d = 4 → m = 4) ∧ (¬ Bnd A B → m ≤ 3))) := by
  have c := dc_canon h.iv d
  have k := fun w => spansdecorate_any (ofKey A) (ofKey B) d (ofKey_lt h.1) (ofKey_lt h.2.1) w
  obtain ⟨e1, e2, e3⟩ := c
  rw [e1, e2, e3] at k
  have hn := h.no
  by_cases hd : d ≤ 0 ∨ 4 < d
  · simp only [if_pos hd] at k
    exact ⟨_, _, _, ⟨⟨Rg_PI, Rg_MI, .inl ⟨rfl, rfl⟩⟩, .inl ⟨rfl, rfl, rfl⟩⟩, k, .inl ⟨rfl, by omega⟩⟩
  · simp only [if_neg hd, if_neg hn] at k
    by_cases hb : Bnd A B
    · simp only [if_pos hb] at k
      exact ⟨_, _, _, ⟨h.iv, .inr ⟨by omega, by omega, fun e => absurd e hn, fun _ => hb⟩⟩, k, .inr ⟨rfl, rfl, by omega, fun _ => by omega, fun _ => hb, fun _ e => e, fun h => absurd hb h⟩⟩
    · simp only [if_neg hb] at k
      exact ⟨_, _, _, ⟨h.iv, .inr ⟨by omega, by omega, fun e => absurd e hn, fun _ => by omega⟩⟩, k, .inr ⟨rfl, rfl, by omega, fun _ => by omega, fun _ => by omega, fun h => absurd h hb, fun _ => by omega⟩⟩
theorem do_dc {A B m C D n : Int} (h : Dc A B m) (h' : Dc C D n) (o : Int) (w : World) : Calls Try.prog 7 #[.int .i64 o, .agg #[.float .f64 (ofKey (A)), .float .f64 (ofKey (B)), .int .i64 (m)], .agg #[.float .f64 (ofKey (C)), .float .f64 (ofKey (D)), .int .i64 (n)]] w fun e w' => e = .returned (.agg #[.float .f64 (ofKey (zLo o A B C D m n)), .float .f64 (ofKey (zHi o A B C D m n)), .int .i64 (zD o A B C D m n)]) ∧ Below w.heap.size w w' := by
  have k := spansdo_any o (ofKey A) (ofKey B) (ofKey C) (ofKey D) m n (ofKey_lt h.1.1) (ofKey_lt h.1.2.1) (ofKey_lt h'.1.1) (ofKey_lt h'.1.2.1) w
  obtain ⟨e1, e2, e3⟩ := dc_fix h
  obtain ⟨f1, f2, f3⟩ := dc_fix h'
  rw [e1, e2, e3, f1, f2, f3] at k
  exact k
theorem zfu {o A B C D m n : Int} (ho : 0 ≤ o ∧ o ≤ 11) (h : NE A B) (h' : NE C D) (hm : ¬ m = 0) (hn : 6 ≤ o → ¬ n = 0) :
    zLo o A B C D m n = opLo o A B C D ∧ zHi o A B C D m n = opHi o A B C D ∧
    zD o A B C D m n = (if o ≤ 5 then min (localK o A B A B (opLo o A B C D) (opHi o A B C D)) m else min (localK o A B C D (opLo o A B C D) (opHi o A B C D)) (min m n)) := by
  have e0 := h.no
  have e0' := h'.no
  by_cases h5 : o ≤ 5
  · have ha : argsK o = 1 := by unfold argsK; rw [if_pos (by omega)]
    have hi : ¬ zIll o m n := by unfold zIll; omega
    have e := op_one ho.1 h5 A B A B C D
    have p := ap_eq ho h h
    unfold zLo zHi zD
    rw [if_neg hi, if_neg hi, if_neg hi, if_pos ha, if_pos ha, if_pos ha, if_neg e0, p.1, p.2, e.1, e.2, if_pos h5]
    exact ⟨rfl, rfl, rfl⟩
  · have ha : argsK o = 2 := by unfold argsK; rw [if_neg (by omega), if_pos (by omega)]
    have ha' : ¬ argsK o = 1 := by omega
    have := hn (by omega)
    have hi : ¬ zIll o m n := by unfold zIll; omega
    have p := ap_eq ho h h'
    unfold zLo zHi zD
    rw [if_neg hi, if_neg hi, if_neg hi, if_neg ha', if_neg ha', if_neg ha', if_neg (fun h => h.elim e0 e0'), p.1, p.2, if_neg h5]
    exact ⟨rfl, rfl, rfl⟩
theorem z_ill {o A B C D m n : Int} (h : m = 0 ∨ (6 ≤ o ∧ o ≤ 11 ∧ n = 0)) : zD o A B C D m n = 0 := by
  have hi : zIll o m n := by
    rcases h with h | ⟨h1, h2, h3⟩
    · exact .inr (.inl h)
    · exact .inr (.inr ⟨by unfold argsK; rw [if_neg (by omega), if_pos (by omega)], h3⟩)
  unfold zD; rw [if_pos hi]
theorem les1 {L p q : Int} (h : p ≤ q) : min L p ≤ min L q ∧ min L p ≤ p := by omega
theorem les2 {L p q p' q' : Int} (h : p ≤ p') (h' : q ≤ q') : min L (min p q) ≤ min L (min p' q') ∧ min L (min p q) ≤ p ∧ min L (min p q) ≤ q := by omega
theorem les3 {L p : Int} (h1 : 1 ≤ L) (h2 : L ≤ 4) (h3 : 3 ≤ p) : 1 ≤ min L p ∧ min L p ≤ 4 ∧ (2 ≤ min L p → ¬ L = 1) ∧ (min L p = 4 → L = 4) := by omega
theorem lrg (o A B C D X Y : Int) : 1 ≤ localK o A B C D X Y ∧ localK o A B C D X Y ≤ 4 ∧ (localK o A B C D X Y = 4 → Bnd A B ∧ Bnd X Y) := by
  unfold localK
  repeat' split
  all_goals first | exact ⟨by omega, by omega, fun e => by omega⟩ | (rename_i h; exact ⟨by omega, by omega, fun _ => ⟨h.1, h.2.2⟩⟩)
theorem ffs {o A B C D pd qd rd : Int} (ho : 0 ≤ o ∧ o ≤ 11) (h : NE A B) (h' : NE C D) (hp : 3 ≤ pd) (hq : 3 ≤ qd)
    (hrd : rd = (if o ≤ 5 then min (localK o A B A B (opLo o A B C D) (opHi o A B C D)) pd else min (localK o A B C D (opLo o A B C D) (opHi o A B C D)) (min pd qd))) :
    1 ≤ rd ∧ rd ≤ 4 ∧ (2 ≤ rd → opLo o A B C D ≤ opHi o A B C D) ∧ (rd = 4 → Bnd A B ∧ Bnd (opLo o A B C D) (opHi o A B C D)) := by
  by_cases h5 : o ≤ 5
  · rw [if_pos h5] at hrd
    have l := lrg o A B A B (opLo o A B C D) (opHi o A B C D)
    have t := les3 l.1 l.2.1 hp
    have e := op_one ho.1 h5 A B A B C D
    have sc := lsm (o := o) ho h h (opLo o A B C D) (opHi o A B C D)
    rw [e.1, e.2] at sc
    rw [hrd]
    exact ⟨t.1, t.2.1, fun g => sc (t.2.2.1 g), fun g => l.2.2 (t.2.2.2 g)⟩
  · rw [if_neg h5] at hrd
    have l := lrg o A B C D (opLo o A B C D) (opHi o A B C D)
    have t := les3 l.1 l.2.1 (show 3 ≤ min pd qd by omega)
    have sc := lsm ho h h' (opLo o A B C D) (opHi o A B C D)
    rw [hrd]
    exact ⟨t.1, t.2.1, fun g => sc (t.2.2.1 g), fun g => l.2.2 (t.2.2.2 g)⟩
theorem dc_nn {A B m : Int} (h : Dc A B m) : 0 ≤ m ∧ m ≤ 4 := by rcases h.2 with g | g <;> omega
theorem ill_or (o p1 q1 : Int) : (p1 = 0 ∨ (6 ≤ o ∧ o ≤ 11 ∧ q1 = 0)) ∨ (¬ p1 = 0 ∧ (6 ≤ o → o ≤ 11 → ¬ q1 = 0)) := by omega
theorem lfs {o A B C D A1 B1 C1 D1 p1 q1 pd qd rd : Int} (ho : 0 ≤ o ∧ o ≤ 11) (h : NE A B) (h' : NE C D) (hr : 1 ≤ rd) (hp0 : 0 ≤ p1) (hq0 : 0 ≤ q1)
    (hrd : rd = (if o ≤ 5 then min (localK o A B A B (opLo o A B C D) (opHi o A B C D)) pd else min (localK o A B C D (opLo o A B C D) (opHi o A B C D)) (min pd qd)))
    (hp : ¬ p1 = 0 → A1 = A ∧ B1 = B ∧ p1 ≤ pd) (hq : ¬ q1 = 0 → C1 = C ∧ D1 = D ∧ q1 ≤ qd) :
    zD o A1 B1 C1 D1 p1 q1 ≤ rd ∧ zD o A1 B1 C1 D1 p1 q1 ≤ p1 ∧ (6 ≤ o → zD o A1 B1 C1 D1 p1 q1 ≤ q1) := by
  rcases ill_or o p1 q1 with hi | ⟨n1, n2⟩
  · rw [z_ill hi]; exact ⟨by omega, hp0, fun _ => hq0⟩
  · obtain ⟨ea, eb, l1⟩ := hp n1
    by_cases h5 : o ≤ 5
    · have hz : zD o A1 B1 C1 D1 p1 q1 = zD o A B C D p1 1 := by
        have ha : argsK o = 1 := by unfold argsK; rw [if_pos ⟨ho.1, h5⟩]
        have i1 : ¬ zIll o p1 q1 := by unfold zIll; omega
        have i2 : ¬ zIll o p1 1 := by unfold zIll; omega
        unfold zD
        rw [if_neg i1, if_neg i2, if_pos ha, if_pos ha, ea, eb]
      rw [hz, (zfu ho h h' n1 (fun g => by omega)).2.2, if_pos h5]
      rw [if_pos h5] at hrd
      rw [hrd]
      exact ⟨(les1 l1).1, (les1 l1).2, fun g => by omega⟩
    · have n3 : ¬ q1 = 0 := n2 (by omega) ho.2
      obtain ⟨ec, ed, l2⟩ := hq n3
      rw [ea, eb, ec, ed, (zfu ho h h' n1 (fun _ => n3)).2.2, if_neg h5]
      rw [if_neg h5] at hrd
      rw [hrd]
      have t := les2 (L := localK o A B C D (opLo o A B C D) (opHi o A B C D)) l1 l2
      exact ⟨t.1, t.2.1, fun _ => t.2.2⟩
set_option maxHeartbeats 4000000 in
theorem walk (a0 a1 a2 a3 a4 a5 a6 : Int) (w0 : (Lit.int .u64 a0).wf = true) (w1 : (Lit.int .u64 a1).wf = true) (w2 : (Lit.int .u64 a2).wf = true) (w3 : (Lit.int .u64 a3).wf = true) (w4 : (Lit.int .i64 a4).wf = true) (w5 : (Lit.int .i64 a5).wf = true) (w6 : (Lit.int .i64 a6).wf = true) (w : World) :
    Calls Try.prog 3 #[.int .u64 a0, .int .u64 a1, .int .u64 a2, .int .u64 a3, .int .i64 a4, .int .i64 a5, .int .i64 a6] w fun e w' => e = .returned (.bool true) ∧ Below w.heap.size w w' := by
  have hP := PI_pos
  have hb6 := bounds_i64 w6
  obtain ⟨b1, b2⟩ := hb6
  obtain ⟨A, B, hX, sx⟩ := some_any a0 a1 (wd_of w0) (wd_of w1)
  obtain ⟨C, D, hZ, sz⟩ := some_any a2 a3 (wd_of w2) (wd_of w3)
  obtain ⟨A1, B1, p1, cp1, kp1, fp1⟩ := dec_of hX a4
  obtain ⟨C1, D1, q1, cq1, kq1, fq1⟩ := dec_of hZ a5
  obtain ⟨A2, B2, pd, cpd, kpd, fpd⟩ := dec_of hX 4
  obtain ⟨C2, D2, qd, cqd, kqd, fqd⟩ := dec_of hZ 4
  obtain ⟨rfl, rfl, hp1, hp2, hp3, hp4, hp5⟩ := fpd.resolve_left (fun h => h.2 rfl)
  obtain ⟨rfl, rfl, hq1, hq2, hq3, hq4, hq5⟩ := fqd.resolve_left (fun h => h.2 rfl)
  have go : ∀ o : Int, 0 ≤ o ∧ o ≤ 11 → ((a6 < 0 ∧ (-(a6 + 1)).tmod 12 = o) ∨ (¬ a6 < 0 ∧ a6.tmod 12 = o)) → Calls Try.prog 3 #[.int .u64 a0, .int .u64 a1, .int .u64 a2, .int .u64 a3, .int .i64 a4, .int .i64 a5, .int .i64 a6] w fun e w' => e = .returned (.bool true) ∧ Below w.heap.size w w' := by
    intro o ho hc
    have DO := do_dc cpd cqd o
    have DS := do_dc cp1 cq1 o
    have AP := apply_k o A2 B2 C2 D2 ho hX hZ
    obtain ⟨z1, z2, z3⟩ := zfu ho hX hZ (show ¬ pd = 0 by omega) (fun _ => show ¬ qd = 0 by omega)
    rw [z1, z2, z3] at DO
    have iv := op_iv o hX hZ
    have ivS := z_rg o A1 B1 C1 D1 p1 q1 cp1.1 cq1.1
    obtain ⟨rd, hrd⟩ : ∃ rd, rd = (if o ≤ 5 then min (localK o A2 B2 A2 B2 (opLo o A2 B2 C2 D2) (opHi o A2 B2 C2 D2)) pd else min (localK o A2 B2 C2 D2 (opLo o A2 B2 C2 D2) (opHi o A2 B2 C2 D2)) (min pd qd)) := ⟨_, rfl⟩
    rw [← hrd] at DO
    have ff := ffs ho hX hZ (hp2 rfl) (hq2 rfl) hrd
    have r12 : 1 ≤ rd ∧ rd ≤ 4 := ⟨ff.1, ff.2.1⟩
    have rxy := ff.2.2.1
    have r4 := ff.2.2.2
    have hs := lfs ho hX hZ ff.1 (dc_nn cp1).1 (dc_nn cq1).1 hrd (fun n => by
        obtain ⟨ea, eb, g1, g2, g3, g4, g5⟩ := fp1.resolve_left (fun h => n h.1)
        refine ⟨ea, eb, ?_⟩
        by_cases hb : Bnd A2 B2
        · rw [hp4 hb rfl]; exact (dc_nn cp1).2
        · exact Int.le_trans (g5 hb) (hp2 rfl)) (fun n => by
        obtain ⟨ea, eb, g1, g2, g3, g4, g5⟩ := fq1.resolve_left (fun h => n h.1)
        refine ⟨ea, eb, ?_⟩
        by_cases hb : Bnd C2 D2
        · rw [hq4 hb rfl]; exact (dc_nn cq1).2
        · exact Int.le_trans (g5 hb) (hq2 rfl))
    obtain ⟨sd, hsd⟩ : ∃ sd, sd = zD o A1 B1 C1 D1 p1 q1 := ⟨_, rfl⟩
    rw [← hsd] at DS hs
    clear hrd hsd ff z1 z2 z3 hp4 hp5 hq4 hq5 hp3 hq3 fp1 fq1 fpd fqd
    by_cases h4 : rd = 4
    · subst h4
      obtain ⟨bA, bX⟩ := r4 rfl
      rcases hc with ⟨c1, c2⟩ | ⟨c1, c2⟩
      · exact truly_n_4 a0 a1 a2 a3 a4 a5 a6 o b1 b2 c1 c2 A2 B2 C2 D2 _ _ A1 B1 C1 D1 _ _ pd qd p1 q1 sd hX.1 hX.2.1 hZ.1 hZ.2.1 iv.1 iv.2.1 cp1.1.1 cp1.1.2.1 cq1.1.1 cq1.1.2.1 ivS.1 ivS.2 ⟨bX.1, bX.2.1⟩ ⟨bX.2.2.1, bX.2.2.2⟩ ⟨bA.1, bA.2.1⟩ ⟨bA.2.2.1, bA.2.2.2⟩ (rxy (by omega)) hs.1 hs.2.1 hs.2.2 sx sz kpd kqd DO AP kp1 kq1 DS w
      · exact truly_p_4 a0 a1 a2 a3 a4 a5 a6 o b1 b2 c1 c2 A2 B2 C2 D2 _ _ A1 B1 C1 D1 _ _ pd qd p1 q1 sd hX.1 hX.2.1 hZ.1 hZ.2.1 iv.1 iv.2.1 cp1.1.1 cp1.1.2.1 cq1.1.1 cq1.1.2.1 ivS.1 ivS.2 ⟨bX.1, bX.2.1⟩ ⟨bX.2.2.1, bX.2.2.2⟩ ⟨bA.1, bA.2.1⟩ ⟨bA.2.2.1, bA.2.2.2⟩ (rxy (by omega)) hs.1 hs.2.1 hs.2.2 sx sz kpd kqd DO AP kp1 kq1 DS w
    · rcases hc with ⟨c1, c2⟩ | ⟨c1, c2⟩
      · exact truly_n_r a0 a1 a2 a3 a4 a5 a6 o b1 b2 c1 c2 A2 B2 C2 D2 _ _ A1 B1 C1 D1 _ _ pd qd rd p1 q1 sd hX.1 hX.2.1 hZ.1 hZ.2.1 iv.1 iv.2.1 cp1.1.1 cp1.1.2.1 cq1.1.1 cq1.1.2.1 ivS.1 ivS.2 h4 r12.1 r12.2 rxy hs.1 hs.2.1 hs.2.2 sx sz kpd kqd DO AP kp1 kq1 DS w
      · exact truly_p_r a0 a1 a2 a3 a4 a5 a6 o b1 b2 c1 c2 A2 B2 C2 D2 _ _ A1 B1 C1 D1 _ _ pd qd rd p1 q1 sd hX.1 hX.2.1 hZ.1 hZ.2.1 iv.1 iv.2.1 cp1.1.1 cp1.1.2.1 cq1.1.1 cq1.1.2.1 ivS.1 ivS.2 h4 r12.1 r12.2 rxy hs.1 hs.2.1 hs.2.2 sx sz kpd kqd DO AP kp1 kq1 DS w
  by_cases hn : a6 < 0
  · refine go _ ?_ (.inl ⟨hn, rfl⟩)
    rw [Int.tmod_eq_emod_of_nonneg (by omega)]; omega
  · refine go _ ?_ (.inr ⟨hn, rfl⟩)
    rw [Int.tmod_eq_emod_of_nonneg (by omega)]; omega
theorem own : ownKnob Try.prog.godebug = none := by kernel_rfl
set_option maxRecDepth 100000 in
theorem lifted (os : Os) (started : os.Started) (H : Type) (enc : TypeId × Value → H) :
    ReturnsInHanded {} Try.checked os 3 .any (Rows.trulySpec.pre6 enc Try.prog Try.f3 Rows.trulyRow.domain false) (Rows.trulySpec.post enc Try.prog Try.f3 false true false false) := by
  refine returnsInHanded_of_change (C := Try.checked) own started (by kernel_rfl) Try.func3
    (ChangeSpec.witness6 (enc := enc) (C := Try.checked) false ⟨#[], #[.int .u64 0, .int .u64 0, .int .u64 0, .int .u64 0, .int .i64 0, .int .i64 0, .int .i64 0], []⟩ 8 (by kernel_rfl) (by kernel_rfl) (by kernel_rfl) (by kernel_rfl)) ?_
  intro W base args ds gs before hval0 hW hcnd _
  have hval : ∀ (j : Nat) t v, Try.f3.params[j]? = some t → args[j]? = some v → Value.okWide Try.prog W .any base t v := hval0
  have hW' := hW
  obtain ⟨p, q, hA0, hV, rfl, hfz, hnd⟩ := hW
  have hA : DataW.TrodAll enc Try.prog W 0 (fun _ => true) true Try.f3.params.toList args.toList ds p := hA0
  rw [Try.params3] at hA hval
  obtain ⟨v0, vs0, d0, ds0, p0, q0, hargs, rfl, rfl, h0, r0⟩ := trodAll_cons hA
  obtain ⟨v1, vs1, d1, ds1, p1, q1, rfl, rfl, rfl, h1, r1⟩ := trodAll_cons r0
  obtain ⟨v2, vs2, d2, ds2, p2, q2, rfl, rfl, rfl, h2, r2⟩ := trodAll_cons r1
  obtain ⟨v3, vs3, d3, ds3, p3, q3, rfl, rfl, rfl, h3, r3⟩ := trodAll_cons r2
  obtain ⟨v4, vs4, d4, ds4, p4, q4, rfl, rfl, rfl, h4, r4⟩ := trodAll_cons r3
  obtain ⟨v5, vs5, d5, ds5, p5, q5, rfl, rfl, rfl, h5, r5⟩ := trodAll_cons r4
  obtain ⟨v6, vs6, d6, ds6, p6, q6, rfl, rfl, rfl, h6, r6⟩ := trodAll_cons r5
  obtain ⟨rfl, rfl, rfl⟩ := trodAll_nil r6
  obtain rfl : args = #[v0, v1, v2, v3, v4, v5, v6] := by cases args; simp_all
  obtain ⟨rfl, rfl⟩ := trodVars_none hV
  obtain ⟨a0, rfl, rfl, rfl, w0⟩ := open_int Try.underlying22 (hval 0 22 v0 rfl rfl) h0
  obtain ⟨a1, rfl, rfl, rfl, w1⟩ := open_int Try.underlying22 (hval 1 22 v1 rfl rfl) h1
  obtain ⟨a2, rfl, rfl, rfl, w2⟩ := open_int Try.underlying22 (hval 2 22 v2 rfl rfl) h2
  obtain ⟨a3, rfl, rfl, rfl, w3⟩ := open_int Try.underlying22 (hval 3 22 v3 rfl rfl) h3
  obtain ⟨a4, rfl, rfl, rfl, w4⟩ := open_int Try.underlying3 (hval 4 3 v4 rfl rfl) h4
  obtain ⟨a5, rfl, rfl, rfl, w5⟩ := open_int Try.underlying3 (hval 5 3 v5 rfl rfl) h5
  obtain ⟨a6, rfl, rfl, rfl, w6⟩ := open_int Try.underlying3 (hval 6 3 v6 rfl rfl) h6
  clear hA0 hval0
  simp only [List.append_nil] at hW'
  refine (walk a0 a1 a2 a3 a4 a5 a6 w0 w1 w2 w3 w4 w5 w6 W).mono fun e W' ⟨he, hg⟩ => ?_
  subst he
  exact ⟨_, rfl, _, _, _, [], [], [], hW', (trodAll_cons_mk (shut_bool Try.underlying4 _) trodAll_mk0), (trodAll_cons_mk (shut_int Try.underlying22 w0) (trodAll_cons_mk (shut_int Try.underlying22 w1) (trodAll_cons_mk (shut_int Try.underlying22 w2) (trodAll_cons_mk (shut_int Try.underlying22 w3) (trodAll_cons_mk (shut_int Try.underlying3 w4) (trodAll_cons_mk (shut_int Try.underlying3 w5) (trodAll_cons_mk (shut_int Try.underlying3 w6) trodAll_mk0))))))), rfl, hg.frame _, fun h => by cases h⟩

theorem over : Rows.trulyRow.holds Try.pinned (OpenSpec.ofChange Rows.trulySpec) :=
  OpenClaim.holds_of_wide 3 Try.f3 rfl rfl rfl rfl rfl rfl rfl ⟨rfl, rfl, rfl, rfl, rfl⟩ rfl rfl rfl rfl rfl (by kernel_rfl) Try.func3 (by kernel_rfl)
    (of_decide_eq_true (by kernel_rfl)) (by unfold Func.isWrapper; first | (rw [if_pos (by decide +kernel)]; kernel_rfl) | (rw [if_neg (by decide +kernel)]; exact ⟨rfl, rfl⟩))
    (fun os started H enc _ => lifted os started H enc)

theorem proved : Rows.TrulySaid :=
  over
#print axioms proved
end Go.Proofs.Yteephgpefhodnab.truly
