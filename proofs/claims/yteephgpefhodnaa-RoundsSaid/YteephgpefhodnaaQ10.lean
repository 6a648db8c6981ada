/- The document's reals: contracts of Of, Times, Plus, Minus, Sign. -/
import Derived.Test.YteephgpefhodnaaQ9
namespace Go.Proofs.Yteephgpefhodnaa
open Go.RowKit Go.Sort Go.Fl
set_option linter.unusedSimpArgs false
set_option linter.unusedVariables false

def sg (s : Bool) (n : Nat) : Int := if s = true then -(n : Int) else (n : Int)
/-- The value is the real N * 2^E, its whole number below 2^p. -/
def BigAt (w : World) (val : Value) (p : Nat) (N E : Int) : Prop := ∃ s v l, val = .agg #[.bool s, v, .int .i64 E] ∧ Row w v l ∧ Words l ∧ Trim l ∧ num l < 2 ^ p ∧ N = sg s (num l)
theorem BigAt.below {w w' : World} {val : Value} {p : Nat} {N E : Int} (h : BigAt w val p N E) (hb : Below w.heap.size w w') : BigAt w' val p N E := by
  obtain ⟨s, v, l, h1, h2, h3⟩ := h
  exact ⟨s, v, l, h1, h2.below hb, h3⟩
theorem sg_abs (s : Bool) (n : Nat) : (sg s n).natAbs = n := by unfold sg; cases s <;> simp
theorem BigAt.of {w : World} {e : Ending} {N E : Int} (h : GivesBig w e N E) (p : Nat) (hp : N.natAbs < 2 ^ p) : ∃ val, e = .returned val ∧ BigAt w val p N E := by
  obtain ⟨s, v, l, rfl, h2, h3, h4, h5⟩ := h
  refine ⟨_, rfl, s, v, l, rfl, h2, h3, h4, ?_, h5⟩
  have : N.natAbs = num l := by rw [h5]; exact sg_abs s (num l)
  omega
theorem pow_len {l : List Nat} {p n : Nat} (ht : Trim l) (h : num l < 2 ^ p) (hn : p ≤ 32 * n) : l.length ≤ n := by
  refine len_of ht (Nat.lt_of_lt_of_le h ?_)
  have e : BB ^ n = 2 ^ (32 * n) := by rw [Nat.pow_mul]; rfl
  rw [e]
  exact Nat.pow_le_pow_right (by decide) hn

theorem bigof_any (x : Nat) (hx : fin x) (hw : Wd x) (w : World) : Calls Try.prog 106 #[.float .f64 x] w fun e w' => (∃ val N E, e = .returned val ∧ BigAt w' val 53 N E ∧ -1074 ≤ E ∧ E ≤ 971 ∧ N * 2 ^ (E + 1074).toNat = V (key x)) ∧ Below w.heap.size w w' := by
  have hf := u64_frac x hw
  have h2 := u64_field (x / 2 ^ 52) (by unfold Wd at hw; omega)
  have h2' : bits BinOp.and IntKind.u64 ((x : Int) / 4503599627370496) 2047 = ((x / 2 ^ 52 % 2 ^ 11 : Nat) : Int) := by
    rw [← h2]; congr 1
  clear h2
  have hs : ((x : Int) / 9223372036854775808 == 1) = neg x := by
    unfold neg
    unfold Wd at hw
    rw [Bool.eq_iff_iff]
    simp only [beq_iff_eq]
    omega
  obtain ⟨h3, h4⟩ := word_parts x hw
  have hV : V (key x) = (if neg x = true then -1 else 1) * (M (rung x) : Int) := key_of_neg
  have hM := M_eq (rung x)
  have hfin : rung x < INF := hx
  have hpl : plr (rung x) ≤ 2045 := by
    unfold plr
    have h0 := INF_eq
    omega
  have hmg : mgr (rung x) < 2 ^ 53 := by
    unfold mgr
    split <;> omega
  have fin_ : ∀ (E : Int), E = (plr (rung x) : Int) - 1074 → ∀ (e : Ending) (w' : World), GivesBig w' e (if neg x = true then -(mgr (rung x) : Int) else (mgr (rung x) : Int)) E ∧ Below w.heap.size w w' →
      (∃ val N E, e = .returned val ∧ BigAt w' val 53 N E ∧ -1074 ≤ E ∧ E ≤ 971 ∧ N * 2 ^ (E + 1074).toNat = V (key x)) ∧ Below w.heap.size w w' := by
    rintro E rfl e w' ⟨hg, hb⟩
    obtain ⟨val, e1, e2⟩ := BigAt.of hg 53 (by cases neg x <;> simp <;> exact hmg)
    refine ⟨⟨val, _, _, e1, e2, by omega, by omega, ?_⟩, hb⟩
    rw [hV, hM, show ((plr (rung x) : Int) - 1074 + 1074).toNat = plr (rung x) by omega, Int.natCast_mul, Int.natCast_pow]
    cases neg x <;> simp [Int.neg_mul]
  by_cases h0 : x / 2 ^ 52 % 2 ^ 11 = 0
  · rw [if_pos h0] at h3 h4
    rw [h0, Int.natCast_zero] at h2'
    have c := of_z x hw (neg x) hs (x % 2 ^ 52) (-1074) hf h2' (by omega) rfl w
    refine c.mono fun e w' h => fin_ (-1074) (by rw [h4]; rfl) e w' ?_
    rw [h3]; exact h
  · rw [if_neg h0] at h3 h4
    have hlt : x / 2 ^ 52 % 2 ^ 11 < 2 ^ 11 := Nat.mod_lt _ (by omega)
    have c := of_n x hw (neg x) hs (x % 2 ^ 52) (x / 2 ^ 52 % 2 ^ 11) (2 ^ 52 + x % 2 ^ 52) _ hf h2' (u64_or52 (x % 2 ^ 52) (Nat.mod_lt _ (by omega))) (by omega) (by omega) (by omega) rfl w
    refine c.mono fun e w' h => fin_ (((x / 2 ^ 52 % 2 ^ 11 : Nat) : Int) - 1075) (by rw [h4]; omega) e w' ?_
    rw [h3]; exact h
theorem bigtimes_any (va vb : Value) (Na Nb ea eb : Int) (he1 : -10000 ≤ ea ∧ ea ≤ 10000) (he2 : -10000 ≤ eb ∧ eb ≤ 10000) (w : World) (ha : BigAt w va 53 Na ea) (hb : BigAt w vb 53 Nb eb) :
    Calls Try.prog 107 #[va, vb] w fun e w' => (∃ val, e = .returned val ∧ BigAt w' val 106 (Na * Nb) (ea + eb)) ∧ Below w.heap.size w w' := by
  obtain ⟨sa, v, a, rfl, r1, r2, r3, r4, rfl⟩ := ha
  obtain ⟨sb, u, b, rfl, s1, s2, s3, s4, rfl⟩ := hb
  refine (times_any sa sb ea eb he1 he2 v u a b r2 s2 (pow_len r3 r4 (by omega)) (pow_len s3 s4 (by omega)) w r1 s1).mono fun e w' h => ⟨?_, h.2⟩
  refine BigAt.of h.1 106 ?_
  rw [Int.natAbs_mul, show (if sa = true then -(num a : Int) else (num a : Int)) = sg sa (num a) from rfl, show (if sb = true then -(num b : Int) else (num b : Int)) = sg sb (num b) from rfl, sg_abs, sg_abs]
  have : num a * num b < 2 ^ 53 * 2 ^ 53 := Nat.mul_lt_mul'' r4 s4
  omega
theorem bigsign_any (va : Value) (p : Nat) (N E : Int) (w : World) (ha : BigAt w va p N E) :
    Calls Try.prog 109 #[va] w fun e w' => e = .returned (.int .i64 N.sign) ∧ Below w.heap.size w w' := by
  obtain ⟨s, v, l, rfl, r1, r2, r3, r4, rfl⟩ := ha
  obtain ⟨p', c, rfl, _⟩ := r1.len
  by_cases h0 : l.length = 0
  · have hN : (sg s (num l)).sign = 0 := by
      rw [List.length_eq_zero_iff.1 h0]; cases s <;> rfl
    rw [hN, h0]
    go_enter Try.func109, Try.ntmps109
    go_wp2_with fail
    go_ret
    exact ⟨rfl, by go_grown⟩
  · have hpos : 0 < num l := Nat.pos_of_ne_zero (fun e => h0 (by rw [(num_pos r3).1 e]; rfl))
    have hb : ((l.length : Int) == 0) = false := by rw [beq_eq_false_iff_ne]; omega
    have hN : (sg s (num l)).sign = if s = true then -1 else 1 := by
      cases s
      · exact Int.sign_eq_one_of_pos (by simp [sg]; exact hpos)
      · exact Int.sign_eq_neg_one_of_neg (by simp [sg]; exact hpos)
    rw [hN]
    generalize l.length = n at *
    clear hN r1 r2 r3 r4 hpos
    cases s
    all_goals
      go_enter Try.func109, Try.ntmps109
      go_wp2_with fail
      go_ret
      exact ⟨rfl, by go_grown⟩
theorem bigminus_any (va : Value) (p : Nat) (N E : Int) (w : World) (ha : BigAt w va p N E) :
    Calls Try.prog 110 #[va] w fun e w' => (∃ val, e = .returned val ∧ BigAt w' val p (-N) E) ∧ Below w.heap.size w w' := by
  obtain ⟨s, v, l, rfl, r1, r2, r3, r4, rfl⟩ := ha
  obtain ⟨p', c, rfl, _⟩ := r1.len
  have hrow : ∀ o1 o2, Row ((w.alloc o1).alloc o2) (.slice p' l.length c) l := fun o1 o2 => (r1.alloc o1).alloc o2
  have G := Lib.hid (And.intro hrow (And.intro r2 (And.intro r3 r4)))
  clear hrow r1 r2 r3 r4
  by_cases h0 : l.length = 0
  · have hl := List.length_eq_zero_iff.1 h0
    have Hl := Lib.hid hl
    have hl0 : ¬ (0 : Int) < (l.length : Int) := by omega
    have hd0 : decide (0 < l.length) = false := decide_eq_false (by omega)
    clear h0 hl
    cases s
    all_goals
      go_enter Try.func110, Try.ntmps110
      go_wp2_with fail
      go_returns
      refine ⟨⟨_, rfl, false, _, l, rfl, G.out.1 _ _, G.out.2.1, G.out.2.2.1, G.out.2.2.2, ?_⟩, by go_grown⟩
      rw [Hl.out]
      rfl
  · have hl0 : (0 : Int) < (l.length : Int) := by omega
    have hd0 : decide (0 < l.length) = true := decide_eq_true (by omega)
    cases s
    · go_enter Try.func110, Try.ntmps110
      go_wp2_with fail
      go_returns
      exact ⟨⟨_, rfl, true, _, l, rfl, G.out.1 _ _, G.out.2.1, G.out.2.2.1, G.out.2.2.2, rfl⟩, by go_grown⟩
    · go_enter Try.func110, Try.ntmps110
      go_wp2_with fail
      go_returns
      exact ⟨⟨_, rfl, false, _, l, rfl, G.out.1 _ _, G.out.2.1, G.out.2.2.1, G.out.2.2.2, by simp [sg]⟩, by go_grown⟩
theorem bb_pow (n : Nat) : BB ^ n = 2 ^ (32 * n) := by rw [Nat.pow_mul]; rfl
theorem bigplus_any (va vb : Value) (Na Nb ea eb : Int) (p q : Nat) (he1 : -10000 ≤ ea ∧ ea ≤ 10000) (he2 : -10000 ≤ eb ∧ eb ≤ 10000) (hq1 : ea - eb ≤ q) (hq2 : eb - ea ≤ q) (hpq : p + q ≤ 30000) (w : World) (ha : BigAt w va p Na ea) (hb : BigAt w vb p Nb eb) :
    Calls Try.prog 108 #[va, vb] w fun e w' => (∃ val N E, e = .returned val ∧ BigAt w' val (p + q + 1) N E ∧ E = min ea eb ∧ ∀ U : Nat, 0 ≤ ea + U → 0 ≤ eb + U → N * 2 ^ (E + U).toNat = Na * 2 ^ (ea + U).toNat + Nb * 2 ^ (eb + U).toNat) ∧ Below w.heap.size w w' := by
  obtain ⟨sa, v, a, rfl, r1, r2, r3, r4, rfl⟩ := ha
  obtain ⟨sb, u, b, rfl, s1, s2, s3, s4, rfl⟩ := hb
  have la : a.length ≤ 1000 := pow_len r3 r4 (by omega)
  have lb : b.length ≤ 1000 := pow_len s3 s4 (by omega)
  have fin_ : ∀ (n1 n2 : Nat) (E : Int), E = min ea eb → (n1 : Int) = ea - E → (n2 : Int) = eb - E → n1 ≤ q → n2 ≤ q →
      ∀ (e : Ending) (w' : World), GivesBig w' e (sg sa (2 ^ n1 * num a) + sg sb (2 ^ n2 * num b)) E ∧ Below w.heap.size w w' →
      (∃ val N E, e = .returned val ∧ BigAt w' val (p + q + 1) N E ∧ E = min ea eb ∧ ∀ U : Nat, 0 ≤ ea + U → 0 ≤ eb + U → N * 2 ^ (E + U).toNat = sg sa (num a) * 2 ^ (ea + U).toNat + sg sb (num b) * 2 ^ (eb + U).toNat) ∧ Below w.heap.size w w' := by
    rintro n1 n2 E hE h1 h2 h3 h4 e w' ⟨hg, hB⟩
    have x1 : 2 ^ n1 * num a < 2 ^ (p + q) := by
      rw [Nat.add_comm p q, Nat.pow_add]
      exact Nat.mul_lt_mul_of_le_of_lt (Nat.pow_le_pow_right (by decide) h3) r4 (Nat.two_pow_pos _)
    have x2 : 2 ^ n2 * num b < 2 ^ (p + q) := by
      rw [Nat.add_comm p q, Nat.pow_add]
      exact Nat.mul_lt_mul_of_le_of_lt (Nat.pow_le_pow_right (by decide) h4) s4 (Nat.two_pow_pos _)
    obtain ⟨val, e1, e2⟩ := BigAt.of hg (p + q + 1) (by
      have a1 := sg_abs sa (2 ^ n1 * num a)
      have a2 := sg_abs sb (2 ^ n2 * num b)
      rw [Nat.pow_succ]
      generalize sg sa (2 ^ n1 * num a) = z1 at *
      generalize sg sb (2 ^ n2 * num b) = z2 at *
      omega)
    refine ⟨⟨val, _, E, e1, e2, hE, fun U u1 u2 => ?_⟩, hB⟩
    have p1 : (ea + U).toNat = n1 + (E + U).toNat := by omega
    have p2 : (eb + U).toNat = n2 + (E + U).toNat := by omega
    have sm : ∀ (s : Bool) (n m : Nat), sg s (2 ^ n * m) = sg s m * 2 ^ n := by
      intro s n m
      unfold sg
      cases s <;> simp [Int.mul_comm, Int.neg_mul]
    rw [p1, p2, Int.pow_add, Int.pow_add, sm, sm, Int.add_mul, Int.mul_assoc, Int.mul_assoc]
  have bnd0 : ∀ K n m : Nat, p + q ≤ 32 * K → n ≤ q → m < 2 ^ p → 2 ^ n * m < BB ^ K := by
    intro K n m hK hn hm
    rw [bb_pow]
    have : 2 ^ n * m < 2 ^ q * 2 ^ p := Nat.mul_lt_mul_of_le_of_lt (Nat.pow_le_pow_right (by decide) hn) hm (Nat.two_pow_pos _)
    rw [← Nat.pow_add] at this
    exact Nat.lt_of_lt_of_le this (Nat.pow_le_pow_right (by decide) (by omega))
  have bnd := fun n m => bnd0 1000 n m (by omega)
  by_cases hord : eb < ea
  · obtain ⟨n, hn⟩ : ∃ n : Nat, (n : Int) = ea - eb := ⟨(ea - eb).toNat, by omega⟩
    have go := fin_ n 0 eb (by omega) hn (by omega) (by omega) (by omega)
    by_cases hs : sb = sa
    · subst hs
      exact (plus_lt_same sb ea eb he1 he2 hord n hn v u a b r2 s2 la lb (bnd n _ (by omega) r4) (bnd 0 _ (by omega) s4) _ rfl w r1 s1).mono go
    · have hs' : sb = !sa := by cases sa <;> cases sb <;> simp_all
      subst hs'
      by_cases hk : 2 ^ n * num a < 2 ^ 0 * num b
      · exact (plus_lt_less sa ea eb he1 he2 hord n hn v u a b r2 s2 la lb (bnd n _ (by omega) r4) (bnd 0 _ (by omega) s4) hk _ rfl w r1 s1).mono go
      · exact (plus_lt_more sa ea eb he1 he2 hord n hn v u a b r2 s2 la lb (bnd n _ (by omega) r4) (bnd 0 _ (by omega) s4) hk _ rfl w r1 s1).mono go
  · obtain ⟨n, hn⟩ : ∃ n : Nat, (n : Int) = eb - ea := ⟨(eb - ea).toNat, by omega⟩
    have go := fin_ 0 n ea (by omega) (by omega) hn (by omega) (by omega)
    by_cases hs : sb = sa
    · subst hs
      exact (plus_ge_same sb ea eb he1 he2 hord n hn v u a b r2 s2 la lb (bnd 0 _ (by omega) r4) (bnd n _ (by omega) s4) _ rfl w r1 s1).mono go
    · have hs' : sb = !sa := by cases sa <;> cases sb <;> simp_all
      subst hs'
      by_cases hk : 2 ^ 0 * num a < 2 ^ n * num b
      · exact (plus_ge_less sa ea eb he1 he2 hord n hn v u a b r2 s2 la lb (bnd 0 _ (by omega) r4) (bnd n _ (by omega) s4) hk _ rfl w r1 s1).mono go
      · exact (plus_ge_more sa ea eb he1 he2 hord n hn v u a b r2 s2 la lb (bnd 0 _ (by omega) r4) (bnd n _ (by omega) s4) hk _ rfl w r1 s1).mono go
end Go.Proofs.Yteephgpefhodnaa
