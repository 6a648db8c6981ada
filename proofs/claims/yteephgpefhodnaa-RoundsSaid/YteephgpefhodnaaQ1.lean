/- Plain laws of whole numbers that are kept as words of 32 digits, the lowest first. -/
import Derived.Test.YteephgpefhodnaaP1
namespace Go.Proofs.Yteephgpefhodnaa
open Go.Fl

/-- One more than the greatest word. -/
def BB : Nat := 4294967296
theorem BB_eq : BB = 4294967296 := rfl
theorem BB_pos : 0 < BB := by decide
theorem BB_pow_pos (n : Nat) : 0 < BB ^ n := Nat.pow_pos BB_pos
def num : List Nat → Nat
  | [] => 0
  | a :: l => a + BB * num l
def Words (l : List Nat) : Prop := ∀ x, x ∈ l → x < BB
theorem Words.nil : Words [] := by intro x h; cases h
theorem Words.append {l m : List Nat} (h : Words l) (h' : Words m) : Words (l ++ m) := by
  intro x hx
  rcases List.mem_append.1 hx with h1 | h1
  · exact h x h1
  · exact h' x h1
theorem Words.one {x : Nat} (h : x < BB) : Words [x] := by
  intro y hy
  simp at hy; omega
theorem Words.take {l : List Nat} (h : Words l) (n : Nat) : Words (l.take n) := fun x hx => h x (List.mem_of_mem_take hx)
theorem Words.getD {l : List Nat} (h : Words l) (n : Nat) : l.getD n 0 < BB := by
  by_cases hn : n < l.length
  · rw [List.getD_eq_getElem?_getD, List.getElem?_eq_getElem hn]; exact h _ (List.getElem_mem hn)
  · rw [List.getD_eq_getElem?_getD, List.getElem?_eq_none (by omega)]; exact BB_pos
theorem num_append (l m : List Nat) : num (l ++ m) = num l + BB ^ l.length * num m := by
  induction l with
  | nil => simp [num]
  | cons a l ih =>
    simp only [List.cons_append, num, ih, List.length_cons, Nat.pow_succ, Nat.mul_add, Nat.mul_assoc, Nat.mul_comm]
    omega
theorem num_one (x : Nat) : num [x] = x := by simp [num]
theorem num_snoc (l : List Nat) (x : Nat) : num (l ++ [x]) = num l + BB ^ l.length * x := by rw [num_append, num_one]
theorem num_lt {l : List Nat} (h : Words l) : num l < BB ^ l.length := by
  induction l with
  | nil => simp [num]
  | cons a l ih =>
    have h1 := h a List.mem_cons_self
    have h2 := ih (fun x hx => h x (List.mem_cons_of_mem _ hx))
    simp only [num, List.length_cons, Nat.pow_succ]
    have : BB * (num l + 1) ≤ BB * BB ^ l.length := Nat.mul_le_mul_left _ h2
    rw [Nat.mul_comm (BB ^ l.length)]
    rw [Nat.mul_add, Nat.mul_one] at this
    omega
theorem take_succ (l : List Nat) (i : Nat) (h : i < l.length) : l.take (i + 1) = l.take i ++ [l.getD i 0] := by
  rw [List.take_add_one, List.getD_eq_getElem?_getD, List.getElem?_eq_getElem h]; rfl
theorem num_take (l : List Nat) (i : Nat) : num (l.take (i + 1)) = num (l.take i) + BB ^ i * l.getD i 0 := by
  by_cases h : i < l.length
  · rw [take_succ l i h, num_snoc, List.length_take, Nat.min_eq_left (by omega)]
  · rw [List.take_of_length_le (by omega), List.take_of_length_le (by omega), List.getD_eq_getElem?_getD, List.getElem?_eq_none (by omega)]; simp
theorem num_zeros (n : Nat) : num (List.replicate n 0) = 0 := by
  induction n with
  | zero => rfl
  | succ n ih => simp [List.replicate_succ, num, ih]
/-- The highest word is not nought. -/
def Trim (l : List Nat) : Prop := l = [] ∨ l.getD (l.length - 1) 0 ≠ 0
theorem num_pos {l : List Nat} (h : Trim l) : num l = 0 ↔ l = [] := by
  constructor
  · intro h0
    rcases h with h | h
    · exact h
    · exfalso
      have hl : l.length ≠ 0 := fun e => h (by rw [List.length_eq_zero_iff.1 e]; rfl)
      have e := num_take l (l.length - 1)
      rw [show l.length - 1 + 1 = l.length by omega, List.take_length, h0] at e
      have := Nat.mul_pos (BB_pow_pos (l.length - 1)) (Nat.pos_of_ne_zero h)
      omega
  · rintro rfl; rfl
theorem num_ge {l : List Nat} (h : Trim l) (hl : l ≠ []) : BB ^ (l.length - 1) ≤ num l := by
  rcases h with h | h
  · exact absurd h hl
  · have hl : l.length ≠ 0 := fun e => h (by rw [List.length_eq_zero_iff.1 e]; rfl)
    have e := num_take l (l.length - 1)
    rw [show l.length - 1 + 1 = l.length by omega, List.take_length] at e
    have := Nat.mul_le_mul_left (BB ^ (l.length - 1)) (Nat.one_le_iff_ne_zero.2 h)
    omega
theorem num_len {l m : List Nat} (hl : Words l) (hm : Trim m) (h : l.length < m.length) : num l < num m := by
  have a := num_lt hl
  have b := num_ge hm (fun e => by rw [e] at h; simp at h)
  have c : BB ^ l.length ≤ BB ^ (m.length - 1) := Nat.pow_le_pow_right BB_pos (by omega)
  omega
/-! ## less -/
theorem num_split (l : List Nat) (i : Nat) (h : i ≤ l.length) : num l = num (l.take i) + BB ^ i * num (l.drop i) := by
  have := num_append (l.take i) (l.drop i)
  rw [List.take_append_drop, List.length_take, Nat.min_eq_left h] at this
  exact this
theorem less_at {a b : List Nat} (wa : Words a) (wb : Words b) (i : Nat) (ha : i < a.length) (hb : i < b.length) (h : a.drop (i + 1) = b.drop (i + 1)) (hne : a.getD i 0 ≠ b.getD i 0) : (num a < num b ↔ a.getD i 0 < b.getD i 0) := by
  have e1 := num_split a (i + 1) (by omega)
  have e2 := num_split b (i + 1) (by omega)
  rw [num_take] at e1 e2
  have l1 := num_lt (wa.take i)
  have l2 := num_lt (wb.take i)
  rw [List.length_take, Nat.min_eq_left (by omega)] at l1 l2
  rw [h] at e1
  rcases Nat.lt_or_gt_of_ne hne with g | g
  · have := Nat.mul_le_mul_left (BB ^ i) (show a.getD i 0 + 1 ≤ b.getD i 0 from g)
    rw [Nat.mul_add, Nat.mul_one] at this
    constructor
    · exact fun _ => g
    · intro _; omega
  · have := Nat.mul_le_mul_left (BB ^ i) (show b.getD i 0 + 1 ≤ a.getD i 0 from g)
    rw [Nat.mul_add, Nat.mul_one] at this
    constructor
    · intro _; omega
    · intro _; omega
theorem drop_step {a b : List Nat} (i : Nat) (ha : i < a.length) (hb : i < b.length) (h : a.drop (i + 1) = b.drop (i + 1)) (he : a.getD i 0 = b.getD i 0) : a.drop i = b.drop i := by
  rw [List.drop_eq_getElem_cons ha, List.drop_eq_getElem_cons hb, h]
  rw [List.getD_eq_getElem?_getD, List.getD_eq_getElem?_getD, List.getElem?_eq_getElem ha, List.getElem?_eq_getElem hb] at he
  simp at he
  rw [he]
/-! ## plus -/
/-- The state of a sum behind i words. -/
def PlusAt (a b out : List Nat) (i c : Nat) : Prop := out.length = i ∧ Words out ∧ c ≤ 1 ∧ num out + BB ^ i * c = num (a.take i) + num (b.take i)
theorem digit_step {B c : Nat} (p : Nat) : p * (c % B) + p * B * (c / B) = p * c := by
  have h := congrArg (fun t => p * t) (Nat.mod_add_div c B)
  simp only [Nat.mul_add] at h
  rw [Nat.mul_assoc]
  exact h
theorem plus_step {a b out : List Nat} {i c : Nat} (wa : Words a) (wb : Words b) (h : PlusAt a b out i c) :
    PlusAt a b (out ++ [(c + a.getD i 0 + b.getD i 0) % BB]) (i + 1) ((c + a.getD i 0 + b.getD i 0) / BB) := by
  obtain ⟨h1, h2, h3, h4⟩ := h
  have g1 := wa.getD i
  have g2 := wb.getD i
  refine ⟨by simp [h1], h2.append (Words.one (Nat.mod_lt _ BB_pos)), ?_, ?_⟩
  · have : c + a.getD i 0 + b.getD i 0 < BB * 2 := by omega
    have := (Nat.div_lt_iff_lt_mul BB_pos).2 (show c + a.getD i 0 + b.getD i 0 < 2 * BB by omega)
    omega
  · rw [num_snoc, num_take, num_take, h1]
    have e := digit_step (B := BB) (c := c + a.getD i 0 + b.getD i 0) (BB ^ i)
    rw [Nat.mul_add, Nat.mul_add] at e
    rw [Nat.pow_succ]
    omega
theorem plus_done {a b out : List Nat} {i c : Nat} (h : PlusAt a b out i c) (ha : a.length ≤ i) (hb : b.length ≤ i) : Words (out ++ [c]) ∧ num (out ++ [c]) = num a + num b := by
  obtain ⟨h1, h2, h3, h4⟩ := h
  rw [List.take_of_length_le ha, List.take_of_length_le hb] at h4
  refine ⟨h2.append (Words.one (by have := BB_eq; omega)), ?_⟩
  rw [num_snoc, h1]; omega
/-! ## minus -/
def MinusAt (a b out : List Nat) (i : Nat) (c : Int) : Prop := out.length = i ∧ Words out ∧ -1 ≤ c ∧ c ≤ 0 ∧ (num out : Int) + (BB : Int) ^ i * c = num (a.take i) - num (b.take i)
theorem minus_step {a b out : List Nat} {i : Nat} {c : Int} (wa : Words a) (wb : Words b) (h : MinusAt a b out i c) :
    MinusAt a b (out ++ [((c + a.getD i 0 - b.getD i 0) % (BB : Int)).toNat]) (i + 1) ((c + a.getD i 0 - b.getD i 0) / (BB : Int)) := by
  obtain ⟨h1, h2, h3, h4, h5⟩ := h
  have g1 := wa.getD i
  have g2 := wb.getD i
  have hB : (0 : Int) < (BB : Int) := Int.ofNat_lt.2 BB_pos
  generalize hd : c + (a.getD i 0 : Int) - (b.getD i 0 : Int) = d at *
  have m1 := Int.emod_nonneg d (show (BB : Int) ≠ 0 by omega)
  have m2 := Int.emod_lt_of_pos d hB
  have e0 := Int.mul_ediv_add_emod d (BB : Int)
  refine ⟨by simp [h1], h2.append (Words.one (by omega)), ?_, ?_, ?_⟩
  · have : -1 * (BB : Int) ≤ d := by omega
    exact (Int.le_ediv_iff_mul_le hB).2 this
  · have : d < (0 + 1) * (BB : Int) := by omega
    have := (Int.ediv_lt_iff_lt_mul hB).2 this
    omega
  · rw [num_snoc, num_take, num_take, h1]
    have e1 : ((d % (BB : Int)).toNat : Int) = d % (BB : Int) := Int.toNat_of_nonneg m1
    have e2 : (BB : Int) ^ i * (d % (BB : Int)) + (BB : Int) ^ (i + 1) * (d / (BB : Int)) = (BB : Int) ^ i * d := by
      rw [Int.pow_succ, Int.mul_assoc, ← Int.mul_add]
      exact congrArg _ (by omega)
    simp only [Int.natCast_add, Int.natCast_mul, Int.natCast_pow]
    rw [e1]
    have e3 : (BB : Int) ^ i * d = (BB : Int) ^ i * c + (BB : Int) ^ i * (a.getD i 0 : Int) - (BB : Int) ^ i * (b.getD i 0 : Int) := by rw [← hd, Int.mul_sub, Int.mul_add]
    omega
theorem minus_done {a b out : List Nat} {i : Nat} {c : Int} (h : MinusAt a b out i c) (ha : a.length = i) (hb : b.length ≤ i) (hle : num b ≤ num a) : num out = num a - num b := by
  obtain ⟨h1, h2, h3, h4, h5⟩ := h
  rw [List.take_of_length_le (by omega), List.take_of_length_le hb] at h5
  have l := num_lt h2
  rw [h1] at l
  have hc : c = 0 := by
    by_cases h0 : c = 0
    · exact h0
    · exfalso
      have e : c = -1 := by omega
      rw [e] at h5
      have : (num out : Int) < ((BB ^ i : Nat) : Int) := Int.ofNat_lt.2 l
      rw [Int.natCast_pow] at this
      omega
  rw [hc] at h5
  omega
/-! ## shift -/
def ShiftAt (a out : List Nat) (z k i c : Nat) : Prop := ∃ o, out = List.replicate z 0 ++ o ∧ o.length = i ∧ Words o ∧ c < 2 ^ k ∧ num o + BB ^ i * c = 2 ^ k * num (a.take i)
theorem shift_step {a out : List Nat} {z k i c : Nat} (wa : Words a) (h : ShiftAt a out z k i c) :
    ShiftAt a (out ++ [(c + a.getD i 0 * 2 ^ k) % BB]) z k (i + 1) ((c + a.getD i 0 * 2 ^ k) / BB) := by
  obtain ⟨o, h0, h1, h2, h3, h4⟩ := h
  have g1 := wa.getD i
  refine ⟨o ++ [(c + a.getD i 0 * 2 ^ k) % BB], by rw [h0, List.append_assoc], by simp [h1], h2.append (Words.one (Nat.mod_lt _ BB_pos)), ?_, ?_⟩
  · refine (Nat.div_lt_iff_lt_mul BB_pos).2 ?_
    have := Nat.mul_le_mul_right (2 ^ k) (show a.getD i 0 + 1 ≤ BB from g1)
    rw [Nat.add_mul, Nat.one_mul] at this
    rw [Nat.mul_comm (2 ^ k)]
    omega
  · rw [num_snoc, num_take, h1]
    have e := digit_step (B := BB) (c := c + a.getD i 0 * 2 ^ k) (BB ^ i)
    rw [Nat.mul_add (BB ^ i)] at e
    rw [Nat.pow_succ, Nat.mul_add (2 ^ k), show 2 ^ k * (BB ^ i * a.getD i 0) = BB ^ i * (a.getD i 0 * 2 ^ k) by rw [Nat.mul_left_comm, Nat.mul_comm (2 ^ k)]]
    omega
theorem Words.zeros (n : Nat) : Words (List.replicate n 0) := by
  intro x hx
  rw [(List.mem_replicate.1 hx).2]; exact BB_pos
theorem shift_done {a out : List Nat} {z k i c : Nat} (h : ShiftAt a out z k i c) (ha : a.length ≤ i) (hk : k < 32) : Words (out ++ [c]) ∧ num (out ++ [c]) = 2 ^ (32 * z + k) * num a := by
  obtain ⟨o, h0, h1, h2, h3, h4⟩ := h
  rw [List.take_of_length_le ha] at h4
  have hc : c < BB := by
    have : 2 ^ k ≤ 2 ^ 32 := Nat.pow_le_pow_right (by decide) (by omega)
    have := BB_eq
    omega
  subst h0
  refine ⟨((Words.zeros z).append h2).append (Words.one hc), ?_⟩
  rw [List.append_assoc, num_append, num_zeros, num_snoc, h1, h4, List.length_replicate, Nat.zero_add, Nat.pow_add, Nat.pow_mul, ← Nat.mul_assoc]
  rfl
/-! ## Times -/
theorem num_set (l : List Nat) (i x : Nat) (h : i < l.length) : num (l.set i x) + BB ^ i * l.getD i 0 = num l + BB ^ i * x := by
  have e1 := num_split (l.set i x) (i + 1) (by simp; omega)
  have e2 := num_split l (i + 1) (by omega)
  rw [num_take] at e1 e2
  rw [List.take_set_of_le (by omega), List.drop_set_of_lt (by omega)] at e1
  rw [List.getD_eq_getElem?_getD, List.getElem?_set_self h] at e1
  simp only [Option.getD_some] at e1
  omega
theorem Words.set {l : List Nat} (h : Words l) (i : Nat) {x : Nat} (hx : x < BB) : Words (l.set i x) := by
  intro y hy
  rcases List.mem_or_eq_of_mem_set hy with h1 | h1
  · exact h y h1
  · omega
theorem getD_set_ne (l : List Nat) {i j : Nat} (x : Nat) (h : i ≠ j) : (l.set i x).getD j 0 = l.getD j 0 := by
  rw [List.getD_eq_getElem?_getD, List.getD_eq_getElem?_getD, List.getElem?_set_ne h]
/-- The product behind i words of the one. -/
def TimesAt (a b out : List Nat) (i : Nat) : Prop := out.length = a.length + b.length ∧ Words out ∧ num out = num (a.take i) * num b ∧ ∀ t, i + b.length ≤ t → out.getD t 0 = 0
/-- The same, behind j words of the other. -/
def TimesIn (a b out : List Nat) (i j c : Nat) : Prop := out.length = a.length + b.length ∧ Words out ∧ c < BB ∧
  num out + BB ^ (i + j) * c = num (a.take i) * num b + BB ^ i * (a.getD i 0 * num (b.take j)) ∧ ∀ t, i + b.length ≤ t → out.getD t 0 = 0
theorem times_in {a b out : List Nat} {i : Nat} (h : TimesAt a b out i) : TimesIn a b out i 0 0 := by
  obtain ⟨h1, h2, h3, h4⟩ := h
  exact ⟨h1, h2, BB_pos, by simp [num, h3], h4⟩
theorem times_bound {c x y z : Nat} (hc : c < BB) (hx : x < BB) (hy : y < BB) (hz : z < BB) : c + x * y + z < BB * BB := by
  have h1 : x * y ≤ (BB - 1) * (BB - 1) := Nat.mul_le_mul (by omega) (by omega)
  have e : (BB - 1) * (BB - 1) + 2 * (BB - 1) + 1 = BB * BB := by decide
  omega
theorem times_step {a b out : List Nat} {i j c : Nat} (wa : Words a) (wb : Words b) (h : TimesIn a b out i j c) (hi : i < a.length) (hj : j < b.length) :
    TimesIn a b (out.set (i + j) ((c + a.getD i 0 * b.getD j 0 + out.getD (i + j) 0) % BB)) i (j + 1) ((c + a.getD i 0 * b.getD j 0 + out.getD (i + j) 0) / BB) := by
  obtain ⟨h1, h2, h3, h4, h5⟩ := h
  have g1 := wa.getD i
  have g2 := wb.getD j
  have g3 := h2.getD (i + j)
  refine ⟨by simp [h1], h2.set _ (Nat.mod_lt _ BB_pos), (Nat.div_lt_iff_lt_mul BB_pos).2 (times_bound h3 g1 g2 g3), ?_, fun t ht => ?_⟩
  · have e := num_set out (i + j) ((c + a.getD i 0 * b.getD j 0 + out.getD (i + j) 0) % BB) (by omega)
    have e2 := digit_step (B := BB) (c := c + a.getD i 0 * b.getD j 0 + out.getD (i + j) 0) (BB ^ (i + j))
    rw [num_take, Nat.mul_add (a.getD i 0), Nat.mul_add (BB ^ i)]
    rw [Nat.mul_add (BB ^ (i + j)), Nat.mul_add (BB ^ (i + j))] at e2
    have e3 : BB ^ i * (a.getD i 0 * (BB ^ j * b.getD j 0)) = BB ^ (i + j) * (a.getD i 0 * b.getD j 0) := by
      rw [Nat.pow_add, Nat.mul_assoc, Nat.mul_left_comm (a.getD i 0)]
    rw [show i + (j + 1) = i + j + 1 by omega, Nat.pow_succ]
    omega
  · rw [getD_set_ne _ _ (by omega)]; exact h5 t ht
theorem times_out {a b out : List Nat} {i c : Nat} (h : TimesIn a b out i b.length c) (hi : i < a.length) : TimesAt a b (out.set (i + b.length) c) (i + 1) := by
  obtain ⟨h1, h2, h3, h4, h5⟩ := h
  refine ⟨by simp [h1], h2.set _ h3, ?_, fun t ht => ?_⟩
  · have e := num_set out (i + b.length) c (by omega)
    rw [h5 (i + b.length) (Nat.le_refl _)] at e
    rw [List.take_length] at h4
    rw [num_take, Nat.add_mul]
    have : BB ^ i * (a.getD i 0 * num b) = BB ^ i * a.getD i 0 * num b := by rw [Nat.mul_assoc]
    omega
  · rw [getD_set_ne _ _ (by omega)]; exact h5 t (by omega)
end Go.Proofs.Yteephgpefhodnaa
