/- Rules of the walk for floating-point words that are given by their keys. -/
import Derived.Test.YteephgpefhodnaaF3
import Derived.Test.YteephgpefhodnaaR1
import Derived.WalkKit
import Derived.WalkSpells
import Derived.WalkLawsBesides
import Derived.Laws.Externs
import Derived.Handy
import Derived.Deep.QuietTactic
import Derived.BigQuiet
import Derived.WalkSmall
namespace Go.Fl
open Go.RowKit Go.Sort

@[go_sem] theorem run_store_float {P : Program} {w : World} {a : Addr} {m : Mode} (k : FloatKind) (x : Nat) : (store a (.float k x) m).run P w = stored P w a (.float k x) m := run_store P w a _ m rfl
@[go_sem] theorem unary_neg_float (k : FloatKind) (x : Nat) : Op.unary UnOp.neg (.float k x) = pure (.float k (Op.negFloat k x)) := rfl

/-- A word of 64 bits. -/
def Wd (x : Nat) : Prop := x < 2 ^ 64
@[go_sem] theorem wd_ofKey {a : Int} (h : Rg a) : Wd (ofKey a) := ofKey_lt h
@[go_sem] theorem wd_neg {x : Nat} (h : Wd x) : Wd (Op.negFloat .f64 x) := (fneg_facts h).1
@[go_sem] theorem wd_zero : Wd 0 := by unfold Wd; omega
@[go_sem] theorem nn_ofKey {a : Int} (h : Rg a) : nan (ofKey a) = False := eq_false (not_nan_ofKey h)
@[go_sem] theorem nn_neg {x : Nat} (h : Wd x) : nan (Op.negFloat .f64 x) = nan x := propext (nan_fneg h)
@[go_sem] theorem nn_zero : nan 0 = False := eq_false (by decide)
@[go_sem] theorem k_ofKey {a : Int} (h : Rg a) : key (ofKey a) = a := key_ofKey h
@[go_sem] theorem k_neg {x : Nat} (h : Wd x) : key (Op.negFloat .f64 x) = -key x := key_fneg h
@[go_sem] theorem k_zero : key 0 = 0 := key_zero
@[go_sem] theorem nn_PI : nan (ofKey PI) = False := nn_ofKey Rg_PI
@[go_sem] theorem nn_MI : nan (ofKey (-PI)) = False := nn_ofKey Rg_MI
@[go_sem] theorem k_PI : key (ofKey PI) = PI := key_ofKey Rg_PI
@[go_sem] theorem k_MI : key (ofKey (-PI)) = -PI := key_ofKey Rg_MI
@[go_sem] theorem rg_MI : Rg (-PI) := Rg_MI
@[go_sem] theorem rg_neg {a : Int} (h : Rg a) : Rg (-a) := Rg_neg h
@[go_sem] theorem rg_PI : Rg PI := Rg_PI
@[go_sem] theorem rg_zero : Rg 0 := Rg_zero
@[go_sem] theorem rg_key {x : Nat} (h : ¬ nan x) : Rg (key x) := Rg_key h
@[go_sem] theorem wd_negk {a : Int} (h : Rg a) : Wd (Op.negFloat .f64 (ofKey a)) := wd_neg (wd_ofKey h)
@[go_sem] theorem nn_negk {a : Int} (h : Rg a) : nan (Op.negFloat .f64 (ofKey a)) = False := by rw [nn_neg (wd_ofKey h), nn_ofKey h]
@[go_sem] theorem k_negk {a : Int} (h : Rg a) : key (Op.negFloat .f64 (ofKey a)) = -a := by rw [k_neg (wd_ofKey h), k_ofKey h]
@[go_sem] theorem neg_neg_word {a : Int} (h : Rg a) : Op.negFloat .f64 (Op.negFloat .f64 (ofKey a)) = ofKey a := by
  have h1 := ofKey_lt h
  have h2 := fneg_facts h1
  have e1 := fneg_eq h1
  have e2 := fneg_eq h2.1
  unfold fneg at *
  rw [e2, e1]
  split <;> split <;> omega
@[go_sem] theorem neg_PI : Op.negFloat .f64 (ofKey PI) = ofKey (-PI) := fneg_ofKey Rg_PI (by decide)
@[go_sem] theorem neg_MI : Op.negFloat .f64 (ofKey (-PI)) = ofKey PI := fneg_ofKey Rg_MI (by decide)

@[go_sem] theorem o_nan_l {x y : Nat} (hx : nan x) : FloatKind.f64.format.order x y = none := ord_nan_left hx
@[go_sem] theorem o_nan_r {x y : Nat} (hy : nan y) : FloatKind.f64.format.order x y = none := ord_nan_right hy
@[go_sem] theorem o_lt {x y : Nat} (hx : ¬ nan x) (hy : ¬ nan y) : (FloatKind.f64.format.order x y == some .lt) = decide (key x < key y) := by rw [ord_key hx hy, cmp_lt]
@[go_sem] theorem o_gt {x y : Nat} (hx : ¬ nan x) (hy : ¬ nan y) : (FloatKind.f64.format.order x y == some .gt) = decide (key y < key x) := by rw [ord_key hx hy, cmp_gt]
@[go_sem] theorem o_eq {x y : Nat} (hx : ¬ nan x) (hy : ¬ nan y) : (FloatKind.f64.format.order x y == some .eq) = decide (key x = key y) := by rw [ord_key hx hy, cmp_eq]
@[go_sem] theorem o_ne {x y : Nat} (hx : ¬ nan x) (hy : ¬ nan y) : (FloatKind.f64.format.order x y != some .eq) = !decide (key x = key y) := by rw [ord_key hx hy, cmp_ne]
@[go_sem] theorem o_le (a b : Int) : (decide (a < b) || decide (a = b)) = decide (a ≤ b) := by rw [← Bool.decide_or]; congr 1; simp only [eq_iff_iff]; omega
@[go_sem] theorem o_ge (a b : Int) : (decide (b < a) || decide (a = b)) = decide (b ≤ a) := by rw [← Bool.decide_or]; congr 1; simp only [eq_iff_iff]; omega

/-- A number and nought. -/
@[go_sem] theorem run_add0 {P : Program} {w : World} {t : TypeId} {x : Nat} (hx : ¬ nan x) (hw : Wd x) : (binOp .add t (.float .f64 x) (.float .f64 0)).run P w = .ok (.float .f64 (ofKey (key x))) w :=
  run_float_arith w .add t .f64 x 0 _ (add_zero hx hw)

@[go_sem] theorem run_equalIn_float {P : Program} (w : World) (d : Nat) (t : TypeId) (k k' : FloatKind) (a b : Nat) (h : P.underlying t = some (.float k')) : (Op.equalIn (d + 1) t (.float k a) (.float k b)).run P w = .ok (k.format.order a b == some .eq) w := by
  simp [Op.equalIn, run_underlying h, Op.floatEq]
@[go_sem] theorem rg_min {a b : Int} (ha : Rg a) (hb : Rg b) : Rg (min a b) := by
  rcases Int.le_total a b with h | h
  · rw [Int.min_eq_left h]; exact ha
  · rw [Int.min_eq_right h]; exact hb
@[go_sem] theorem rg_max {a b : Int} (ha : Rg a) (hb : Rg b) : Rg (max a b) := by
  rcases Int.le_total a b with h | h
  · rw [Int.max_eq_right h]; exact hb
  · rw [Int.max_eq_left h]; exact ha
@[go_sem] theorem run_min_k {P : Program} {w : World} {ts : Array TypeId} {t : TypeId} {a b : Int} (ha : Rg a) (hb : Rg b) : (Builtin.min_ ts t #[.float .f64 (ofKey a), .float .f64 (ofKey b)]).run P w = .ok (.float .f64 (ofKey (min a b))) w := by
  have ho := ord_ofKey ha hb
  rcases Int.lt_trichotomy a b with h | h | h
  · have e : compare a b = .lt := by simp [compare, compareOfLessAndEq, h]
    rw [e] at ho
    rw [Int.min_eq_left (by omega)]
    simp [Builtin.min_, Builtin.min2, ho]
  · subst h
    have e : compare a a = .eq := by simp [compare, compareOfLessAndEq]
    rw [e] at ho
    rw [Int.min_eq_left (by omega)]
    simp [Builtin.min_, Builtin.min2, ho]
  · have e : compare a b = .gt := by simp [compare, compareOfLessAndEq, show ¬ a < b by omega, show ¬ a = b by omega]
    rw [e] at ho
    rw [Int.min_eq_right (by omega)]
    simp [Builtin.min_, Builtin.min2, ho]
@[go_sem] theorem run_max_k {P : Program} {w : World} {ts : Array TypeId} {t : TypeId} {a b : Int} (ha : Rg a) (hb : Rg b) : (Builtin.max_ ts t #[.float .f64 (ofKey a), .float .f64 (ofKey b)]).run P w = .ok (.float .f64 (ofKey (max a b))) w := by
  have ho := ord_ofKey ha hb
  rcases Int.lt_trichotomy a b with h | h | h
  · have e : compare a b = .lt := by simp [compare, compareOfLessAndEq, h]
    rw [e] at ho
    rw [Int.max_eq_right (by omega)]
    simp [Builtin.max_, Builtin.max2, ho]
  · subst h
    have e : compare a a = .eq := by simp [compare, compareOfLessAndEq]
    rw [e] at ho
    rw [Int.max_eq_left (by omega)]
    simp [Builtin.max_, Builtin.max2, ho]
  · have e : compare a b = .gt := by simp [compare, compareOfLessAndEq, show ¬ a < b by omega, show ¬ a = b by omega]
    rw [e] at ho
    rw [Int.max_eq_left (by omega)]
    simp [Builtin.max_, Builtin.max2, ho]
theorem below_alloc {w w2 : World} {o : Obj} (h : Below (w.alloc o).heap.size (w.alloc o) w2) : Below w.heap.size w w2 :=
  ((Below.refl _ _).alloc (Nat.le_refl _) o).trans (h.mono (by simp))
theorem below_step {B : Nat} {w w1 w2 : World} (h : Below B w w1) (hB : B ≤ w1.heap.size) (h2 : Below w1.heap.size w1 w2) : Below B w w2 := h.trans (h2.mono hB)
theorem below_drewn {w w2 : World} (h : Below w.drew.heap.size w.drew w2) : Below w.heap.size w w2 := ((Below.refl _ _).drew).trans h
theorem ret_b {b c : Bool} (h : b = c) : Ending.returned (.bool b) = .returned (.bool c) := by rw [h]
theorem ret_k {a b : Int} (h : a = b) : Ending.returned (.float .f64 (ofKey a)) = .returned (.float .f64 (ofKey b)) := by rw [h]
theorem ret_i {k : IntKind} {a b : Int} (h : a = b) : Ending.returned (.int k a) = .returned (.int k b) := by rw [h]
theorem ret_iv {a b c d : Int} (h : a = c) (h' : b = d) : Ending.returned (.agg #[.float .f64 (ofKey a), .float .f64 (ofKey b)]) = .returned (.agg #[.float .f64 (ofKey c), .float .f64 (ofKey d)]) := by rw [h, h']

theorem bcell {W w1 : World} (hb : Below W.heap.size W w1) : (∀ b o, b < W.heap.size → w1.cell? ⟨b, o, none⟩ = W.cell? ⟨b, o, none⟩) ∧ (∀ b o, b < W.heap.size → w1.frozen? ⟨b, o, none⟩ = W.frozen? ⟨b, o, none⟩) :=
  ⟨fun b o h => hb.cell (p := ⟨b, o, none⟩) h, fun b o h => hb.frozen (p := ⟨b, o, none⟩) h⟩

end Go.Fl
