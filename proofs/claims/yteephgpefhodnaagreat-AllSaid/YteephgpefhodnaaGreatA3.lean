/- Contracts of the numbers' neighbours; what Go's library math does on the way. -/
import Derived.Test.YteephgpefhodnaaGreatAA
import Derived.Test.YteephgpefhodnaaGreatFB
import Derived.Lib.Hide
namespace Go.Proofs.YteephgpefhodnaaGreat
open Go.RowKit Go.Sort Go.Fl
set_option linter.unusedSimpArgs false
set_option linter.unusedVariables false
theorem mathabs_any (x:Nat) (hw:Wd x) (w:World) :
  Calls Tryz.prog 74 #[.float .f64 x] w fun e w'=>e = .returned (.float .f64 (absw x))∧w=w':=by
 have h:=run_frombits
 have h':=run_tobits
 have h2:=u64_top x hw
 go_enter Tryz.func74,Tryz.ntmps74
 go_wp2
 go_ret
 exact ⟨by simp,rfl⟩
theorem isnan_no (x:Nat) (h : ¬nan x) (w:World) :
  Calls Tryz.prog 97 #[.float .f64 x] w fun e w'=>e = .returned (.bool false)∧w=w':=by
 go_enter Tryz.func97,Tryz.ntmps97
 go_wp2
 go_ret
 exact ⟨ret_b (by simp),rfl⟩
theorem isnan_yes (x:Nat) (h:nan x) (w:World) :
  Calls Tryz.prog 97 #[.float .f64 x] w fun e w'=>e = .returned (.bool true)∧w=w':=by
 go_enter Tryz.func97,Tryz.ntmps97
 go_wp2
 go_ret
 exact ⟨ret_b (by simp),rfl⟩
theorem mathnan_any (w:World) :
  Calls Tryz.prog 46 #[] w fun e w'=>e = .returned (.float .f64 NANW)∧w=w':=by
 have h:=run_frombits
 go_enter Tryz.func46,Tryz.ntmps46
 go_wp2
 go_ret
 exact ⟨rfl,rfl⟩
def upK (k:Int):Int:=if k<PI then k+1 else PI
theorem upK_rg {k:Int} (h:Rg k):Rg (upK k):=by
 have h1:=h.1;have h2:=h.2;have:=PI_pos
 unfold upK Rg;split<;>omega
def nextW (x:Nat):Nat:=if key x=PI then x else if key x=0 then 1 else if 0<key x then x+1 else x-1
theorem nextW_facts {x:Nat} (hx : ¬nan x) (hw:Wd x):Wd (nextW x) ∧ ¬nan (nextW x)∧key (nextW x)=upK (key x):=by
 have h1:=(Rg_key hx).1;have h2:=(Rg_key hx).2;have h3:=PI_pos
 by_cases a:key x=PI
 ·have e:upK (key x)=PI:=by unfold upK;rw [if_neg (by omega)]
  rw [e]
  unfold nextW
  rw [if_pos a];exact ⟨hw,hx,a⟩
 ·have e:upK (key x)=key x+1:=by unfold upK;rw [if_pos (by omega)]
  rw [e]
  unfold nextW
  rw [if_neg a]
  by_cases b:key x=0
  ·rw [if_pos b,b];exact ⟨by unfold Wd;omega,by decide,by decide⟩
  ·rw [if_neg b]
   by_cases c:0<key x
   ·rw [if_pos c];exact up_pos hw c (by omega)
   ·rw [if_neg c]
    obtain ⟨p,q,r,_⟩:=up_neg hw (by omega) h1
    exact ⟨p,q,r⟩
theorem copysign_pos (x:Nat) (hx:Wd x) (s:Int) (hs:Rg s) (h0:0<s) (w:World) :
  Calls Tryz.prog 98 #[.float .f64 x,.float .f64 (ofKey (s))] w fun e w'=>e = .returned (.float .f64 (absw x))∧w=w':=by
 have hws:=ofKey_lt hs
 have hlt:ofKey s<2^63:=(key_pos (x:=ofKey s) hws (by rw [key_ofKey hs];exact h0)).1
 have h:=run_frombits
 have h':=run_tobits
 have h2:=u64_top x hx
 have h3:=u64_sign (ofKey s) hws
 rw [show ofKey s / 2^63=0 by omega] at h3
 have h4:=u64_or_low (absw x) 0 (Nat.mod_lt _ (by omega)) (by omega)
 simp only [Nat.zero_mul,Nat.zero_add,Int.natCast_zero] at h3 h4
 go_enter Tryz.func98,Tryz.ntmps98
 go_wp2
 go_ret
 exact ⟨by simp,rfl⟩
theorem nextafter_up (x:Nat) (hx : ¬nan x) (hw:Wd x) (w:World) :
  Calls Tryz.prog 72 #[.float .f64 x,.float .f64 (ofKey (PI))] w fun e w'=>e = .returned (.float .f64 (nextW x))∧w=w':=by
 have h1:=(Rg_key hx).1;have h2:=(Rg_key hx).2;have h3:=PI_pos
 have hf:=run_frombits
 have ht:=run_tobits
 by_cases a:key x=PI
 ·rw [show nextW x=x by unfold nextW;rw [if_pos a]]
  go_enter Tryz.func72,Tryz.ntmps72
  go_wp2_with (first|(go_at_call 97;refine (isnan_no _ (by first|exact hx|exact not_nan_ofKey Rg_PI) _).mono ?_;rintro e w' ⟨rfl,rfl⟩))
  go_ret
  exact ⟨rfl,rfl⟩
 ·by_cases b:key x=0
  ·rw [show nextW x=1 by unfold nextW;rw [if_neg a,if_pos b]]
   go_enter Tryz.func72,Tryz.ntmps72
   go_wp2_with (first|(go_at_call 97;refine (isnan_no _ (by first|exact hx|exact not_nan_ofKey Rg_PI) _).mono ?_;rintro e w' ⟨rfl,rfl⟩)|(go_at_call 98;refine (copysign_pos _ (by unfold Wd;omega) _ Rg_PI (by omega) _).mono ?_;rintro e w' ⟨rfl,rfl⟩))
   go_ret
   exact ⟨rfl,rfl⟩
  ·by_cases c:0<key x
   ·rw [show nextW x=x+1 by unfold nextW;rw [if_neg a,if_neg b,if_pos c]]
    have hu:=u64_succ (up_pos hw c (by omega)).1
    go_enter Tryz.func72,Tryz.ntmps72
    go_wp2_with (first|(go_at_call 97;refine (isnan_no _ (by first|exact hx|exact not_nan_ofKey Rg_PI) _).mono ?_;rintro e w' ⟨rfl,rfl⟩))
    go_ret
    exact ⟨by simp,rfl⟩
   ·rw [show nextW x=x-1 by unfold nextW;rw [if_neg a,if_neg b,if_neg c]]
    obtain ⟨p,_,_,q⟩:=up_neg hw (by omega) h1
    have hu:=u64_pred hw q
    clear p
    have d1:decide (key x<PI)=true:=decide_eq_true (by omega)
    have d2:decide (0<key x)=false:=decide_eq_false (by omega)
    go_enter Tryz.func72,Tryz.ntmps72
    go_wp2_with (first|(go_at_call 97;refine (isnan_no _ (by first|exact hx|exact not_nan_ofKey Rg_PI) _).mono ?_;rintro e w' ⟨rfl,rfl⟩))
    go_ret
    exact ⟨by simp,rfl⟩
theorem fpup_any (x:Nat) (hx : ¬nan x) (hw:Wd x) (w:World) :
  Calls Tryz.prog 40 #[.float .f64 x] w fun e w'=>e = .returned (.float .f64 (ofKey (upK (key x))))∧w=w':=by
 obtain ⟨p,q,r⟩:=nextW_facts hx hw
 go_enter Tryz.func40,Tryz.ntmps40
 go_wp2_with (first|(go_at_call 73;refine (mathinf_pos _ (by omega) _).mono ?_;rintro e w' ⟨rfl,rfl⟩)|(go_at_call 72;refine (nextafter_up _ hx hw _).mono ?_;rintro e w' ⟨rfl,rfl⟩))
 go_ret
 exact ⟨rfl,rfl⟩
def NaNRes (w:World) (e:Ending) (w':World):Prop := ∃ r,nan r∧Wd r∧e = .returned (.float .f64 r)∧Below w.heap.size w w'
theorem nextafter_nan (x y:Nat) (hx:nan x) (w:World) :
  Calls Tryz.prog 72 #[.float .f64 x,.float .f64 y] w fun e w'=>e = .returned (.float .f64 NANW)∧w=w':=by
 go_enter Tryz.func72,Tryz.ntmps72
 go_wp2_with (first|(go_at_call 97;refine (isnan_yes _ hx _).mono ?_;rintro e w' ⟨rfl,rfl⟩)|(go_at_call 46;refine (mathnan_any _).mono ?_;rintro e w' ⟨rfl,rfl⟩))
 go_ret
 exact ⟨rfl,rfl⟩
theorem fpup_nan (x:Nat) (hx:nan x) (w:World):Calls Tryz.prog 40 #[.float .f64 x] w (NaNRes w):=by
 have hn:=nan_NANW
 go_enter Tryz.func40,Tryz.ntmps40
 go_wp2_with (first|(go_at_call 73;refine (mathinf_pos _ (by omega) _).mono ?_;rintro e w' ⟨rfl,rfl⟩)|(go_at_call 72;refine (nextafter_nan _ _ hx _).mono ?_;rintro e w' ⟨rfl,rfl⟩))
 go_ret
 exact ⟨nanw w NANW 0,by simp [nan_nanw],wd_nanw _ _ _,rfl,(Below.refl _ _).drew⟩
theorem spansup_any (x:Nat) (hx : ¬nan x) (hw:Wd x) (w:World) :
  Calls Tryz.prog 12 #[.float .f64 x] w fun e w'=>e = .returned (.float .f64 (ofKey (upK (key x))))∧w=w':=by
 go_enter Tryz.func12,Tryz.ntmps12
 go_wp2_with (first|(go_at_call 40;refine (fpup_any _ hx hw _).mono ?_;rintro e w' ⟨rfl,rfl⟩))
 go_ret
 exact ⟨rfl,rfl⟩
theorem spansup_nan (x:Nat) (hx:nan x) (w:World):Calls Tryz.prog 12 #[.float .f64 x] w (NaNRes w):=by
 go_enter Tryz.func12,Tryz.ntmps12
 go_wp2_with (go_at_call 40;refine (fpup_nan _ hx _).mono ?_;rintro e w1 ⟨r,h1,h2,rfl,hb⟩)
 go_ret
 exact ⟨r,h1,h2,rfl,hb⟩
def downK (k:Int):Int := -upK (-k)
theorem downK_rg {k:Int} (h:Rg k):Rg (downK k):=Rg_neg (upK_rg (Rg_neg h))
theorem spansdown_any (x:Nat) (hx : ¬nan x) (hw:Wd x) (w:World) :
  Calls Tryz.prog 13 #[.float .f64 x] w fun e w'=>e = .returned (.float .f64 (ofKey (downK (key x))))∧w=w':=by
 have r:=upK_rg (Rg_neg (Rg_key hx))
 have hn : ¬nan (Op.negFloat .f64 x):=by rw [nn_neg hw];exact hx
 have hk:key (Op.negFloat .f64 x) = -key x:=k_neg hw
 have hc:=fpup_any _ hn (wd_neg hw)
 rw [hk] at hc
 have HC:=Lib.hid hc
 clear hc hk
 go_enter Tryz.func13,Tryz.ntmps13
 go_wp2_with (first|(go_at_call 40;refine (HC.out _).mono ?_;rintro e w' ⟨rfl,rfl⟩))
 go_ret
 exact ⟨rfl,rfl⟩
theorem spansdown_nan (x:Nat) (hx:nan x) (hw:Wd x) (w:World):Calls Tryz.prog 13 #[.float .f64 x] w (NaNRes w):=by
 have hn:nan (Op.negFloat .f64 x):=by rw [nn_neg hw];exact hx
 go_enter Tryz.func13,Tryz.ntmps13
 go_wp2_with (go_at_call 40;refine (fpup_nan _ hn _).mono ?_;rintro e w1 ⟨r,h1,h2,rfl,hb⟩)
 go_ret
 exact ⟨nanw w1 (Op.negFloat .f64 r) 0,by simp [nan_nanw],wd_nanw _ _ _,rfl,hb.drew⟩
theorem isinf_any (x:Nat) (hx : ¬nan x) (hw:Wd x) (w:World) :
  Calls Tryz.prog 41 #[.float .f64 x,.int .i64 1] w fun e w'=>e = .returned (.bool (decide (key x=PI)))∧w=w':=by
 have h1:=(Rg_key hx).1;have h2:=(Rg_key hx).2;have h3:=PI_pos
 have hm : ¬nan 9218868437227405311:=by decide
 have hk:key 9218868437227405311=PI-1:=by decide
 have hb:(FloatKind.f64.format.order x 9218868437227405311==some .gt)=decide (key x=PI):=by
  rw [o_gt hx hm,hk];exact decide_eq_decide.2 (by omega)
 clear hm hk
 go_enter Tryz.func41,Tryz.ntmps41
 go_wp2
 go_ret
 exact ⟨rfl,rfl⟩
theorem isinf_nan (x:Nat) (hx:nan x) (w:World) :
  Calls Tryz.prog 41 #[.float .f64 x,.int .i64 1] w fun e w'=>e = .returned (.bool false)∧w=w':=by
 go_enter Tryz.func41,Tryz.ntmps41
 go_wp2
 go_ret
 exact ⟨ret_b (by simp),rfl⟩
theorem refup_any (x:Nat) (hx : ¬nan x) (hw:Wd x) (w:World) :
  Calls Tryz.prog 14 #[.float .f64 x] w fun e w'=>e = .returned (.float .f64 (ofKey (upK (key x))))∧w=w':=by
 have h1:=(Rg_key hx).1;have h2:=(Rg_key hx).2;have h3:=PI_pos
 have hf:=run_frombits
 have ht:=run_tobits
 obtain ⟨p,q,r⟩:=nextW_facts hx hw
 have hc:=plain_any _ q p
 rw [r] at hc
 clear r q
 by_cases a:key x=PI
 ·have d:decide (key x=PI)=true:=decide_eq_true a
  clear hc p
  go_enter Tryz.func14,Tryz.ntmps14
  go_wp2_with (first|(go_at_call 41;refine (isinf_any _ hx hw _).mono ?_;rintro e w' ⟨rfl,rfl⟩))
  go_ret
  refine ⟨?_,rfl⟩
  show Ending.returned (.float .f64 x)=_
  rw [show upK (key x)=key x by unfold upK;rw [if_neg (by omega)];exact a.symm,←word_of_key hw (by omega)]
 ·have d:decide (key x=PI)=false:=decide_eq_false a
  by_cases b:key x=0
  ·rw [show nextW x=1 by unfold nextW;rw [if_neg a,if_pos b]] at hc
   have HC:=Lib.hid hc
   clear hc p
   go_enter Tryz.func14,Tryz.ntmps14
   go_wp2_with (first|(go_at_call 41;refine (isinf_any _ hx hw _).mono ?_;rintro e w' ⟨rfl,rfl⟩)|(go_at_call 43;refine (HC.out _).mono ?_;rintro e w' ⟨rfl,rfl⟩))
   go_ret
   exact ⟨ret_k (by rw [b]),rfl⟩
  ·by_cases c:0<key x
   ·rw [show nextW x=x+1 by unfold nextW;rw [if_neg a,if_neg b,if_pos c]] at hc p
    have hu:=u64_succ p
    have HC:=Lib.hid hc
    have hs:=u64_top_bit hw
    rw [show x / 2^63=0 by have:=(key_pos hw c).1;omega,Int.natCast_zero] at hs
    clear hc p
    go_enter Tryz.func14,Tryz.ntmps14
    go_wp2_with (first|(go_at_call 41;refine (isinf_any _ hx hw _).mono ?_;rintro e w' ⟨rfl,rfl⟩)|(go_at_call 43;refine (HC.out _).mono ?_;rintro e w' ⟨rfl,rfl⟩))
    go_ret
    exact ⟨rfl,rfl⟩
   ·rw [show nextW x=x-1 by unfold nextW;rw [if_neg a,if_neg b,if_neg c]] at hc p
    have hlt:=(key_neg' hw (by omega)).1
    have hu:=u64_pred hw (by omega)
    have HC:=Lib.hid hc
    have hs:=u64_top_bit hw
    rw [show x / 2^63=1 by unfold Wd at hw;omega,Int.natCast_one] at hs
    clear hc p hlt
    go_enter Tryz.func14,Tryz.ntmps14
    go_wp2_with (first|(go_at_call 41;refine (isinf_any _ hx hw _).mono ?_;rintro e w' ⟨rfl,rfl⟩)|(go_at_call 43;refine (HC.out _).mono ?_;rintro e w' ⟨rfl,rfl⟩))
    go_ret
    exact ⟨rfl,rfl⟩
theorem refup_nan (x:Nat) (hx:nan x) (w:World) :
  Calls Tryz.prog 14 #[.float .f64 x] w fun e w'=>e = .returned (.float .f64 x)∧w=w':=by
 go_enter Tryz.func14,Tryz.ntmps14
 go_wp2_with (first|(go_at_call 41;refine (isinf_nan _ hx _).mono ?_;rintro e w' ⟨rfl,rfl⟩))
 go_ret
 exact ⟨rfl,rfl⟩
theorem refdown_any (x:Nat) (hx : ¬nan x) (hw:Wd x) (w:World) :
  Calls Tryz.prog 15 #[.float .f64 x] w fun e w'=>e = .returned (.float .f64 (ofKey (downK (key x))))∧w=w':=by
 have r:=upK_rg (Rg_neg (Rg_key hx))
 have hn : ¬nan (Op.negFloat .f64 x):=by rw [nn_neg hw];exact hx
 have hk:key (Op.negFloat .f64 x) = -key x:=k_neg hw
 have hc:=refup_any _ hn (wd_neg hw)
 rw [hk] at hc
 have hd:=plain_any (Op.negFloat .f64 (ofKey (upK (-key x)))) (by rw [nn_negk r];exact id) (wd_negk r)
 rw [k_negk r] at hd
 have HC:=Lib.hid hc
 have HD:=Lib.hid hd
 clear hc hk hd
 go_enter Tryz.func15,Tryz.ntmps15
 go_wp2_with (first|(go_at_call 14;refine (HC.out _).mono ?_;rintro e w' ⟨rfl,rfl⟩)|(go_at_call 43;refine (HD.out _).mono ?_;rintro e w' ⟨rfl,rfl⟩))
 go_ret
 exact ⟨rfl,rfl⟩
theorem plain_nan (x:Nat) (hx:nan x) (w:World) :
  Calls Tryz.prog 43 #[.float .f64 x] w fun e w'=>e = .returned (.float .f64 x)∧w=w':=by
 go_enter Tryz.func43,Tryz.ntmps43
 go_wp2
 go_ret
 exact ⟨rfl,rfl⟩
theorem refdown_nan (x:Nat) (hx:nan x) (hw:Wd x) (w:World):Calls Tryz.prog 15 #[.float .f64 x] w (NaNRes w):=by
 have hn:nan (Op.negFloat .f64 x):=by rw [nn_neg hw];exact hx
 have hn2:nan (Op.negFloat .f64 (Op.negFloat .f64 x)):=by rw [nn_neg (wd_neg hw)];exact hn
 go_enter Tryz.func15,Tryz.ntmps15
 go_wp2_with (first|(go_at_call 14;refine (refup_nan _ hn _).mono ?_;rintro e w' ⟨rfl,rfl⟩)|(go_at_call 43;refine (plain_nan _ hn2 _).mono ?_;rintro e w' ⟨rfl,rfl⟩))
 go_ret
 exact ⟨_,hn2,wd_neg (wd_neg hw),rfl,Below.refl _ _⟩
theorem same_nan (x y:Nat) (hx:nan x) (hy:nan y) (w:World) :
  Calls Tryz.prog 16 #[.float .f64 x,.float .f64 y] w fun e w'=>e = .returned (.bool true)∧w=w':=by
 have h:=run_tobits
 go_enter Tryz.func16,Tryz.ntmps16
 go_wp2
 all_goals go_ret
 all_goals exact ⟨ret_b (by simp_all),rfl⟩
end Go.Proofs.YteephgpefhodnaaGreat
