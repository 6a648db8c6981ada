/- Neighbours of a word; its size; a sum that is no number. Differences, products and fused products of words; what rounded down and rounded up are. What rounded down and rounded up are; that the first difference of a sum is exact. Rounded down, rounded up: by the sign of what the real is above a word. The sum. A real given by its first 64 binary digits and what is left, rounded to a rung; its sign. The fields of a word; a whole number as a word; magnitudes times a power of two. A whole number times a power of two, by the exponent's field. -/
import Derived.Test.YteephgpefhodnaaGreatWA
import Derived.Laws.BitsAllLaws
namespace Go.Fl
open Ieee Go.RowKit
set_option linter.unusedVariables false
set_option linter.unusedSimpArgs false
def absw (x:Nat):Nat:=x%2^63
theorem absw_facts (x:Nat):Wd (absw x)∧(nan (absw x)↔nan x)∧key (absw x)=(rung x:Int):=by
 unfold absw Wd nan key rung neg
 refine ⟨by omega,by rw [Nat.mod_mod],?_⟩
 rw [show x%2^63 / 2^63=0 by omega]
 simp
@[go_sem] theorem wd_absw (x:Nat):Wd (absw x):=(absw_facts x).1
@[go_sem] theorem nn_absw (x:Nat):nan (absw x)=nan x:=propext (absw_facts x).2.1
theorem rung_key (x:Nat):(rung x:Int)=key x∨(rung x:Int) = -key x:=by unfold key;split<;>omega
theorem key_absw (x:Nat):key (absw x)=if 0≤key x then key x else -key x:=by
 rw [(absw_facts x).2.2]
 have:=rung_key x
 split<;>omega
theorem key_pos {x:Nat} (hw:Wd x) (h:0<key x):x<2^63∧key x=x:=by
 unfold key rung neg at *
 unfold Wd at hw
 by_cases hs:x / 2^63%2=1
 ·rw [show (x / 2^63%2==1)=true by simpa using hs] at h
  simp only [if_true] at h
  omega
 ·rw [show (x / 2^63%2==1)=false by simpa using hs]
  simp only [Bool.false_eq_true,if_false]
  omega
theorem key_neg' {x:Nat} (hw:Wd x) (h:key x<0):2^63<x∧key x = -((x:Int)-2^63):=by
 unfold key rung neg at *
 unfold Wd at hw
 by_cases hs:x / 2^63%2=1
 ·rw [show (x / 2^63%2==1)=true by simpa using hs]
  simp only [if_true]
  omega
 ·rw [show (x / 2^63%2==1)=false by simpa using hs] at h
  simp only [Bool.false_eq_true,if_false] at h
  omega
theorem key_low {x:Nat} (h:x<2^63):key x=x:=by
 unfold key rung neg
 rw [show x / 2^63=0 by omega]
 simp;omega
theorem key_high {x:Nat} (h:x<2^63):key (2^63+x) = -(x:Int):=by
 unfold key rung neg
 rw [show (2^63+x) / 2^63=1 by omega]
 simp;omega
theorem nan_low {x:Nat} (h:x<2^63):nan x↔INF<x:=by
 unfold nan rung;rw [Nat.mod_eq_of_lt h]
theorem nan_high {x:Nat} (h:x<2^63):nan (2^63+x)↔INF<x:=by
 unfold nan rung;rw [show (2^63+x)%2^63=x by omega]
theorem up_pos {x:Nat} (hw:Wd x) (h:0<key x) (h1:key x<PI):Wd (x+1) ∧ ¬nan (x+1)∧key (x+1)=key x+1:=by
 obtain ⟨a,b⟩:=key_pos hw h
 have e:=PI_eq
 have h0:=INF_eq
 rw [nan_low (by omega),key_low (by omega)]
 refine ⟨by unfold Wd;omega,by omega,by omega⟩
theorem down_pos {x:Nat} (hw:Wd x) (h:0<key x) (h1:key x≤PI):Wd (x-1) ∧ ¬nan (x-1)∧key (x-1)=key x-1∧1≤x:=by
 obtain ⟨a,b⟩:=key_pos hw h
 have e:=PI_eq
 have h0:=INF_eq
 rw [nan_low (by omega),key_low (by omega)]
 refine ⟨by unfold Wd;omega,by omega,by omega,by omega⟩
theorem up_neg {x:Nat} (hw:Wd x) (h:key x<0) (h1 : -PI≤key x):Wd (x-1) ∧ ¬nan (x-1)∧key (x-1)=key x+1∧1≤x:=by
 obtain ⟨a,b⟩:=key_neg' hw h
 have e:=PI_eq
 have h0:=INF_eq
 unfold Wd at hw
 obtain ⟨y,rfl⟩ : ∃ y,x=2^63+y+1:=⟨x-2^63-1,by omega⟩
 rw [show 2^63+y+1-1=2^63+y by omega,nan_high (by omega),key_high (by omega)]
 refine ⟨by unfold Wd;omega,by omega,by omega,by omega⟩
def NANW:Nat:=9221120237041090561
theorem nan_NANW:nan NANW:=by decide
theorem wd_NANW:Wd NANW:=by unfold Wd NANW;omega
def nanw (w:World) (x y:Nat):Nat:=(Question.nanBits .f64 x y).cut (w.tape w.drawn (.nanBits .f64 x y))
@[go_sem] theorem nan_nanw (w:World) (x y:Nat):nan (nanw w x y)=True:=by
 refine eq_true ?_
 unfold nanw Question.cut nan rung
 have h0:=INF_eq
 simp only
 generalize w.tape w.drawn (.nanBits .f64 x y)=t
 have h1:=Nat.mod_lt (t / 2) (show 2^52-1>0 by omega)
 have h2:=Nat.mod_lt t (show 2>0 by omega)
 generalize t / 2%(2^52-1)=u at *
 generalize t%2=v at *
 omega
@[go_sem] theorem wd_nanw (w:World) (x y:Nat):Wd (nanw w x y):=by
 unfold nanw Question.cut Wd
 simp only
 generalize w.tape w.drawn (.nanBits .f64 x y)=t
 have h1:=Nat.mod_lt (t / 2) (show 2^52-1>0 by omega)
 have h2:=Nat.mod_lt t (show 2>0 by omega)
 generalize t / 2%(2^52-1)=u at *
 generalize t%2=v at *
 omega
@[go_sem] theorem run_add_nan {P:Program} {w:World} {t:TypeId} {x y:Nat} (hx:nan x):(binOp .add t (.float .f64 x) (.float .f64 y)).run P w = .ok (.float .f64 (nanw w x y)) w.drew:=by
 simp [binOp,Op.floatArith,add_nan (x:=x) (y:=y) (.inl hx),Question.forced,nanw]
theorem u64_top (x:Nat) (h:Wd x):bits BinOp.andNot IntKind.u64 (x:Int) 9223372036854775808=((absw x:Nat):Int):=by
 unfold Wd at h
 rw [u64_andNot (x:Int) 9223372036854775808 (by omega) (by omega) (by omega) (by omega)]
 congr 1
 rw [Int.toNat_natCast]
 unfold absw
 rw [←Nat.and_two_pow_sub_one_eq_mod]
 rfl
theorem u64_sign (x:Nat) (h:Wd x):bits BinOp.and IntKind.u64 (x:Int) 9223372036854775808=((x / 2^63*2^63:Nat):Int):=by
 unfold Wd at h
 rw [u64_and (x:Int) 9223372036854775808 (by omega) (by omega) (by omega) (by omega)]
 congr 1
 rw [Int.toNat_natCast]
 have h1:(x &&& 2^63)%2^63=0:=by rw [Nat.and_mod_two_pow];simp
 have h2:(x &&& 2^63) / 2^63=x / 2^63:=by
  rw [Nat.and_div_two_pow]
  have:x / 2^63=0∨x / 2^63=1:=by omega
  rcases this with h|h<;>rw [h]<;>rfl
 have h3:(x &&& Int.toNat 9223372036854775808)=x &&& 2^63:=rfl
 rw [h3]
 omega
theorem u64_or_low (x y:Nat) (hx:x<2^63) (hy:y≤1):bits BinOp.or IntKind.u64 (x:Int) ((y*2^63:Nat):Int)=((y*2^63+x:Nat):Int):=by
 rw [u64_or (x:Int) ((y*2^63:Nat):Int) (by omega) (by omega) (by omega) (by omega)]
 congr 1
 rw [Int.toNat_natCast,Int.toNat_natCast,Nat.mul_comm y,Nat.or_comm]
 rw [←Nat.two_pow_add_eq_or_of_lt hx]
theorem u64_succ {x:Nat} (h:Wd (x+1)):IntKind.u64.wrap ((x:Int)+1)=((x+1:Nat):Int):=by
 unfold Wd at h
 rw [IntKind.wrap_u64];omega
theorem u64_pred {x:Nat} (h:Wd x) (h1:1≤x):IntKind.u64.wrap ((x:Int)-1)=((x-1:Nat):Int):=by
 unfold Wd at h
 rw [IntKind.wrap_u64];omega
theorem u64_top_bit {x:Nat} (h:Wd x):(x:Int) / 9223372036854775808=((x / 2^63:Nat):Int):=by omega
end Go.Fl
namespace Go.Fl
open Ieee
set_option linter.unusedVariables false
theorem signed_neg (s:Bool) (m u:Nat):Ieee.signed (!s) m u = -Ieee.signed s m u:=by
 unfold Ieee.signed;cases s<;>simp
theorem sub_fin {x y:Nat} (hx:fin x) (hy:fin y) :
  ∃ r,FloatKind.f64.format.sub x y=some r ∧ ¬nan r∧r<2^64∧Near (key r) (V (key x)-V (key y)) 1:=by
 rw [fmt]
 unfold Format.sub
 rw [read_fin hx,read_fin hy]
 simp only [Datum.sum,Datum.opposite,Option.map_some,signed_neg]
 generalize hbase:min ((pl x:Int)-1074) ((pl y:Int)-1074)=base
 have h1:=key_val (x:=x) base (by omega) (by omega)
 have h2:=key_val (x:=y) base (by omega) (by omega)
 generalize Ieee.signed (neg x) (mag x) (((pl x:Int)-1074)-base).toNat=A at *
 generalize Ieee.signed (neg y) (mag y) (((pl y:Int)-1074)-base).toNat=B at *
 obtain ⟨a,b,c⟩:=write_real (neg x && !neg y) (A + -B) base
 refine ⟨_,rfl,a,b,?_⟩
 rw [Int.add_mul,Int.neg_mul,h1,h2,show (-(base+1074)).toNat=0 by omega] at c
 exact c
def X74:Nat:=1074
theorem X74_eq:X74=1074:=rfl
def E74:Int:=2^X74
theorem E74_pos:0<E74:=Int.pow_pos (by omega)
theorem E74_eq:E74=(2:Int)^X74:=rfl
theorem sgn_mul (a b:Bool):(if (a ^^ b)=true then (-1:Int) else 1)=(if a=true then -1 else 1)*(if b=true then -1 else 1):=by
 cases a<;>cases b<;>rfl
theorem prod_val (x y:Nat):(if (neg x ^^ neg y)=true then (-1:Int) else 1)*((mag x*mag y*2^(pl x+pl y):Nat):Int)=V (key x)*V (key y):=by
 rw [key_of_neg,key_of_neg,←mag_pl x,←mag_pl y,sgn_mul,Nat.pow_add]
 push_cast
 generalize (if neg x=true then (-1:Int) else 1)=s
 generalize (if neg y=true then (-1:Int) else 1)=t
 generalize (2:Int)^pl x=p
 generalize (2:Int)^pl y=q
 grind
theorem mul_fin {x y:Nat} (hx:fin x) (hy:fin y) :
  ∃ r,FloatKind.f64.format.mul x y=some r ∧ ¬nan r∧r<2^64∧Near (key r) (V (key x)*V (key y)) E74:=by
 rw [fmt]
 unfold Format.mul
 rw [read_fin hx,read_fin hy]
 simp only [Datum.product,Option.map_some]
 have hv:=prod_val x y
 generalize hs:(neg x ^^ neg y)=s at *
 generalize hm:mag x*mag y=m at *
 by_cases h0:m=0
 ·subst h0
  unfold Format.write
  simp only [write_zero]
  obtain ⟨h1,h2,h3⟩:=word_key (s:=s) (r:=0) (by omega)
  refine ⟨_,rfl,by unfold nan;rw [h1];omega,h3,?_⟩
  have hk:key (double.word s 0)=0:=by unfold key;rw [h1];simp
  rw [hk,←hv]
  have:=near_of_exact (m:=0) E74_pos (by omega) (by omega)
  rw [V_zero,Int.zero_mul] at this
  simpa using this
 ·obtain ⟨h1,_,h3,h4⟩:=write_near s m (((pl x:Int)-1074)+((pl y:Int)-1074)) (by omega)
  refine ⟨_,rfl,h1,h3,?_⟩
  unfold Format.write
  simp only
  have hp:(0:Int)<((2^(-(((pl x:Int)-1074)+((pl y:Int)-1074)+1074)).toNat:Nat):Int):=by
   have:=Nat.two_pow_pos (-(((pl x:Int)-1074)+((pl y:Int)-1074)+1074)).toNat
   omega
  refine near_congr hp E74_pos ?_ h4
  rw [←hv,E74_eq]
  generalize (if s=true then (-1:Int) else 1)=t
  have he:((((pl x:Int)-1074)+((pl y:Int)-1074)+1074).toNat)+X74=(pl x+pl y)+(-(((pl x:Int)-1074)+((pl y:Int)-1074)+1074)).toNat:=by have:=X74_eq;omega
  have hpow:(2:Int)^(((pl x:Int)-1074)+((pl y:Int)-1074)+1074).toNat*2^X74=2^(pl x+pl y)*2^(-(((pl x:Int)-1074)+((pl y:Int)-1074)+1074)).toNat:=by
   rw [←Int.pow_add,←Int.pow_add,he]
  push_cast
  rw [Int.mul_assoc,Int.mul_assoc,hpow,Int.mul_assoc,Int.mul_assoc]
theorem fma_fin {x y z:Nat} (hx:fin x) (hy:fin y) (hz:fin z) :
  ∃ r,FloatKind.f64.format.fma x y z=some r ∧ ¬nan r∧r<2^64∧Near (key r) (V (key x)*V (key y)+V (key z)*E74) E74:=by
 rw [fmt]
 unfold Format.fma
 rw [read_fin hx,read_fin hy,read_fin hz]
 simp only [Datum.product,Option.bind_some,Datum.sum,Option.map_some]
 have hv:=prod_val x y
 have hz2:=key_of_neg (x:=z)
 rw [←mag_pl z] at hz2
 generalize hi:((pl x:Int)-1074)+((pl y:Int)-1074)=i
 generalize hbase:min i ((pl z:Int)-1074)=base
 have e1:Ieee.signed (neg x ^^ neg y) (mag x*mag y) (i-base).toNat*(2:Int)^(base+2148).toNat=V (key x)*V (key y):=by
  rw [←hv]
  unfold Ieee.signed
  rw [Nat.shiftLeft_eq]
  have he:(i-base).toNat+(base+2148).toNat=pl x+pl y:=by omega
  rw [←he,Nat.pow_add]
  cases (neg x ^^ neg y)<;>simp [Int.natCast_mul,Int.mul_assoc,Int.neg_mul]
 have e2:Ieee.signed (neg z) (mag z) (((pl z:Int)-1074)-base).toNat*(2:Int)^(base+2148).toNat=V (key z)*E74:=by
  rw [hz2,E74_eq]
  unfold Ieee.signed
  rw [Nat.shiftLeft_eq]
  have he:(((pl z:Int)-1074)-base).toNat+(base+2148).toNat=pl z+X74:=by have:=X74_eq;omega
  have hp:(2:Int)^(((pl z:Int)-1074)-base).toNat*2^(base+2148).toNat=2^pl z*2^X74:=by rw [←Int.pow_add,←Int.pow_add,he]
  cases neg z
  ·simp only [Bool.false_eq_true,if_false];push_cast;rw [Int.mul_assoc,hp];grind
  ·simp only [if_true];push_cast;rw [Int.neg_mul,Int.mul_assoc,hp];grind
 generalize Ieee.signed (neg x ^^ neg y) (mag x*mag y) (i-base).toNat=A at *
 generalize Ieee.signed (neg z) (mag z) (((pl z:Int)-1074)-base).toNat=B at *
 obtain ⟨a,b,c⟩:=write_real ((neg x ^^ neg y)&&neg z) (A+B) base
 refine ⟨_,rfl,a,b,?_⟩
 have hp:(0:Int)<2^(-(base+1074)).toNat:=Int.pow_pos (by omega)
 refine near_congr hp E74_pos ?_ c
 rw [←e1,←e2,←Int.add_mul,Int.mul_assoc,Int.mul_assoc,E74_eq,←Int.pow_add,←Int.pow_add]
 congr 2
 have:=X74_eq
 omega
end Go.Fl
namespace Go.Fl
set_option linter.unusedVariables false
def mgr (r:Nat):Nat:=if r<2^52 then r else 2^52+r%2^52
def plr (r:Nat):Nat:=r / 2^52-1
theorem M_eq (r:Nat):M r=mgr r*2^plr r:=by
 unfold mgr plr M
 by_cases h:r<2^52
 ·rw [if_pos h,if_pos h,show r / 2^52=0 by omega];simp
 ·rw [if_neg h,if_neg h]
theorem mgr_lt (r:Nat):mgr r<2^53:=by unfold mgr;split<;>omega
theorem mgr_ge {r:Nat} (h:0<plr r):2^52≤mgr r:=by unfold mgr;unfold plr at h;split<;>omega
theorem plr_le {r s:Nat} (h:r≤s):plr r≤plr s:=by
 unfold plr
 have:=Nat.div_le_div_right (c:=2^52) h
 omega
theorem plr_fin {r:Nat} (h:r<INF):plr r≤2045:=by
 have h0:=INF_eq
 unfold plr;omega
theorem ulp_eq (r:Nat):ulp r=2^plr r:=rfl
theorem rep_key (l:Nat) : ∀ m,m≤2^53 → ∃ r,M r=m*2^l:=by
 induction l with
 | zero=>intro m h;exact ⟨m,by have:=M_at 0 m (.inl rfl) h;simpa using this⟩
 | succ l ih =>
  intro m h
  by_cases h2:2^52≤m
  ·exact ⟨_,M_at (l+1) m (.inr h2) h⟩
  ·obtain ⟨r,hr⟩:=ih (2*m) (by omega)
   refine ⟨r,?_⟩
   rw [hr,show 2^(l+1)=2^l*2 from Nat.pow_succ _ _]
   generalize 2^l=u
   rw [Nat.mul_comm u,←Nat.mul_assoc,Nat.mul_comm 2]
theorem V_abs (k:Int):(V k).natAbs=M k.natAbs:=by
 unfold V
 split
 ·rw [show k.natAbs=k.toNat by omega];omega
 ·rw [show k.natAbs=(-k).toNat by omega];omega
theorem dvd_V {k:Int} {p:Nat} (h:p≤plr k.natAbs):((2^p:Nat):Int) ∣ V k:=by
 rw [←Int.dvd_natAbs,V_abs,M_eq]
 exact Int.natCast_dvd_natCast.2 (Nat.dvd_trans (Nat.pow_dvd_pow 2 h) (Nat.dvd_mul_left _ _))
theorem INF_M (c:Nat) (hc:c=2044):M INF=2^52*(2^c*4):=by
 rw [M_eq]
 have e:mgr INF=2^52:=by decide
 have e2:plr INF=c+2:=by rw [hc];decide
 rw [e,e2,Nat.pow_add]
theorem dvd_le {d:Int} {u n:Nat} (h:((u:Nat):Int) ∣ d) (hb:d.natAbs<(n+1)*u):d.natAbs≤n*u:=by
 have h':u ∣ d.natAbs:=Int.ofNat_dvd_left.1 h
 obtain ⟨q,hq⟩:=h'
 rw [hq] at hb ⊢
 rw [Nat.mul_comm (n+1)] at hb
 have:=Nat.lt_of_mul_lt_mul_left hb
 rw [Nat.mul_comm n]
 exact Nat.mul_le_mul_left _ (by omega)
theorem between {s N:Int} (h:Near s N 1) (h1 : -(INF:Int)<s) (h2:s<INF) (hne:N≠V s) :
  ∃ a:Nat,a<INF∧(M a:Int)<N.natAbs∧(N.natAbs:Int)<M a+ulp a∧((ulp a:Nat):Int) ∣ V s∧(V s-N).natAbs<ulp a:=by
 obtain ⟨_,_,hj⟩:=h
 rcases Int.lt_trichotomy N (V s) with g|g|g
 ·
  have hlo:=(hj (s-1) (by omega) (by omega)).1 (by omega)
  rw [Int.mul_one] at hlo
  by_cases hs:0<s
  ·refine ⟨(s-1).toNat,by omega,?_⟩
   have e0:V (s-1)=M (s-1).toNat:=by rw [←V_nat];congr 1;omega
   have e1:V s=((M (s-1).toNat+ulp (s-1).toNat:Nat):Int):=by rw [←M_succ,←V_nat];congr 1;omega
   have e2:=dvd_V (k:=s) (p:=plr (s-1).toNat) (plr_le (by omega))
   rw [←ulp_eq] at e2
   exact ⟨by omega,by omega,e2,by omega⟩
  ·refine ⟨(-s).toNat,by omega,?_⟩
   have e0:V s = -(M (-s).toNat:Int):=by rw [←V_nat,←V_neg];congr 1;omega
   have e1:V (s-1) = -((M (-s).toNat+ulp (-s).toNat:Nat):Int):=by rw [←M_succ,←V_nat,←V_neg];congr 1;omega
   have e2:=dvd_V (k:=s) (p:=plr (-s).toNat) (plr_le (by omega))
   rw [←ulp_eq] at e2
   exact ⟨by omega,by omega,e2,by omega⟩
 ·exact absurd g hne
 ·have hhi:=(hj (s+1) (by omega) (by omega)).2 (by omega)
  rw [Int.mul_one] at hhi
  by_cases hs:0≤s
  ·refine ⟨s.toNat,by omega,?_⟩
   have e0:V s=M s.toNat:=by rw [←V_nat];congr 1;omega
   have e1:V (s+1)=((M s.toNat+ulp s.toNat:Nat):Int):=by rw [←M_succ,←V_nat];congr 1;omega
   have e2:=dvd_V (k:=s) (p:=plr s.toNat) (plr_le (by omega))
   rw [←ulp_eq] at e2
   exact ⟨by omega,by omega,e2,by omega⟩
  ·refine ⟨(-s-1).toNat,by omega,?_⟩
   have e0:V (s+1) = -(M (-s-1).toNat:Int):=by rw [←V_nat,←V_neg];congr 1;omega
   have e1:V s = -((M (-s-1).toNat+ulp (-s-1).toNat:Nat):Int):=by rw [←M_succ,←V_nat,←V_neg];congr 1;omega
   have e2:=dvd_V (k:=s) (p:=plr (-s-1).toNat) (plr_le (by omega))
   rw [←ulp_eq] at e2
   exact ⟨by omega,by omega,e2,by omega⟩
theorem rep_int {d:Int} {p:Nat} (hd:((2^p:Nat):Int) ∣ d) (hb:d.natAbs≤2^53*2^p) (hp:p≤2044) : ∃ t:Int,-(INF:Int)<t∧t<INF∧V t=d:=by
 obtain ⟨n,hn⟩:=Int.ofNat_dvd_left.1 hd
 have hpos:0<2^p:=Nat.two_pow_pos p
 rw [Nat.mul_comm] at hn
 have hn2:n≤2^53:=by
  rw [hn] at hb
  exact Nat.le_of_mul_le_mul_right hb hpos
 obtain ⟨r,hr⟩:=rep_key p n hn2
 have hlt:M r<M INF:=by
  obtain ⟨c,hc⟩ : ∃ c:Nat,c=2044:=⟨_,rfl⟩
  rw [hr,INF_M c hc]
  have e1:n*2^p≤2^53*2^c:=Nat.mul_le_mul hn2 (Nat.pow_le_pow_right (by omega) (by omega))
  have e3:0<(2:Nat)^c:=Nat.two_pow_pos _
  generalize (2:Nat)^c=u at *
  omega
 have hrI:=M_lt_iff.1 hlt
 by_cases hs:0≤d
 ·exact ⟨r,by omega,by omega,by rw [V_nat];omega⟩
 ·exact ⟨-(r:Int),by omega,by omega,by rw [V_neg,V_nat];omega⟩
theorem first_exact {x y s:Int} (hx:x.natAbs<INF) (hy:y.natAbs≤x.natAbs) (h:Near s (V x+V y) 1) (h1 : -(INF:Int)<s) (h2:s<INF) :
  ∃ t:Int,-(INF:Int)<t∧t<INF∧V t=V s-V x:=by
 by_cases hne:V x+V y=V s
 ·exact ⟨y,by omega,by omega,by omega⟩
 ·obtain ⟨a,ha,b1,b2,b3,b4⟩:=between h h1 h2 hne
  rw [ulp_eq] at b2 b3 b4
  have hpa:=plr_fin ha
  have hpxy:=plr_le hy
  have ax:=V_abs x
  have ay:=V_abs y
  rw [M_eq] at ax ay
  have mx:=mgr_lt x.natAbs
  have my:=mgr_lt y.natAbs
  have hMa:=M_eq a
  have hMxy:(V y).natAbs≤(V x).natAbs:=by rw [V_abs,V_abs];exact M_le hy
  have hga:=fun h=>mgr_ge (r:=a) h
  have dx:=fun p (hp:p≤plr x.natAbs)=>dvd_V (k:=x) hp
  have dy:=fun p (hp:p≤plr y.natAbs)=>dvd_V (k:=y) hp
  generalize plr x.natAbs=px at *
  generalize plr y.natAbs=py at *
  generalize plr a=pu at *
  have c1:py<pu:=by
   rcases Nat.lt_or_ge py pu with g|g
   ·exact g
   ·exfalso
    have dN:((2^pu:Nat):Int) ∣ V x+V y:=Int.dvd_add (dx pu (by omega)) (dy pu g)
    have dd:((2^pu:Nat):Int) ∣ V s-(V x+V y):=Int.dvd_sub b3 dN
    have:=Int.eq_zero_of_dvd_of_natAbs_lt_natAbs dd (by omega)
    omega
  have c2:pu≤px+1:=by
   rcases Nat.lt_or_ge (px+1) pu with g|g
   ·exfalso
    have e1:=hga (by omega)
    have e2:2^52*2^(px+2)≤M a:=by rw [hMa];exact Nat.mul_le_mul e1 (Nat.pow_le_pow_right (by omega) g)
    have e3:(V x).natAbs≤2^53*2^px:=by rw [ax];exact Nat.mul_le_mul_right _ (by omega)
    have e4:(2:Nat)^(px+2)=2^px*4:=Nat.pow_add 2 px 2
    rw [e4] at e2
    generalize (2:Nat)^px=v at *
    omega
   ·exact g
  have e5:(V y).natAbs≤(2^53-1)*2^py:=by rw [ay];exact Nat.mul_le_mul_right _ (by omega)
  rcases Nat.lt_or_ge px pu with g|g
  ·obtain rfl:pu=px+1:=by omega
   have e6:(2:Nat)^(px+1)=2^px*2:=Nat.pow_succ _ _
   have e7:(V y).natAbs≤(2^53-1)*2^px:=Nat.le_trans e5 (Nat.mul_le_mul_left _ (Nat.pow_le_pow_right (by omega) (by omega)))
   have d1:((2^px:Nat):Int) ∣ V s-V x:=Int.dvd_sub (Int.dvd_trans (Int.natCast_dvd_natCast.2 (Nat.pow_dvd_pow 2 (by omega))) b3) (dx px (Nat.le_refl _))
   rw [e6] at b4
   refine rep_int d1 (dvd_le d1 ?_) (by omega)
   generalize (2:Nat)^px=v at *
   omega
  ·have e6:(2:Nat)^pu=2^(pu-1)*2:=by rw [←Nat.pow_succ];congr 1;omega
   have e7:(V y).natAbs≤(2^53-1)*2^(pu-1):=Nat.le_trans e5 (Nat.mul_le_mul_left _ (Nat.pow_le_pow_right (by omega) (by omega)))
   have d1:((2^pu:Nat):Int) ∣ V s-V x:=Int.dvd_sub b3 (dx pu g)
   have hlt:(V s-V x).natAbs≤2^52*2^pu:=by
    refine dvd_le d1 ?_
    rw [e6] at b4 ⊢
    generalize (2:Nat)^(pu-1)=v at *
    omega
   refine rep_int (p:=pu-1) (Int.dvd_trans (Int.natCast_dvd_natCast.2 (Nat.pow_dvd_pow 2 (by omega))) d1) ?_ (by omega)
   rw [e6] at hlt
   generalize (2:Nat)^(pu-1)=v at *
   omega
end Go.Fl
namespace Go.Fl
set_option linter.unusedVariables false
def Cut (c:Int→Int):Prop := ∀ j k,j<k→(0≤c k→0<c j)∧(c j≤0→c k<0)
def RD (c:Int→Int) (k:Int):Prop := -PI≤k∧k<PI∧(k ≠ -PI→0≤c k)∧(k+1≠PI→c (k+1)<0)
def RU (c:Int→Int) (k:Int):Prop := -PI<k∧k≤PI∧(k≠PI→c k≤0)∧(k-1 ≠ -PI→0<c (k-1))
theorem RD_one {c:Int→Int} (hc:Cut c) {j k:Int} (hj:RD c j) (hk:RD c k):j=k:=by
 obtain ⟨j1,j2,j3,j4⟩:=hj
 obtain ⟨k1,k2,k3,k4⟩:=hk
 rcases Int.lt_trichotomy j k with h|h|h
 ·exfalso
  have a:=k3 (by omega)
  have b:=j4 (by omega)
  by_cases e:j+1=k
  ·rw [e] at b;omega
  ·have:=(hc (j+1) k (by omega)).1 a;omega
 ·exact h
 ·exfalso
  have a:=j3 (by omega)
  have b:=k4 (by omega)
  by_cases e:k+1=j
  ·rw [e] at b;omega
  ·have:=(hc (k+1) j (by omega)).1 a;omega
theorem RU_one {c:Int→Int} (hc:Cut c) {j k:Int} (hj:RU c j) (hk:RU c k):j=k:=by
 obtain ⟨j1,j2,j3,j4⟩:=hj
 obtain ⟨k1,k2,k3,k4⟩:=hk
 rcases Int.lt_trichotomy j k with h|h|h
 ·exfalso
  have a:=j3 (by omega)
  have b:=k4 (by omega)
  by_cases e:j=k-1
  ·rw [e] at a;omega
  ·have:=(hc j (k-1) (by omega)).2 a;omega
 ·exact h
 ·exfalso
  have a:=k3 (by omega)
  have b:=j4 (by omega)
  by_cases e:k=j-1
  ·rw [e] at a;omega
  ·have:=(hc k (j-1) (by omega)).2 a;omega
def Rnd (up:Bool) (c:Int→Int) (k:Int):Prop:=if up then RU c k else RD c k
noncomputable def rnd (up:Bool) (c:Int→Int):Int:=Classical.epsilon (Rnd up c)
theorem rnd_eq {up:Bool} {c:Int→Int} (hc:Cut c) {k:Int} (h:Rnd up c k):rnd up c=k:=by
 have h1:Rnd up c (rnd up c):=Classical.epsilon_spec ⟨k,h⟩
 cases up
 ·exact RD_one hc h1 h
 ·exact RU_one hc h1 h
theorem Rnd_rg {up:Bool} {c:Int→Int} {k:Int} (h:Rnd up c k):Rg k:=by
 cases up
 ·exact ⟨h.1,Int.le_of_lt h.2.1⟩
 ·exact ⟨Int.le_of_lt h.1,h.2.1⟩
def cAdd (x y k:Int):Int:=V x+V y-V k
def cMul (x y k:Int):Int:=V x*V y-V k*E74
def cDiv (x y k:Int):Int:=if 0<y then V x*E74-V k*V y else V k*V y-V x*E74
def cSqrt (x k:Int):Int:=if k<0 then 1 else V x*E74-V k*V k
theorem cut_add (x y:Int):Cut (cAdd x y):=by
 intro j k h
 have:=V_lt h
 unfold cAdd
 exact ⟨fun _=>by omega,fun _=>by omega⟩
theorem cut_mul (x y:Int):Cut (cMul x y):=by
 intro j k h
 have:=Int.mul_lt_mul_of_pos_right (V_lt h) E74_pos
 unfold cMul
 exact ⟨fun _=>by omega,fun _=>by omega⟩
theorem cut_div (x y:Int) (hy:y≠0):Cut (cDiv x y):=by
 intro j k h
 unfold cDiv
 by_cases h0:0<y
 ·have hv:0<V y:=by rw [←V_zero];exact V_lt h0
  have:=Int.mul_lt_mul_of_pos_right (V_lt h) hv
  rw [if_pos h0,if_pos h0]
  exact ⟨fun _=>by omega,fun _=>by omega⟩
 ·have hv:V y<0:=by rw [←V_zero];exact V_lt (by omega)
  have:=Int.mul_lt_mul_of_neg_right (V_lt h) hv
  rw [if_neg h0,if_neg h0]
  exact ⟨fun _=>by omega,fun _=>by omega⟩
theorem cut_sqrt (x:Int):Cut (cSqrt x):=by
 intro j k h
 unfold cSqrt
 by_cases hj:j<0
 ·rw [if_pos hj]
  exact ⟨fun _=>by omega,fun hh=>by omega⟩
 ·rw [if_neg hj,if_neg (by omega)]
  have h0:0≤V j:=by rw [←V_zero];exact V_le (by omega)
  have:=Int.mul_self_lt_mul_self h0 (V_lt h)
  exact ⟨fun _=>by omega,fun _=>by omega⟩
theorem PI_INF:PI=(INF:Int):=rfl
theorem rest_sign {r N:Int} (h:Near r N 1):(0<r↔0<N)∧(r<0↔N<0):=by
 obtain ⟨h1,h2,h3⟩:=h
 have hI:(1:Int)<INF:=by decide
 have v0:=h3 0 (by omega) (by omega)
 have v1:=h3 1 (by omega) (by omega)
 have w1:=h3 (-1) (by omega) (by omega)
 have e1:V 1=1:=by decide
 have e2:V (-1) = -1:=by decide
 rw [V_zero] at v0
 rw [e1] at v1
 rw [e2] at w1
 refine ⟨⟨fun h=>by have:=v0.1 h;omega,fun h => ?_⟩,⟨fun h=>by have:=v0.2 h;omega,fun h => ?_⟩⟩
 ·rcases Int.lt_or_le 0 r with g|g
  ·exact g
  ·have:=v1.2 (by omega);omega
 ·rcases Int.lt_or_le r 0 with g|g
  ·exact g
  ·have:=w1.1 (by omega);omega
theorem sum_fin {x y s:Int} (h:Near s (V x+V y) 1) (h1 : -PI<s) (h2:s<PI) (up:Bool) :
  Rnd up (cAdd x y) (if 0<V x+V y-V s∧up=true then s+1 else if V x+V y-V s<0∧up=false then s-1 else s):=by
 have hI:=PI_INF
 obtain ⟨_,_,h3⟩:=h
 have hup:=h3 (s+1) (by omega) (by omega)
 have hdn:=h3 (s-1) (by omega) (by omega)
 have m1:=V_lt (show s<s+1 by omega)
 have m2:=V_lt (show s-1<s by omega)
 cases up
 ·rw [if_neg (by simp)]
  by_cases hn:V x+V y-V s<0
  ·rw [if_pos ⟨hn,rfl⟩]
   refine ⟨by omega,by omega,fun _ => ?_,fun _ => ?_⟩
   ·unfold cAdd;have:=hdn.1 (by omega);omega
   ·unfold cAdd;rw [show s-1+1=s by omega];omega
  ·rw [if_neg (by intro hh;exact hn hh.1)]
   refine ⟨by omega,by omega,fun _=>by unfold cAdd;omega,fun _ => ?_⟩
   unfold cAdd;have:=hup.2 (by omega);omega
 ·by_cases hn:0<V x+V y-V s
  ·rw [if_pos ⟨hn,rfl⟩]
   refine ⟨by omega,by omega,fun _ => ?_,fun _ => ?_⟩
   ·unfold cAdd;have:=hup.2 (by omega);omega
   ·unfold cAdd;rw [show s+1-1=s by omega];omega
  ·rw [if_neg (by intro hh;exact hn hh.1),if_neg (by simp)]
   refine ⟨by omega,by omega,fun _=>by unfold cAdd;omega,fun _ => ?_⟩
   unfold cAdd;have:=hdn.1 (by omega);omega
theorem sum_inf {x y s:Int} (h:Near s (V x+V y) 1) (hs:s=PI∨s = -PI) (up:Bool) :
  Rnd up (cAdd x y) (if (decide (0<s)==up)=true then s else if 0<s then PI-1 else 1-PI):=by
 have hI:=PI_INF
 have hP:=PI_pos
 obtain ⟨_,_,h3⟩:=h
 rcases hs with rfl|rfl
 ·have hdn:=(h3 (PI-1) (by omega) (by omega)).1 (by omega)
  cases up
  ·rw [show decide (0<PI)=true from decide_eq_true (by omega)]
   simp only [Bool.true_beq,Bool.false_eq_true,if_false]
   rw [if_pos (by omega)]
   refine ⟨by omega,by omega,fun _=>by unfold cAdd;omega,fun hh=>by omega⟩
  ·rw [show decide (0<PI)=true from decide_eq_true (by omega)]
   simp only [Bool.true_beq,if_true]
   refine ⟨by omega,by omega,fun hh=>by omega,fun _=>by unfold cAdd;omega⟩
 ·have hup:=(h3 (-PI+1) (by omega) (by omega)).2 (by omega)
  cases up
  ·rw [show decide (0 < -PI)=false from decide_eq_false (by omega)]
   simp only [BEq.rfl,if_true]
   refine ⟨by omega,by omega,fun hh=>by omega,fun _=>by unfold cAdd;omega⟩
  ·rw [show decide (0 < -PI)=false from decide_eq_false (by omega)]
   simp only [Bool.false_beq,Bool.not_true,Bool.false_eq_true,if_false]
   rw [if_neg (by omega)]
   refine ⟨by omega,by omega,fun _ => ?_,fun hh=>by omega⟩
   unfold cAdd;rw [show 1-PI = -PI+1 by omega];omega
end Go.Fl
namespace Go.Fl
set_option linter.unusedVariables false
set_option linter.unusedSimpArgs false
def MagD (r N D:Nat):Prop:=r<INF∧M r*D≤N∧(r+1≠INF→N<M (r+1)*D)
def MagU (r N D:Nat):Prop:=r≤INF∧(r≠INF→N≤M r*D)∧(r≠0→M (r-1)*D<N)
theorem magD_pos {r N D:Nat} {c:Int→Int} (hc : ∀ k,c k=(N:Int)-V k*D) (h:MagD r N D):RD c r:=by
 obtain ⟨h1,h2,h3⟩:=h
 have hI:=PI_INF
 refine ⟨by omega,by omega,fun _ => ?_,fun hne => ?_⟩
 ·rw [hc,V_nat];have:((M r*D:Nat):Int)≤N:=by omega
  push_cast at this;omega
 ·have:=h3 (by omega)
  rw [hc,show (r:Int)+1=((r+1:Nat):Int) by omega,V_nat]
  have:(N:Int)<((M (r+1)*D:Nat):Int):=by omega
  rw [Int.natCast_mul] at this;omega
theorem magU_pos {r N D:Nat} {c:Int→Int} (hD:0<D) (hc : ∀ k,c k=(N:Int)-V k*D) (h:MagU r N D):RU c r:=by
 obtain ⟨h1,h2,h3⟩:=h
 have hI:=PI_INF
 refine ⟨by have:=PI_pos;omega,by omega,fun hne => ?_,fun hne => ?_⟩
 ·have:=h2 (by omega)
  rw [hc,V_nat];have:(N:Int)≤((M r*D:Nat):Int):=by omega
  rw [Int.natCast_mul] at this;omega
 ·by_cases h0:r=0
  ·subst h0
   rw [hc,show ((0:Nat):Int)-1 = -1 by omega,show V (-1) = -1 by decide];omega
  ·have:=h3 h0
   rw [hc,show (r:Int)-1=((r-1:Nat):Int) by omega,V_nat]
   have:((M (r-1)*D:Nat):Int)<(N:Int):=by omega
   rw [Int.natCast_mul] at this;omega
theorem magU_neg {r N D:Nat} {c:Int→Int} (hD:0<D) (hc : ∀ k,c k = -(N:Int)-V k*D) (h:MagU r N D):RD c (-(r:Int)):=by
 obtain ⟨h1,h2,h3⟩:=h
 have hI:=PI_INF
 refine ⟨by omega,by have:=PI_pos;omega,fun hne => ?_,fun hne => ?_⟩
 ·have:=h2 (by omega)
  rw [hc,V_neg,V_nat,Int.neg_mul];have:(N:Int)≤((M r*D:Nat):Int):=by omega
  rw [Int.natCast_mul] at this;omega
 ·by_cases h0:r=0
  ·subst h0
   rw [hc,show -((0:Nat):Int)+1=1 by omega,show V 1=1 by decide];omega
  ·have:=h3 h0
   rw [hc,show -(r:Int)+1 = -((r-1:Nat):Int) by omega,V_neg,V_nat,Int.neg_mul]
   have:((M (r-1)*D:Nat):Int)<(N:Int):=by omega
   rw [Int.natCast_mul] at this;omega
theorem magD_neg {r N D:Nat} {c:Int→Int} (hc : ∀ k,c k = -(N:Int)-V k*D) (h:MagD r N D):RU c (-(r:Int)):=by
 obtain ⟨h1,h2,h3⟩:=h
 have hI:=PI_INF
 refine ⟨by omega,by have:=PI_pos;omega,fun _ => ?_,fun hne => ?_⟩
 ·rw [hc,V_neg,V_nat,Int.neg_mul];have:((M r*D:Nat):Int)≤N:=by omega
  rw [Int.natCast_mul] at this;omega
 ·have:=h3 (by omega)
  rw [hc,show -(r:Int)-1 = -((r+1:Nat):Int) by omega,V_neg,V_nat,Int.neg_mul]
  have:(N:Int)<((M (r+1)*D:Nat):Int):=by omega
  rw [Int.natCast_mul] at this;omega
def keepOf (first:Int):Nat:=if first < -1022 then (first+1075).toNat else 53
def placeOf (first:Int):Nat:=if first < -1022 then 0 else (first+1022).toNat
theorem mag_of {H N D:Nat} {first:Int} {x:Bool} (hH1:2^63≤H) (hH2:H<2^64) (hD:0<D) (hf:first≤1023)
  (h1:H*2^(first+1011).toNat*D≤N*2^(-(first+1011)).toNat) (h2:N*2^(-(first+1011)).toNat<(H+1)*2^(first+1011).toNat*D)
  (hx:N*2^(-(first+1011)).toNat=H*2^(first+1011).toNat*D↔x=false) :
  MagD (placeOf first*2^52+H / 2^(64-keepOf first)) N D ∧
  MagU (placeOf first*2^52+H / 2^(64-keepOf first)+(if x=true∨H%2^(64-keepOf first)≠0 then 1 else 0)) N D:=by
 generalize hl:placeOf first=l
 generalize hk:keepOf first=keep
 have hk53:keep≤53:=by unfold keepOf at hk;split at hk<;>omega
 generalize hg:64-keep=g
 generalize ha:(first+1011).toNat=a at *
 generalize hb:(-(first+1011)).toNat=b at *
 have hG:0<2^g:=Nat.two_pow_pos g
 have hB:0<2^b:=Nat.two_pow_pos b
 have hA:0<2^a:=Nat.two_pow_pos a
 have hL:0<2^l:=Nat.two_pow_pos l
 generalize hq:H / 2^g=q
 have hqm:=Nat.div_add_mod H (2^g)
 rw [hq] at hqm
 have hrm:=Nat.mod_lt H hG
 generalize hr:H%2^g=r at *
 have hexp:l+b=g+a∨(keep=0∧l+b>g+a∧l=0):=by
  unfold placeOf at hl;unfold keepOf at hk
  split at hl<;>split at hk<;>omega
 have hq53:q<2^53:=by
  rw [←hq,Nat.div_lt_iff_lt_mul hG,←Nat.pow_add]
  exact Nat.lt_of_lt_of_le hH2 (Nat.pow_le_pow_right (by omega) (by omega))
 have hq52:l=0∨2^52≤q:=by
  unfold placeOf at hl
  split at hl
  ·left;omega
  ·right
   unfold keepOf at hk
   rw [if_neg (by assumption)] at hk
   rw [←hq,show g=11 by omega]
   omega
 have m0:=M_at l q hq52 (by omega)
 have m1:=M_at l (q+1) (by omega) (by omega)
 have hrI:l*2^52+q<INF:=by
  have h0:=INF_eq
  unfold placeOf at hl
  split at hl<;>omega
 have key:q*2^l*D≤N∧N<(q+1)*2^l*D∧(N=q*2^l*D↔(x=false∧r=0)):=by
  rcases hexp with he|⟨k0,he,l0⟩
  ·have hp:2^l*2^b=2^g*2^a:=by rw [←Nat.pow_add,←Nat.pow_add,he]
   have e1:q*2^l*D*2^b=2^g*q*2^a*D:=by
    have:q*2^l*D*2^b=q*(2^l*2^b)*D:=by simp only [Nat.mul_assoc,Nat.mul_comm,Nat.mul_left_comm]
    rw [this,hp];simp only [Nat.mul_assoc,Nat.mul_comm,Nat.mul_left_comm]
   have e2:(q+1)*2^l*D*2^b=2^g*(q+1)*2^a*D:=by
    have:(q+1)*2^l*D*2^b=(q+1)*(2^l*2^b)*D:=by simp only [Nat.mul_assoc,Nat.mul_comm,Nat.mul_left_comm]
    rw [this,hp];simp only [Nat.mul_assoc,Nat.mul_comm,Nat.mul_left_comm]
   have e3:2^g*q*2^a*D≤H*2^a*D:=Nat.mul_le_mul_right _ (Nat.mul_le_mul_right _ (by omega))
   have e4:(H+1)*2^a*D≤2^g*(q+1)*2^a*D:=Nat.mul_le_mul_right _ (Nat.mul_le_mul_right _ (by rw [Nat.mul_add];omega))
   refine ⟨Nat.le_of_mul_le_mul_right (show q*2^l*D*2^b≤N*2^b by rw [e1];omega) hB,Nat.lt_of_mul_lt_mul_right (show N*2^b<(q+1)*2^l*D*2^b by rw [e2];omega),?_⟩
   constructor
   ·intro hN
    have e5:2^g*q*2^a*D=N*2^b:=by rw [←e1,←hN]
    have e6:N*2^b=H*2^a*D:=by omega
    have e7:2^g*q*2^a*D=H*2^a*D:=by omega
    have e8:2^g*q=H:=Nat.eq_of_mul_eq_mul_right hA (Nat.eq_of_mul_eq_mul_right hD e7)
    exact ⟨hx.1 e6,by omega⟩
   ·rintro ⟨hx0,hr0⟩
    have e6:=hx.2 hx0
    have e8:2^g*q=H:=by omega
    refine Nat.eq_of_mul_eq_mul_right hB ?_
    rw [e6,e1,e8]
  ·have g64:g=64:=by omega
   have q0:q=0:=by rw [←hq,g64];exact Nat.div_eq_of_lt hH2
   have hrH:r=H:=by rw [←hr,g64];exact Nat.mod_eq_of_lt hH2
   rw [q0,l0]
   simp only [Nat.zero_mul,Nat.zero_add,Nat.pow_zero,Nat.one_mul]
   have e1:0<H*2^a*D:=Nat.mul_pos (Nat.mul_pos (by omega) hA) hD
   have hN0:0<N:=by
    rcases Nat.eq_zero_or_pos N with h|h
    ·rw [h,Nat.zero_mul] at h1;omega
    ·exact h
   have e2:(H+1)*2^a*D≤2^b*D:=by
    refine Nat.mul_le_mul_right _ ?_
    refine Nat.le_trans (Nat.mul_le_mul_right _ (show H+1≤2^64 by omega)) ?_
    rw [←Nat.pow_add]
    exact Nat.pow_le_pow_right (by omega) (by omega)
   refine ⟨by omega,?_,⟨fun h=>by omega,fun h=>by omega⟩⟩
   refine Nat.lt_of_mul_lt_mul_right (a:=2^b) ?_
   rw [Nat.mul_comm D];omega
 obtain ⟨k1,k2,k3⟩:=key
 refine ⟨⟨hrI,by rw [m0];exact k1,fun _=>by rw [Nat.add_assoc,m1];exact k2⟩,?_⟩
 by_cases hz:x=true∨r≠0
 ·rw [if_pos hz]
  refine ⟨by omega,fun _=>by rw [Nat.add_assoc,m1];omega,fun _ => ?_⟩
  rw [Nat.add_sub_cancel,m0]
  have:N≠q*2^l*D:=fun h=>by
   obtain ⟨z1,z2⟩:=k3.1 h
   rcases hz with z|z
   ·rw [z1] at z;cases z
   ·exact z z2
  omega
 ·rw [if_neg hz]
  have hx0:x=false:=by
   cases x
   ·rfl
   ·exact absurd (.inl rfl) hz
  have hr0:r=0:=Decidable.byContradiction fun h=>hz (.inr h)
  have hN:=k3.2 ⟨hx0,hr0⟩
  refine ⟨by omega,fun _=>by rw [Nat.add_zero,m0];omega,fun hne => ?_⟩
  rw [Nat.add_zero] at hne ⊢
  have hlt:=Nat.mul_lt_mul_of_pos_right (M_lt (show l*2^52+q-1<l*2^52+q by omega)) hD
  rw [m0] at hlt
  omega
theorem mag_over {H N D:Nat} {first:Int} (hH1:2^63≤H) (hD:0<D) (hf:1023<first)
  (h1:H*2^(first+1011).toNat*D≤N*2^(-(first+1011)).toNat):MagD (INF-1) N D∧MagU INF N D:=by
 have hI:1<INF:=by decide
 rw [show (-(first+1011)).toNat=0 by omega,Nat.pow_zero,Nat.mul_one] at h1
 have hM:M INF*D≤N:=by
  refine Nat.le_trans (Nat.mul_le_mul_right _ ?_) h1
  obtain ⟨c,hc⟩ : ∃ c:Nat,c=2044:=⟨_,rfl⟩
  rw [INF_M c hc]
  obtain ⟨d,hd⟩ : ∃ d:Nat,d=2035:=⟨_,rfl⟩
  have e0:(2:Nat)^c=2^d*2^9:=by rw [←Nat.pow_add];congr 1;omega
  have e1:2^d≤2^((first+1011).toNat):=Nat.pow_le_pow_right (by omega) (by omega)
  have e2:2^63*2^d≤H*2^((first+1011).toNat):=Nat.mul_le_mul hH1 e1
  rw [e0]
  generalize (2:Nat)^d=u at *
  omega
 have hlt:=Nat.mul_lt_mul_of_pos_right (M_lt (show INF-1<INF by omega)) hD
 refine ⟨⟨by omega,by omega,fun h=>by omega⟩,⟨Nat.le_refl _,fun h=>absurd rfl h,fun _=>by omega⟩⟩
end Go.Fl
namespace Go.Fl
open Ieee
set_option linter.unusedVariables false
set_option linter.unusedSimpArgs false
theorem u64_frac (x:Nat) (h:Wd x):bits BinOp.and IntKind.u64 (x:Int) 4503599627370495=((x%2^52:Nat):Int):=by
 unfold Wd at h
 rw [u64_and (x:Int) 4503599627370495 (by omega) (by omega) (by omega) (by omega)]
 congr 1
 rw [Int.toNat_natCast,←Nat.and_two_pow_sub_one_eq_mod]
 rfl
theorem u64_field (x:Nat) (h:x<2^64):bits BinOp.and IntKind.u64 (x:Int) 2047=((x%2^11:Nat):Int):=by
 rw [u64_and (x:Int) 2047 (by omega) (by omega) (by omega) (by omega)]
 congr 1
 rw [Int.toNat_natCast,←Nat.and_two_pow_sub_one_eq_mod]
 rfl
theorem u64_or52 (x:Nat) (h:x<2^52):bits BinOp.or IntKind.u64 (x:Int) 4503599627370496=((2^52+x:Nat):Int):=by
 rw [u64_or (x:Int) 4503599627370496 (by omega) (by omega) (by omega) (by omega)]
 congr 1
 rw [Int.toNat_natCast,Nat.or_comm]
 have:=Nat.two_pow_add_eq_or_of_lt h 1
 rw [Nat.mul_one] at this
 exact this.symm
theorem word_parts (x:Nat) (h:Wd x):mgr (rung x)=(if x / 2^52%2^11=0 then x%2^52 else 2^52+x%2^52)∧(plr (rung x):Int)=(if x / 2^52%2^11=0 then 0 else ((x / 2^52%2^11:Nat):Int)-1):=by
 unfold mgr plr rung
 by_cases h0:x / 2^52%2^11=0
 ·rw [if_pos h0,if_pos h0,if_pos (by omega)]
  exact ⟨by omega,by omega⟩
 ·rw [if_neg h0,if_neg h0,if_neg (by omega)]
  exact ⟨by omega,by omega⟩
theorem M_binades {r:Nat} (h:2^52≤r) (k:Nat):M (r+k*2^52)=M r*2^k:=by
 unfold M
 rw [if_neg (by omega),if_neg (by omega)]
 rw [show (r+k*2^52)%2^52=r%2^52 by omega,show (r+k*2^52) / 2^52-1=(r / 2^52-1)+k by omega,Nat.pow_add,Nat.mul_assoc]
theorem M_inj {r s:Nat} (h:M r=M s):r=s:=by
 have a:=M_le_iff.1 (Nat.le_of_eq h);have b:=M_le_iff.1 (Nat.le_of_eq h.symm);omega
theorem nearest_nat (q:Nat) (h:q≤2^53) (h0:0<q) : ∃ r:Nat,FloatKind.f64.nearest (q:Int)=r∧r<INF∧M r=q*2^X74:=by
 obtain ⟨r,hr⟩:=rep_key X74 q h
 have hX:=X74_eq
 have hlt:r<INF:=by
  refine M_lt_iff.1 ?_
  obtain ⟨c,hc⟩ : ∃ c:Nat,c=2044:=⟨_,rfl⟩
  rw [hr,INF_M c hc]
  have e1:q*2^X74≤2^53*2^X74:=Nat.mul_le_mul_right _ h
  obtain ⟨d,hd⟩ : ∃ d:Nat,d+X74=c:=⟨970,by omega⟩
  have e2:(2:Nat)^c=2^d*2^X74:=by rw [←Nat.pow_add,hd]
  have e3:2^1≤2^d:=Nat.pow_le_pow_right (by omega) (by omega)
  have e4:2*2^X74≤2^d*2^X74:=Nat.mul_le_mul_right _ (by omega)
  rw [e2]
  have e5:0<2^X74:=Nat.two_pow_pos _
  generalize (2:Nat)^d*2^X74=u at *
  generalize (2:Nat)^X74=v at *
  omega
 refine ⟨r,?_,hlt,hr⟩
 have e:FloatKind.f64.nearest (q:Int)=double.nearest false q 0:=by
  show double.write (.number (decide ((q:Int)<0)) (q:Int).natAbs 0)=_
  rw [show decide ((q:Int)<0)=false from decide_eq_false (by omega),Int.natAbs_natCast]
  rfl
 rw [e]
 obtain ⟨hn,hs,hw,hN⟩:=write_near false q 0 h0
 have hI:=INF_eq
 have hk:=near_exact hN (m:=(r:Int)) (by omega) (by omega) (by
  rw [V_nat,hr]
  rw [show ((0:Int)+1074).toNat=X74 by omega,show (-((0:Int)+1074)).toNat=0 by omega]
  simp)
 have hk0:key (double.nearest false q 0)≠0:=by
  rw [hk]
  intro h1
  obtain rfl:r=0:=by omega
  rw [M_zero] at hr
  have:=Nat.mul_pos h0 (Nat.two_pow_pos X74)
  omega
 rw [word_of_key hw hk0,hk]
 unfold ofKey
 rw [if_pos (by omega)]
 omega
end Go.Fl
namespace Go.Fl
set_option linter.unusedVariables false
theorem F_range {q F:Nat} (h0:0<q) (hq:q≤2^53) (hF:M F=q*2^X74):1023*2^52≤F∧F≤1076*2^52:=by
 have hX:=X74_eq
 obtain ⟨c,hc⟩ : ∃ c:Nat,c=1022:=⟨_,rfl⟩
 have e1:=M_at c (2^52) (.inr (by omega)) (by omega)
 have e2:=M_at (c+53) (2^52) (.inr (by omega)) (by omega)
 have p1:(2:Nat)^52*2^c=2^X74:=by rw [←Nat.pow_add];exact congrArg (fun t=>2^t) (by omega)
 have p2:(2:Nat)^52*2^(c+53)=2^53*2^X74:=by rw [←Nat.pow_add,←Nat.pow_add];exact congrArg (fun t=>2^t) (by omega)
 rw [p1] at e1
 rw [p2] at e2
 constructor
 ·have:M (c*2^52+2^52)≤M F:=by
   rw [e1,hF]
   have:=Nat.mul_le_mul_right (2^X74) h0
   omega
  have:=M_le_iff.1 this
  omega
 ·have:M F≤M ((c+53)*2^52+2^52):=by rw [e2,hF];exact Nat.mul_le_mul_right _ hq
  have:=M_le_iff.1 this
  omega
variable {q F r:Nat} {p:Int}
theorem MF_up (hF:M F=q*2^X74) (hr:M r=q*2^(p+1074).toNat) (hp:0≤p):M r=M F*2^p.toNat:=by
 have hX:=X74_eq
 rw [hr,hF,Nat.mul_assoc,←Nat.pow_add];congr 2;omega
theorem MF_down (hF:M F=q*2^X74) (hr:M r=q*2^(p+1074).toNat) (hp:p≤0) (h1 : -1074≤p):M F=M r*2^(-p).toNat:=by
 have hX:=X74_eq
 rw [hr,hF,Nat.mul_assoc,←Nat.pow_add];congr 2;omega
theorem ld_norm (hF:M F=q*2^X74) (hr:M r=q*2^(p+1074).toNat) (h1 : -1074≤p) (hf:2^52≤F) (hE:1≤p+((F / 2^52:Nat):Int)):(r:Int)=(p+((F / 2^52:Nat):Int))*2^52+((F%2^52:Nat):Int):=by
 rcases Int.le_total 0 p with hp|hp
 ·have h:=MF_up hF hr hp
  rw [←M_binades hf] at h
  have:=M_inj h
  omega
 ·have h:=MF_down hF hr hp h1
  obtain ⟨k,hk⟩ : ∃ k:Nat,k=(-p).toNat:=⟨_,rfl⟩
  rw [←hk] at h
  obtain ⟨W,hW⟩ : ∃ W:Nat,W+k*2^52=F:=⟨F-k*2^52,by omega⟩
  have hW2:2^52≤W:=by omega
  rw [←hW,M_binades hW2] at h
  have:=M_inj (Nat.eq_of_mul_eq_mul_right (Nat.two_pow_pos k) h)
  omega
theorem ld_inf (h0:0<q) (hq:q≤2^53) (hF:M F=q*2^X74) (hr:M r=q*2^(p+1074).toNat) (hrI:r≤INF) (hE:1023<p+((F / 2^52:Nat):Int)-1023):r=INF:=by
 obtain ⟨f1,f2⟩:=F_range h0 hq hF
 have hp:0≤p:=by omega
 have h:=MF_up hF hr hp
 rw [←M_binades (by omega)] at h
 have:=M_inj h
 have hI:=INF_eq
 omega
theorem ld_den (h0:0<q) (hF:M F=q*2^X74) (hr:M r=q*2^(p+1074).toNat) (h1 : -1074≤p) (hp:p ≤ -53) (hf:1023*2^52≤F) :
  ∃ W:Nat,(W:Int)=(p+53+((F / 2^52:Nat):Int))*2^52+((F%2^52:Nat):Int)∧M W*M 4368491638549381120=M r*2^X74:=by
 have hX:=X74_eq
 obtain ⟨k,hk⟩ : ∃ k:Nat,k=(-(p+53)).toNat:=⟨_,rfl⟩
 obtain ⟨W,hW⟩ : ∃ W:Nat,W+k*2^52=F:=⟨F-k*2^52,by omega⟩
 refine ⟨W,by omega,?_⟩
 have hW2:2^52≤W:=by omega
 have h:=MF_down hF hr (by omega) h1
 rw [←hW,M_binades hW2] at h
 have e:(2:Nat)^(-p).toNat=2^53*2^k:=by rw [←Nat.pow_add];congr 1;omega
 rw [e,←Nat.mul_assoc] at h
 have h2:=Nat.eq_of_mul_eq_mul_right (Nat.two_pow_pos k) h
 obtain ⟨c,hc⟩ : ∃ c:Nat,c=969:=⟨_,rfl⟩
 have e2:M 4368491638549381120=2^52*2^c:=by
  have:=M_at c (2^52) (.inr (by omega)) (by omega)
  rw [←this];exact congrArg M (by omega)
 have e3:(2:Nat)^53*(2^52*2^c)=2^X74:=by
  rw [←Nat.pow_add,←Nat.pow_add];exact congrArg (fun t=>2^t) (by omega)
 rw [e2,h2,Nat.mul_assoc,e3]
theorem mul_exact {x y r:Nat} (hx:x<INF) (hy:y<INF) (h0:0<r) (hr:r<INF) (h:M x*M y=M r*2^X74):FloatKind.f64.format.mul x y=some r:=by
 have hI:=INF_eq
 have fx:fin x:=by unfold fin rung;omega
 have fy:fin y:=by unfold fin rung;omega
 obtain ⟨z,h1,h2,h3,h4⟩:=mul_fin fx fy
 rw [key_low (x:=x) (by omega),key_low (x:=y) (by omega),V_nat,V_nat] at h4
 have hk:=near_exact h4 (m:=(r:Int)) (by omega) (by omega) (by
  rw [V_nat,E74_eq,←Int.natCast_mul,h,Int.natCast_mul,Int.natCast_pow];rfl)
 rw [h1]
 congr 1
 rw [word_of_key h3 (by rw [hk];omega),hk]
 unfold ofKey
 rw [if_pos (by omega)]
 omega
theorem mul_one {r:Nat} (h0:0<r) (hr:r<INF):FloatKind.f64.format.mul 4607182418800017408 r=some r:=by
 refine mul_exact (by decide) hr h0 hr ?_
 have hX:=X74_eq
 obtain ⟨c,hc⟩ : ∃ c:Nat,c=1022:=⟨_,rfl⟩
 have e2:M 4607182418800017408=2^52*2^c:=by
  have:=M_at c (2^52) (.inr (by omega)) (by omega)
  rw [←this];exact congrArg M (by omega)
 have e3:(2:Nat)^52*2^c=2^X74:=by rw [←Nat.pow_add];exact congrArg (fun t=>2^t) (by omega)
 rw [e2,e3,Nat.mul_comm]
theorem mul_c53 {W r:Nat} (hW:W<INF) (h0:0<r) (hr:r<INF) (h:M W*M 4368491638549381120=M r*2^X74):FloatKind.f64.format.mul 4368491638549381120 W=some r :=
 mul_exact (by decide) hW h0 hr (by rw [Nat.mul_comm];exact h)
theorem i64_field (x:Nat) (h:x<2^11):bits BinOp.and IntKind.i64 (x:Int) 2047=(x:Int):=by
 have h1:(BitVec.ofInt 64 (x:Int)).toNat=x:=by
  rw [BitVec.ofInt_natCast,BitVec.toNat_ofNat];exact Nat.mod_eq_of_lt (by omega)
 have h2:(BitVec.ofInt 64 (2047:Int)).toNat=2047:=by decide
 show IntKind.i64.wrap ((BitVec.ofInt 64 (x:Int) &&& BitVec.ofInt 64 (2047:Int)).toNat:Int)=_
 rw [BitVec.toNat_and,h1,h2,IntKind.wrap_i64]
 have:x &&& 2047=x:=by
  have:=Nat.and_two_pow_sub_one_eq_mod x 11
  rw [Nat.mod_eq_of_lt h] at this
  exact this
 rw [this]
 omega
theorem u64_nofield (x:Nat) (h:x<2^63):bits BinOp.andNot IntKind.u64 (x:Int) 9218868437227405312=((x%2^52:Nat):Int):=by
 rw [u64_andNot (x:Int) 9218868437227405312 (by omega) (by omega) (by omega) (by omega)]
 congr 1
 rw [Int.toNat_natCast]
 have e:(18446744073709551615-Int.toNat 9218868437227405312:Nat)=2^63*1+(2^52-1):=by decide
 have e2:(2^63*1+(2^52-1):Nat)=2^63*1 ||| (2^52-1):=Nat.two_pow_add_eq_or_of_lt (by omega) 1
 rw [e,e2,Nat.and_or_distrib_left,Nat.and_two_pow_sub_one_eq_mod]
 have e3:x &&& 2^63*1=0:=by
  have h1:(x &&& 2^63*1)%2^63=0:=by rw [Nat.and_mod_two_pow];simp
  have h2:(x &&& 2^63*1) / 2^63=0:=by
   rw [Nat.and_div_two_pow,show x / 2^63=0 by omega];rfl
  omega
 rw [e3,Nat.zero_or]
theorem u64_or_field (m k:Nat) (hm:m<2^52) (hk:k<2^11):bits BinOp.or IntKind.u64 (m:Int) ((k*2^52:Nat):Int)=((k*2^52+m:Nat):Int):=by
 rw [u64_or (m:Int) ((k*2^52:Nat):Int) (by omega) (by omega) (by omega) (by omega)]
 congr 1
 rw [Int.toNat_natCast,Int.toNat_natCast,Nat.mul_comm k,Nat.or_comm,←Nat.two_pow_add_eq_or_of_lt hm]
end Go.Fl
