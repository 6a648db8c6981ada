/- A real given by two words: its first 64 digits, and what is left. A quotient of a word times 2^64 by a word whose first digit is at the top, by half words. A rung rounded from a size, with its sign; the real of a product and of a quotient in two words. The root of a word: the model's root is a neighbour of the real root; what rounded down and up are. The root's scale: what is small is made greater by 2^200, its root is scaled back. Sums and products where one word is an infinity. Every real that is cut has its rounded numbers; the range. A word made whole, downwards. Plain laws of the real rounded: its order, its signs. -/
import Derived.Test.YteephgpefhodnaaGreatFB
import Derived.Laws.MathBits
namespace Go.Fl
set_option linter.unusedVariables false
set_option linter.unusedSimpArgs false
def Wide (hi lo:Nat) (e:Int) (rest:Bool) (N D:Nat):Prop :=
 (hi*2^64+lo)*2^(e+1074).toNat*D≤N*2^(-(e+1074)).toNat ∧
 N*2^(-(e+1074)).toNat<(hi*2^64+lo+1)*2^(e+1074).toNat*D ∧
 (N*2^(-(e+1074)).toNat=(hi*2^64+lo)*2^(e+1074).toNat*D↔rest=false)
theorem shift_eq {hi lo n:Nat} (hn:n≤63) (hl:lo<2^64) :
  (hi*2^64+lo)*2^n=(hi*2^n+lo / 2^(64-n))*2^64+lo*2^n%2^64:=by
 have e1:lo*2^n / 2^64=lo / 2^(64-n):=by
  have e:(2:Nat)^64=2^(64-n)*2^n:=by rw [←Nat.pow_add];exact congrArg (fun t=>2^t) (by omega)
  rw [e,Nat.mul_div_mul_right _ _ (Nat.two_pow_pos n)]
 have e2:=Nat.div_add_mod (lo*2^n) (2^64)
 rw [e1] at e2
 have e3:(hi*2^64+lo)*2^n=hi*2^n*2^64+lo*2^n:=by
  rw [Nat.add_mul,Nat.mul_right_comm]
 rw [e3,Nat.add_mul]
 omega
theorem shift_room {lo n:Nat} (hn:n≤63):lo*2^n%2^64+2^n≤2^64:=by
 have e:(2:Nat)^64=2^(64-n)*2^n:=by rw [←Nat.pow_add];exact congrArg (fun t=>2^t) (by omega)
 have h:=Nat.mod_lt lo (Nat.two_pow_pos (64-n))
 calc lo*2^n%2^64+2^n=lo%2^(64-n)*2^n+2^n:=by rw [e,Nat.mul_mod_mul_right]
  _=(lo%2^(64-n)+1)*2^n:=by rw [Nat.add_mul,Nat.one_mul]
  _≤2^(64-n)*2^n:=Nat.mul_le_mul_right _ h
  _=2^64:=e.symm
theorem wide_core {hi lo:Nat} {e:Int} {rest:Bool} {N D n H L:Nat} (hW:Wide hi lo e rest N D) (hD:0<D)
  (hT:(hi*2^64+lo)*2^n=H*2^64+L) (hr:L+2^n≤2^64) {first:Int} (hf:first=e+127-n) :
  H*2^(first+1011).toNat*D≤N*2^(-(first+1011)).toNat∧N*2^(-(first+1011)).toNat<(H+1)*2^(first+1011).toNat*D ∧
  (N*2^(-(first+1011)).toNat=H*2^(first+1011).toNat*D↔(rest||decide (L≠0))=false):=by
 unfold Wide at hW
 obtain ⟨T,hTe⟩ : ∃ T,T=hi*2^64+lo:=⟨_,rfl⟩
 rw [←hTe] at hW hT
 clear hTe
 obtain ⟨w1,w2,w3⟩:=hW
 have hexp:(first+1011).toNat+(-(e+1074)).toNat+n=(e+1074).toNat+((-(first+1011)).toNat+64):=by omega
 generalize (first+1011).toNat=a at *
 generalize (-(first+1011)).toNat=b at *
 generalize (e+1074).toNat=a0 at *
 generalize (-(e+1074)).toNat=b0 at *
 clear hf
 have hB:0<2^(b0+64):=Nat.two_pow_pos _
 have hC:0<2^(b+64):=Nat.two_pow_pos _
 have hU:0<2^(a+b0)*D:=Nat.mul_pos (Nat.two_pow_pos _) hD
 have eN:N*2^b*2^(b0+64)=N*2^b0*2^(b+64):=by
  rw [Nat.mul_assoc,Nat.mul_assoc,←Nat.pow_add,←Nat.pow_add];congr 2;omega
 have eX : ∀ X,X*2^a*D*2^(b0+64)=X*2^64*(2^(a+b0)*D):=by
  intro X
  rw [Nat.pow_add 2 b0,Nat.pow_add 2 a]
  simp only [Nat.mul_assoc,Nat.mul_comm,Nat.mul_left_comm]
 have eT : ∀ X,X*2^a0*D*2^(b+64)=X*2^n*(2^(a+b0)*D):=by
  intro X
  have h1:X*2^a0*D*2^(b+64)=X*(2^a0*2^(b+64))*D:=by simp only [Nat.mul_assoc,Nat.mul_comm,Nat.mul_left_comm]
  have h2:X*2^n*(2^(a+b0)*D)=X*(2^(a+b0)*2^n)*D:=by simp only [Nat.mul_assoc,Nat.mul_comm,Nat.mul_left_comm]
  rw [h1,h2,←Nat.pow_add,←Nat.pow_add,hexp]
 generalize hU2:2^(a+b0)*D=U at *
 have v1:T*2^n*U≤N*2^b0*2^(b+64):=by rw [←eT];exact Nat.mul_le_mul_right _ w1
 have v2:N*2^b0*2^(b+64)<(T+1)*2^n*U:=by rw [←eT];exact Nat.mul_lt_mul_of_pos_right w2 hC
 rw [←eN] at v1 v2
 have u1:H*2^64*U≤T*2^n*U:=Nat.mul_le_mul_right _ (by omega)
 have u2:(T+1)*2^n*U≤(H+1)*2^64*U:=Nat.mul_le_mul_right _ (by rw [Nat.add_mul,hT,Nat.add_mul];omega)
 have k1:H*2^a*D≤N*2^b:=Nat.le_of_mul_le_mul_right (show H*2^a*D*2^(b0+64)≤_ by rw [eX];omega) hB
 refine ⟨k1,Nat.lt_of_mul_lt_mul_right (show N*2^b*2^(b0+64)<_ by rw [eX];omega),?_⟩
 constructor
 ·intro hh
  have h2:N*2^b*2^(b0+64)=H*2^64*U:=by rw [←eX,hh]
  have h3:T*2^n*U=H*2^64*U:=by omega
  have h4:=Nat.eq_of_mul_eq_mul_right hU h3
  have h5:N*2^b0*2^(b+64)=T*2^a0*D*2^(b+64):=by rw [←eN,eT];omega
  have h6:=w3.1 (Nat.eq_of_mul_eq_mul_right hC h5)
  rw [h6,Bool.false_or,decide_eq_false_iff_not]
  omega
 ·intro hh
  rw [Bool.or_eq_false_iff,decide_eq_false_iff_not] at hh
  obtain ⟨h1,h2⟩:=hh
  have h3:=w3.2 h1
  refine Nat.eq_of_mul_eq_mul_right hB ?_
  rw [eN,h3,eT,eX,hT,show L=0 by omega,Nat.add_zero]
theorem low_digits {H k:Nat} (hk:k≤53) (hH:H<2^64):(H*2^k%2^64≠0)↔(H%2^(64-k)≠0):=by
 have e:(2:Nat)^64=2^(64-k)*2^k:=by rw [←Nat.pow_add];exact congrArg (fun t=>2^t) (by omega)
 have hp:0<2^k:=Nat.two_pow_pos k
 rw [e,Nat.mul_mod_mul_right]
 constructor
 ·intro h h2;rw [h2,Nat.zero_mul] at h;exact h rfl
 ·intro h h2
  rcases Nat.mul_eq_zero.1 h2 with h3|h3
  ·exact h h3
  ·omega
theorem wrap_low {H k:Nat} (hk:k≤53) (hH:H<2^64):(IntKind.u64.wrap ((H:Int)*2^k) != 0)=decide (H%2^(64-k)≠0):=by
 have h:=low_digits hk hH
 have e1:(H:Int)*2^k=((H*2^k:Nat):Int):=by rw [Int.natCast_mul,Int.natCast_pow];rfl
 rw [Bool.eq_iff_iff,bne_iff_ne,decide_eq_true_iff,←h,e1,IntKind.wrap_u64]
 generalize H*2^k=y
 omega
theorem first_word {hi lo n:Nat} (hn:n≤63) (h:hi<2^(64-n)) (hl:lo<2^64) :
  bits BinOp.or IntKind.u64 (IntKind.u64.wrap ((hi:Int)*2^n)) ((lo:Int) / 2^(64-n))=((hi*2^n+lo / 2^(64-n):Nat):Int):=by
 have e:(2:Nat)^64=2^(64-n)*2^n:=by rw [←Nat.pow_add];exact congrArg (fun t=>2^t) (by omega)
 have e1:(hi:Int)*2^n=((hi*2^n:Nat):Int):=by rw [Int.natCast_mul,Int.natCast_pow];rfl
 have e2:(lo:Int) / 2^(64-n)=((lo / 2^(64-n):Nat):Int):=by rw [Int.natCast_ediv,Int.natCast_pow];rfl
 have h1:hi*2^n<2^64:=by rw [e];exact Nat.mul_lt_mul_of_pos_right h (Nat.two_pow_pos n)
 have h2:lo / 2^(64-n)<2^n:=by
  rw [Nat.div_lt_iff_lt_mul (Nat.two_pow_pos _),Nat.mul_comm,←e];exact hl
 have h3:lo / 2^(64-n)<2^64:=Nat.lt_of_le_of_lt (Nat.div_le_self _ _) hl
 have e3:IntKind.u64.wrap ((hi*2^n:Nat):Int)=((hi*2^n:Nat):Int):=by
  rw [IntKind.wrap_u64];generalize hi*2^n=y at *;omega
 have e4:=Nat.two_pow_add_eq_or_of_lt h2 hi
 rw [e1,e2,e3]
 generalize lo / 2^(64-n)=z at *
 rw [Nat.mul_comm (2^n)] at e4
 generalize hi*2^n=y at *
 rw [u64_or (y:Int) (z:Int) (by omega) (by omega) (by omega) (by omega),Int.toNat_natCast,Int.toNat_natCast,←e4]
theorem top_digit {hi lo n b:Nat} (h0:hi≠0) (hi2:hi<2^64) (hb:hi<2^b∧(hi≠0→2^(b-1)≤hi)) (hl:lo<2^64) (hb2:b≤64) (hn:n=64-b) :
  n≤63∧hi<2^(64-n)∧2^63≤hi*2^n+lo / 2^(64-n)∧hi*2^n+lo / 2^(64-n)<2^64:=by
 obtain ⟨b1,b2⟩:=hb
 have b2:=b2 h0
 have hb0:b≠0:=by
  intro h
  rw [h] at b1
  omega
 have e:(2:Nat)^64=2^(64-n)*2^n:=by rw [←Nat.pow_add];exact congrArg (fun t=>2^t) (by omega)
 have e6:(2:Nat)^63=2^(b-1)*2^n:=by rw [←Nat.pow_add];exact congrArg (fun t=>2^t) (by omega)
 have h2:lo / 2^(64-n)<2^n:=by
  rw [Nat.div_lt_iff_lt_mul (Nat.two_pow_pos _),Nat.mul_comm,←e];exact hl
 have e7:64-n=b:=by omega
 refine ⟨by omega,by rw [e7];exact b1,?_,?_⟩
 ·have:=Nat.mul_le_mul_right (2^n) b2
  rw [←e6] at this
  exact Nat.le_trans this (Nat.le_add_right _ _)
 ·have h3:(hi+1)*2^n≤2^(64-n)*2^n:=Nat.mul_le_mul_right _ (by rw [e7];exact b1)
  rw [Nat.add_mul,←e] at h3
  omega
end Go.Fl
namespace Go.Fl
set_option linter.unusedVariables false
def Dig (un y q r:Nat):Prop:=q*(y / 2^32)+r=un∧un*2^32 / y≤q∧q≤2^32+1
theorem dig_init {un y:Nat} (h1:2^63≤y) (h2:y<2^64) (hu:un<y):Dig un y (un / (y / 2^32)) (un%(y / 2^32))∧un%(y / 2^32)<2^32:=by
 have hv:0<y / 2^32:=by omega
 have e:=Nat.div_add_mod un (y / 2^32)
 have hm:=Nat.mod_lt un hv
 refine ⟨⟨by rw [Nat.mul_comm];exact e,?_,?_⟩,by omega⟩
 ·refine Nat.le_of_lt_succ ?_
  rw [Nat.div_lt_iff_lt_mul (by omega)]
  have hl:un<(un / (y / 2^32)+1)*(y / 2^32):=by
   rw [Nat.add_mul,Nat.one_mul,Nat.mul_comm];omega
  generalize un / (y / 2^32)=q at *
  have h3:y / 2^32*2^32≤y:=by omega
  calc un*2^32<(q+1)*(y / 2^32)*2^32:=Nat.mul_lt_mul_of_pos_right hl (by omega)
   _=(q+1)*(y / 2^32*2^32):=Nat.mul_assoc _ _ _
   _≤(q+1)*y:=Nat.mul_le_mul_left _ h3
 ·refine Nat.le_of_lt_succ ?_
  rw [Nat.div_lt_iff_lt_mul hv]
  omega
theorem dig_val {un y q r:Nat} (h:q*(y / 2^32)+r=un):q*y+r*2^32=un*2^32+q*(y%2^32):=by
 have e:=Nat.div_add_mod y (2^32)
 generalize y / 2^32=a at *
 generalize y%2^32=b at *
 rw [←h,←e,Nat.mul_add,Nat.add_mul,Nat.mul_left_comm,Nat.mul_comm (2^32)]
 omega
theorem dig_lt {un y:Nat} (h1:2^63≤y) (hu:un<y):un*2^32 / y<2^32:=by
 rw [Nat.div_lt_iff_lt_mul (by omega),Nat.mul_comm]
 omega
theorem dig_step {un y q r:Nat} (h1:2^63≤y) (hu:un<y) (h:Dig un y q r) (hc:2^32≤q∨2^32*r<q*(y%2^32)):1≤q∧Dig un y (q-1) (r+y / 2^32)∧q-1≤2^32:=by
 obtain ⟨a,b,c⟩:=h
 have hlt:=dig_lt h1 hu
 have hq:un*2^32 / y<q:=by
  rcases hc with hc|hc
  ·omega
  ·rw [Nat.div_lt_iff_lt_mul (by omega)]
   have:=dig_val a
   omega
 have hq1:1≤q:=Nat.le_trans (Nat.succ_le_succ (Nat.zero_le _)) hq
 have hq2:=Nat.le_sub_one_of_lt hq
 clear hlt hc b hq
 refine ⟨hq1,⟨?_,hq2,by omega⟩,by omega⟩
 clear hq2
 obtain ⟨p,rfl⟩ : ∃ p,q=p+1:=⟨q-1,by omega⟩
 rw [Nat.add_mul] at a
 rw [Nat.add_sub_cancel]
 omega
theorem dig_exit {un y q r:Nat} (h1:2^63≤y) (h:Dig un y q r) (hc:q*(y%2^32)≤2^32*r):q=un*2^32 / y:=by
 obtain ⟨a,b,c⟩:=h
 have:=dig_val a
 have h2:q≤un*2^32 / y:=by
  rw [Nat.le_div_iff_mul_le (by omega)];omega
 omega
theorem dig_break {un y q r:Nat} (h1:2^63≤y) (h:Dig un y q r) (hq:q≤2^32) (hr:2^32≤r):q=un*2^32 / y:=by
 refine dig_exit h1 h ?_
 have h3:y%2^32≤2^32:=Nat.le_of_lt (Nat.mod_lt _ (by omega))
 calc q*(y%2^32)≤2^32*2^32:=Nat.mul_le_mul hq h3
  _≤2^32*r:=Nat.mul_le_mul_left _ hr
theorem dig_rest {un y:Nat}:un*2^32-un*2^32 / y*y=un*2^32%y:=by
 have:=Nat.div_add_mod (un*2^32) y
 rw [Nat.mul_comm] at this
 omega
theorem dig_two {un y B C:Nat} (hy:0<y) (hC:C=B*B):un*B / y*B+un*B%y*B / y=un*C / y∧un*B%y*B%y=un*C%y:=by
 have e:=Nat.div_add_mod (un*B) y
 have e2:un*C=un*B%y*B+un*B / y*B*y:=by
  rw [hC,←Nat.mul_assoc]
  conv=>lhs;rw [←e]
  rw [Nat.add_mul,Nat.mul_comm y,Nat.mul_right_comm]
  omega
 rw [e2,Nat.add_mul_div_right _ _ hy,Nat.add_mul_mod_self_right]
 exact ⟨by omega,rfl⟩
theorem dig_both {un y:Nat} (hy:0<y):un*2^32 / y*2^32+un*2^32%y*2^32 / y=un*2^64 / y∧un*2^32%y*2^32%y=un*2^64%y:=dig_two hy (by decide)
end Go.Fl
namespace Go.Fl
set_option linter.unusedVariables false
def MagR (away:Bool) (r N D:Nat):Prop:=if away=true then MagU r N D else MagD r N D
theorem magR_le {away:Bool} {r N D:Nat} (h:MagR away r N D):r≤INF:=by
 unfold MagR at h
 cases away
 ·exact Nat.le_of_lt h.1
 ·exact h.1
theorem signed_rnd {ng up:Bool} {r N D:Nat} {c:Int→Int} (hD:0<D) (hc : ∀ k,c k=(if ng=true then -(N:Int) else (N:Int))-V k*D) (h:MagR (ng != up) r N D):Rnd up c (if ng=true then -(r:Int) else (r:Int)):=by
 unfold MagR at h
 unfold Rnd
 cases ng<;>cases up
 ·exact magD_pos hc h
 ·exact magU_pos hD hc h
 ·exact magU_neg hD hc h
 ·exact magD_neg hc h
theorem magR_zero {away:Bool} {D:Nat} (hD:0<D):MagR away 0 0 D:=by
 unfold MagR MagU MagD
 have hI:=INF_eq
 have h1:M 0<M (0+1):=M_lt_succ 0
 have h2:0<M (0+1)*D:=Nat.mul_pos (by omega) hD
 cases away
 ·simp only [Bool.false_eq_true,if_false]
  exact ⟨by omega,by rw [M_zero,Nat.zero_mul];exact Nat.le_refl _,fun _=>h2⟩
 ·simp only [if_true]
  exact ⟨by omega,fun _=>Nat.zero_le _,fun h=>absurd rfl h⟩
theorem E74_nat:E74=((2^X74:Nat):Int):=by rw [E74_eq,Int.natCast_pow];rfl
theorem mul_cut (x y:Nat) (k:Int):cMul (key x) (key y) k=(if (neg x != neg y)=true then -((M (rung x)*M (rung y):Nat):Int) else ((M (rung x)*M (rung y):Nat):Int))-V k*((2^X74:Nat):Int):=by
 unfold cMul
 rw [key_of_neg,key_of_neg,E74_nat,Int.natCast_mul]
 cases neg x<;>cases neg y<;>simp [Int.neg_mul,Int.mul_neg]
theorem div_cut (x y:Nat) (hy:key y≠0) (k:Int):cDiv (key x) (key y) k=(if (neg x != neg y)=true then -((M (rung x)*2^X74:Nat):Int) else ((M (rung x)*2^X74:Nat):Int))-V k*((M (rung y):Nat):Int):=by
 have hp:(0<key y↔neg y=false):=by
  unfold key at *
  cases hn:neg y
  ·rw [hn] at hy
   simp at hy ⊢
   omega
  ·rw [hn] at hy
   simp at hy ⊢
 unfold cDiv
 rw [E74_nat,Int.natCast_mul]
 by_cases h:0<key y
 ·rw [if_pos h,key_of_neg,key_of_neg,hp.1 h]
  cases neg x<;>simp [Int.neg_mul]
 ·have hn:neg y=true:=by
   cases hn:neg y
   ·exact absurd (hp.2 hn) h
   ·rfl
  rw [if_neg h,key_of_neg,key_of_neg,hn]
  cases neg x<;>simp [Int.neg_mul,Int.mul_neg]<;>omega
theorem exact_wide {hi lo mn pl j:Nat} {p:Int} (hT:hi*2^64+lo=mn*2^j) (hp:p+j+2148=pl):Wide hi lo p false (mn*2^pl) (2^X74):=by
 have heq:mn*2^pl*2^(-(p+1074)).toNat=(hi*2^64+lo)*2^(p+1074).toNat*2^X74:=by
  have hX:=X74_eq
  rw [hT,Nat.mul_assoc,Nat.mul_assoc mn,Nat.mul_assoc mn,←Nat.pow_add,←Nat.pow_add,←Nat.pow_add]
  exact congrArg (fun t=>mn*2^t) (by omega)
 refine ⟨Nat.le_of_eq heq.symm,?_,fun _=>rfl,fun _=>heq⟩
 rw [heq]
 exact Nat.mul_lt_mul_of_pos_right (Nat.mul_lt_mul_of_pos_right (Nat.lt_succ_self _) (Nat.two_pow_pos _)) (Nat.two_pow_pos _)
def Top (hi lo:Nat) (e:Int) (rest:Bool) (N D:Nat):Prop :=
 2^63≤hi∧lo=0∧hi*2^(e+127+1011).toNat*D≤N*2^(-(e+127+1011)).toNat∧N*2^(-(e+127+1011)).toNat<(hi+1)*2^(e+127+1011).toNat*D ∧
  (N*2^(-(e+127+1011)).toNat=hi*2^(e+127+1011).toNat*D↔rest=false)
theorem top_div {m n k l px py q rem:Nat} {E:Int} {rest:Bool} (hq:2^63≤q) (hdiv:m*2^k*2^64=q*(n*2^l)+rem) (hr:rem<n*2^l) (hE:E=(px:Int)-k-(py-l)-128) (hk:k≤64) (hrest:rest=false↔rem=0) :
  Top q 0 E rest (m*2^px*2^X74) (n*2^py):=by
 have hX:=X74_eq
 obtain ⟨a,ha⟩ : ∃ a,a=(E+127+1011).toNat:=⟨_,rfl⟩
 obtain ⟨b,hb⟩ : ∃ b,b=(-(E+127+1011)).toNat:=⟨_,rfl⟩
 obtain ⟨s,hs⟩ : ∃ s,s=a+py-l:=⟨_,rfl⟩
 have e1:m*2^px*2^X74*2^b=(q*(n*2^l)+rem)*2^s:=by
  rw [←hdiv,Nat.mul_assoc,Nat.mul_assoc,←Nat.pow_add,←Nat.pow_add,Nat.mul_assoc m,←Nat.pow_add,Nat.mul_assoc m,←Nat.pow_add]
  exact congrArg (fun t=>m*2^t) (by omega)
 have e2 : ∀ z:Nat,z*2^a*(n*2^py)=z*(n*2^l)*2^s:=by
  intro z
  have:(2:Nat)^a*2^py=2^l*2^s:=by rw [←Nat.pow_add,←Nat.pow_add];exact congrArg (fun t=>2^t) (by omega)
  calc z*2^a*(n*2^py)=z*n*(2^a*2^py):=by simp only [Nat.mul_assoc,Nat.mul_comm,Nat.mul_left_comm]
   _=z*n*(2^l*2^s):=by rw [this]
   _=z*(n*2^l)*2^s:=by simp only [Nat.mul_assoc]
 have hp:0<2^s:=Nat.two_pow_pos s
 unfold Top
 rw [←ha,←hb,e1,e2,e2]
 refine ⟨hq,rfl,Nat.mul_le_mul_right _ (Nat.le_add_right _ _),Nat.mul_lt_mul_of_pos_right ?_ hp,?_⟩
 ·rw [Nat.add_mul q 1,Nat.one_mul];omega
 ·rw [hrest]
  constructor
  ·intro h
   have:=Nat.eq_of_mul_eq_mul_right hp h
   omega
  ·intro h;rw [h,Nat.add_zero]
theorem top_quot {m' n':Nat} (hn:0<n') (h1:n'≤2*m') (h2:m'<n'):2^63≤m'*2^64 / n'∧m'*2^64 / n'<2^64:=by
 constructor
 ·rw [Nat.le_div_iff_mul_le hn];omega
 ·rw [Nat.div_lt_iff_lt_mul hn];omega
noncomputable def mulK (x y:Int) (up:Bool):Int:=rnd up (cMul x y)
noncomputable def divK (x y:Int) (up:Bool):Int:=rnd up (cDiv x y)
noncomputable def sqrtK (x:Int) (up:Bool):Int:=rnd up (cSqrt x)
end Go.Fl
namespace Go.Fl
open Ieee
set_option linter.unusedVariables false
theorem rootFrom_spec (n:Nat) : ∀ todo root,root*root≤n→n<(root+2^todo)*(root+2^todo) →
  Datum.rootFrom n todo root*Datum.rootFrom n todo root≤n∧n<(Datum.rootFrom n todo root+1)*(Datum.rootFrom n todo root+1):=by
 intro todo
 induction todo with
 | zero=>intro root h1 h2;exact ⟨h1,h2⟩
 | succ t ih =>
  intro root h1 h2
  unfold Datum.rootFrom
  simp only [Nat.one_shiftLeft]
  by_cases h:(root+2^t)*(root+2^t)≤n
  ·rw [if_pos h]
   refine ih _ h ?_
   rw [Nat.add_assoc,←Nat.two_mul,Nat.mul_comm 2,←Nat.pow_succ]
   exact h2
  ·rw [if_neg h]
   exact ih _ h1 (by omega)
theorem isqrt_spec (n:Nat):Datum.rootFrom n (n.log2 / 2+1) 0*Datum.rootFrom n (n.log2 / 2+1) 0≤n∧n<(Datum.rootFrom n (n.log2 / 2+1) 0+1)*(Datum.rootFrom n (n.log2 / 2+1) 0+1):=by
 refine rootFrom_spec n _ 0 (by omega) ?_
 rw [Nat.zero_add,←Nat.pow_add]
 exact Nat.lt_of_lt_of_le Nat.lt_log2_self (Nat.pow_le_pow_right (by omega) (by omega))
theorem M_two (c:Nat):M ((c+1)*2^52)=2^52*2^c:=by
 have:=M_at c (2^52) (.inr (by omega)) (by omega)
 rw [←this]
 exact congrArg M (by omega)
theorem no_between {j P a:Nat} (h0:2^53*2^P≤M j) (h1:a*2^P<M j) (h2:M j<(a+1)*2^P):False:=by
 have hd:2^P ∣ M j:=by
  rw [M_eq] at h0 ⊢
  have hm:=mgr_lt j
  rcases Nat.lt_or_ge (plr j) P with h|h
  ·exfalso
   have h3:mgr j*2^plr j<2^53*2^plr j:=Nat.mul_lt_mul_of_pos_right hm (Nat.two_pow_pos _)
   have h4:2^53*2^plr j≤2^53*2^P:=Nat.mul_le_mul_left _ (Nat.pow_le_pow_right (by omega) (by omega))
   omega
  ·exact Nat.dvd_trans (Nat.pow_dvd_pow 2 h) (Nat.dvd_mul_left _ _)
 obtain ⟨z,hz⟩:=hd
 rw [hz,Nat.mul_comm (2^P)] at h1 h2
 have h3:=Nat.lt_of_mul_lt_mul_right h1
 have h4:=Nat.lt_of_mul_lt_mul_right h2
 omega
theorem sq_lt {a b:Nat} (h:a<b):a*a<b*b:=Nat.mul_lt_mul_of_lt_of_lt h h
theorem sq_le {a b:Nat} (h:a≤b):a*a≤b*b:=Nat.mul_le_mul h h
theorem lt_of_sq {a b:Nat} (h:a*a<b*b):a<b:=by
 rcases Nat.lt_or_ge a b with h1|h1
 ·exact h1
 ·have:=sq_le h1;omega
theorem sticky_sq {n w P j:Nat} (h1:w*w≤n) (h2:n<(w+1)*(w+1)) (hw:2^53≤w) :
  (M j<(2*w+(w*w != n).toNat)*2^P→M j*M j<n*(2*2^P)*(2*2^P)) ∧
  ((2*w+(w*w != n).toNat)*2^P<M j→n*(2*2^P)*(2*2^P)<M j*M j):=by
 have hp:0<2^P:=Nat.two_pow_pos P
 have e : ∀ z:Nat,z*(2*2^P)*(z*(2*2^P))=z*z*(2*2^P)*(2*2^P):=by
  intro z;simp only [Nat.mul_assoc,Nat.mul_left_comm,Nat.mul_comm]
 have e2 : ∀ z:Nat,2*z*2^P=z*(2*2^P):=by
  intro z;rw [Nat.mul_comm 2 z,Nat.mul_assoc]
 have hpp:0<2*2^P:=by omega
 by_cases hx:w*w=n
 ·have hb:(w*w != n)=false:=by rw [hx];simp
  rw [hb]
  simp only [Bool.toNat_false,Nat.add_zero]
  rw [e2,←hx,←e]
  exact ⟨fun h=>sq_lt h,fun h=>sq_lt h⟩
 ·have hb:(w*w != n)=true:=by simp [hx]
  rw [hb]
  simp only [Bool.toNat_true]
  have g0:2^53*2^P≤2*w*2^P:=Nat.mul_le_mul_right _ (by omega)
  constructor
  ·intro h
   have h3:M j≤2*w*2^P:=by
    rcases Nat.lt_or_ge (2*w*2^P) (M j) with g|g
    ·exact absurd (no_between (by omega) g h) id
    ·exact g
   rw [e2] at h3
   refine Nat.lt_of_le_of_lt (sq_le h3) ?_
   rw [e]
   exact Nat.mul_lt_mul_of_pos_right (Nat.mul_lt_mul_of_pos_right (by omega) hpp) hpp
  ·intro h
   have h3:(2*w+1+1)*2^P≤M j:=by
    rcases Nat.lt_or_ge (M j) ((2*w+1+1)*2^P) with g|g
    ·have g1:2^53*2^P≤(2*w+1)*2^P:=Nat.mul_le_mul_right _ (by omega)
     exact absurd (no_between (by omega) h g) id
    ·exact g
   rw [show 2*w+1+1=2*(w+1) by omega,e2] at h3
   refine Nat.lt_of_lt_of_le ?_ (sq_le h3)
   rw [e]
   exact Nat.mul_lt_mul_of_pos_right (Nat.mul_lt_mul_of_pos_right h2 hpp) hpp
def Root (X c:Nat):Prop:=0<c∧c+1<INF∧M (c-1)*M (c-1)<X∧X<M (c+1)*M (c+1)
theorem key_zero_of {x:Nat} (h:M (rung x)≠0):rung x≠0:=by
 intro h0;rw [h0,M_zero] at h;exact h rfl
theorem sqrt_fin {x:Nat} (hx:fin x) (hn:neg x=false) (hb:2^174≤M (rung x)) :
  ∃ c:Nat,FloatKind.f64.format.sqrt x=some c∧Root (M (rung x)*2^X74) c∧537≤plr c:=by
 have hX:=X74_eq
 have hI:=INF_eq
 rw [fmt]
 unfold Format.sqrt
 rw [read_fin hx,hn]
 have hfb:double.fractionBits+2=54:=by decide
 rw [hfb]
 have hM:M (rung x)=mag x*2^pl x:=(mag_pl x).symm
 have hmg:mag x=mgr (rung x):=rfl
 have hpl:pl x=plr (rung x):=rfl
 have hm53:mag x<2^53:=by rw [hmg];exact mgr_lt _
 have hpl1:122≤pl x:=by
  rcases Nat.lt_or_ge (pl x) 122 with h|h
  ·exfalso
   rw [hM] at hb
   have h1:mag x*2^pl x<2^53*2^pl x:=Nat.mul_lt_mul_of_pos_right hm53 (Nat.two_pow_pos _)
   have h2:(2:Nat)^53*2^pl x≤2^174:=by rw [←Nat.pow_add];exact Nat.pow_le_pow_right (by omega) (by omega)
   exact absurd (Nat.lt_of_lt_of_le h1 (Nat.le_trans h2 hb)) (Nat.lt_irrefl _)
  ·exact h
 have hm52:2^52≤mag x:=by rw [hmg];exact mgr_ge (by rw [←hpl];omega)
 have hlog:(mag x).log2=52:=by
  have h1:(mag x).log2<53:=(Nat.log2_lt (by omega)).2 hm53
  have h2:52≤(mag x).log2:=(Nat.le_log2 (by omega)).2 hm52
  omega
 have hrI:rung x<INF:=hx
 generalize hm:mag x=m at *
 generalize hp:pl x=p at *
 unfold Datum.root
 simp only
 rw [if_neg (by omega),if_neg (by decide),hlog]
 obtain ⟨more,hmore⟩ : ∃ more,more=2*54-52+(((p:Int)-1074-((2*54-52:Nat):Int))%2).toNat:=⟨_,rfl⟩
 rw [←hmore]
 have hmore2:56≤more∧more≤57∧((p:Int)-1074-more)%2=0:=by omega
 obtain ⟨q,hq⟩ : ∃ q:Int,q=((p:Int)-1074-more) / 2-1:=⟨_,rfl⟩
 rw [←hq,Nat.shiftLeft_eq]
 clear hmore
 obtain ⟨n,hn2⟩ : ∃ n,n=m*2^more:=⟨_,rfl⟩
 rw [←hn2]
 obtain ⟨s1,s2⟩:=isqrt_spec n
 generalize Datum.rootFrom n (n.log2 / 2+1) 0=w at *
 have hnb:2^54*2^54≤n:=by
  rw [hn2]
  have h1:(2:Nat)^52*2^56≤m*2^more:=Nat.mul_le_mul hm52 (Nat.pow_le_pow_right (by omega) (by omega))
  exact Nat.le_trans (by decide) h1
 have hw:2^53≤w:=by
  have h1:2^54<w+1:=lt_of_sq (Nat.lt_of_le_of_lt hnb s2)
  omega
 have hst:=fun P j=>sticky_sq (P:=P) (j:=j) s1 s2 hw
 obtain ⟨st,hste⟩ : ∃ st,st=2*w+(w*w != n).toNat:=⟨_,rfl⟩
 rw [←hste] at hst ⊢
 have hst2:2^54≤st:=by omega
 obtain ⟨r1,r2,r3,r4⟩:=write_near false st q (by omega)
 refine ⟨_,rfl,?_⟩
 show Root _ (double.nearest false st q)∧537≤plr (double.nearest false st q)
 generalize double.nearest false st q=c at *
 obtain ⟨P,hP⟩ : ∃ P,P=(q+1074).toNat:=⟨_,rfl⟩
 rw [←hP,show (-(q+1074)).toNat=0 by omega] at r4
 have hP2:538≤P:=by omega
 have r4:Near (key c) ((st*2^P:Nat):Int) 1:=by simpa using r4
 have hV:M (rung x)*2^X74=n*(2*2^P)*(2*2^P):=by
  rw [hM,hn2]
  have e1 : ∀ z:Nat,z*(2*2^P)*(2*2^P)=z*2^(P+1+(P+1)):=by
   intro z
   rw [show 2*2^P=2^(P+1) by rw [Nat.pow_succ,Nat.mul_comm],Nat.mul_assoc,←Nat.pow_add]
  rw [e1,Nat.mul_assoc,Nat.mul_assoc,←Nat.pow_add,←Nat.pow_add]
  exact congrArg (fun t=>m*2^t) (by omega)
 have hst3:=hst P
 rw [←hV] at hst3
 clear hst hste hmore2 hnb s1 s2 hlog hm52 hm53 hmg hpl hm hp
 obtain ⟨_,n2,n3⟩:=r4
 have hup:0<2^P:=Nat.two_pow_pos P
 have hNp:2^54*2^P≤st*2^P:=Nat.mul_le_mul_right _ hst2
 have hk0:0<key c:=by
  rcases Int.lt_or_le 0 (key c) with h|h
  ·exact h
  ·exfalso
   have:=(n3 1 (by omega) (by omega)).2 (by omega)
   have e1:V 1=1:=by decide
   rw [e1] at this
   omega
 obtain ⟨c1,c2⟩:=key_pos (show Wd c from r3) hk0
 rw [c2] at n2 n3 hk0
 have hc0:0<c:=by omega
 have hcI:c≤INF:=by omega
 have lo:M (c-1)<st*2^P:=by
  have:=(n3 ((c-1:Nat):Int) (by omega) (by omega)).1 (by omega)
  rw [V_nat] at this
  omega
 have lo2:=(hst3 (c-1)).1 lo
 have xI:M (rung x)≤M (INF-1):=M_le (by omega)
 have hc1:c+1<INF:=by
  rcases Nat.lt_or_ge (c+1) INF with h|h
  ·exact h
  ·exfalso
   have g1:M (INF-2)≤M (c-1):=M_le (by omega)
   have g2:M (INF-2+1)=M (INF-2)+ulp (INF-2):=M_succ _
   have g3:ulp (INF-2)≤M (INF-2):=by
    rw [M_eq,ulp_eq]
    have:=mgr_ge (r:=INF-2) (by rw [hI];decide)
    exact Nat.le_mul_of_pos_left _ (by omega)
   rw [show INF-2+1=INF-1 by omega] at g2
   have g4:2*2^X74≤M (INF-2):=by
    obtain ⟨d,hd⟩ : ∃ d,d=1023:=⟨_,rfl⟩
    have:=M_two d
    have h2:M ((d+1)*2^52)≤M (INF-2):=M_le (by omega)
    have h3:2*2^X74=2^52*2^d:=by
     rw [←Nat.pow_add,Nat.mul_comm,←Nat.pow_succ];exact congrArg (fun t=>2^t) (by omega)
    omega
   have g5:M (INF-2)*M (INF-2)<2*M (INF-2)*2^X74:=by
    refine Nat.lt_of_le_of_lt (sq_le g1) (Nat.lt_of_lt_of_le lo2 ?_)
    exact Nat.mul_le_mul_right _ (by omega)
   rw [Nat.mul_comm 2,Nat.mul_assoc] at g5
   have:=Nat.lt_of_mul_lt_mul_left g5
   omega
 have hi:st*2^P<M (c+1):=by
  have:=(n3 ((c+1:Nat):Int) (by omega) (by omega)).2 (by omega)
  rw [V_nat] at this
  omega
 refine ⟨⟨hc0,hc1,lo2,(hst3 (c+1)).2 hi⟩,?_⟩
 rcases Nat.lt_or_ge (plr c) 537 with h|h
 ·exfalso
  rw [M_succ,ulp_eq,M_eq] at hi
  have h1:mgr c*2^plr c+2^plr c=(mgr c+1)*2^plr c:=by rw [Nat.add_mul,Nat.one_mul]
  have h2:(mgr c+1)*2^plr c≤2^53*2^plr c:=Nat.mul_le_mul_right _ (mgr_lt c)
  have h3:(2:Nat)^53*2^plr c≤2^54*2^P:=Nat.mul_le_mul (by decide) (Nat.pow_le_pow_right (by omega) (by omega))
  omega
 ·exact h
theorem sqrt_rnd {x:Int} {c:Nat} {X:Nat} (hX:(X:Int)=V x*E74) (h:Root X c) (up:Bool) :
  Rnd up (cSqrt x) (if M c*M c<X∧up=true then (c:Int)+1 else if X<M c*M c∧up=false then (c:Int)-1 else c):=by
 obtain ⟨h0,h1,h2,h3⟩:=h
 have hI:=PI_INF
 have hc : ∀ k:Nat,cSqrt x (k:Int)=(X:Int)-((M k*M k:Nat):Int):=by
  intro k
  unfold cSqrt
  rw [if_neg (by omega),←hX,V_nat,Int.natCast_mul]
 have e1:(c:Int)+1=((c+1:Nat):Int):=by omega
 have e2:(c:Int)-1=((c-1:Nat):Int):=by omega
 have g0:=hc c
 have g1:=hc (c+1)
 have g2:=hc (c-1)
 cases up
 ·rw [if_neg (by simp)]
  by_cases hn:X<M c*M c
  ·rw [if_pos ⟨hn,rfl⟩]
   refine ⟨by omega,by omega,fun _=>by rw [e2,g2];omega,fun _ => ?_⟩
   rw [show (c:Int)-1+1=c by omega,g0];omega
  ·rw [if_neg (by intro hh;exact hn hh.1)]
   refine ⟨by omega,by omega,fun _=>by rw [g0];omega,fun _=>by rw [e1,g1];omega⟩
 ·by_cases hn:M c*M c<X
  ·rw [if_pos ⟨hn,rfl⟩]
   refine ⟨by omega,by omega,fun _=>by rw [e1,g1];omega,fun _ => ?_⟩
   rw [show (c:Int)+1-1=c by omega,g0];omega
  ·rw [if_neg (by intro hh;exact hn hh.1),if_neg (by simp)]
   refine ⟨by omega,by omega,fun _=>by rw [g0];omega,fun _=>by rw [e2,g2];omega⟩
theorem fused_sign {r:Int} {X c:Nat} (hX:2^X74 ∣ X) (hc:537≤plr c) (h:Near r (-((M c:Int))*(M c:Int)+X) E74):(0<r↔M c*M c<X)∧(r<0↔X<M c*M c):=by
 have hXe:=X74_eq
 have hd:2^X74 ∣ M c*M c:=by
  rw [M_eq,Nat.mul_mul_mul_comm,←Nat.pow_add]
  exact Nat.dvd_trans (Nat.pow_dvd_pow 2 (by omega)) (Nat.dvd_mul_left _ _)
 obtain ⟨a,ha⟩:=hX
 obtain ⟨b,hb⟩:=hd
 have hp:0<2^X74:=Nat.two_pow_pos X74
 have hE:=E74_nat
 have e : -((M c:Int))*(M c:Int)+X=(2^X74:Nat)*((a:Int)-b):=by
  rw [Int.neg_mul,←Int.natCast_mul,hb,ha,Int.natCast_mul,Int.natCast_mul,Int.mul_sub]
  omega
 rw [e,hE] at h
 obtain ⟨h1,h2,h3⟩:=h
 have hI:(1:Int)<INF:=by decide
 have v0:=h3 0 (by omega) (by omega)
 have v1:=h3 1 (by omega) (by omega)
 have w1:=h3 (-1) (by omega) (by omega)
 have e1:V 1=1:=by decide
 have e2:V (-1) = -1:=by decide
 rw [V_zero,Int.zero_mul] at v0
 rw [e1,Int.one_mul] at v1
 rw [e2] at w1
 rw [hb,ha]
 clear e hb ha
 generalize hu:2^X74=u at *
 have k1:u*b<u*a↔b<a:=⟨fun h=>Nat.lt_of_mul_lt_mul_left h,fun h=>Nat.mul_lt_mul_of_pos_left h hp⟩
 have k2:u*a<u*b↔a<b:=⟨fun h=>Nat.lt_of_mul_lt_mul_left h,fun h=>Nat.mul_lt_mul_of_pos_left h hp⟩
 rw [k1,k2]
 have hup:(0:Int)<u:=by omega
 have pos : ∀ z:Int,0<z→(u:Int)≤u*z:=fun z hz=>by
  have:=Int.mul_le_mul_of_nonneg_left (show (1:Int)≤z by omega) (Int.le_of_lt hup)
  omega
 have neg : ∀ z:Int,z<0→(u:Int)*z ≤ -u:=fun z hz=>by
  have:=Int.mul_le_mul_of_nonneg_left (show z≤(-1:Int) by omega) (Int.le_of_lt hup)
  omega
 have zr:(u:Int)*0=0:=Int.mul_zero _
 rcases Int.lt_trichotomy ((a:Int)-b) 0 with g|g|g
 ·have:=neg _ g
  refine ⟨⟨fun h => ?_,fun h=>by omega⟩,⟨fun h=>by omega,fun h => ?_⟩⟩
  ·have:=v0.1 h;omega
  ·rcases Int.lt_or_le r 0 with g2|g2
   ·exact g2
   ·have:=w1.1 (by omega);omega
 ·rw [g,zr] at v0
  refine ⟨⟨fun h => ?_,fun h=>by omega⟩,⟨fun h => ?_,fun h=>by omega⟩⟩
  ·have:=v0.1 h;omega
  ·have:=v0.2 h;omega
 ·have:=pos _ g
  refine ⟨⟨fun h=>by omega,fun h => ?_⟩,⟨fun h => ?_,fun h=>by omega⟩⟩
  ·rcases Int.lt_or_le 0 r with g2|g2
   ·exact g2
   ·have:=v1.2 (by omega);omega
  ·have:=v0.2 h;omega
theorem root_scale {X c s:Nat} (hs:s=100) (hp:537≤plr c) (h:Root (X*(2^s*2^s)) c) : ∃ d,c=d+s*2^52∧Root X d∧(M c*M c<X*(2^s*2^s)↔M d*M d<X)∧(X*(2^s*2^s)<M c*M c↔X<M d*M d)∧2^53≤d:=by
 obtain ⟨h0,h1,h2,h3⟩:=h
 have hd:200*2^52≤c:=by unfold plr at hp;omega
 obtain ⟨d,rfl⟩ : ∃ d,c=d+s*2^52:=⟨c-s*2^52,by omega⟩
 have hM : ∀ z,2^52≤z→M (z+s*2^52)*M (z+s*2^52)=M z*M z*(2^s*2^s):=by
  intro z hz
  rw [M_binades hz,Nat.mul_mul_mul_comm]
 rw [show d+s*2^52-1=d-1+s*2^52 by omega,hM _ (by omega)] at h2
 rw [show d+s*2^52+1=d+1+s*2^52 by omega,hM _ (by omega)] at h3
 rw [hM d (by omega)]
 have hq:0<2^s*2^s:=Nat.mul_pos (Nat.two_pow_pos _) (Nat.two_pow_pos _)
 generalize 2^s*2^s=u at *
 exact ⟨d,rfl,⟨by omega,by omega,Nat.lt_of_mul_lt_mul_right h2,Nat.lt_of_mul_lt_mul_right h3⟩,⟨fun h=>Nat.lt_of_mul_lt_mul_right h,fun h=>Nat.mul_lt_mul_of_pos_right h hq⟩,⟨fun h=>Nat.lt_of_mul_lt_mul_right h,fun h=>Nat.mul_lt_mul_of_pos_right h hq⟩,by omega⟩
end Go.Fl
namespace Go.Fl
set_option linter.unusedVariables false
theorem scale_up {x:Nat} (h0:0<x) (h:x<123*2^52) : ∃ x':Nat,0<x'∧x'<INF∧M x'=M x*(2^100*2^100)∧2^174≤M x'∧FloatKind.f64.format.mul x 5507902344274116608=some x':=by
 have hX:=X74_eq
 have hI:=INF_eq
 obtain ⟨r,hr⟩:=rep_key (plr x+200) (mgr x) (Nat.le_of_lt (mgr_lt x))
 have e200 : ∀ s:Nat,s=100→M r=M x*(2^s*2^s):=by
  intro s hs
  rw [hr,M_eq x,Nat.mul_assoc,←Nat.pow_add,←Nat.pow_add]
  exact congrArg (fun t=>mgr x*2^t) (by omega)
 have hM1:1≤M x:=by
  have:=M_lt h0
  omega
 have hM2:M x<2^174:=by
  have h1:=M_lt h
  have h2:=M_two 122
  have h3:M (123*2^52)=2^52*2^122:=h2
  rw [h3,←Nat.pow_add] at h1
  exact h1
 obtain ⟨c,hc⟩ : ∃ c,c=1222:=⟨_,rfl⟩
 obtain ⟨d,hd⟩ : ∃ d,d=1074:=⟨_,rfl⟩
 have h8:=e200 100 rfl
 have hlow:2^174≤M r:=by
  rw [h8]
  exact Nat.le_trans (show 2^174≤1*(2^100*2^100) by decide) (Nat.mul_le_mul_right _ hM1)
 have hhigh:M r<M (400*2^52):=by
  obtain ⟨u,hu⟩ : ∃ u,u=399:=⟨_,rfl⟩
  have h2:M (400*2^52)=2^52*2^u:=by rw [←M_two u,hu]
  have h3:M x*(2^100*2^100)<2^174*(2^100*2^100):=Nat.mul_lt_mul_of_pos_right hM2 (by decide)
  have h4 : ∀ a b:Nat,a=174→b=100→(2:Nat)^a*(2^b*2^b)≤2^52*2^u:=by
   intro a b ha hb
   rw [←Nat.pow_add,←Nat.pow_add,←Nat.pow_add]
   exact Nat.pow_le_pow_right (by omega) (by omega)
  rw [h8,h2]
  exact Nat.lt_of_lt_of_le h3 (h4 174 100 rfl rfl)
 have hrI:r<400*2^52:=M_lt_iff.1 hhigh
 have hr0:0<r:=by
  rcases Nat.eq_zero_or_pos r with h|h
  ·rw [h,M_zero] at hlow
   exact absurd hlow (by decide)
  ·exact h
 refine ⟨r,hr0,by omega,h8,hlow,?_⟩
 refine mul_exact (by omega) (by decide) hr0 (by omega) ?_
 have e2:M 5507902344274116608=2^52*2^c:=by
  rw [←M_two c,hc]
 have e3:(2:Nat)^52*2^c=2^(100+100)*2^X74:=by rw [←Nat.pow_add,←Nat.pow_add];exact congrArg (fun t=>2^t) (by omega)
 rw [e2,e3,h8,Nat.mul_assoc,Nat.pow_add]
theorem scale_down {d s:Nat} (hs:s=100) (h:2^52≤d) (hI:d+s*2^52<INF):FloatKind.f64.format.mul (d+s*2^52) 4156822456062967808=some d:=by
 have hX:=X74_eq
 refine mul_exact hI (by decide) (by omega) (by omega) ?_
 obtain ⟨c,hc⟩ : ∃ c,c=922:=⟨_,rfl⟩
 have e2:M 4156822456062967808=2^52*2^c:=by
  rw [←M_two c,hc]
 have e3:(2:Nat)^s*(2^52*2^c)=2^X74:=by rw [←Nat.pow_add,←Nat.pow_add];exact congrArg (fun t=>2^t) (by omega)
 rw [M_binades h,e2,Nat.mul_assoc,e3]
theorem scale_one {d:Nat} (h0:0<d) (h:d<INF):FloatKind.f64.format.mul d 4607182418800017408=some d:=by
 have hX:=X74_eq
 refine mul_exact h (by decide) h0 h ?_
 obtain ⟨c,hc⟩ : ∃ c,c=1022:=⟨_,rfl⟩
 have e2:M 4607182418800017408=2^52*2^c:=by
  rw [←M_two c,hc]
 have e3:(2:Nat)^52*2^c=2^X74:=by rw [←Nat.pow_add];exact congrArg (fun t=>2^t) (by omega)
 rw [e2,e3]
theorem sqrt_zero_rnd (up:Bool):sqrtK 0 up=0:=by
 have hP:=PI_pos
 refine rnd_eq (cut_sqrt 0) ?_
 have v1:V 1=1:=by decide
 have c0:cSqrt 0 0=0:=by unfold cSqrt;rw [if_neg (by omega),V_zero,Int.zero_mul,Int.zero_mul];rfl
 have c1:cSqrt 0 1 = -1:=by unfold cSqrt;rw [if_neg (by omega),V_zero,v1,Int.zero_mul];rfl
 have cm:cSqrt 0 (-1)=1:=by unfold cSqrt;rw [if_pos (by omega)]
 cases up
 ·exact ⟨by omega,by omega,fun _=>by rw [c0];omega,fun _=>by rw [show (0:Int)+1=1 from rfl,c1];omega⟩
 ·exact ⟨by omega,by omega,fun _=>by rw [c0];omega,fun _=>by rw [show (0:Int)-1 = -1 from rfl,cm];omega⟩
theorem fma_rest {c x:Nat} (hc:c<INF) (hx:x<INF) (hp:537≤plr c) : ∃ r,FloatKind.f64.format.fma (Op.negFloat .f64 c) c x=some r ∧ ¬nan r∧r<2^64 ∧
  (0<key r↔M c*M c<M x*2^X74)∧(key r<0↔M x*2^X74<M c*M c):=by
 have hI:=INF_eq
 have hc64:c<2^64:=by omega
 have hcl:c<2^63:=by omega
 have f:=fneg_facts hc64
 have fc:fin c:=by unfold fin rung;omega
 have fx:fin x:=by unfold fin rung;omega
 have fn:fin (Op.negFloat .f64 c):=by
  have h2:rung (Op.negFloat .f64 c)=rung c:=f.2.1
  unfold fin;rw [h2];exact fc
 obtain ⟨r,h1,h2,h3,h4⟩:=fma_fin fn fc fx
 refine ⟨r,h1,h2,h3,?_⟩
 have k1:key (Op.negFloat .f64 c) = -key c:=key_fneg hc64
 rw [k1,key_low hcl,key_low (x:=x) (by omega),V_neg,V_nat,V_nat] at h4
 have h5:Near (key r) (-(M c:Int)*(M c:Int)+((M x*2^X74:Nat):Int)) E74:=by
  rw [Int.natCast_mul,←E74_nat];exact h4
 exact fused_sign (Nat.dvd_mul_left _ _) hp h5
theorem root_real {x:Int} {d:Nat} {X:Nat} (hX:(X:Int)=V x*E74) (h:Root X d) (up:Bool) :
  sqrtK x up=if M d*M d<X∧up=true then (d:Int)+1 else if X<M d*M d∧up=false then (d:Int)-1 else d :=
 rnd_eq (cut_sqrt x) (sqrt_rnd hX h up)
end Go.Fl
namespace Go.Fl
open Ieee
set_option linter.unusedVariables false
theorem read_PI:double.read (ofKey PI) = .infinity false:=by decide
theorem read_MI:double.read (ofKey (-PI)) = .infinity true:=by decide
theorem write_PI:double.write (.infinity false)=ofKey PI:=by decide
theorem write_MI:double.write (.infinity true)=ofKey (-PI):=by decide
theorem fin_ofKey {k:Int} (h1 : -PI<k) (h2:k<PI):fin (ofKey k):=by
 have:=key_ofKey (k:=k) ⟨by omega,by omega⟩
 rw [fin_key,this,←PI_INF];exact ⟨h1,h2⟩
theorem neg_ofKey {k:Int} (h1 : -PI≤k) (h2:k≤PI):neg (ofKey k)=decide (k<0):=by
 have hP:PI=9218868437227405312:=rfl
 unfold neg ofKey
 by_cases h:0≤k
 ·rw [if_pos h,decide_eq_false (by omega)]
  rw [show k.toNat / 2^63%2=0 by omega];rfl
 ·rw [if_neg h,decide_eq_true (by omega)]
  rw [show (2^63+(-k).toNat) / 2^63%2=1 by omega];rfl
theorem mag_ofKey {k:Int} (h1 : -PI≤k) (h2:k≤PI) (h0:k≠0):mag (ofKey k)≠0:=by
 have hP:PI=9218868437227405312:=rfl
 have hr:rung (ofKey k)=k.natAbs:=(ofKey_facts (k:=k) (by have:=PI_INF;omega) (by have:=PI_INF;omega)).2.2.2
 unfold mag
 rw [hr]
 split<;>omega
theorem add_infk {a b:Int} (ha:Rg a) (hb:Rg b) (hi:a=PI∨a = -PI∨b=PI∨b = -PI) (h1 : ¬(a=PI∧b = -PI)) (h2 : ¬(a = -PI∧b=PI)) :
  FloatKind.f64.format.add (ofKey a) (ofKey b)=some (ofKey (if a=PI∨b=PI then PI else -PI)):=by
 have hP:=PI_pos
 have q1:=ha.1;have q2:=ha.2;have q3:=hb.1;have q4:=hb.2
 rw [fmt]
 unfold Format.add
 by_cases c1:a=PI
 ·subst c1
  rw [read_PI,if_pos (.inl rfl),←write_PI]
  by_cases c2:b=PI
  ·subst c2;rw [read_PI];rfl
  ·rw [read_fin (fin_ofKey (k:=b) (by omega) (by omega))];rfl
 ·by_cases c2:a = -PI
  ·subst c2
   rw [read_MI,if_neg (by omega),←write_MI]
   by_cases c3:b = -PI
   ·subst c3;rw [read_MI];rfl
   ·rw [read_fin (fin_ofKey (k:=b) (by omega) (by omega))];rfl
  ·rw [read_fin (fin_ofKey (k:=a) (by omega) (by omega))]
   by_cases c3:b=PI
   ·subst c3;rw [read_PI,if_pos (.inr rfl),←write_PI];rfl
   ·obtain rfl:b = -PI:=by omega
    rw [read_MI,if_neg (by omega),←write_MI];rfl
def infSign (a b:Int):Int:=if (0<a∧0<b)∨(a<0∧b<0) then PI else -PI
theorem write_inf (s:Bool):double.write (.infinity s)=ofKey (if s=true then -PI else PI):=by
 cases s
 ·exact write_PI
 ·exact write_MI
theorem mul_infk {a b:Int} (ha:Rg a) (hb:Rg b) (hi:a=PI∨a = -PI∨b=PI∨b = -PI) (h1:a≠0) (h2:b≠0) :
  FloatKind.f64.format.mul (ofKey a) (ofKey b)=some (ofKey (infSign a b)):=by
 have hP:=PI_pos
 have q1:=ha.1;have q2:=ha.2;have q3:=hb.1;have q4:=hb.2
 have key : ∀ s:Bool,(s=true ↔ ¬((0<a∧0<b)∨(a<0∧b<0)))→some (double.write (.infinity s))=some (ofKey (infSign a b)):=by
  intro s hs
  rw [write_inf]
  unfold infSign
  by_cases h:(0<a∧0<b)∨(a<0∧b<0)
  ·rw [if_pos h,if_neg (by rw [hs];exact fun hh=>hh h)]
  ·rw [if_neg h,if_pos (hs.2 h)]
 rw [fmt]
 unfold Format.mul
 by_cases c1:a=PI
 ·subst c1
  rw [read_PI]
  by_cases c2:b=PI
  ·subst c2;rw [read_PI];exact key _ (by simp;omega)
  ·by_cases c3:b = -PI
   ·subst c3;rw [read_MI];exact key _ (by simp;omega)
   ·rw [read_fin (fin_ofKey (k:=b) (by omega) (by omega))]
    simp only [Datum.product]
    rw [if_neg (mag_ofKey q3 q4 h2),neg_ofKey q3 q4]
    exact key _ (by simp;omega)
 ·by_cases c1':a = -PI
  ·subst c1'
   rw [read_MI]
   by_cases c2:b=PI
   ·subst c2;rw [read_PI];exact key _ (by simp;omega)
   ·by_cases c3:b = -PI
    ·subst c3;rw [read_MI];exact key _ (by simp;omega)
    ·rw [read_fin (fin_ofKey (k:=b) (by omega) (by omega))]
     simp only [Datum.product]
     rw [if_neg (mag_ofKey q3 q4 h2),neg_ofKey q3 q4]
     exact key _ (by simp;omega)
  ·rw [read_fin (fin_ofKey (k:=a) (by omega) (by omega))]
   by_cases c2:b=PI
   ·subst c2;rw [read_PI]
    simp only [Datum.product]
    rw [if_neg (mag_ofKey q1 q2 h1),neg_ofKey q1 q2]
    exact key _ (by simp;omega)
   ·obtain rfl:b = -PI:=by omega
    rw [read_MI]
    simp only [Datum.product]
    rw [if_neg (mag_ofKey q1 q2 h1),neg_ofKey q1 q2]
    exact key _ (by simp;omega)
end Go.Fl
namespace Go.Fl
set_option linter.unusedVariables false
theorem rd_find (c:Int→Int) : ∀ n:Nat,∃ k:Int,-PI≤k∧k ≤ -PI+n∧(k ≠ -PI→0≤c k)∧(k ≠ -PI+n→c (k+1)<0):=by
 intro n
 induction n with
 | zero=>exact ⟨-PI,by omega,by omega,fun h=>absurd rfl h,fun h=>by omega⟩
 | succ n ih =>
  by_cases h:0≤c (-PI+((n:Int)+1))
  ·exact ⟨-PI+((n:Int)+1),by omega,by omega,fun _=>h,fun hh=>by omega⟩
  ·obtain ⟨k,h1,h2,h3,h4⟩:=ih
   refine ⟨k,h1,by omega,h3,fun _ => ?_⟩
   by_cases e:k = -PI+n
   ·rw [e,show -PI+(n:Int)+1 = -PI+((n:Int)+1) by omega];omega
   ·exact h4 e
theorem rd_exists (c:Int→Int) : ∃ k,RD c k:=by
 have hP:=PI_pos
 obtain ⟨k,h1,h2,h3,h4⟩:=rd_find c (2*PI-1).toNat
 exact ⟨k,h1,by omega,h3,fun _=>h4 (by omega)⟩
theorem ru_exists (c:Int→Int) : ∃ k,RU c k:=by
 obtain ⟨k,h1,h2,h3,h4⟩:=rd_exists (fun k => -c (-k))
 refine ⟨-k,by omega,by omega,fun h => ?_,fun h => ?_⟩
 ·have:0 ≤ -c (-k):=h3 (by omega)
  omega
 ·have : -c (-(k+1))<0:=h4 (by omega)
  rw [show -(k+1) = -k-1 by omega] at this
  omega
theorem rnd_exists (up:Bool) (c:Int→Int) : ∃ k,Rnd up c k:=by
 cases up
 ·exact rd_exists c
 ·exact ru_exists c
theorem rnd_spec (up:Bool) (c:Int→Int):Rnd up c (rnd up c):=Classical.epsilon_spec (rnd_exists up c)
theorem rnd_rg (up:Bool) (c:Int→Int):Rg (rnd up c):=Rnd_rg (rnd_spec up c)
theorem rd_spec (c:Int→Int):RD c (rnd false c):=rnd_spec false c
theorem ru_spec (c:Int→Int):RU c (rnd true c):=rnd_spec true c
end Go.Fl
namespace Go.Fl
open Ieee
set_option linter.unusedVariables false
theorem cut_down (s:Bool) (m drop:Nat):Toward.down.cut s m drop=m / 2^drop+(s&&(m%2^drop != 0)).toNat:=by
 unfold Toward.cut
 simp only [Nat.one_shiftLeft]
 by_cases h:drop≤m.log2+2
 ·rw [Nat.min_eq_left h]
 ·rw [Nat.min_eq_right (by omega)]
  have h1:m<2^(m.log2+1):=Nat.lt_log2_self
  have h2:(2:Nat)^(m.log2+1)≤2^(m.log2+2):=Nat.pow_le_pow_right (by omega) (by omega)
  have h3:(2:Nat)^(m.log2+2)≤2^drop:=Nat.pow_le_pow_right (by omega) (by omega)
  rw [Nat.div_eq_of_lt (by omega),Nat.div_eq_of_lt (by omega),Nat.mod_eq_of_lt (by omega),Nat.mod_eq_of_lt (by omega)]
def floorW (x:Nat):Nat:=double.write ((double.read x).integral .down)
def floorK (k:Int):Int:=key (floorW (ofKey k))
theorem floorW_PI:floorW (ofKey PI)=ofKey PI:=by decide
theorem floorW_MI:floorW (ofKey (-PI))=ofKey (-PI):=by decide
theorem write_whole {s:Bool} {q:Nat} {i:Int} (hq:q≤2^53) (h0:q≠0) (hi:0≤i) (hi2:i≤970) :
  ∃ t:Int,¬nan (double.write (.number s q i))∧double.write (.number s q i)=ofKey t∧Rg t∧V t=(if s=true then -1 else 1)*((q*2^(i+1074).toNat:Nat):Int):=by
 obtain ⟨r1,r2,r3,r4⟩:=write_near s q i (by omega)
 have hw:double.write (.number s q i)=double.nearest s q i:=rfl
 rw [hw]
 generalize double.nearest s q i=c at *
 obtain ⟨p,hp⟩ : ∃ p,p=(i+1074).toNat:=⟨_,rfl⟩
 rw [←hp] at r4 ⊢
 rw [show (-(i+1074)).toNat=0 by omega] at r4
 obtain ⟨t,t1,t2,t3⟩:=rep_int (d:=(if s=true then -1 else 1)*((q*2^p:Nat):Int)) (p:=p)
  (by rw [Int.natCast_mul,←Int.mul_assoc];exact Int.dvd_mul_left _ _)
  (by
   have:((if s=true then (-1:Int) else 1)*((q*2^p:Nat):Int)).natAbs=q*2^p:=by
    generalize q*2^p=z
    cases s
    ·simp only [Bool.false_eq_true,if_false];omega
    ·simp only [if_true];omega
   rw [this]
   exact Nat.mul_le_mul_right _ hq) (by omega)
 have hk:key c=t:=near_exact r4 t1 t2 (by rw [t3];simp)
 have hv0:V t≠0:=by
  rw [t3]
  have:0<q*2^p:=Nat.mul_pos (by omega) (Nat.two_pow_pos _)
  generalize q*2^p=z at *
  cases s
  ·simp only [Bool.false_eq_true,if_false];omega
  ·simp only [if_true];omega
 have hk0:key c≠0:=by
  intro h
  rw [hk] at h
  rw [h,V_zero] at hv0
  exact hv0 rfl
 exact ⟨t,r1,by rw [←hk];exact word_of_key r3 hk0,⟨by have:=PI_INF;omega,by have:=PI_INF;omega⟩,t3⟩
theorem floor_facts {k:Int} (h1 : -PI<k) (h2:k<PI) :
  floorW (ofKey k)=ofKey (floorK k)∧Rg (floorK k)∧E74 ∣ V (floorK k)∧V (floorK k)≤V k∧V k<V (floorK k)+E74:=by
 have hP:=PI_pos
 have hX:=X74_eq
 have hr:Rg k:=⟨by omega,by omega⟩
 by_cases h0:k=0
 ·subst h0
  have e:floorW (ofKey 0)=0:=by decide
  have e2:floorK 0=0:=by unfold floorK;rw [e,key_zero]
  rw [e2,V_zero]
  exact ⟨by rw [e];exact zero_ofKey,Rg_zero,⟨0,by simp⟩,by omega,by have:=E74_pos;omega⟩
 ·suffices h : ∃ t,floorW (ofKey k)=ofKey t∧Rg t∧E74 ∣ V t∧V t≤V k∧V k<V t+E74 by
   obtain ⟨t,a,b,c⟩:=h
   have e:floorK k=t:=by unfold floorK;rw [a,key_ofKey b]
   rw [e]
   exact ⟨a,b,c⟩
  have fx:=fin_ofKey h1 h2
  have hm0:=mag_ofKey hr.1 hr.2 h0
  have hVk:V k=(if neg (ofKey k)=true then -1 else 1)*(M (rung (ofKey k)):Int):=by rw [←key_of_neg,key_ofKey hr]
  rw [←mag_pl] at hVk
  have hm53:mag (ofKey k)<2^53:=mgr_lt _
  have hpl:pl (ofKey k)≤2045:=plr_fin fx
  have hbig:1074≤pl (ofKey k)→pl (ofKey k)-1074≤970∨970<pl (ofKey k)-1074:=fun _=>by omega
  unfold floorW
  rw [read_fin fx]
  simp only [Datum.integral]
  generalize neg (ofKey k)=s at *
  generalize mag (ofKey k)=m at *
  generalize hpe:pl (ofKey k)=p at *
  rw [cut_down]
  rcases Nat.lt_or_ge p 1074 with hp|hp
  ·obtain ⟨d,hd⟩ : ∃ d,d=1074-p:=⟨_,rfl⟩
   rw [show ((p:Int)-1074).toNat=0 by omega,show (-((p:Int)-1074)).toNat=d by omega,Nat.shiftLeft_eq,Nat.pow_zero,Nat.mul_one]
   have hdm:=Nat.div_add_mod m (2^d)
   have hml:=Nat.mod_lt m (Nat.two_pow_pos d)
   have hd1:2≤2^d:=by
    have:(2:Nat)^1≤2^d:=Nat.pow_le_pow_right (by omega) (by omega)
    omega
   have hq53:m / 2^d+1≤2^53:=by
    have:m / 2^d≤m / 2:=Nat.div_le_div_left hd1 (by omega)
    omega
   have hE:(E74:Int)=((2^d*2^p:Nat):Int):=by
    rw [E74_nat,←Nat.pow_add]
    exact congrArg (fun t=>((2^t:Nat):Int)) (by omega)
   obtain ⟨q,hq⟩ : ∃ q,q=m / 2^d+(s&&(m%2^d != 0)).toNat:=⟨_,rfl⟩
   rw [←hq]
   have hcmp:(s=false→q*2^d≤m∧m<(q+1)*2^d)∧(s=true→m≤q*2^d∧q*2^d<m+2^d):=by
    have e1 : ∀ z:Nat,z*2^d=2^d*z:=fun z=>Nat.mul_comm _ _
    constructor
    ·intro hs
     rw [hs] at hq
     simp at hq
     rw [hq,Nat.add_mul,e1]
     omega
    ·intro hs
     rw [hs] at hq
     by_cases hz:m%2^d=0
     ·rw [hz] at hq;simp at hq
      rw [hq,e1];omega
     ·have:(m%2^d != 0)=true:=by simpa using hz
      rw [this] at hq;simp at hq
      rw [hq,Nat.add_mul,e1];omega
   have hval : ∀ t,V t=(if s=true then -1 else 1)*((q*2^(2^0*0+1074):Nat):Int)∨True:=fun _ => .inr trivial
   have hfin : ∀ t,V t=(if s=true then -1 else 1)*((q*(2^d*2^p):Nat):Int)→E74 ∣ V t∧V t≤V k∧V k<V t+E74:=by
    intro t ht
    rw [ht,hVk,hE]
    have a1:q*(2^d*2^p)=q*2^d*2^p:=(Nat.mul_assoc _ _ _).symm
    have hpp:0<2^p:=Nat.two_pow_pos p
    refine ⟨by
     rw [Int.natCast_mul q]
     exact Int.dvd_mul_of_dvd_right (Int.dvd_mul_left _ _),?_,?_⟩
    ·rw [a1]
     cases s
     ·have:=Nat.mul_le_mul_right (2^p) (hcmp.1 rfl).1
      simp only [Bool.false_eq_true,if_false];omega
     ·have:=Nat.mul_le_mul_right (2^p) (hcmp.2 rfl).1
      simp only [if_true];omega
    ·rw [a1]
     cases s
     ·have:=Nat.mul_lt_mul_of_pos_right (hcmp.1 rfl).2 hpp
      rw [Nat.add_mul,Nat.one_mul,Nat.add_mul] at this
      simp only [Bool.false_eq_true,if_false];omega
     ·have:=Nat.mul_lt_mul_of_pos_right (hcmp.2 rfl).2 hpp
      rw [Nat.add_mul] at this
      simp only [if_true];omega
   have hqb:q≤2^53:=by
    rw [hq]
    have:(s&&(m%2^d != 0)).toNat≤1:=by cases (s&&(m%2^d != 0))<;>simp
    omega
   by_cases hq0:q=0
   ·have hs:s=false:=by
     cases s
     ·rfl
     ·exfalso
      have:=(hcmp.2 rfl).1
      rw [hq0,Nat.zero_mul] at this
      omega
    subst hs
    rw [hq0] at hfin ⊢
    refine ⟨0,by decide,Rg_zero,hfin 0 (by rw [V_zero];simp)⟩
   ·obtain ⟨t,t1,t2,t3,t4⟩:=write_whole (s:=s) (i:=0) hqb hq0 (by omega) (by omega)
    refine ⟨t,t2,t3,hfin t ?_⟩
    rw [t4]
    have:(2:Nat)^((0:Int)+1074).toNat=2^d*2^p:=by
     rw [←Nat.pow_add]
     exact congrArg (fun t=>2^t) (by omega)
    rw [this]
  ·
   obtain ⟨j,hj⟩ : ∃ j,j=p-1074:=⟨_,rfl⟩
   rw [show ((p:Int)-1074).toNat=j by omega,show (-((p:Int)-1074)).toNat=0 by omega,Nat.shiftLeft_eq,Nat.pow_zero,Nat.div_one,Nat.mod_one]
   have e0:(s&&(0 != 0:Bool)).toNat=0:=by cases s<;>rfl
   rw [e0,Nat.add_zero]
   refine ⟨k,?_,hr,?_⟩
   ·obtain ⟨r1,r2,r3,r4⟩:=write_near s (m*2^j) 0 (Nat.mul_pos (by omega) (Nat.two_pow_pos _))
    show double.nearest s (m*2^j) 0=ofKey k
    generalize double.nearest s (m*2^j) 0=c at *
    have e:m*2^j*2^((0:Int)+1074).toNat=m*2^p:=by
     rw [Nat.mul_assoc,←Nat.pow_add]
     exact congrArg (fun t=>m*2^t) (by omega)
    rw [e,←hVk,show (-((0:Int)+1074)).toNat=0 by omega] at r4
    have hk:key c=k:=near_exact r4 (by have:=PI_INF;omega) (by have:=PI_INF;omega) (by simp)
    rw [word_of_key r3 (by omega),hk]
   ·refine ⟨?_,by omega,by have:=E74_pos;omega⟩
    rw [hVk,E74_nat,Int.natCast_mul,←Int.mul_assoc]
    refine Int.dvd_trans ?_ (Int.dvd_mul_left _ _)
    exact Int.natCast_dvd_natCast.2 (Nat.pow_dvd_pow 2 (by omega))
theorem floor_PI:floorK PI=PI:=by unfold floorK;rw [floorW_PI,key_ofKey Rg_PI]
theorem floor_MI:floorK (-PI) = -PI:=by unfold floorK;rw [floorW_MI,key_ofKey Rg_MI]
theorem floorK_all {k:Int} (h:Rg k):floorW (ofKey k)=ofKey (floorK k)∧Rg (floorK k):=by
 have h1:=h.1;have h2:=h.2
 by_cases a:k=PI
 ·subst a;rw [floor_PI,floorW_PI];exact ⟨rfl,Rg_PI⟩
 ·by_cases b:k = -PI
  ·subst b;rw [floor_MI,floorW_MI];exact ⟨rfl,Rg_MI⟩
  ·have:=floor_facts (k:=k) (by omega) (by omega)
   exact ⟨this.1,this.2.1⟩
theorem floorK_rg {k:Int} (h:Rg k):Rg (floorK k):=(floorK_all h).2
end Go.Fl
namespace Go.Proofs.YteephgpefhodnaaGreat
open Go.Fl
theorem rnd_two {c:Int→Int} (hc:Cut c):rnd false c≤rnd true c∧rnd true c≤rnd false c+1:=by
 obtain ⟨d1,d2,d3,d4⟩:=rd_spec c
 obtain ⟨u1,u2,u3,u4⟩:=ru_spec c
 generalize rnd false c=k at *
 generalize rnd true c=j at *
 constructor
 ·refine Int.not_lt.1 fun h => ?_
  have a:=d3 (by omega)
  have b:=(hc j k h).1 a
  have e:=u3 (by omega)
  omega
 ·refine Int.not_lt.1 fun h => ?_
  have a:=d4 (by omega)
  have b:=u4 (by omega)
  by_cases he:j-1=k+1
  ·rw [he] at b;omega
  ·have:=(hc (k+1) (j-1) (by omega)).2 (by omega)
   omega
theorem rnd_mono {c c':Int→Int} (hc:Cut c') (h : ∀ k,0≤c k→0≤c' k) (h2 : ∀ k,0<c k→0<c' k) (up:Bool):rnd up c≤rnd up c':=by
 cases up
 ·obtain ⟨d1,d2,d3,d4⟩:=rd_spec c
  obtain ⟨e1,e2,e3,e4⟩:=rd_spec c'
  generalize rnd false c=k at *
  generalize rnd false c'=j at *
  refine Int.not_lt.1 fun hl => ?_
  have a:=h k (d3 (by omega))
  have b:=e4 (by omega)
  by_cases he:j+1=k
  ·rw [he] at b;omega
  ·have:=(hc (j+1) k (by omega)).2 (by omega)
   omega
 ·obtain ⟨d1,d2,d3,d4⟩:=ru_spec c
  obtain ⟨e1,e2,e3,e4⟩:=ru_spec c'
  generalize rnd true c=k at *
  generalize rnd true c'=j at *
  refine Int.not_lt.1 fun hl => ?_
  have a:=e3 (by omega)
  have b:=h2 (k-1) (d4 (by omega))
  by_cases he:k-1=j
  ·rw [he] at b;omega
  ·have:=(hc j (k-1) (by omega)).2 (by omega)
   omega
theorem rnd_exact {c:Int→Int} (hc:Cut c) {k:Int} (h:c k=0) (h1 : -PI<k) (h2:k<PI) (up:Bool):rnd up c=k:=by
 refine rnd_eq hc ?_
 have a:=(hc k (k+1) (by omega)).2 (by omega)
 have b:=(hc (k-1) k (by omega)).1 (by omega)
 cases up
 ·exact ⟨by omega,by omega,fun _=>by omega,fun _=>a⟩
 ·exact ⟨by omega,by omega,fun _=>by omega,fun _=>b⟩
theorem rnd_flip {c c':Int→Int} (hc:Cut c') (h : ∀ k,c' k = -c (-k)) (up:Bool):rnd (!up) c' = -rnd up c:=by
 refine rnd_eq hc ?_
 cases up
 ·obtain ⟨d1,d2,d3,d4⟩:=rd_spec c
  generalize rnd false c=k at *
  refine ⟨by omega,by omega,fun hk => ?_,fun hk => ?_⟩
  ·have:=d3 (by omega)
   rw [h,Int.neg_neg];omega
  ·have:=d4 (by omega)
   rw [h,show -(-k-1)=k+1 by omega];omega
 ·obtain ⟨d1,d2,d3,d4⟩:=ru_spec c
  generalize rnd true c=k at *
  refine ⟨by omega,by omega,fun hk => ?_,fun hk => ?_⟩
  ·have:=d3 (by omega)
   rw [h,Int.neg_neg];omega
  ·have:=d4 (by omega)
   rw [h,show -(-k+1)=k-1 by omega];omega
theorem V_nn {k:Int} (h:0≤k):0≤V k:=by rw [←V_zero];exact V_le h
theorem V_np {k:Int} (h:k≤0):V k≤0:=by rw [←V_zero];exact V_le h
theorem V_ps {k:Int} (h:0<k):0<V k:=by rw [←V_zero];exact V_lt h
theorem V_ng {k:Int} (h:k<0):V k<0:=by rw [←V_zero];exact V_lt h
theorem cAdd_comm (x y:Int):cAdd x y=cAdd y x:=by funext k;unfold cAdd;omega
theorem sum_mono {x x' y y':Int} (hx:x≤x') (hy:y≤y') (up:Bool):rnd up (cAdd x y)≤rnd up (cAdd x' y'):=by
 have:=V_le hx
 have:=V_le hy
 exact rnd_mono (cut_add _ _) (fun k h=>by unfold cAdd at *;omega) (fun k h=>by unfold cAdd at *;omega) up
theorem sum_flip (x y:Int) (up:Bool):rnd (!up) (cAdd (-x) (-y)) = -rnd up (cAdd x y) :=
 rnd_flip (cut_add _ _) (fun k=>by unfold cAdd;rw [V_neg,V_neg,V_neg];omega) up
theorem sum_zero (x:Int) (h1 : -PI<x) (h2:x<PI) (up:Bool):rnd up (cAdd x 0)=x :=
 rnd_exact (cut_add _ _) (by unfold cAdd;rw [V_zero];omega) h1 h2 up
theorem cMul_comm (x y:Int):cMul x y=cMul y x:=by funext k;unfold cMul;rw [Int.mul_comm (V x)]
theorem prod_mono {x x' y:Int} (hx:x≤x') (hy:0≤y) (up:Bool):rnd up (cMul x y)≤rnd up (cMul x' y):=by
 have:=Int.mul_le_mul_of_nonneg_right (V_le hx) (V_nn hy)
 exact rnd_mono (cut_mul _ _) (fun k h=>by unfold cMul at *;omega) (fun k h=>by unfold cMul at *;omega) up
theorem prod_flip (x y:Int) (up:Bool):rnd (!up) (cMul (-x) y) = -rnd up (cMul x y) :=
 rnd_flip (cut_mul _ _) (fun k=>by unfold cMul;rw [V_neg,V_neg,Int.neg_mul,Int.neg_mul];omega) up
theorem prod_zero (x:Int) (up:Bool):rnd up (cMul x 0)=0 :=
 rnd_exact (cut_mul _ _) (by unfold cMul;rw [V_zero,Int.mul_zero,Int.zero_mul];rfl) (by decide) (by decide) up
theorem quot_mono {x x' y:Int} (hx:x≤x') (hy:0<y) (up:Bool):rnd up (cDiv x y)≤rnd up (cDiv x' y):=by
 have:=Int.mul_le_mul_of_nonneg_right (V_le hx) (Int.le_of_lt E74_pos)
 refine rnd_mono (cut_div _ _ (by omega)) (fun k h => ?_) (fun k h => ?_) up<;>(unfold cDiv at *;rw [if_pos hy] at *;omega)
theorem quot_anti {x y y':Int} (hx:0≤x) (hy:0<y) (hyy:y≤y') (up:Bool):rnd up (cDiv x y')≤rnd up (cDiv x y):=by
 have hy':0<y':=by omega
 have e:0≤V x*E74:=Int.mul_nonneg (V_nn hx) (Int.le_of_lt E74_pos)
 have key : ∀ k,V k*V y≤V k*V y'∨V k*V y<0:=fun k=>by
  by_cases hk:0≤k
  ·exact .inl (Int.mul_le_mul_of_nonneg_left (V_le hyy) (V_nn hk))
  ·exact .inr (Int.mul_neg_of_neg_of_pos (V_ng (by omega)) (V_ps hy))
 refine rnd_mono (cut_div _ _ (by omega)) (fun k h => ?_) (fun k h => ?_) up
 ·unfold cDiv at *;rw [if_pos hy'] at h;rw [if_pos hy];rcases key k with g|g<;>omega
 ·unfold cDiv at *;rw [if_pos hy'] at h;rw [if_pos hy];rcases key k with g|g<;>omega
theorem quot_flip (x y:Int) (hy:y≠0) (up:Bool):rnd (!up) (cDiv (-x) y) = -rnd up (cDiv x y):=by
 refine rnd_flip (cut_div _ _ hy) (fun k => ?_) up
 unfold cDiv
 by_cases h:0<y
 ·rw [if_pos h,if_pos h,V_neg,V_neg,Int.neg_mul,Int.neg_mul];omega
 ·rw [if_neg h,if_neg h,V_neg,V_neg,Int.neg_mul,Int.neg_mul];omega
theorem cDiv_neg (x y:Int) (hy:y≠0):cDiv (-x) (-y)=cDiv x y:=by
 funext k
 unfold cDiv
 by_cases h:0<y
 ·rw [if_pos h,if_neg (by omega),V_neg,V_neg,Int.neg_mul,Int.mul_neg];omega
 ·rw [if_neg h,if_pos (by omega),V_neg,V_neg,Int.neg_mul,Int.mul_neg];omega
theorem quot_zero (y:Int) (hy:y≠0) (up:Bool):rnd up (cDiv 0 y)=0:=by
 refine rnd_exact (cut_div _ _ hy) ?_ (by decide) (by decide) up
 unfold cDiv
 rw [V_zero,Int.zero_mul,Int.zero_mul]
 split<;>rfl
theorem root_mono {x x':Int} (h:x≤x') (up:Bool):rnd up (cSqrt x)≤rnd up (cSqrt x'):=by
 have:=Int.mul_le_mul_of_nonneg_right (V_le h) (Int.le_of_lt E74_pos)
 refine rnd_mono (cut_sqrt _) (fun k h => ?_) (fun k h => ?_) up<;>(unfold cSqrt at *;split<;>(try rw [if_pos (by assumption)] at h)<;>(try rw [if_neg (by assumption)] at h)<;>omega)
theorem not_up (up:Bool):(!(!up))=up:=by cases up<;>rfl
end Go.Proofs.YteephgpefhodnaaGreat
