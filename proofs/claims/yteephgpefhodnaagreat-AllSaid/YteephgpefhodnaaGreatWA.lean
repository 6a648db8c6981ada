/- Plain arithmetic of 64-bit floating-point words: keys, magnitudes, order. No program in sight. Rounding: the nearest word is one of the two neighbours of the real. Operations on words, said of keys: order, sign, sum with nought. A region that draws its order: first operations that are quiet in a class of worlds (reads, and calls that only lay new blocks), then writes at the end. One walk in the order of the text serves every order. Rules of the walk for floating-point words that are given by their keys. Cells that are carried from world to world; a loop of a known number of rounds. Cells and the growth of a world, carried in one hypothesis. -/
import Derived.Laws.FloatArith
import Derived.Lib.QuietBelow
import Derived.StillTail
import Derived.WalkKit
import Derived.WalkSpells
import Derived.WalkLawsBesides
import Derived.Laws.Externs
import Derived.Handy
import Derived.Deep.QuietTactic
import Derived.BigQuiet
import Derived.WalkSmall
import Derived.Laws.NewBlocks
namespace Go.Fl
open Ieee
def INF:Nat:=9218868437227405312
theorem INF_eq:INF=2047*2^52:=by decide
theorem infRung_eq:double.infRung=INF:=by decide
theorem signWeight_eq:double.signWeight=2^63:=by decide
theorem binade_eq:double.binade=2^52:=by decide
theorem leastPlace_eq:double.leastPlace = -1074:=by decide
def rung (x:Nat):Nat:=x%2^63
def neg (x:Nat):Bool:=x / 2^63%2==1
def key (x:Nat):Int:=if neg x then -(rung x:Int) else (rung x:Int)
def nan (x:Nat):Prop:=INF<rung x
def fin (x:Nat):Prop:=rung x<INF
instance (x:Nat):Decidable (nan x):=by unfold nan;infer_instance
instance (x:Nat):Decidable (fin x):=by unfold fin;infer_instance
def ofKey (k:Int):Nat:=if 0≤k then k.toNat else 2^63+(-k).toNat
def ulp (r:Nat):Nat:=2^(r / 2^52-1)
def M (r:Nat):Nat:=if r<2^52 then r else (2^52+r%2^52)*2^(r / 2^52-1)
def V (k:Int):Int:=if 0≤k then (M k.toNat:Int) else -(M (-k).toNat:Int)
theorem ulp_pos (r:Nat):0<ulp r:=Nat.two_pow_pos _
theorem M_succ (r:Nat):M (r+1)=M r+ulp r:=by
 unfold M ulp
 by_cases h:r<2^52
 ·by_cases h1:r+1<2^52
  ·rw [if_pos h1,if_pos h,show r / 2^52=0 by omega]
  ·have h2:r+1=2^52:=by omega
   rw [if_neg h1,if_pos h,h2,show r / 2^52=0 by omega]
   omega
 ·rw [if_neg h,if_neg (by omega)]
  by_cases h1:r%2^52+1<2^52
  ·rw [show (r+1) / 2^52=r / 2^52 by omega,show (r+1)%2^52=r%2^52+1 by omega]
   rw [←Nat.add_assoc,Nat.add_mul _ 1,Nat.one_mul]
  ·rw [show (r+1) / 2^52=(r / 2^52-1)+1+1 by omega,show (r+1)%2^52=0 by omega]
   rw [show r / 2^52-1+1+1-1=r / 2^52-1+1 by omega,show 2^(r / 2^52-1+1)=2^(r / 2^52-1)*2 from Nat.pow_succ _ _]
   generalize 2^(r / 2^52-1)=u
   rw [show r%2^52=2^52-1 by omega]
   omega
theorem M_lt_succ (r:Nat):M r<M (r+1):=by rw [M_succ];have:=ulp_pos r;omega
theorem M_lt {r s:Nat} (h:r<s):M r<M s:=by
 induction s with
 | zero=>omega
 | succ s ih =>
  by_cases e:r=s
  ·subst e;exact M_lt_succ r
  ·exact Nat.lt_trans (ih (by omega)) (M_lt_succ s)
theorem M_le {r s:Nat} (h:r≤s):M r≤M s:=by
 by_cases e:r=s
 ·subst e;exact Nat.le_refl _
 ·exact Nat.le_of_lt (M_lt (by omega))
theorem M_lt_iff {r s:Nat}:M r<M s↔r<s:=by
 constructor
 ·intro h;by_cases e:r<s
  ·exact e
  ·have:=M_le (show s≤r by omega);omega
 ·exact M_lt
theorem M_le_iff {r s:Nat}:M r≤M s↔r≤s:=by
 constructor
 ·intro h;by_cases e:r≤s
  ·exact e
  ·have:=M_lt (show s<r by omega);omega
 ·exact M_le
theorem M_zero:M 0=0:=by simp [M]
theorem V_nat (r:Nat):V (r:Int)=(M r:Int):=by simp [V]
theorem V_neg (k:Int):V (-k) = -V k:=by
 unfold V
 by_cases h:0≤k
 ·by_cases h0:k=0
  ·subst h0;simp [M_zero]
  ·rw [if_neg (by omega),if_pos h];simp
 ·rw [if_pos (by omega),if_neg h];simp
theorem V_lt {j k:Int} (h:j<k):V j<V k:=by
 unfold V
 by_cases hj:0≤j
 ·rw [if_pos hj,if_pos (by omega)]
  have:=M_lt (show j.toNat<k.toNat by omega);omega
 ·rw [if_neg hj]
  by_cases hk:0≤k
  ·rw [if_pos hk]
   have:=M_lt (show 0<(-j).toNat by omega);rw [M_zero] at this;omega
  ·rw [if_neg hk]
   have:=M_lt (show (-k).toNat<(-j).toNat by omega);omega
theorem V_le {j k:Int} (h:j≤k):V j≤V k:=by
 by_cases e:j=k
 ·subst e;exact Int.le_refl _
 ·exact Int.le_of_lt (V_lt (by omega))
theorem V_lt_iff {j k:Int}:V j<V k↔j<k:=by
 constructor
 ·intro h;by_cases e:j<k
  ·exact e
  ·have:=V_le (show k≤j by omega);omega
 ·exact V_lt
theorem V_le_iff {j k:Int}:V j≤V k↔j≤k:=by
 constructor
 ·intro h;by_cases e:j≤k
  ·exact e
  ·have:=V_lt (show k<j by omega);omega
 ·exact V_le
theorem V_inj {j k:Int}:V j=V k↔j=k:=by
 constructor
 ·intro h
  have h1:=V_le_iff.1 (Int.le_of_eq h);have h2:=V_le_iff.1 (Int.le_of_eq h.symm);omega
 ·intro h;rw [h]
theorem V_zero:V 0=0:=by simp [V,M_zero]
def mag (x:Nat):Nat:=if rung x<2^52 then rung x else 2^52+rung x%2^52
def pl (x:Nat):Nat:=rung x / 2^52-1
theorem mag_pl (x:Nat):mag x*2^pl x=M (rung x):=by
 unfold mag pl M
 by_cases h:rung x<2^52
 ·rw [if_pos h,if_pos h,show rung x / 2^52=0 by omega];simp
 ·rw [if_neg h,if_neg h]
theorem read_fin {x:Nat} (h:fin x):double.read x = .number (neg x) (mag x) ((pl x:Int)-1074):=by
 unfold fin at h
 unfold Format.read
 rw [signWeight_eq,binade_eq,infRung_eq,leastPlace_eq]
 unfold mag pl neg
 unfold rung at *
 simp only
 by_cases h1:x%2^63<2^52
 ·rw [if_pos h1,if_pos h1,show x%2^63 / 2^52=0 by omega]
  rfl
 ·rw [if_neg h1,if_neg h1,if_pos h,Int.add_comm]
  rfl
theorem read_inf {x:Nat} (h:rung x=INF):double.read x = .infinity (neg x):=by
 have h0:=INF_eq
 unfold Format.read
 rw [signWeight_eq,binade_eq,infRung_eq,leastPlace_eq]
 unfold neg
 unfold rung at *
 simp only
 rw [if_neg (by omega),if_neg (by omega),if_pos h]
theorem read_nan {x:Nat} (h:nan x) : ∃ t,double.read x = .nan (neg x) t:=by
 have h0:=INF_eq
 unfold nan at h
 unfold Format.read
 rw [signWeight_eq,binade_eq,infRung_eq,leastPlace_eq]
 unfold neg
 unfold rung at *
 simp only
 rw [if_neg (by omega),if_neg (by omega),if_neg (by omega)]
 exact ⟨_,rfl⟩
theorem fmt:FloatKind.f64.format=double:=rfl
theorem signed_val (s:Bool) (m:Nat) (p b:Int) (hb:b≤p) (hb0 : -1074≤b) :
  Ieee.signed s m (p-b).toNat*(2:Int)^(b+1074).toNat=(if s then -1 else 1)*((m*2^(p+1074).toNat:Nat):Int):=by
 unfold Ieee.signed
 have e:(p+1074).toNat=(p-b).toNat+(b+1074).toNat:=by omega
 rw [e,Nat.pow_add,Nat.shiftLeft_eq]
 cases s<;>simp [Int.natCast_mul,Int.mul_assoc,Int.neg_mul]
theorem key_of_neg {x:Nat}:V (key x)=(if neg x then -1 else 1)*(M (rung x):Int):=by
 unfold key
 cases neg x
 ·simp [V_nat]
 ·simp [V_neg,V_nat]
theorem compare_mul (a b c:Int) (hc:0<c):compare (a*c) (b*c)=compare a b:=by
 simp only [compare,compareOfLessAndEq]
 have h1:a*c<b*c↔a<b:=Int.mul_lt_mul_right hc
 have h2:a*c=b*c↔a=b:=Int.mul_eq_mul_right_iff (by omega)
 simp [h1,h2]
theorem compare_V (j k:Int):compare (V j) (V k)=compare j k:=by
 simp only [compare,compareOfLessAndEq,V_lt_iff,V_inj]
theorem order_fin {x y:Nat} (hx:fin x) (hy:fin y):double.order x y=some (compare (key x) (key y)):=by
 unfold Format.order
 rw [read_fin hx,read_fin hy]
 simp only [Datum.order]
 congr 1
 have hb0 : -1074≤min ((pl x:Int)-1074) ((pl y:Int)-1074):=by omega
 have h1:=signed_val (neg x) (mag x) ((pl x:Int)-1074) (min ((pl x:Int)-1074) ((pl y:Int)-1074)) (by omega) hb0
 have h2:=signed_val (neg y) (mag y) ((pl y:Int)-1074) (min ((pl x:Int)-1074) ((pl y:Int)-1074)) (by omega) hb0
 have hp:(0:Int)<2^(min ((pl x:Int)-1074) ((pl y:Int)-1074)+1074).toNat:=Int.pow_pos (by omega)
 rw [←compare_mul _ _ _ hp,h1,h2]
 rw [show ((pl x:Int)-1074+1074).toNat=pl x by omega,show ((pl y:Int)-1074+1074).toNat=pl y by omega,mag_pl,mag_pl,←key_of_neg,←key_of_neg,compare_V]
theorem order_nan_left {x y:Nat} (hx:nan x):double.order x y=none:=by
 obtain ⟨t,ht⟩:=read_nan hx
 unfold Format.order;rw [ht];rfl
theorem order_nan_right {x y:Nat} (hy:nan y):double.order x y=none:=by
 obtain ⟨t,ht⟩:=read_nan hy
 unfold Format.order;rw [ht];cases double.read x<;>rfl
theorem order_key {x y:Nat} (hx : ¬nan x) (hy : ¬nan y):double.order x y=some (compare (key x) (key y)):=by
 unfold nan at hx hy
 by_cases fx:fin x
 ·by_cases fy:fin y
  ·exact order_fin fx fy
  ·have ry:rung y=INF:=by unfold fin at fy;omega
   unfold Format.order
   rw [read_fin fx,read_inf ry]
   unfold fin at fx
   have h1:(key x<INF)∧(-INF<key x):=by unfold key;split<;>omega
   have h2:key y=if neg y then -(INF:Int) else INF:=by unfold key;rw [ry]
   simp only [Datum.order,compare,compareOfLessAndEq,h2]
   cases neg y
   ·simp only [Bool.false_eq_true,if_false];rw [if_pos h1.1]
   ·simp only [if_true];rw [if_neg (by omega),if_neg (by omega)]
 ·have rx:rung x=INF:=by unfold fin at fx;omega
  by_cases fy:fin y
  ·unfold Format.order
   rw [read_fin fy,read_inf rx]
   unfold fin at fy
   have h1:(key y<INF)∧(-INF<key y):=by unfold key;split<;>omega
   have h2:key x=if neg x then -(INF:Int) else INF:=by unfold key;rw [rx]
   simp only [Datum.order,compare,compareOfLessAndEq,h2]
   cases neg x
   ·simp only [Bool.false_eq_true,if_false];rw [if_neg (by omega),if_neg (by omega)]
   ·simp only [if_true];rw [if_pos h1.2]
  ·have ry:rung y=INF:=by unfold fin at fy;omega
   unfold Format.order
   rw [read_inf rx,read_inf ry]
   simp only [Datum.order,key,rx,ry,compare,compareOfLessAndEq]
   cases neg x<;>cases neg y<;>simp [INF]
end Go.Fl
namespace Go.Fl
open Ieee
theorem M_at (l kept:Nat) (h:l=0∨2^52≤kept) (h1:kept≤2^53):M (l*2^52+kept)=kept*2^l:=by
 unfold M
 rcases Nat.lt_or_ge kept (2^52) with h2|h2
 ·obtain rfl:l=0:=by omega
  rw [if_pos (by omega)];simp
 ·rw [if_neg (by omega)]
  rcases Nat.lt_or_ge kept (2^53) with h3|h3
  ·rw [show (l*2^52+kept)%2^52=kept-2^52 by omega,show (l*2^52+kept) / 2^52-1=l by omega]
   rw [show 2^52+(kept-2^52)=kept by omega]
  ·obtain rfl:kept=2^53:=by omega
   rw [show (l*2^52+2^53)%2^52=0 by omega,show (l*2^52+2^53) / 2^52-1=l+1 by omega]
   rw [show 2^(l+1)=2^l*2 from Nat.pow_succ _ _,Nat.mul_comm (2^l),←Nat.mul_assoc]
theorem cut_even (s:Bool) (m drop:Nat) (hm:0<m) :
  Toward.even.cut s m drop=m / 2^drop∨(Toward.even.cut s m drop=m / 2^drop+1∧m%2^drop≠0):=by
 unfold Toward.cut
 simp only [Nat.one_shiftLeft]
 by_cases h:drop≤m.log2+2
 ·rw [Nat.min_eq_left h]
  generalize hb:(decide (2^drop<2*(m%2^drop))||(2^drop==2*(m%2^drop)&&m / 2^drop%2==1))=b
  cases b
  ·left;simp
  ·right
   refine ⟨by simp,fun h0 => ?_⟩
   rw [h0] at hb
   have:=Nat.two_pow_pos drop
   simp at hb
 ·left
  rw [Nat.min_eq_right (by omega)]
  have h1:m<2^(m.log2+1):=Nat.lt_log2_self
  have h2:(2:Nat)^(m.log2+2)=2^(m.log2+1)*2:=Nat.pow_succ _ _
  have h3:m<2^drop:=Nat.lt_of_lt_of_le h1 (Nat.pow_le_pow_right (by omega) (by omega))
  rw [Nat.div_eq_of_lt (by omega),Nat.mod_eq_of_lt (by omega),Nat.div_eq_of_lt h3]
  have h4:decide (2^(m.log2+2)<2*m)=false:=by simp;omega
  have h5:(2^(m.log2+2)==2*m)=false:=by simp;omega
  rw [h4,h5];simp
def NearN (r n d:Nat):Prop:=r≤INF ∧ ∀ j,j≤INF→(j<r→M j*d<n)∧(r<j→n<M j*d)
theorem nearN_low {r n d:Nat} (hd:0<d) (h1:M r*d≤n) (h2:n<M (r+1)*d):NearN (min r INF) n d:=by
 refine ⟨Nat.min_le_right _ _,fun j hj=>⟨fun h => ?_,fun h => ?_⟩⟩
 ·exact Nat.lt_of_lt_of_le (Nat.mul_lt_mul_of_pos_right (M_lt (by omega)) hd) h1
 ·exact Nat.lt_of_lt_of_le h2 (Nat.mul_le_mul_right _ (M_le (by omega)))
theorem nearN_high {r n d:Nat} (hd:0<d) (h1:M r*d<n) (h2:n≤M (r+1)*d):NearN (min (r+1) INF) n d:=by
 refine ⟨Nat.min_le_right _ _,fun j hj=>⟨fun h => ?_,fun h => ?_⟩⟩
 ·exact Nat.lt_of_le_of_lt (Nat.mul_le_mul_right _ (M_le (by omega))) h1
 ·exact Nat.lt_of_le_of_lt h2 (Nat.mul_lt_mul_of_pos_right (M_lt (by omega)) hd)
theorem nearest_eq (s:Bool) (m:Nat) (place:Int) (hm:0<m) :
  ∃ r,double.nearest s m place=double.word s r∧NearN r (m*2^(place+1074).toNat) (2^(-(place+1074)).toNat):=by
 unfold Format.nearest
 rw [if_neg (by omega),leastPlace_eq,binade_eq,infRung_eq]
 simp only
 refine ⟨_,rfl,?_⟩
 have hfb:(double.fractionBits:Int)=52:=by decide
 rw [hfb]
 generalize hlast:max (place+(m.log2:Int)-52) (-1074)=last
 generalize hl:(last - -1074).toNat=l
 generalize hsh:(place-last).toNat=sh
 generalize hdr:(last-place).toNat=drop
 rw [Nat.shiftLeft_eq]
 generalize ha:(place+1074).toNat=a
 generalize hb:(-(place+1074)).toNat=b
 have hexp:a+drop=sh+l+b:=by omega
 have hne:0<m*2^sh:=Nat.mul_pos hm (Nat.two_pow_pos _)
 have hL1:2^m.log2≤m:=Nat.log2_self_le (by omega)
 have hL2:m<2^(m.log2+1):=Nat.lt_log2_self
 have hcut:=cut_even s (m*2^sh) drop hne
 generalize Toward.even.cut s (m*2^sh) drop=kept at hcut ⊢
 have hq1:m*2^sh / 2^drop*2^drop≤m*2^sh:=Nat.div_mul_le_self _ _
 have hq2:m*2^sh<(m*2^sh / 2^drop+1)*2^drop:=by
  rw [Nat.mul_comm (m*2^sh / 2^drop+1)];exact Nat.lt_mul_div_succ _ (Nat.two_pow_pos _)
 have hq3:m*2^sh%2^drop≠0→m*2^sh / 2^drop*2^drop<m*2^sh:=by
  intro h
  have:=Nat.div_add_mod (m*2^sh) (2^drop)
  rw [Nat.mul_comm] at this
  omega
 have hqb:m*2^sh / 2^drop<2^53:=by
  rw [Nat.div_lt_iff_lt_mul (Nat.two_pow_pos _)]
  have e1:m*2^sh<2^(m.log2+1)*2^sh:=Nat.mul_lt_mul_of_pos_right hL2 (Nat.two_pow_pos _)
  refine Nat.lt_of_lt_of_le e1 ?_
  rw [←Nat.pow_add,←Nat.pow_add]
  exact Nat.pow_le_pow_right (by omega) (by omega)
 have hqa:l=0∨2^52≤m*2^sh / 2^drop:=by
  by_cases h0:l=0
  ·exact .inl h0
  ·right
   rw [Nat.le_div_iff_mul_le (Nat.two_pow_pos _)]
   refine Nat.le_trans ?_ (Nat.mul_le_mul_right _ hL1)
   rw [←Nat.pow_add,←Nat.pow_add]
   exact Nat.pow_le_pow_right (by omega) (by omega)
 generalize hq:m*2^sh / 2^drop=q at *
 have hd:0<2^b:=Nat.two_pow_pos _
 have hA:0<2^drop:=Nat.two_pow_pos _
 have hid:m*2^a*2^drop=m*2^sh*(2^l*2^b):=by
  rw [Nat.mul_assoc,Nat.mul_assoc,←Nat.pow_add,←Nat.pow_add,←Nat.pow_add,hexp,Nat.add_assoc]
 have hlow:q*2^l*2^b≤m*2^a:=by
  refine Nat.le_of_mul_le_mul_right ?_ hA
  rw [hid,Nat.mul_assoc q,Nat.mul_right_comm q]
  exact Nat.mul_le_mul_right _ hq1
 have hhigh:m*2^a<(q+1)*2^l*2^b:=by
  refine Nat.lt_of_mul_lt_mul_right (a:=2^drop) ?_
  rw [hid,Nat.mul_assoc (q+1),Nat.mul_right_comm (q+1)]
  exact Nat.mul_lt_mul_of_pos_right hq2 (Nat.mul_pos (Nat.two_pow_pos _) hd)
 have hstrict:m*2^sh%2^drop≠0→q*2^l*2^b<m*2^a:=by
  intro h
  refine Nat.lt_of_mul_lt_mul_right (a:=2^drop) ?_
  rw [hid,Nat.mul_assoc q,Nat.mul_right_comm q]
  exact Nat.mul_lt_mul_of_pos_right (hq3 h) (Nat.mul_pos (Nat.two_pow_pos _) hd)
 have m0:=M_at l q hqa (by omega)
 have m1:=M_at l (q+1) (by omega) (by omega)
 rcases hcut with h|⟨h,h0⟩
 ·rw [h]
  exact nearN_low hd (by rw [m0];exact hlow) (by rw [Nat.add_assoc,m1];exact hhigh)
 ·rw [h]
  have e:l*2^52+(q+1)=l*2^52+q+1:=by omega
  rw [e] at m1 ⊢
  exact nearN_high (r:=l*2^52+q) hd (by rw [m0];exact hstrict h0) (by rw [m1];exact Nat.le_of_lt hhigh)
def Near (k N D:Int):Prop := -(INF:Int)≤k∧k≤INF ∧ ∀ j:Int,-(INF:Int)≤j→j≤INF→(j<k→V j*D<N)∧(k<j→N<V j*D)
theorem Near.neg {k N D:Int} (h:Near k N D):Near (-k) (-N) D:=by
 obtain ⟨h1,h2,h3⟩:=h
 refine ⟨by omega,by omega,fun j a b => ?_⟩
 have:=h3 (-j) (by omega) (by omega)
 rw [V_neg,Int.neg_mul] at this
 exact ⟨fun h=>by have:=this.2 (by omega);omega,fun h=>by have:=this.1 (by omega);omega⟩
theorem nearN_near {r n d:Nat} (h:NearN r n d) (hn:0<n):Near (r:Int) n d:=by
 obtain ⟨h1,h3⟩:=h
 refine ⟨by omega,by omega,fun j a b=>⟨fun h => ?_,fun h => ?_⟩⟩
 ·by_cases hj:0≤j
  ·obtain ⟨j,rfl⟩:=Int.eq_ofNat_of_zero_le hj
   have:=(h3 j (by omega)).1 (by omega)
   rw [V_nat];exact_mod_cast this
  ·have e:V j≤0:=by rw [←V_zero];exact V_le (by omega)
   have:=Int.mul_nonpos_of_nonpos_of_nonneg e (show (0:Int)≤d by omega)
   omega
 ·obtain ⟨j,rfl⟩:=Int.eq_ofNat_of_zero_le (show 0≤j by omega)
  have:=(h3 j (by omega)).2 (by omega)
  rw [V_nat];exact_mod_cast this
theorem word_key {s:Bool} {r:Nat} (h:r≤INF):rung (double.word s r)=r∧neg (double.word s r)=s∧double.word s r<2^64:=by
 have h0:=INF_eq
 unfold rung neg Format.word
 rw [signWeight_eq]
 cases s
 ·simp only [Bool.false_eq_true,if_false]
  exact ⟨by omega,by rw [show r / 2^63=0 by omega];rfl,by omega⟩
 ·simp only [if_true]
  exact ⟨by omega,by rw [show (2^63+r) / 2^63=1 by omega];rfl,by omega⟩
theorem write_near (s:Bool) (m:Nat) (place:Int) (hm:0<m) :
  ¬nan (double.nearest s m place)∧neg (double.nearest s m place)=s∧double.nearest s m place<2^64 ∧
  Near (key (double.nearest s m place)) ((if s then -1 else 1)*((m*2^(place+1074).toNat:Nat):Int)) ((2^(-(place+1074)).toNat:Nat):Int):=by
 obtain ⟨r,h,hr⟩:=nearest_eq s m place hm
 obtain ⟨h1,h2,h3⟩:=word_key (s:=s) hr.1
 have hn:=nearN_near hr (Nat.mul_pos hm (Nat.two_pow_pos _))
 rw [h]
 refine ⟨by unfold nan;rw [h1];have:=hr.1;omega,h2,h3,?_⟩
 unfold key
 rw [h1,h2]
 cases s
 ·simpa using hn
 ·have:=hn.neg
  simpa using this
theorem write_zero (s:Bool) (place:Int):double.nearest s 0 place=double.word s 0:=by
 unfold Format.nearest;rw [if_pos rfl]
theorem near_exact {k N D:Int} (h:Near k N D) {m:Int} (h1 : -(INF:Int)<m) (h2:m<INF) (hN:N=V m*D):k=m:=by
 have:=h.2.2 m (Int.le_of_lt h1) (Int.le_of_lt h2)
 rcases Int.lt_trichotomy m k with a|a|a
 ·have:=this.1 a;omega
 ·exact a.symm
 ·have:=this.2 a;omega
theorem ofKey_word {k:Int}:ofKey k=double.word (decide (k<0)) k.natAbs:=by
 unfold ofKey Format.word
 rw [signWeight_eq]
 by_cases h0:0≤k
 ·rw [if_pos h0,show decide (k<0)=false by simp;omega];simp;omega
 ·rw [if_neg h0,show decide (k<0)=true by simp;omega];simp;omega
theorem ofKey_facts {k:Int} (h1 : -(INF:Int)≤k) (h2:k≤INF):key (ofKey k)=k ∧ ¬nan (ofKey k)∧ofKey k<2^64∧rung (ofKey k)=k.natAbs:=by
 have h0:=INF_eq
 by_cases hk:k=0
 ·subst hk;exact ⟨by decide,by decide,by decide,by decide⟩
 ·rw [ofKey_word]
  obtain ⟨a,b,c⟩:=word_key (s:=decide (k<0)) (r:=k.natAbs) (by omega)
  refine ⟨?_,by unfold nan;omega,c,a⟩
  unfold key
  rw [a,b]
  by_cases hk:k<0
  ·simp [hk];omega
  ·simp [hk];omega
theorem key_range {x:Nat} (h : ¬nan x) : -(INF:Int)≤key x∧key x≤INF:=by
 unfold nan at h;unfold key;split<;>omega
theorem fin_key {x:Nat}:fin x ↔ -(INF:Int)<key x∧key x<INF:=by
 unfold fin key;split<;>omega
theorem word_of_key {x:Nat} (hx:x<2^64) (h0:key x≠0):x=ofKey (key x):=by
 unfold ofKey key rung neg at *
 by_cases h:x / 2^63%2=1
 ·rw [show (x / 2^63%2==1)=true by simpa using h] at h0 ⊢
  simp only [if_true] at h0 ⊢
  rw [if_neg (by omega)];omega
 ·rw [show (x / 2^63%2==1)=false by simpa using h] at h0 ⊢
  simp only [Bool.false_eq_true,if_false] at h0 ⊢
  rw [if_pos (by omega)];omega
end Go.Fl
namespace Go.Fl
open Ieee
def PI:Int:=9218868437227405312
theorem PI_eq:PI=(INF:Int):=rfl
theorem PI_pos:4503599627370496<PI:=by decide
def Rg (k:Int):Prop := -PI≤k∧k≤PI
theorem Rg.lo {k:Int} (h:Rg k) : -PI≤k:=h.1
theorem Rg.hi {k:Int} (h:Rg k):k≤PI:=h.2
theorem Rg_PI:Rg PI:=⟨by decide,by decide⟩
theorem Rg_MI:Rg (-PI):=⟨by decide,by decide⟩
theorem Rg_zero:Rg 0:=⟨by decide,by decide⟩
theorem Rg_neg {k:Int} (h:Rg k):Rg (-k):=⟨by have:=h.2;omega,by have:=h.1;omega⟩
theorem Rg_key {x:Nat} (h : ¬nan x):Rg (key x):=key_range h
theorem key_ofKey {k:Int} (h:Rg k):key (ofKey k)=k:=(ofKey_facts h.1 h.2).1
theorem not_nan_ofKey {k:Int} (h:Rg k) : ¬nan (ofKey k):=(ofKey_facts h.1 h.2).2.1
theorem ofKey_lt {k:Int} (h:Rg k):ofKey k<2^64:=(ofKey_facts h.1 h.2).2.2.1
theorem ofKey_inj {j k:Int} (hj:Rg j) (hk:Rg k) (h:ofKey j=ofKey k):j=k:=by
 rw [←key_ofKey hj,←key_ofKey hk,h]
theorem zero_ofKey:(0:Nat)=ofKey 0:=by decide
theorem key_zero:key 0=0:=by decide
theorem ord_key {x y:Nat} (hx : ¬nan x) (hy : ¬nan y):FloatKind.f64.format.order x y=some (compare (key x) (key y)):=order_key hx hy
theorem ord_nan_left {x y:Nat} (hx:nan x):FloatKind.f64.format.order x y=none:=order_nan_left hx
theorem ord_nan_right {x y:Nat} (hy:nan y):FloatKind.f64.format.order x y=none:=order_nan_right hy
theorem ord_ofKey {a b:Int} (ha:Rg a) (hb:Rg b):FloatKind.f64.format.order (ofKey a) (ofKey b)=some (compare a b):=by
 rw [ord_key (not_nan_ofKey ha) (not_nan_ofKey hb),key_ofKey ha,key_ofKey hb]
theorem ord_ofKey_zero {a:Int} (ha:Rg a):FloatKind.f64.format.order (ofKey a) 0=some (compare a 0):=by
 rw [zero_ofKey];exact ord_ofKey ha Rg_zero
theorem cmp_lt (a b:Int):(some (compare a b)==some Ordering.lt)=decide (a<b):=by
 simp only [compare,compareOfLessAndEq]
 by_cases h:a<b
 ·simp [h]
 ·by_cases h':a=b
  ·subst h';simp
  ·simp [h,h']
theorem cmp_eq (a b:Int):(some (compare a b)==some Ordering.eq)=decide (a=b):=by
 simp only [compare,compareOfLessAndEq]
 by_cases h:a<b
 ·have:a≠b:=by omega
  simp [h,this]
 ·by_cases h':a=b
  ·subst h';simp
  ·simp [h,h']
theorem cmp_gt (a b:Int):(some (compare a b)==some Ordering.gt)=decide (b<a):=by
 simp only [compare,compareOfLessAndEq]
 by_cases h:a<b
 ·have : ¬b<a:=by omega
  simp [h,this]
 ·by_cases h':a=b
  ·subst h';simp
  ·have:b<a:=by omega
   simp [h,h',this]
theorem cmp_ne (a b:Int):(some (compare a b) != some Ordering.eq) = !decide (a=b):=by
 rw [bne,cmp_eq]
theorem cmp_le (a b:Int):(some (compare a b)==some Ordering.lt||some (compare a b)==some Ordering.eq)=decide (a≤b):=by
 rw [cmp_lt,cmp_eq,←Bool.decide_or];congr 1;simp only [eq_iff_iff];omega
theorem cmp_ge (a b:Int):(some (compare a b)==some Ordering.gt||some (compare a b)==some Ordering.eq)=decide (b≤a):=by
 rw [cmp_gt,cmp_eq,←Bool.decide_or];congr 1;simp only [eq_iff_iff];omega
def fneg (x:Nat):Nat:=Op.negFloat .f64 x
theorem xor_top (x:Nat) (h:x<2^64):x ^^^ 2^63=if x<2^63 then x+2^63 else x-2^63:=by
 have h1:(x ^^^ 2^63)%2^63=x%2^63:=by
  rw [Nat.xor_mod_two_pow];simp
 have h2:(x ^^^ 2^63) / 2^63=(x / 2^63) ^^^ 1:=by
  rw [Nat.xor_div_two_pow]
 by_cases hc:x<2^63
 ·rw [if_pos hc]
  rw [show x / 2^63=0 by omega] at h2
  have:(0 ^^^ 1:Nat)=1:=rfl
  omega
 ·rw [if_neg hc]
  rw [show x / 2^63=1 by omega] at h2
  have:(1 ^^^ 1:Nat)=0:=rfl
  omega
theorem fneg_eq {x:Nat} (h:x<2^64):fneg x=if x<2^63 then x+2^63 else x-2^63:=by
 unfold fneg Op.negFloat
 have e:FloatKind.f64.format.exponentBits+FloatKind.f64.format.fractionBits=63:=by decide
 rw [e]
 exact xor_top x h
theorem fneg_facts {x:Nat} (h:x<2^64):fneg x<2^64∧rung (fneg x)=rung x∧neg (fneg x) = !neg x:=by
 rw [fneg_eq h]
 unfold rung neg
 by_cases hc:x<2^63
 ·rw [if_pos hc]
  refine ⟨by omega,by omega,?_⟩
  rw [show (x+2^63) / 2^63=1 by omega,show x / 2^63=0 by omega];rfl
 ·rw [if_neg hc]
  refine ⟨by omega,by omega,?_⟩
  rw [show (x-2^63) / 2^63=0 by omega,show x / 2^63=1 by omega];rfl
theorem key_fneg {x:Nat} (h:x<2^64):key (fneg x) = -key x:=by
 obtain ⟨_,h2,h3⟩:=fneg_facts h
 unfold key
 rw [h2,h3]
 cases neg x<;>simp
theorem nan_fneg {x:Nat} (h:x<2^64):nan (fneg x)↔nan x:=by
 obtain ⟨_,h2,_⟩:=fneg_facts h
 unfold nan;rw [h2]
theorem fneg_ofKey {k:Int} (h:Rg k) (h0:k≠0):fneg (ofKey k)=ofKey (-k):=by
 have h1:=ofKey_lt h
 have:=word_of_key (x:=fneg (ofKey k)) (fneg_facts h1).1 (by rw [key_fneg h1,key_ofKey h];omega)
 rw [this,key_fneg h1,key_ofKey h]
theorem near_of_exact {m:Int} {D:Int} (hD:0<D) (h1 : -(INF:Int)≤m) (h2:m≤INF):Near m (V m*D) D :=
 ⟨h1,h2,fun _ _ _=>⟨fun h=>Int.mul_lt_mul_of_pos_right (V_lt h) hD,fun h=>Int.mul_lt_mul_of_pos_right (V_lt h) hD⟩⟩
theorem near_congr {k N D N' D':Int} (hD:0<D) (hD':0<D') (h:N*D'=N'*D) (hn:Near k N D):Near k N' D':=by
 refine ⟨hn.1,hn.2.1,fun j a b => ?_⟩
 have hj:=hn.2.2 j a b
 have e:V j*D*D'=V j*D'*D:=by rw [Int.mul_assoc,Int.mul_comm D,←Int.mul_assoc]
 constructor
 ·intro hk
  have h1:=Int.mul_lt_mul_of_pos_right (hj.1 hk) hD'
  rw [h,e] at h1
  exact Int.lt_of_mul_lt_mul_right h1 (Int.le_of_lt hD)
 ·intro hk
  have h1:=Int.mul_lt_mul_of_pos_right (hj.2 hk) hD'
  rw [h,e] at h1
  exact Int.lt_of_mul_lt_mul_right h1 (Int.le_of_lt hD)
theorem write_real (s0:Bool) (total:Int) (place:Int) :
  ¬nan (double.write (.number (if total=0 then s0 else decide (total<0)) total.natAbs place)) ∧
  double.write (.number (if total=0 then s0 else decide (total<0)) total.natAbs place)<2^64 ∧
  Near (key (double.write (.number (if total=0 then s0 else decide (total<0)) total.natAbs place))) (total*2^(place+1074).toNat) (2^(-(place+1074)).toNat):=by
 unfold Format.write
 simp only
 have hp:(0:Int)<2^(-(place+1074)).toNat:=Int.pow_pos (by omega)
 by_cases h:total=0
 ·subst h
  simp only [if_true,Int.natAbs_zero,write_zero]
  obtain ⟨h1,h2,h3⟩:=word_key (s:=s0) (r:=0) (by omega)
  refine ⟨by unfold nan;rw [h1];omega,h3,?_⟩
  have hk:key (double.word s0 0)=0:=by unfold key;rw [h1];simp
  rw [hk,Int.zero_mul]
  have:=near_of_exact (m:=0) hp (by omega) (by omega)
  rw [V_zero,Int.zero_mul] at this
  exact this
 ·rw [if_neg h]
  obtain ⟨h1,_,h3,h4⟩:=write_near (decide (total<0)) total.natAbs place (by omega)
  refine ⟨h1,h3,?_⟩
  have e:(if decide (total<0)=true then (-1:Int) else 1)*((total.natAbs*2^(place+1074).toNat:Nat):Int)=total*2^(place+1074).toNat:=by
   rw [Int.natCast_mul,Int.natCast_pow,←Int.mul_assoc]
   congr 1
   by_cases hn:total<0
   ·simp [hn];omega
   ·simp [hn];omega
  rw [e] at h4
  simpa using h4
theorem key_val {x:Nat} (b:Int) (hb:b≤(pl x:Int)-1074) (hb0 : -1074≤b) :
  Ieee.signed (neg x) (mag x) (((pl x:Int)-1074)-b).toNat*(2:Int)^(b+1074).toNat=V (key x):=by
 rw [signed_val (neg x) (mag x) _ b hb hb0,show ((pl x:Int)-1074+1074).toNat=pl x by omega,mag_pl,←key_of_neg]
theorem add_fin {x y:Nat} (hx:fin x) (hy:fin y) :
  ∃ r,FloatKind.f64.format.add x y=some r ∧ ¬nan r∧r<2^64∧Near (key r) (V (key x)+V (key y)) 1:=by
 rw [fmt]
 unfold Format.add
 rw [read_fin hx,read_fin hy]
 simp only [Datum.sum,Option.map_some]
 generalize hbase:min ((pl x:Int)-1074) ((pl y:Int)-1074)=base
 have h1:=key_val (x:=x) base (by omega) (by omega)
 have h2:=key_val (x:=y) base (by omega) (by omega)
 generalize Ieee.signed (neg x) (mag x) (((pl x:Int)-1074)-base).toNat=A at *
 generalize Ieee.signed (neg y) (mag y) (((pl y:Int)-1074)-base).toNat=B at *
 obtain ⟨a,b,c⟩:=write_real (neg x&&neg y) (A+B) base
 refine ⟨_,rfl,a,b,?_⟩
 rw [Int.add_mul,h1,h2,show (-(base+1074)).toNat=0 by omega] at c
 exact c
theorem add_zero_ofKey {x:Nat} (hx:fin x):FloatKind.f64.format.add x 0=some (ofKey (key x)):=by
 obtain ⟨r,h1,h2,h3,h4⟩:=add_fin hx (y:=0) (by decide)
 rw [key_zero,V_zero,Int.add_zero] at h4
 have hk:=fin_key.1 hx
 have e:=near_exact h4 hk.1 hk.2 (by omega)
 rw [h1]
 by_cases h0:key x=0
 ·rw [fmt] at h1
  unfold Format.add at h1
  rw [read_fin hx,read_fin (x:=0) (by decide)] at h1
  simp only [Datum.sum,Option.map_some] at h1
  generalize hbase:min ((pl x:Int)-1074) ((pl 0:Int)-1074)=base at h1
  have hp0:pl 0=0:=by decide
  have e1:=key_val (x:=x) base (by omega) (by omega)
  have e2:=key_val (x:=0) base (by omega) (by omega)
  rw [h0,V_zero] at e1
  rw [key_zero,V_zero] at e2
  have hpp:(2:Int)^(base+1074).toNat≠0:=Int.ne_of_gt (Int.pow_pos (by omega))
  have z1:=(Int.mul_eq_zero.1 e1).resolve_right hpp
  have z2:=(Int.mul_eq_zero.1 e2).resolve_right hpp
  rw [z1,z2] at h1
  have hn0:neg 0=false:=by decide
  rw [hn0] at h1
  simp [Format.write,write_zero] at h1
  rw [←h1,h0]
  decide
 ·congr 1
  rw [word_of_key h3 (by rw [e];exact h0),e]
theorem add_inf_left {x y:Nat} (hx:rung x=INF) (hy:fin y) (hl:x<2^64):FloatKind.f64.format.add x y=some x:=by
 rw [fmt]
 unfold Format.add
 rw [read_inf hx,read_fin hy]
 simp only [Datum.sum,Option.map_some,Format.write,infRung_eq,Option.some.injEq]
 have h0:=INF_eq
 unfold rung at hx
 unfold Format.word neg
 rw [signWeight_eq]
 by_cases h:x<2^63
 ·rw [show x / 2^63=0 by omega];simp;omega
 ·rw [show x / 2^63=1 by omega];simp;omega
theorem add_zero {x:Nat} (hx : ¬nan x) (hl:x<2^64):FloatKind.f64.format.add x 0=some (ofKey (key x)):=by
 by_cases hf:fin x
 ·exact add_zero_ofKey hf
 ·have hi:rung x=INF:=by unfold nan at hx;unfold fin at hf;omega
  rw [add_inf_left hi (by decide) hl]
  congr 1
  refine word_of_key hl ?_
  have h0:=INF_eq
  unfold key;split<;>omega
theorem add_nan {x y:Nat} (hx:nan x∨nan y):FloatKind.f64.format.add x y=none:=by
 rw [fmt]
 unfold Format.add
 rcases hx with h|h
 ·obtain ⟨t,ht⟩:=read_nan h;rw [ht];rfl
 ·obtain ⟨t,ht⟩:=read_nan h;rw [ht];cases double.read x<;>rfl
end Go.Fl
namespace Go
open Go.Sort Go.RowKit
set_option linter.unusedVariables false
section
variable {P:Program} {ops:Array Oper} {md:Region.Mode} {C:World→Prop}
def anyHead (P:Program) (md:Region.Mode) (ops:Array Oper) (C:World→Prop) (n:Nat) (L:Array Bool→Act→Prop):Nat→Array Bool→Act→Prop
 | 0,listed,a=>L listed a
 | f+1,listed,a=>Region.ready md ops listed≠[] ∧ ∀ i∈Region.ready md ops listed,i<n∧qOp P ops C i (anyHead P md ops C n L f (listed.setIfInBounds i true)) a
theorem any_of_head {n g:Nat} {L:Array Bool→Act→Prop} {Q':Exit→Act→World→Prop} (hL : ∀ listed a w,C w→L listed a→wpAny P md ops Q' g listed a w) (f:Nat) :
  ∀ (listed:Array Bool) (a:Act) (w:World),C w→anyHead P md ops C n L f listed a→wpAny P md ops Q' (f+g) listed a w:=by
 induction f with
 | zero=>intro listed a w hw h;rw [Nat.zero_add];exact hL _ _ _ hw h
 | succ f ih =>
  intro listed a w hw h
  rw [Nat.succ_add]
  exact ⟨fun h0=>absurd h0 h.1,fun i hi=>wpOp_of_qOp hw (fun a' w' hw' h'=>ih _ a' w' hw' h') (h.2 i hi).2⟩
theorem anyHead_first {n i:Nat} {oi:Oper} {v:Value} {L:Array Bool→Act→Prop} (hi:ops[i]? = some oi) (hsel : ∀ (j:Nat) (o:Oper) cs b,ops[j]? = some o→o.op ≠ .select cs b)
  (hs:Region.sinkB md ops n=true) (hc:Region.chainB md ops n=true) (hn:n<ops.size) (hin:i<n) (hdone : ∀ listed a,L listed a → ∀ j∈Region.ready md ops listed,n≤j) (f:Nat) :
  ∀ (listed:Array Bool) (a:Act),HeadInv md ops n listed →
   (∀ j oj,ops[j]? = some oj→j≠i→listed.getD j true=false→(∀ e∈oj.after,Region.binds md e=true→e.on≠i)→oi.apart ops oj=true) →
   i∈Region.ready md ops listed→YieldsIn P ops C oi v a →
   anyHead P md ops C n L f (listed.setIfInBounds i true) (a.put oi.dst v)→anyHead P md ops C n L (f+1) listed a:=by
 induction f with
 | zero =>
  intro listed a inv _ hr hy H
  refine ⟨fun h=>(by rw [h] at hr;cases hr),fun j hj => ?_⟩
  have hjn:j<n:=Nat.lt_of_not_le fun h=>tail_waits hs hc hn inv _ i rfl hin (mem_ready.1 hr).1 j h hj
  by_cases hji:j=i
  ·subst hji;exact ⟨hjn,hy.qOp hi H⟩
  ·exact absurd (hdone _ _ H j (ready_mono hj hji)) (by omega)
 | succ f ih =>
  intro listed a inv hfree hr hy H
  refine ⟨fun h=>(by rw [h] at hr;cases hr),fun j hj => ?_⟩
  have hun:=(mem_ready.1 hr).1
  have hjn:j<n:=Nat.lt_of_not_le fun h=>tail_waits hs hc hn inv _ i rfl hin hun j h hj
  by_cases hji:j=i
  ·subst hji;exact ⟨hjn,hy.qOp hi H⟩
  ·obtain ⟨hjun,oj,hoj,hall⟩:=mem_ready.1 hj
   have hno : ∀ e∈oj.after,Region.binds md e=true→e.on≠i:=by
    intro e he hb heq
    have h1:=hall e he hb
    rw [heq,getD_both hun] at h1
    cases h1
   have h2:=qOp_put hoj (hfree j oj hoj hji hjun hno) (fun cs b=>hsel i oi cs b hi) (fun cs b=>hsel j oj cs b hoj) hy (H.2 j (ready_mono hj hji)).2
   refine ⟨hjn,qOp_mono (fun a' h3=>ih (listed.setIfInBounds j true) a' (inv.set hj hjn) ?_ (ready_mono hr (Ne.symm hji)) h3.1 ?_) h2⟩
   ·intro k ok hk hki hku hkno
    refine hfree k ok hk hki ?_ hkno
    by_cases hjk:j=k
    ·subst hjk;exact hjun
    ·rw [getD_set_ne true hjk] at hku;exact hku
   ·rw [Array.setIfInBounds_comm _ _ hji];exact h3.2
theorem anyHead_lex {n g:Nat} {Lq:Act→Prop} (hsel:Region.noSelect ops=true) (hs:Region.sinkB md ops n=true) (hc:Region.chainB md ops n=true) (hn:n<ops.size) (l:List Oper) :
  ∀ (k:Nat) (listed:Array Bool) (a:Act),(∀ j,j<l.length→l[j]? = ops[k+j]?)→k+l.length=n→HeadInv md ops n listed →
  Region.lexHead md ops g l.length k listed=true→wpQuiet P ops C Lq l a →
  anyHead P md ops C n (fun listed' a'=>Region.seqB md ops g n listed'=true∧Lq a') l.length listed a:=by
 induction l with
 | nil =>
  intro k listed a _ hk _ hB h
  obtain rfl:k=n:=by simpa using hk
  exact ⟨by simpa [Region.lexHead] using hB,h⟩
 | cons o l ih =>
  intro k listed a hl hk inv hB h
  have h0:ops[k]? = some o:=by simpa using (hl 0 (by simp)).symm
  simp only [List.length_cons,Region.lexHead,Bool.and_eq_true] at hB
  obtain ⟨⟨hr,hf⟩,hB'⟩:=hB
  have hkn:k<n:=by simp only [List.length_cons] at hk;omega
  have hr':k∈Region.ready md ops listed:=by simpa using hr
  have hq:qOp P ops C k (wpQuiet P ops C Lq l) a:=by unfold qOp;simp only [h0];exact h
  obtain ⟨v,hy,hK⟩:=yieldsIn_of_qOp h0 hq
  refine anyHead_first h0 (Region.noSelect_spec hsel) hs hc hn hkn (fun listed' a' hL=>seqB_ready hL.1) l.length listed a inv (Region.free_spec h0 hf) hr' hy ?_
  exact ih (k+1) _ _ (fun j hj=>by have:=hl (j+1) (by simp;omega);simpa [Nat.add_assoc,Nat.add_comm 1 j] using this) (by simp only [List.length_cons] at hk;omega) (inv.set hr' hkn) hB' hK
theorem wpQuiet_mono {Q Q':Act→Prop} (hQ : ∀ a,Q a→Q' a) (l:List Oper) : ∀ a,wpQuiet P ops C Q l a→wpQuiet P ops C Q' l a:=by
 induction l with
 | nil=>exact hQ
 | cons o l ih =>
  intro a h
  simp only [wpQuiet] at h ⊢
  by_cases hw:Region.wanted o (yielded ops a.tmps)
  ·rw [if_pos hw] at h ⊢;exact Oper.quiet_mono ih h
  ·rw [if_neg hw] at h ⊢;exact ih _ h
theorem wp_region_quiet_tail {id:Nat} {Q:Exit→Act→World→Prop} {a:Act} {w:World} {l:List Oper} (n:Nat) (hm:P.follows .mixedOrders=true) (hB:Region.lexTailB .any l.toArray n=true) (hC:C { w with drawn:=w.drawn+1 })
  (h:wpQuiet P l.toArray C (fun a' => ∀ w',C w'→wpList P l.toArray Q (l.drop n) a' w') (l.take n) a):(Code.region id l.toArray true).wp P Q a w:=by
 simp only [Region.lexTailB,Bool.and_eq_true,decide_eq_true_eq] at hB
 obtain ⟨⟨⟨⟨hsel,hn⟩,hs⟩,hc⟩,hlex⟩:=hB
 have htl:(l.take n).length=n:=by simp at hn ⊢;omega
 have inv0:HeadInv .any l.toArray n (Array.replicate l.toArray.size false) :=
  ⟨by simp,fun j oj _ hl=>(by rw [getD_replicate_false] at hl;cases hl),fun t _ ht=>getD_in (by simpa using ht) (getD_replicate_false _ _)⟩
 have H:=anyHead_lex (C:=C) (md := .any) (g:=l.toArray.size-n) hsel hs hc hn (l.take n) 0 _ a (fun j hj=>by
  have hj':j<n:=by rw [htl] at hj;exact hj
  simp [hj']) (by simpa using htl) inv0 (by rw [htl];exact hlex) h
 refine wp_region_any hm ?_
 have key:=any_of_head (C:=C) (Q':=Q) (g:=l.toArray.size-n) (fun listed a' w' hw' hL=>by
  have:=wpAny_of_seq (P:=P) (md := .any) (ops:=l.toArray) (Q':=Q) (l.drop n) n listed a' w' (fun j=>by simp) (by simpa using hL.1) (hL.2 w' hw')
  simpa using this) _ _ a { w with drawn:=w.drawn+1 } hC H
 rw [htl] at key
 have e:n+(l.toArray.size-n)=l.toArray.size:=by omega
 rw [e] at key
 exact key
def Region.sinkAll (md:Region.Mode) (ops:Array Oper) (n:Nat):Bool :=
 (List.range ops.size).all fun t=>decide (t<n)||(List.range n).all fun i=>Region.waitsFor md ops t i||(List.range n).any fun j=>decide (i<j)&&Region.waitsFor md ops j i
theorem tails_wait {n:Nat} {listed:Array Bool} (hs:Region.sinkAll md ops n=true) (inv:HeadInv md ops n listed) (hn:n≤ops.size) :
  ∀ (d i:Nat),n-i=d→i<n→listed.getD i true=false → ∀ t,n≤t→t ∉ Region.ready md ops listed:=by
 intro d
 induction d using Nat.strongRecOn with
 | _ d ih =>
  intro i hd hi hun t ht hr
  obtain ⟨_,ot,hot,hall⟩:=mem_ready.1 hr
  have htlt:t<ops.size:=(Array.getElem?_eq_some_iff.1 hot).1
  have h1:=List.all_eq_true.1 hs t (List.mem_range.2 htlt)
  rw [show decide (t<n)=false by simp;omega,Bool.false_or] at h1
  have h2:=List.all_eq_true.1 h1 i (List.mem_range.2 hi)
  rcases Bool.or_eq_true _ _ ▸ h2 with h3|h3
  ·obtain ⟨o',ho',e,he,hb,hon⟩:=Region.waitsFor_spec h3
   obtain rfl:o'=ot:=Option.some.inj (ho'.symm.trans hot)
   have h4:=hall e he hb
   rw [hon,getD_both hun] at h4
   cases h4
  ·obtain ⟨j,hj,hj2⟩:=List.any_eq_true.1 h3
   simp only [Bool.and_eq_true,decide_eq_true_eq] at hj2
   have hjn:=List.mem_range.1 hj
   obtain ⟨oj,hoj,e,he,hb,hon⟩:=Region.waitsFor_spec hj2.2
   cases hl:listed.getD j false with
   | true =>
    have h4:=inv.closed j oj hoj hl e he hb
    rw [hon,getD_both hun] at h4
    cases h4
   | false=>exact ih (n-j) (by omega) j rfl hjn (getD_in (by rw [inv.size];omega) hl) t ht hr
theorem anyHead_first' {n i:Nat} {oi:Oper} {v:Value} {L:Array Bool→Act→Prop} (hi:ops[i]? = some oi) (hsel : ∀ (j:Nat) (o:Oper) cs b,ops[j]? = some o→o.op ≠ .select cs b)
  (hs:Region.sinkAll md ops n=true) (hn:n≤ops.size) (hin:i<n) (hdone : ∀ listed a,L listed a → ∀ j∈Region.ready md ops listed,n≤j) (f:Nat) :
  ∀ (listed:Array Bool) (a:Act),HeadInv md ops n listed →
   (∀ j oj,ops[j]? = some oj→j≠i→listed.getD j true=false→(∀ e∈oj.after,Region.binds md e=true→e.on≠i)→oi.apart ops oj=true) →
   i∈Region.ready md ops listed→YieldsIn P ops C oi v a →
   anyHead P md ops C n L f (listed.setIfInBounds i true) (a.put oi.dst v)→anyHead P md ops C n L (f+1) listed a:=by
 induction f with
 | zero =>
  intro listed a inv _ hr hy H
  refine ⟨fun h=>(by rw [h] at hr;cases hr),fun j hj => ?_⟩
  have hjn:j<n:=Nat.lt_of_not_le fun h=>tails_wait hs inv hn _ i rfl hin (mem_ready.1 hr).1 j h hj
  by_cases hji:j=i
  ·subst hji;exact ⟨hjn,hy.qOp hi H⟩
  ·exact absurd (hdone _ _ H j (ready_mono hj hji)) (by omega)
 | succ f ih =>
  intro listed a inv hfree hr hy H
  refine ⟨fun h=>(by rw [h] at hr;cases hr),fun j hj => ?_⟩
  have hun:=(mem_ready.1 hr).1
  have hjn:j<n:=Nat.lt_of_not_le fun h=>tails_wait hs inv hn _ i rfl hin hun j h hj
  by_cases hji:j=i
  ·subst hji;exact ⟨hjn,hy.qOp hi H⟩
  ·obtain ⟨hjun,oj,hoj,hall⟩:=mem_ready.1 hj
   have hno : ∀ e∈oj.after,Region.binds md e=true→e.on≠i:=by
    intro e he hb heq
    have h1:=hall e he hb
    rw [heq,getD_both hun] at h1
    cases h1
   have h2:=qOp_put hoj (hfree j oj hoj hji hjun hno) (fun cs b=>hsel i oi cs b hi) (fun cs b=>hsel j oj cs b hoj) hy (H.2 j (ready_mono hj hji)).2
   refine ⟨hjn,qOp_mono (fun a' h3=>ih (listed.setIfInBounds j true) a' (inv.set hj hjn) ?_ (ready_mono hr (Ne.symm hji)) h3.1 ?_) h2⟩
   ·intro k ok hk hki hku hkno
    refine hfree k ok hk hki ?_ hkno
    by_cases hjk:j=k
    ·subst hjk;exact hjun
    ·rw [getD_set_ne true hjk] at hku;exact hku
   ·rw [Array.setIfInBounds_comm _ _ hji];exact h3.2
def Region.headB (md:Region.Mode) (ops:Array Oper) (n:Nat) (fin:Array Bool):Nat→Nat→Array Bool→Bool
 | 0,_,listed=>listed==fin&&(Region.ready md ops listed).all fun j=>decide (n≤j)
 | f+1,k,listed=>(Region.ready md ops listed).contains k&&Region.free md ops listed k&&Region.headB md ops n fin f (k+1) (listed.setIfInBounds k true)
theorem anyHead_lex' {n:Nat} {fin:Array Bool} {Lq:Act→Prop} (hsel:Region.noSelect ops=true) (hs:Region.sinkAll md ops n=true) (hn:n≤ops.size) (l:List Oper) :
  ∀ (k:Nat) (listed:Array Bool) (a:Act),(∀ j,j<l.length→l[j]? = ops[k+j]?)→k+l.length=n→HeadInv md ops n listed →
  Region.headB md ops n fin l.length k listed=true→wpQuiet P ops C Lq l a →
  anyHead P md ops C n (fun listed' a'=>(listed'=fin∧(Region.ready md ops listed').all (fun j=>decide (n≤j))=true)∧Lq a') l.length listed a:=by
 induction l with
 | nil =>
  intro k listed a _ _ _ hB h
  simp only [List.length_nil,Region.headB,Bool.and_eq_true,beq_iff_eq] at hB
  exact ⟨hB,h⟩
 | cons o l ih =>
  intro k listed a hl hk inv hB h
  have h0:ops[k]? = some o:=by simpa using (hl 0 (by simp)).symm
  simp only [List.length_cons,Region.headB,Bool.and_eq_true] at hB
  obtain ⟨⟨hr,hf⟩,hB'⟩:=hB
  have hkn:k<n:=by simp only [List.length_cons] at hk;omega
  have hr':k∈Region.ready md ops listed:=by simpa using hr
  have hq:qOp P ops C k (wpQuiet P ops C Lq l) a:=by unfold qOp;simp only [h0];exact h
  obtain ⟨v,hy,hK⟩:=yieldsIn_of_qOp h0 hq
  refine anyHead_first' h0 (Region.noSelect_spec hsel) hs hn hkn (fun listed' a' hL j hj=>by simpa using List.all_eq_true.1 hL.1.2 j hj) l.length listed a inv (Region.free_spec h0 hf) hr' hy ?_
  exact ih (k+1) _ _ (fun j hj=>by have:=hl (j+1) (by simp;omega);simpa [Nat.add_assoc,Nat.add_comm 1 j] using this) (by simp only [List.length_cons] at hk;omega) (inv.set hr' hkn) hB' hK
def Region.firstN (n m:Nat):Array Bool:=((List.range m).map fun i=>decide (i<n)).toArray
def Region.anyTailB (md:Region.Mode) (ops:Array Oper) (n:Nat):Bool :=
 Region.noSelect ops&&decide (n≤ops.size)&&Region.sinkAll md ops n&&Region.headB md ops n (Region.firstN n ops.size) n 0 (Array.replicate ops.size false)
theorem wp_region_quiet_tails {id:Nat} {Q:Exit→Act→World→Prop} {a:Act} {w:World} {l:List Oper} (n:Nat) (hm:P.follows .mixedOrders=true) (hB:Region.anyTailB .any l.toArray n=true) (hC:C { w with drawn:=w.drawn+1 })
  (h:wpQuiet P l.toArray C (fun a' => ∀ w',C w'→wpAny P .any l.toArray Q (l.toArray.size-n) (Region.firstN n l.toArray.size) a' w') (l.take n) a):(Code.region id l.toArray true).wp P Q a w:=by
 simp only [Region.anyTailB,Bool.and_eq_true,decide_eq_true_eq] at hB
 obtain ⟨⟨⟨hsel,hn⟩,hs⟩,hlex⟩:=hB
 have htl:(l.take n).length=n:=by simp at hn ⊢;omega
 have inv0:HeadInv .any l.toArray n (Array.replicate l.toArray.size false) :=
  ⟨by simp,fun j oj _ hl=>(by rw [getD_replicate_false] at hl;cases hl),fun t _ ht=>getD_in (by simpa using ht) (getD_replicate_false _ _)⟩
 have H:=anyHead_lex' (C:=C) (md := .any) (fin:=Region.firstN n l.toArray.size) hsel hs hn (l.take n) 0 _ a (fun j hj=>by
  have hj':j<n:=by rw [htl] at hj;exact hj
  simp [hj']) (by simpa using htl) inv0 (by rw [htl];exact hlex) h
 refine wp_region_any hm ?_
 have key:=any_of_head (C:=C) (Q':=Q) (g:=l.toArray.size-n) (fun listed a' w' hw' hL=>by
  rw [hL.1.1];exact hL.2 w' hw') _ _ a { w with drawn:=w.drawn+1 } hC H
 rw [htl] at key
 have e:n+(l.toArray.size-n)=l.toArray.size:=by omega
 rw [e] at key
 exact key
def Region.pairB (md:Region.Mode) (ops:Array Oper) (n:Nat):Bool :=
 decide (Region.ready md ops (Region.firstN n ops.size)=[n,n+1])&&Region.seqB md ops 1 (n+1) ((Region.firstN n ops.size).setIfInBounds n true)&&Region.seqB md ops 1 n ((Region.firstN n ops.size).setIfInBounds (n+1) true)&&decide (ops.size=n+2)
theorem wpAny_pair {Q:Exit→Act→World→Prop} {n:Nat} {o1 o2:Oper} {a:Act} {w:World} (h1:ops[n]? = some o1) (h2:ops[n+1]? = some o2) (hB:Region.pairB md ops n=true)
  (ha:wpList P ops Q [o1,o2] a w) (hb:wpList P ops Q [o2,o1] a w):wpAny P md ops Q (ops.size-n) (Region.firstN n ops.size) a w:=by
 simp only [Region.pairB,Bool.and_eq_true,decide_eq_true_eq] at hB
 obtain ⟨⟨⟨hr,hs1⟩,hs2⟩,hz⟩:=hB
 rw [show ops.size-n=1+1 by omega]
 refine ⟨fun h=>(by rw [hr] at h;cases h),fun i hi => ?_⟩
 rw [hr] at hi
 simp only [List.mem_cons,List.not_mem_nil,or_false] at hi
 rcases hi with rfl|rfl
 ·have hw:wpOp P ops Q i (wpList P ops Q [o2]) a w:=by unfold wpOp;simp only [h1];exact ha
  exact wpOp_mono (fun a' w' h'=>wpAny_of_seq [o2] (i+1) _ a' w' (fun j=>by cases j with|zero=>simpa using h2.symm|succ j=>simp;omega) hs1 h') hw
 ·have hw:wpOp P ops Q (n+1) (wpList P ops Q [o1]) a w:=by unfold wpOp;simp only [h2];exact hb
  refine wpOp_mono (fun a' w' h' => ?_) hw
  simp only [Region.seqB,Bool.and_eq_true,decide_eq_true_eq] at hs2
  refine ⟨fun h=>(by rw [hs2.1] at h;cases h),fun i hi => ?_⟩
  rw [hs2.1] at hi
  obtain rfl:i=n:=by simpa using hi
  have hw2:wpOp P ops Q i (wpList P ops Q []) a' w':=by unfold wpOp;simp only [h1];exact h'
  exact wpOp_mono (fun a'' w'' h''=>⟨by simpa [Region.seqB] using hs2.2,h''⟩) hw2
def Later (w w':World):Prop := ∃ p:Regrown,w'=grow (redrawn w p.d) p.os
theorem Later.below {w w':World} (h:Later w w'):Below w.heap.size w w':=by obtain ⟨p,rfl⟩:=h;exact below_regrown w p.d p.os
theorem Later.of {w w':World} (h:Below w.heap.size w w'):Later w w':=regrown_of_below h
theorem wp_region_below_tail {id:Nat} {Q:Exit→Act→World→Prop} {a:Act} {w:World} {l:List Oper} (n:Nat) (hm:P.follows .mixedOrders=true) (hB:Region.lexTailB .any l.toArray n=true)
  (h:wpQuiet P l.toArray (fun w' => ∃ p:Regrown,w'=grow (redrawn w p.d) p.os) (fun a' => ∀ w',Below w.heap.size w w'→wpList P l.toArray Q (l.drop n) a' w') (l.take n) a):(Code.region id l.toArray true).wp P Q a w :=
 wp_region_quiet_tail (C:=fun w' => ∃ p:Regrown,w'=grow (redrawn w p.d) p.os) n hm hB ⟨⟨w.drawn+1,#[]⟩,by rw [grow_empty];rfl⟩
  (wpQuiet_mono (fun _ hh w' hw'=>hh w' (Later.below hw')) _ _ h)
theorem wp_region_below_pair {id:Nat} {Q:Exit→Act→World→Prop} {a:Act} {w:World} {l:List Oper} (n:Nat) (o1 o2:Oper) (hm:P.follows .mixedOrders=true) (hB:Region.anyTailB .any l.toArray n=true) (hp:Region.pairB .any l.toArray n=true) (h1:l[n]? = some o1) (h2:l[n+1]? = some o2)
  (h:wpQuiet P l.toArray (fun w' => ∃ p:Regrown,w'=grow (redrawn w p.d) p.os) (fun a' => ∀ w',Below w.heap.size w w'→wpList P l.toArray Q [o1,o2] a' w'∧wpList P l.toArray Q [o2,o1] a' w') (l.take n) a):(Code.region id l.toArray true).wp P Q a w :=
 wp_region_quiet_tails (C:=fun w' => ∃ p:Regrown,w'=grow (redrawn w p.d) p.os) n hm hB ⟨⟨w.drawn+1,#[]⟩,by rw [grow_empty];rfl⟩
  (wpQuiet_mono (fun _ hh w' hw'=>wpAny_pair (by simpa using h1) (by simpa using h2) hp (hh w' (Later.below hw')).1 (hh w' (Later.below hw')).2) _ _ h)
theorem wp_region_below {id:Nat} {Q:Exit→Act→World→Prop} {a:Act} {w:World} {l:List Oper} (hm:P.follows .mixedOrders=true) (hB:Region.lexB .any l.toArray=true)
  (h:wpQuiet P l.toArray (fun w' => ∃ p:Regrown,w'=grow (redrawn w p.d) p.os) (fun a' => ∀ w',Below w.heap.size w w'→Q .normal a' w') l a):(Code.region id l.toArray true).wp P Q a w :=
 wp_region_quiet_below hm hB (wpQuiet_mono (fun _ hh w' hw'=>hh w' (Later.below hw')) _ _ h)
theorem quiet_same {f:FuncId} {args:Array Value} {w:World} {d:Nat} {os:Array Obj} {v:Value}
  (h:Calls P f args (grow (redrawn w d) os) fun e w'=>e = .returned v∧grow (redrawn w d) os=w'):Calls P f args (grow (redrawn w d) os) fun e w''=>e = .returned v ∧ ∃ p:Regrown,w''=grow (redrawn w p.d) p.os :=
 h.mono fun _ _ ⟨he,hb⟩=>⟨he,⟨d,os⟩,hb.symm⟩
theorem quiet_s {f:FuncId} {args:Array Value} {w:World} {n:Nat} {v:Value}
  (h:Calls P f args (w.drewN n) fun e w'=>e = .returned v∧w.drewN n=w'):Calls P f args (w.drewN n) fun e w''=>e = .returned v ∧ ∃ m,w''=w.drewN m :=
 h.mono fun _ _ ⟨he,hm⟩=>⟨he,n,hm.symm⟩
theorem RowKit.Below.cells {w w1:World} (hb:Below w.heap.size w w1) {b o:Nat} {v:Value} (h:w.cell? ⟨b,o,none⟩=some v):w1.cell? ⟨b,o,none⟩=some v:=by
 rw [hb.cell (p:=⟨b,o,none⟩) (block_lt_of_cell h)];exact h
theorem RowKit.Below.froz {w w1:World} (hb:Below w.heap.size w w1) {b o:Nat} {v:Value} (h:w.cell? ⟨b,o,none⟩=some v) (hf:w.frozen? ⟨b,o,none⟩=false):w1.frozen? ⟨b,o,none⟩=false:=by
 rw [hb.frozen (p:=⟨b,o,none⟩) (block_lt_of_cell h)];exact hf
end
end Go
namespace Go.Fl
open Go.RowKit Go.Sort
@[go_sem] theorem run_store_float {P:Program} {w:World} {a:Addr} {m:Mode} (k:FloatKind) (x:Nat):(store a (.float k x) m).run P w=stored P w a (.float k x) m:=run_store P w a _ m rfl
@[go_sem] theorem unary_neg_float (k:FloatKind) (x:Nat):Op.unary UnOp.neg (.float k x)=pure (.float k (Op.negFloat k x)):=rfl
def Wd (x:Nat):Prop:=x<2^64
@[go_sem] theorem wd_ofKey {a:Int} (h:Rg a):Wd (ofKey a):=ofKey_lt h
@[go_sem] theorem wd_neg {x:Nat} (h:Wd x):Wd (Op.negFloat .f64 x):=(fneg_facts h).1
@[go_sem] theorem wd_zero:Wd 0:=by unfold Wd;omega
@[go_sem] theorem nn_ofKey {a:Int} (h:Rg a):nan (ofKey a)=False:=eq_false (not_nan_ofKey h)
@[go_sem] theorem nn_neg {x:Nat} (h:Wd x):nan (Op.negFloat .f64 x)=nan x:=propext (nan_fneg h)
@[go_sem] theorem nn_zero:nan 0=False:=eq_false (by decide)
@[go_sem] theorem k_ofKey {a:Int} (h:Rg a):key (ofKey a)=a:=key_ofKey h
@[go_sem] theorem k_neg {x:Nat} (h:Wd x):key (Op.negFloat .f64 x) = -key x:=key_fneg h
@[go_sem] theorem k_zero:key 0=0:=key_zero
@[go_sem] theorem nn_PI:nan (ofKey PI)=False:=nn_ofKey Rg_PI
@[go_sem] theorem nn_MI:nan (ofKey (-PI))=False:=nn_ofKey Rg_MI
@[go_sem] theorem k_PI:key (ofKey PI)=PI:=key_ofKey Rg_PI
@[go_sem] theorem k_MI:key (ofKey (-PI)) = -PI:=key_ofKey Rg_MI
@[go_sem] theorem rg_MI:Rg (-PI):=Rg_MI
@[go_sem] theorem rg_neg {a:Int} (h:Rg a):Rg (-a):=Rg_neg h
@[go_sem] theorem rg_PI:Rg PI:=Rg_PI
@[go_sem] theorem rg_zero:Rg 0:=Rg_zero
@[go_sem] theorem rg_key {x:Nat} (h : ¬nan x):Rg (key x):=Rg_key h
@[go_sem] theorem wd_negk {a:Int} (h:Rg a):Wd (Op.negFloat .f64 (ofKey a)):=wd_neg (wd_ofKey h)
@[go_sem] theorem nn_negk {a:Int} (h:Rg a):nan (Op.negFloat .f64 (ofKey a))=False:=by rw [nn_neg (wd_ofKey h),nn_ofKey h]
@[go_sem] theorem k_negk {a:Int} (h:Rg a):key (Op.negFloat .f64 (ofKey a)) = -a:=by rw [k_neg (wd_ofKey h),k_ofKey h]
@[go_sem] theorem neg_neg_word {a:Int} (h:Rg a):Op.negFloat .f64 (Op.negFloat .f64 (ofKey a))=ofKey a:=by
 have h1:=ofKey_lt h
 have h2:=fneg_facts h1
 have e1:=fneg_eq h1
 have e2:=fneg_eq h2.1
 unfold fneg at *
 rw [e2,e1]
 split<;>split<;>omega
@[go_sem] theorem neg_PI:Op.negFloat .f64 (ofKey PI)=ofKey (-PI):=fneg_ofKey Rg_PI (by decide)
@[go_sem] theorem neg_MI:Op.negFloat .f64 (ofKey (-PI))=ofKey PI:=fneg_ofKey Rg_MI (by decide)
@[go_sem] theorem o_nan_l {x y:Nat} (hx:nan x):FloatKind.f64.format.order x y=none:=ord_nan_left hx
@[go_sem] theorem o_nan_r {x y:Nat} (hy:nan y):FloatKind.f64.format.order x y=none:=ord_nan_right hy
@[go_sem] theorem o_lt {x y:Nat} (hx : ¬nan x) (hy : ¬nan y):(FloatKind.f64.format.order x y==some .lt)=decide (key x<key y):=by rw [ord_key hx hy,cmp_lt]
@[go_sem] theorem o_gt {x y:Nat} (hx : ¬nan x) (hy : ¬nan y):(FloatKind.f64.format.order x y==some .gt)=decide (key y<key x):=by rw [ord_key hx hy,cmp_gt]
@[go_sem] theorem o_eq {x y:Nat} (hx : ¬nan x) (hy : ¬nan y):(FloatKind.f64.format.order x y==some .eq)=decide (key x=key y):=by rw [ord_key hx hy,cmp_eq]
@[go_sem] theorem o_ne {x y:Nat} (hx : ¬nan x) (hy : ¬nan y):(FloatKind.f64.format.order x y != some .eq) = !decide (key x=key y):=by rw [ord_key hx hy,cmp_ne]
@[go_sem] theorem o_le (a b:Int):(decide (a<b)||decide (a=b))=decide (a≤b):=by rw [←Bool.decide_or];congr 1;simp only [eq_iff_iff];omega
@[go_sem] theorem o_ge (a b:Int):(decide (b<a)||decide (a=b))=decide (b≤a):=by rw [←Bool.decide_or];congr 1;simp only [eq_iff_iff];omega
@[go_sem] theorem run_add0 {P:Program} {w:World} {t:TypeId} {x:Nat} (hx : ¬nan x) (hw:Wd x):(binOp .add t (.float .f64 x) (.float .f64 0)).run P w = .ok (.float .f64 (ofKey (key x))) w :=
 run_float_arith w .add t .f64 x 0 _ (add_zero hx hw)
@[go_sem] theorem run_equalIn_float {P:Program} (w:World) (d:Nat) (t:TypeId) (k k':FloatKind) (a b:Nat) (h:P.underlying t=some (.float k')):(Op.equalIn (d+1) t (.float k a) (.float k b)).run P w = .ok (k.format.order a b==some .eq) w:=by
 simp [Op.equalIn,run_underlying h,Op.floatEq]
@[go_sem] theorem rg_min {a b:Int} (ha:Rg a) (hb:Rg b):Rg (min a b):=by
 rcases Int.le_total a b with h|h
 ·rw [Int.min_eq_left h];exact ha
 ·rw [Int.min_eq_right h];exact hb
@[go_sem] theorem rg_max {a b:Int} (ha:Rg a) (hb:Rg b):Rg (max a b):=by
 rcases Int.le_total a b with h|h
 ·rw [Int.max_eq_right h];exact hb
 ·rw [Int.max_eq_left h];exact ha
@[go_sem] theorem run_min_k {P:Program} {w:World} {ts:Array TypeId} {t:TypeId} {a b:Int} (ha:Rg a) (hb:Rg b):(Builtin.min_ ts t #[.float .f64 (ofKey a),.float .f64 (ofKey b)]).run P w = .ok (.float .f64 (ofKey (min a b))) w:=by
 have ho:=ord_ofKey ha hb
 rcases Int.lt_trichotomy a b with h|h|h
 ·have e:compare a b = .lt:=by simp [compare,compareOfLessAndEq,h]
  rw [e] at ho
  rw [Int.min_eq_left (by omega)]
  simp [Builtin.min_,Builtin.min2,ho]
 ·subst h
  have e:compare a a = .eq:=by simp [compare,compareOfLessAndEq]
  rw [e] at ho
  rw [Int.min_eq_left (by omega)]
  simp [Builtin.min_,Builtin.min2,ho]
 ·have e:compare a b = .gt:=by simp [compare,compareOfLessAndEq,show ¬a<b by omega,show ¬a=b by omega]
  rw [e] at ho
  rw [Int.min_eq_right (by omega)]
  simp [Builtin.min_,Builtin.min2,ho]
@[go_sem] theorem run_max_k {P:Program} {w:World} {ts:Array TypeId} {t:TypeId} {a b:Int} (ha:Rg a) (hb:Rg b):(Builtin.max_ ts t #[.float .f64 (ofKey a),.float .f64 (ofKey b)]).run P w = .ok (.float .f64 (ofKey (max a b))) w:=by
 have ho:=ord_ofKey ha hb
 rcases Int.lt_trichotomy a b with h|h|h
 ·have e:compare a b = .lt:=by simp [compare,compareOfLessAndEq,h]
  rw [e] at ho
  rw [Int.max_eq_right (by omega)]
  simp [Builtin.max_,Builtin.max2,ho]
 ·subst h
  have e:compare a a = .eq:=by simp [compare,compareOfLessAndEq]
  rw [e] at ho
  rw [Int.max_eq_left (by omega)]
  simp [Builtin.max_,Builtin.max2,ho]
 ·have e:compare a b = .gt:=by simp [compare,compareOfLessAndEq,show ¬a<b by omega,show ¬a=b by omega]
  rw [e] at ho
  rw [Int.max_eq_left (by omega)]
  simp [Builtin.max_,Builtin.max2,ho]
theorem below_alloc {w w2:World} {o:Obj} (h:Below (w.alloc o).heap.size (w.alloc o) w2):Below w.heap.size w w2 :=
 ((Below.refl _ _).alloc (Nat.le_refl _) o).trans (h.mono (by simp))
theorem below_step {B:Nat} {w w1 w2:World} (h:Below B w w1) (hB:B≤w1.heap.size) (h2:Below w1.heap.size w1 w2):Below B w w2:=h.trans (h2.mono hB)
theorem below_drewn {w w2:World} (h:Below w.drew.heap.size w.drew w2):Below w.heap.size w w2:=((Below.refl _ _).drew).trans h
theorem ret_b {b c:Bool} (h:b=c):Ending.returned (.bool b) = .returned (.bool c):=by rw [h]
theorem ret_k {a b:Int} (h:a=b):Ending.returned (.float .f64 (ofKey a)) = .returned (.float .f64 (ofKey b)):=by rw [h]
theorem ret_i {k:IntKind} {a b:Int} (h:a=b):Ending.returned (.int k a) = .returned (.int k b):=by rw [h]
theorem ret_iv {a b c d:Int} (h:a=c) (h':b=d):Ending.returned (.agg #[.float .f64 (ofKey a),.float .f64 (ofKey b)]) = .returned (.agg #[.float .f64 (ofKey c),.float .f64 (ofKey d)]):=by rw [h,h']
theorem bcell {W w1:World} (hb:Below W.heap.size W w1):(∀ b o,b<W.heap.size→w1.cell? ⟨b,o,none⟩=W.cell? ⟨b,o,none⟩)∧(∀ b o,b<W.heap.size→w1.frozen? ⟨b,o,none⟩=W.frozen? ⟨b,o,none⟩) :=
 ⟨fun b o h=>hb.cell (p:=⟨b,o,none⟩) h,fun b o h=>hb.frozen (p:=⟨b,o,none⟩) h⟩
end Go.Fl
namespace Go
open Go.Sort Go.RowKit
set_option linter.unusedVariables false
theorem cell_alloc {w:World} {o:Obj} {b f:Nat} {v:Value} (h:w.cell? ⟨b,f,none⟩=some v):(w.alloc o).cell? ⟨b,f,none⟩=some v:=by
 rw [World.cell?_alloc_past _ _ _ (show b<w.heap.size from block_lt_of_cell (a:=⟨b,f,none⟩) h)];exact h
theorem froz_alloc {w:World} {o:Obj} {b f:Nat} {v:Value} (h:w.cell? ⟨b,f,none⟩=some v) (hf:w.frozen? ⟨b,f,none⟩=false):(w.alloc o).frozen? ⟨b,f,none⟩=false:=by
 rw [World.frozen?_alloc_past _ _ _ (show b<w.heap.size from block_lt_of_cell (a:=⟨b,f,none⟩) h)];exact hf
def At (w:World) (b f:Nat) (v:Value):Prop:=w.cell? ⟨b,f,none⟩=some v∧w.frozen? ⟨b,f,none⟩=false
theorem At.alloc {w:World} {o:Obj} {b f:Nat} {v:Value} (h:At w b f v):At (w.alloc o) b f v:=⟨cell_alloc h.1,froz_alloc h.1 h.2⟩
theorem At.below {w w1:World} {b f:Nat} {v:Value} (h:At w b f v) (hb:Below w.heap.size w w1):At w1 b f v:=⟨hb.cells h.1,hb.froz h.1 h.2⟩
theorem At.drew {w:World} {b f:Nat} {v:Value} (h:At w b f v):At w.drew b f v:=h
theorem At.lt {w:World} {b f:Nat} {v:Value} (h:At w b f v):b<w.heap.size:=block_lt_of_cell (a:=⟨b,f,none⟩) h.1
theorem At.set_same {w:World} {b f:Nat} {u:Value} (h:At w b f u) (v:Value):At (w.setCell ⟨b,f,none⟩ v) b f v:=by
 refine ⟨World.cell?_setCell_same w _ _ h.1,?_⟩
 have:=h.2
 simpa [go_sem] using this
theorem At.set_off {w:World} {b f f':Nat} {u:Value} (h:At w b f u) (hne:f'≠f) (v:Value):At (w.setCell ⟨b,f',none⟩ v) b f u:=by
 refine ⟨by rw [World.cell?_setCell_other w _ _ v (by intro e;apply hne;cases e;rfl)];exact h.1,?_⟩
 have:=h.2
 simpa [go_sem] using this
theorem At.set_blk {w:World} {b b' f f':Nat} {u:Value} (h:At w b f u) (hne:b'≠b) (v:Value):At (w.setCell ⟨b',f',none⟩ v) b f u:=by
 refine ⟨by rw [World.cell?_setCell_other w _ _ v (by intro e;apply hne;cases e;rfl)];exact h.1,?_⟩
 have:=h.2
 simpa [go_sem] using this
theorem At.of {w w1:World} {b f:Nat} {v:Value} (h:At w b f v) (e:w1=w):At w1 b f v:=by rw [e];exact h
theorem below_of {B:Nat} {w w1 w2:World} (h:Below B w w1) (e:w2=w1):Below B w w2:=by rw [e];exact h
def Rounds (P:Program) (c:Code) (Q:Exit→Act→World→Prop):Nat→Act→World→Prop
 | 0,_,_=>False
 | n+1,a,w=>c.wp P (Exit.then (Rounds P c Q n) Q) a w
theorem wp_rounds {P:Program} {c:Code} {Q:Exit→Act→World→Prop} {a:Act} {w:World} (n:Nat) (h:Rounds P c Q n a w):(Code.loop c).wp P Q a w:=by
 intro b k cs
 have key : ∀ n a w,Rounds P c Q n a w → ∃ e a' w',Q e a' w'∧Arrives P (lone (b.at a (.code c :: .inLoop c::k)) cs w) b k cs e a' w':=by
  intro n
  induction n with
  | zero=>intro a w h;exact h.elim
  | succ n ih =>
   intro a w h
   obtain ⟨e,a₁,w₁,hq,harr⟩:=h b (.inLoop c::k) cs
   cases e with
   | normal =>
    obtain ⟨e₂,a₂,w₂,hq₂,harr₂⟩:=ih a₁ w₁ hq
    exact ⟨e₂,a₂,w₂,hq₂,.of_steps (Steps.trans harr (.one step_inLoop)) harr₂⟩
   | exit id=>exact ⟨_,a₁,w₁,hq,.pass (x := .inLoop c) rfl (fun _ _ => .inl (by simp)) harr⟩
   | goto l=>exact ⟨_,a₁,w₁,hq,.pass (x := .inLoop c) rfl (fun _ _ => .inl (by simp)) harr⟩
   | ret=>exact ⟨_,a₁,w₁,hq,.pass (x := .inLoop c) rfl (fun _ _ => .inl (by simp)) harr⟩
   | panic ch=>exact ⟨_,a₁,w₁,hq,.pass (x := .inLoop c) rfl (fun _ _ => .inl (by simp)) harr⟩
   | outgrown=>exact ⟨_,a₁,w₁,hq,.pass (x := .inLoop c) rfl (fun _ _ => .inl (by simp)) harr⟩
 obtain ⟨e,a',w',hq,harr⟩:=key n a w h
 exact ⟨e,a',w',hq,.of_steps (.one step_loop) harr⟩
end Go
namespace Go
open Go.Sort Go.RowKit
set_option linter.unusedVariables false
set_option linter.unusedSimpArgs false
def upd:List (Nat × Nat × Value)→Nat→Value→List (Nat × Nat × Value)
 | [],_,_=>[]
 | t::l,0,v=>(t.1,t.2.1,v)::l
 | t::l,i+1,v=>t::upd l i v
def stc (w:World) (v:Value):List (Nat × Nat × Value)→Nat→World
 | [],_=>w
 | t::_,0=>w.setCell ⟨t.1,t.2.1,none⟩ v
 | _::l,i+1=>stc w v l i
def add (l m:List (Nat × Nat × Value)):List (Nat × Nat × Value) :=
 match l with
 | []=>m
 | t::l=>t::add l m
theorem add_eq (l m:List (Nat × Nat × Value)):add l m=l++m:=by
 induction l with
 | nil=>rfl
 | cons t l ih=>show t::add l m=_;rw [ih];rfl
def Ats (w:World) (l:List (Nat × Nat × Value)):Prop := ∀ t∈l,At w t.1 t.2.1 t.2.2
def Apart (s t:Nat × Nat × Value):Prop := ¬(s.1=t.1∧s.2.1=t.2.1)
theorem at_set_ne {w:World} {b f b' f':Nat} {u v:Value} (h:At w b f u) (hne : ¬(b'=b∧f'=f)):At (w.setCell ⟨b',f',none⟩ v) b f u:=by
 by_cases hb:b'=b
 ·exact hb ▸ At.set_off (hb ▸ h) (fun e=>hne ⟨hb,e⟩) v
 ·exact At.set_blk h hb v
theorem stc_other {w:World} {v:Value} {t:Nat × Nat × Value} : ∀ (l:List (Nat × Nat × Value)) (i:Nat),(∀ s∈l,Apart t s)→At w t.1 t.2.1 t.2.2→At (stc w v l i) t.1 t.2.1 t.2.2
 | [],_,_,h=>h
 | s::_,0,hs,h=>at_set_ne h (fun e=>hs s (by simp) ⟨e.1.symm,e.2.symm⟩)
 | _::l,i+1,hs,h=>stc_other l i (fun s m=>hs s (by simp [m])) h
theorem ats_upd {w:World} {v:Value} : ∀ (l:List (Nat × Nat × Value)) (i:Nat),l.Pairwise Apart→Ats w l→Ats (stc w v l i) (upd l i v)
 | [],_,_,h=>h
 | t::l,0,hp,h=>by
  intro s hs
  rcases List.mem_cons.1 hs with rfl|hs
  ·exact At.set_same (h t (by simp)) v
  ·exact at_set_ne (h s (by simp [hs])) ((List.pairwise_cons.1 hp).1 s hs)
 | t::l,i+1,hp,h=>by
  intro s hs
  rcases List.mem_cons.1 hs with rfl|hs
  ·exact stc_other l i (List.pairwise_cons.1 hp).1 (h s (by simp))
  ·exact ats_upd l i (List.pairwise_cons.1 hp).2 (fun s m=>h s (by simp [m])) s hs
theorem upd_key {v:Value} : ∀ (l:List (Nat × Nat × Value)) (i:Nat),∀ t∈upd l i v,∃ s∈l,s.1=t.1∧s.2.1=t.2.1
 | [],_,t,h=>(by cases h)
 | u::l,0,t,h=>by
  rcases List.mem_cons.1 h with rfl|h
  ·exact ⟨u,by simp,rfl,rfl⟩
  ·exact ⟨t,by simp [h],rfl,rfl⟩
 | u::l,i+1,t,h=>by
  rcases List.mem_cons.1 h with rfl|h
  ·exact ⟨t,by simp,rfl,rfl⟩
  ·obtain ⟨s,m,e⟩:=upd_key l i t h;exact ⟨s,by simp [m],e⟩
theorem upd_apart {v:Value} : ∀ (l:List (Nat × Nat × Value)) (i:Nat),l.Pairwise Apart→(upd l i v).Pairwise Apart
 | [],_,h=>h
 | t::l,0,h=>List.pairwise_cons.2 ⟨(List.pairwise_cons.1 h).1,(List.pairwise_cons.1 h).2⟩
 | t::l,i+1,h=>by
  refine List.pairwise_cons.2 ⟨fun s hs => ?_,upd_apart l i (List.pairwise_cons.1 h).2⟩
  obtain ⟨s',m,e1,e2⟩:=upd_key l i s hs
  have:=(List.pairwise_cons.1 h).1 s' m
  unfold Apart at *
  rw [←e1,←e2];exact this
theorem below_stc {B:Nat} {w0 w:World} {v:Value} : ∀ (l:List (Nat × Nat × Value)) (i:Nat),(∀ t∈l,B≤t.1)→Below B w0 w→Below B w0 (stc w v l i)
 | [],_,_,h=>h
 | t::_,0,hl,h=>Below.setCell h (p:=⟨t.1,t.2.1,none⟩) (hl t (by simp)) v
 | _::l,i+1,hl,h=>below_stc l i (fun s m=>hl s (by simp [m])) h
structure Hold (w0 w:World) (l:List (Nat × Nat × Value)):Prop where
 B:Below w0.heap.size w0 w
 c:Ats w l
 s:l.Pairwise Apart
 n : ∀ t∈l,w0.heap.size≤t.1
theorem Hold.st (w:World):Hold w w []:=⟨Below.refl _ _,fun _ h=>(by cases h),.nil,fun _ h=>(by cases h)⟩
theorem Hold.below {w0 w w1:World} {l:List (Nat × Nat × Value)} (h:Hold w0 w l) (hb:Below w.heap.size w w1):Hold w0 w1 l :=
 ⟨h.B.trans (hb.mono h.B.size),fun t m=>At.below (h.c t m) hb,h.s,h.n⟩
theorem Hold.cut {w0 w:World} {l:List (Nat × Nat × Value)} (h:Hold w0 w l) (n:Nat):Hold w0 w (l.take n) :=
 ⟨h.B,fun t m=>h.c t (List.mem_of_mem_take m),h.s.sublist (List.take_sublist n l),fun t m=>h.n t (List.mem_of_mem_take m)⟩
theorem Hold.drew {w0 w:World} {l:List (Nat × Nat × Value)} (h:Hold w0 w l):Hold w0 w.drew l:=⟨h.B.drew,h.c,h.s,h.n⟩
theorem Hold.set {w0 w:World} {l:List (Nat × Nat × Value)} (h:Hold w0 w l) (i:Nat) (v:Value):Hold w0 (stc w v l i) (upd l i v) :=
 ⟨below_stc l i h.n h.B,ats_upd l i h.s h.c,upd_apart l i h.s,fun t m=>by obtain ⟨s,hs,e,_⟩:=upd_key l i t m;rw [←e];exact h.n s hs⟩
theorem Hold.news {w0 w:World} {l:List (Nat × Nat × Value)} (h:Hold w0 w l) (m:List (Nat × Nat × Value)) (o:Obj) (h1:Ats (w.alloc o) m) (h2:m.Pairwise Apart) (h3 : ∀ t∈m,t.1=w.heap.size):Hold w0 (w.alloc o) (add l m):=by
 rw [add_eq]
 refine ⟨h.B.alloc h.B.size _,fun t ht => ?_,?_,fun t ht => ?_⟩
 ·rcases List.mem_append.1 ht with ht|ht
  ·exact At.alloc (h.c t ht)
  ·exact h1 t ht
 ·refine List.pairwise_append.2 ⟨h.s,h2,fun s hs t ht e => ?_⟩
  have a:=(h.c s hs).lt
  have b:=h3 t ht
  have c:=e.1
  omega
 ·rcases List.mem_append.1 ht with ht|ht
  ·exact h.n t ht
  ·rw [h3 t ht];exact h.B.size
theorem Hold.new1 {w0 w:World} {l:List (Nat × Nat × Value)} (h:Hold w0 w l) (v0:Value) (T:TypeId):Hold w0 (w.alloc (.cells #[v0] T)) (add l [(w.heap.size,0,v0)]):=by
 refine h.news _ _ (fun t ht => ?_) (by simp [Apart]) (by simp)
 simp only [List.mem_cons,List.not_mem_nil,or_false] at ht
 rcases ht with rfl<;>exact ⟨by simp [go_sem],by simp [go_sem]⟩
theorem Hold.new2 {w0 w:World} {l:List (Nat × Nat × Value)} (h:Hold w0 w l) (v0 v1:Value) (T:TypeId):Hold w0 (w.alloc (.cells #[v0,v1] T)) (add l [(w.heap.size,0,v0),(w.heap.size,1,v1)]):=by
 refine h.news _ _ (fun t ht => ?_) (by simp [Apart]) (by simp)
 simp only [List.mem_cons,List.not_mem_nil,or_false] at ht
 rcases ht with rfl|rfl<;>exact ⟨by simp [go_sem],by simp [go_sem]⟩
theorem Hold.new3 {w0 w:World} {l:List (Nat × Nat × Value)} (h:Hold w0 w l) (v0 v1 v2:Value) (T:TypeId):Hold w0 (w.alloc (.cells #[v0,v1,v2] T)) (add l [(w.heap.size,0,v0),(w.heap.size,1,v1),(w.heap.size,2,v2)]):=by
 refine h.news _ _ (fun t ht => ?_) (by simp [Apart]) (by simp)
 simp only [List.mem_cons,List.not_mem_nil,or_false] at ht
 rcases ht with rfl|rfl|rfl<;>exact ⟨by simp [go_sem],by simp [go_sem]⟩
theorem Hold.i2 {w:World} {v0 v1:Value} {T0:TypeId}:Hold w (World.alloc w (.cells #[v0,v1] T0)) [(w.heap.size,0,v0),(w.heap.size,1,v1)]:=by
 have h:=(Hold.st w).new2 v0 v1 T0
 simpa only [World.size_alloc,add] using h
theorem Hold.i3 {w:World} {v0 v1 v2:Value} {T0:TypeId}:Hold w (World.alloc w (.cells #[v0,v1,v2] T0)) [(w.heap.size,0,v0),(w.heap.size,1,v1),(w.heap.size,2,v2)]:=by
 have h:=(Hold.st w).new3 v0 v1 v2 T0
 simpa only [World.size_alloc,add] using h
theorem Hold.i22 {w:World} {v0 v1 v2 v3:Value} {T0 T1:TypeId}:Hold w (World.alloc (World.alloc w (.cells #[v0,v1] T0)) (.cells #[v2,v3] T1)) [(w.heap.size,0,v0),(w.heap.size,1,v1),(w.heap.size+1,0,v2),(w.heap.size+1,1,v3)]:=by
 have h:=((Hold.st w).new2 v0 v1 T0).new2 v2 v3 T1
 simpa only [World.size_alloc,add] using h
theorem Hold.i222 {w:World} {v0 v1 v2 v3 v4 v5:Value} {T0 T1 T2:TypeId}:Hold w (World.alloc (World.alloc (World.alloc w (.cells #[v0,v1] T0)) (.cells #[v2,v3] T1)) (.cells #[v4,v5] T2)) [(w.heap.size,0,v0),(w.heap.size,1,v1),(w.heap.size+1,0,v2),(w.heap.size+1,1,v3),(w.heap.size+1+1,0,v4),(w.heap.size+1+1,1,v5)]:=by
 have h:=(((Hold.st w).new2 v0 v1 T0).new2 v2 v3 T1).new2 v4 v5 T2
 simpa only [World.size_alloc,add] using h
theorem Hold.i2222 {w:World} {v0 v1 v2 v3 v4 v5 v6 v7:Value} {T0 T1 T2 T3:TypeId}:Hold w (World.alloc (World.alloc (World.alloc (World.alloc w (.cells #[v0,v1] T0)) (.cells #[v2,v3] T1)) (.cells #[v4,v5] T2)) (.cells #[v6,v7] T3)) [(w.heap.size,0,v0),(w.heap.size,1,v1),(w.heap.size+1,0,v2),(w.heap.size+1,1,v3),(w.heap.size+1+1,0,v4),(w.heap.size+1+1,1,v5),(w.heap.size+1+1+1,0,v6),(w.heap.size+1+1+1,1,v7)]:=by
 have h:=((((Hold.st w).new2 v0 v1 T0).new2 v2 v3 T1).new2 v4 v5 T2).new2 v6 v7 T3
 simpa only [World.size_alloc,add] using h
theorem Hold.i33 {w:World} {v0 v1 v2 v3 v4 v5:Value} {T0 T1:TypeId}:Hold w (World.alloc (World.alloc w (.cells #[v0,v1,v2] T0)) (.cells #[v3,v4,v5] T1)) [(w.heap.size,0,v0),(w.heap.size,1,v1),(w.heap.size,2,v2),(w.heap.size+1,0,v3),(w.heap.size+1,1,v4),(w.heap.size+1,2,v5)]:=by
 have h:=((Hold.st w).new3 v0 v1 v2 T0).new3 v3 v4 v5 T1
 simpa only [World.size_alloc,add] using h
theorem Hold.i333 {w:World} {v0 v1 v2 v3 v4 v5 v6 v7 v8:Value} {T0 T1 T2:TypeId}:Hold w (World.alloc (World.alloc (World.alloc w (.cells #[v0,v1,v2] T0)) (.cells #[v3,v4,v5] T1)) (.cells #[v6,v7,v8] T2)) [(w.heap.size,0,v0),(w.heap.size,1,v1),(w.heap.size,2,v2),(w.heap.size+1,0,v3),(w.heap.size+1,1,v4),(w.heap.size+1,2,v5),(w.heap.size+1+1,0,v6),(w.heap.size+1+1,1,v7),(w.heap.size+1+1,2,v8)]:=by
 have h:=(((Hold.st w).new3 v0 v1 v2 T0).new3 v3 v4 v5 T1).new3 v6 v7 v8 T2
 simpa only [World.size_alloc,add] using h
theorem Hold.i3333 {w:World} {v0 v1 v2 v3 v4 v5 v6 v7 v8 v9 v10 v11:Value} {T0 T1 T2 T3:TypeId}:Hold w (World.alloc (World.alloc (World.alloc (World.alloc w (.cells #[v0,v1,v2] T0)) (.cells #[v3,v4,v5] T1)) (.cells #[v6,v7,v8] T2)) (.cells #[v9,v10,v11] T3)) [(w.heap.size,0,v0),(w.heap.size,1,v1),(w.heap.size,2,v2),(w.heap.size+1,0,v3),(w.heap.size+1,1,v4),(w.heap.size+1,2,v5),(w.heap.size+1+1,0,v6),(w.heap.size+1+1,1,v7),(w.heap.size+1+1,2,v8),(w.heap.size+1+1+1,0,v9),(w.heap.size+1+1+1,1,v10),(w.heap.size+1+1+1,2,v11)]:=by
 have h:=((((Hold.st w).new3 v0 v1 v2 T0).new3 v3 v4 v5 T1).new3 v6 v7 v8 T2).new3 v9 v10 v11 T3
 simpa only [World.size_alloc,add] using h
theorem Hold.i23 {w:World} {v0 v1 v2 v3 v4:Value} {T0 T1:TypeId}:Hold w (World.alloc (World.alloc w (.cells #[v0,v1] T0)) (.cells #[v2,v3,v4] T1)) [(w.heap.size,0,v0),(w.heap.size,1,v1),(w.heap.size+1,0,v2),(w.heap.size+1,1,v3),(w.heap.size+1,2,v4)]:=by
 have h:=((Hold.st w).new2 v0 v1 T0).new3 v2 v3 v4 T1
 simpa only [World.size_alloc,add] using h
theorem Hold.i32 {w:World} {v0 v1 v2 v3 v4:Value} {T0 T1:TypeId}:Hold w (World.alloc (World.alloc w (.cells #[v0,v1,v2] T0)) (.cells #[v3,v4] T1)) [(w.heap.size,0,v0),(w.heap.size,1,v1),(w.heap.size,2,v2),(w.heap.size+1,0,v3),(w.heap.size+1,1,v4)]:=by
 have h:=((Hold.st w).new3 v0 v1 v2 T0).new2 v3 v4 T1
 simpa only [World.size_alloc,add] using h
theorem Hold.i322 {w:World} {v0 v1 v2 v3 v4 v5 v6:Value} {T0 T1 T2:TypeId}:Hold w (World.alloc (World.alloc (World.alloc w (.cells #[v0,v1,v2] T0)) (.cells #[v3,v4] T1)) (.cells #[v5,v6] T2)) [(w.heap.size,0,v0),(w.heap.size,1,v1),(w.heap.size,2,v2),(w.heap.size+1,0,v3),(w.heap.size+1,1,v4),(w.heap.size+1+1,0,v5),(w.heap.size+1+1,1,v6)]:=by
 have h:=(((Hold.st w).new3 v0 v1 v2 T0).new2 v3 v4 T1).new2 v5 v6 T2
 simpa only [World.size_alloc,add] using h
theorem Hold.i33333 {w:World} {v0 v1 v2 v3 v4 v5 v6 v7 v8 v9 v10 v11 v12 v13 v14:Value} {T0 T1 T2 T3 T4:TypeId}:Hold w (World.alloc (World.alloc (World.alloc (World.alloc (World.alloc w (.cells #[v0,v1,v2] T0)) (.cells #[v3,v4,v5] T1)) (.cells #[v6,v7,v8] T2)) (.cells #[v9,v10,v11] T3)) (.cells #[v12,v13,v14] T4)) [(w.heap.size,0,v0),(w.heap.size,1,v1),(w.heap.size,2,v2),(w.heap.size+1,0,v3),(w.heap.size+1,1,v4),(w.heap.size+1,2,v5),(w.heap.size+1+1,0,v6),(w.heap.size+1+1,1,v7),(w.heap.size+1+1,2,v8),(w.heap.size+1+1+1,0,v9),(w.heap.size+1+1+1,1,v10),(w.heap.size+1+1+1,2,v11),(w.heap.size+1+1+1+1,0,v12),(w.heap.size+1+1+1+1,1,v13),(w.heap.size+1+1+1+1,2,v14)]:=by
 have h:=(((((Hold.st w).new3 v0 v1 v2 T0).new3 v3 v4 v5 T1).new3 v6 v7 v8 T2).new3 v9 v10 v11 T3).new3 v12 v13 v14 T4
 simpa only [World.size_alloc,add] using h
def Fac (w:World):List (Nat × Nat × Value)→Prop
 | []=>True
 | t::l=>w.cell? ⟨t.1,t.2.1,none⟩=some t.2.2∧w.frozen? ⟨t.1,t.2.1,none⟩=false∧t.1<w.heap.size∧Fac w l
theorem fac_of {w:World} : ∀ (l:List (Nat × Nat × Value)),Ats w l→Fac w l
 | [],_=>trivial
 | t::l,h=>⟨(h t (by simp)).1,(h t (by simp)).2,(h t (by simp)).lt,fac_of l fun s m=>h s (by simp [m])⟩
theorem Hold.f {w0 w:World} {l:List (Nat × Nat × Value)} (h:Hold w0 w l):Fac w l:=fac_of l h.c
def Lts (w:World):List (Nat × Nat × Value)→Prop
 | []=>True
 | t::l=>t.1<w.heap.size∧Lts w l
theorem lts_of {w:World} : ∀ (l:List (Nat × Nat × Value)),Ats w l→Lts w l
 | [],_=>trivial
 | t::l,h=>⟨(h t (by simp)).lt,lts_of l fun s m=>h s (by simp [m])⟩
theorem Hold.lt {w0 w:World} {l:List (Nat × Nat × Value)} (h:Hold w0 w l):Lts w l:=lts_of l h.c
def Reg (w:World):List (Nat × Nat × Value)→Prop
 | []=>True
 | t::l=>(∀ (d:Nat) (os:Array Obj),(grow (redrawn w d) os).cell? ⟨t.1,t.2.1,none⟩=some t.2.2)∧Reg w l
theorem reg_of {w:World} : ∀ (l:List (Nat × Nat × Value)),Ats w l→Reg w l
 | [],_=>trivial
 | t::l,h=>⟨cell_regrown (h t (by simp)).1,reg_of l fun s m=>h s (by simp [m])⟩
theorem Hold.r {w0 w:World} {l:List (Nat × Nat × Value)} (h:Hold w0 w l):Reg w l:=reg_of l h.c
theorem Hold.go {w0 W:World} {l:List (Nat × Nat × Value)} {P:Program} {c:Code} {Q:Exit→Act→World→Prop} {a:Act} (h:Hold w0 W l) (k : ∀ x,Hold w0 x l→c.wp P Q a x):c.wp P Q a W:=k W h
theorem Hold.goc {w0 W:World} {l:List (Nat × Nat × Value)} {P:Program} {f:FuncId} {args:Array Value} {R:Ending→World→Prop} (h:Hold w0 W l) (k : ∀ x,Hold w0 x l→Calls P f args x R):Calls P f args W R:=k W h
theorem Hold.gol {w0 W:World} {l:List (Nat × Nat × Value)} {P:Program} {ops:Array Oper} {ol:List Oper} {Q:Exit→Act→World→Prop} {a:Act} (h:Hold w0 W l) (k : ∀ x,Hold w0 x l→wpList P ops Q ol a x):wpList P ops Q ol a W:=k W h
theorem Hold.gob {w0 W:World} {l:List (Nat × Nat × Value)} {P:Program} {fn:Func} {R:Ending→World→Prop} {e:Exit} {a:Act} (h:Hold w0 W l) (k : ∀ x,Hold w0 x l→bodyPost P fn R e a x):bodyPost P fn R e a W:=k W h
end Go
