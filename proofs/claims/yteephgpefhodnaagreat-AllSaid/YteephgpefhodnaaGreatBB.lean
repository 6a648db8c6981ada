/- The method number, joined: the real rounded to a rung. The product, rounded down and up. bits.Div64 of a word times 2^64 by a divisor whose first digit is at the top. The quotient, rounded down and up. The root, rounded down and up. fp.Round: the result of an operation on two numbers, rounded down and up. -/
import Derived.Test.YteephgpefhodnaaGreatBA
import Derived.Test.YteephgpefhodnaaGreatFC
import Derived.Lib.ItoaNum
import Derived.LoopTactic
namespace Go.Proofs.YteephgpefhodnaaGreat
open Go.RowKit Go.Sort Go.Fl
set_option linter.unusedSimpArgs false
set_option linter.unusedVariables false
theorem ld_q (q r:Nat) (p:Int) (hq:q≤2^53) (hr:M r=q*2^(p+1074).toNat) (hrI:r≤INF) (hp1 : -1074≤p) (hp2:p≤971) (z p':Int) (hz:z=q) (hp:p'=p) (w:World) :
  Calls Tryz.prog 140 #[.float .f64 (floatOfInt .f64 z),.int .i64 p'] w fun e w'=>e = .returned (.float .f64 r)∧w=w':=by
 subst hz hp
 rcases Nat.eq_zero_or_pos q with h|h
 ·subst h
  rw [Nat.zero_mul] at hr
  obtain rfl:r=0:=M_inj (by rw [hr,M_zero])
  exact mathldexp_zero _ w
 ·obtain ⟨F,h1,h2,h3⟩:=nearest_nat q hq h
  have e:floatOfInt .f64 (q:Int)=F:=h1
  rw [e]
  exact mathldexp_any q F r p' h hq h3 h2 hr hrI hp1 hp2 w
theorem plus_toNat (r:Nat) (away x y:Bool) (P:Prop) [Decidable P] (h:P↔(x||y)=true):r+(away&&(x||y)).toNat=if away=true then r+(if P then 1 else 0) else r:=by
 cases away
 ·rw [if_neg (by decide)];rfl
 ·rw [if_pos rfl]
  by_cases hp:P
  ·rw [if_pos hp,h.1 hp];rfl
  ·rw [if_neg hp]
   have:(x||y)=false:=by
    cases hb:(x||y)
    ·rfl
    ·exact absurd (h.2 hb) hp
   rw [this];rfl
theorem number_facts {hi lo:Nat} {e:Int} {rest:Bool} {N D:Nat} (b1:hi<2^64) (b2:lo<2^64) (h0:hi≠0) (hD:0<D) (hW:Wide hi lo e rest N D∨Top hi lo e rest N D) :
  ∃ n H L:Nat,64-(Lib.bitLen hi:Int)=n∧n≤63∧H<2^64 ∧
   bits BinOp.or IntKind.u64 (IntKind.u64.wrap ((hi:Int)*2^n)) ((lo:Int) / 2^(64-n))=(H:Int) ∧
   IntKind.u64.wrap ((lo:Int)*2^n)=(L:Int)∧L=lo*2^n%2^64 ∧
   (1023<e+127-n→MagD (INF-1) N D∧MagU INF N D) ∧
   (e+127-n≤1023 → ∀ k l,keepOf (e+127-n)=k→placeOf (e+127-n)=l →
    MagD (l*2^52+H / 2^(64-k)) N D∧MagU (l*2^52+H / 2^(64-k)+(if (rest||decide (L≠0))=true∨H%2^(64-k)≠0 then 1 else 0)) N D ∧
    k≤53∧H / 2^(64-k)<2^53∧(l=0∨2^52≤H / 2^(64-k))∧(IntKind.u64.wrap ((H:Int)*2^k) != 0)=decide (H%2^(64-k)≠0)):=by
 have hb:hi<2^Lib.bitLen hi∧(hi≠0→2^(Lib.bitLen hi-1)≤hi):=by
  obtain ⟨_,x2,x3⟩:=Lib.bitLenAux_bounds 64 hi b1 h0
  exact ⟨x3,fun _=>x2⟩
 have hb64:Lib.bitLen hi≤64:=by
  rcases Nat.lt_or_ge 64 (Lib.bitLen hi) with h|h
  ·have h2:=hb.2 h0
   have h3:(2:Nat)^64≤2^(Lib.bitLen hi-1):=Nat.pow_le_pow_right (by omega) (by omega)
   omega
  ·exact h
 have hbt:2^63≤hi→Lib.bitLen hi=64:=by
  intro h
  rcases Nat.lt_or_ge (Lib.bitLen hi) 64 with h2|h2
  ·have h3:(2:Nat)^Lib.bitLen hi≤2^63:=Nat.pow_le_pow_right (by omega) (by omega)
   omega
  ·omega
 obtain ⟨n,hn⟩ : ∃ n,n=64-Lib.bitLen hi:=⟨_,rfl⟩
 obtain ⟨t1,t2,t3,t4⟩:=top_digit h0 b1 hb b2 hb64 hn
 have hT:=shift_eq (hi:=hi) t1 b2
 have hr:=shift_room (lo:=lo) t1
 have hH:=first_word t1 t2 b2
 have hcore:(hi*2^n+lo / 2^(64-n))*2^((e+127-n)+1011).toNat*D≤N*2^(-((e+127-n)+1011)).toNat∧N*2^(-((e+127-n)+1011)).toNat<((hi*2^n+lo / 2^(64-n))+1)*2^((e+127-n)+1011).toNat*D ∧
  (N*2^(-((e+127-n)+1011)).toNat=(hi*2^n+lo / 2^(64-n))*2^((e+127-n)+1011).toNat*D↔(rest||decide (lo*2^n%2^64≠0))=false):=by
  rcases hW with hW|⟨hW1,hW2,hW3⟩
  ·exact wide_core hW hD hT hr rfl
  ·obtain rfl:n=0:=by have:=hbt hW1;omega
   subst hW2
   have z1:hi*2^0+0 / 2^(64-0)=hi:=by omega
   have z2:(rest||decide (0*2^0%2^64≠0))=rest:=by cases rest<;>rfl
   have z3:e+127-((0:Nat):Int)=e+127:=by omega
   rw [z1,z2,z3]
   exact hW3
 generalize hHe:hi*2^n+lo / 2^(64-n)=H at *
 refine ⟨n,H,lo*2^n%2^64,by omega,t1,t4,hH,?_,rfl,?_,?_⟩
 ·have e1:(lo:Int)*2^n=((lo*2^n:Nat):Int):=by rw [Int.natCast_mul,Int.natCast_pow];rfl
  rw [e1,IntKind.wrap_u64]
  generalize lo*2^n=y
  omega
 ·intro h
  obtain ⟨c1,_,_⟩:=hcore
  exact mag_over t3 hD h c1
 ·intro h k l hk hl
  obtain ⟨c1,c2,c3⟩:=hcore
  have hm:=mag_of t3 t4 hD h c1 c2 c3
  rw [hk,hl] at hm
  have hk53:k≤53:=by unfold keepOf at hk;split at hk<;>omega
  refine ⟨hm.1,hm.2,hk53,?_,?_,wrap_low hk53 t4⟩
  ·rw [Nat.div_lt_iff_lt_mul (Nat.two_pow_pos _),←Nat.pow_add]
   exact Nat.lt_of_lt_of_le t4 (Nat.pow_le_pow_right (by omega) (by omega))
  ·unfold placeOf at hl;unfold keepOf at hk
   split at hl
   ·left;omega
   ·right
    rw [if_neg (by assumption)] at hk
    rw [show 64-k=11 by omega]
    omega
theorem magr_over {N D:Nat} (away:Bool) (h:MagD (INF-1) N D∧MagU INF N D):MagR away (if away=true then INF else INF-1) N D:=by
 unfold MagR
 cases away
 ·simpa using h.1
 ·simpa using h.2
theorem magr_of {r N D:Nat} (away x y:Bool) (P:Prop) [Decidable P] (hP:P↔(x||y)=true) (h:MagD r N D∧MagU (r+(if P then 1 else 0)) N D):MagR away (r+(away&&(x||y)).toNat) N D:=by
 rw [plus_toNat r away x y P hP]
 unfold MagR
 cases away
 ·simpa using h.1
 ·simpa using h.2
theorem number_up (hi lo:Nat) (e:Int) (rest away:Bool) (N D:Nat) (b1:hi<2^64) (b2:lo<2^64) (h0:hi≠0) (e1 : -5000≤e) (e2:e≤5000) (hD:0<D) (hW:Wide hi lo e rest N D∨Top hi lo e rest N D) :
  ∃ r,MagR away r N D ∧ ∀ w,Calls Tryz.prog 128 #[.agg #[.int .u64 hi,.int .u64 lo,.int .i64 e,.bool rest],.bool away] w fun e w'=>e = .returned (.float .f64 r)∧Below w.heap.size w w':=by
 obtain ⟨n,H,L,hn,hn2,hH2,hH,hL,hLe,hov,hin⟩:=number_facts b1 b2 h0 hD hW
 have hhi:((hi:Int)==0)=false:=by rw [beq_eq_false_iff_ne];omega
 rcases Int.lt_or_le 1023 (e+127-n) with c1|c1
 ·exact ⟨_,magr_over away (hov c1),fun w=>number_over hi lo e rest away n H L hn hn2 hhi b1 hH2 e1 e2 hH hL c1 w⟩
 ·have hin:=hin c1
  have hP : ∀ q:Prop,[Decidable q]→(((rest||decide (L≠0))=true∨q)↔((rest||decide (L≠0))||decide q)=true):=by
   intro q _
   rw [Bool.or_eq_true (rest||decide (L≠0)),decide_eq_true_iff]
  rcases Int.lt_or_le (e+127-n) (-1022) with c2|c2
  ·obtain ⟨k,hk⟩ : ∃ k,keepOf (e+127-n)=k:=⟨_,rfl⟩
   have hl:placeOf (e+127-n)=0:=by unfold placeOf;rw [if_pos c2]
   obtain ⟨m1,m2,k53,q53,_,hx⟩:=hin k 0 hk hl
   unfold keepOf at hk
   rw [if_pos c2] at hk
   have hM:max 0 (e+127-(n:Int)+1074+1)=(k:Int):=by omega
   have hg:(64-(k:Int)).toNat=64-k:=by omega
   have hq:(H:Int) / 2^(64-k)=((H / 2^(64-k):Nat):Int):=by rw [Int.natCast_ediv,Int.natCast_pow];rfl
   rw [Nat.zero_mul,Nat.zero_add] at m1 m2
   generalize hqe:H / 2^(64-k)=q at *
   have hI:=INF_eq
   have hz0:((-1074:Int)+1074).toNat=0:=by decide
   have hr0:M q=q*2^0:=by have:=M_at 0 q (.inl rfl) (by omega);simpa using this
   have hr1:M (q+1)=(q+1)*2^0:=by have:=M_at 0 (q+1) (.inl rfl) (by omega);simpa using this
   have hw:IntKind.u64.wrap ((q:Int)+1)=((q+1:Nat):Int):=by rw [IntKind.wrap_u64];omega
   rcases Nat.eq_zero_or_pos k with hk0|hk0
   ·refine ⟨_,magr_of away _ _ _ (hP _) ⟨m1,m2⟩,fun w => ?_⟩
    refine number_k0 hi lo e rest away n H L hn hn2 hhi b1 hH2 e1 e2 hH hL c2 (by omega) _ ?_ ?_ q ?_ ?_ w
    ·rw [hM,beq_iff_eq];omega
    ·rw [hM,Int.toNat_natCast];exact hx
    ·rw [hM,hg,hq]
     exact fun w=>ld_q q q (-1074) (by omega) (by rw [hz0];exact hr0) (by omega) (by omega) (by omega) _ _ rfl rfl w
    ·rw [hM,hg,hq,hw]
     exact fun w=>ld_q (q+1) (q+1) (-1074) (by omega) (by rw [hz0];exact hr1) (by omega) (by omega) (by omega) _ _ rfl rfl w
   ·refine ⟨_,magr_of away _ _ _ (hP _) ⟨m1,m2⟩,fun w => ?_⟩
    refine number_sub hi lo e rest away n H L hn hn2 hhi b1 hH2 e1 e2 hH hL c2 (by omega) _ ?_ ?_ q ?_ ?_ w
    ·rw [hM,beq_eq_false_iff_ne];omega
    ·rw [hM,Int.toNat_natCast];exact hx
    ·rw [hM,hg,hq]
     exact fun w=>ld_q q q (-1074) (by omega) (by rw [hz0];exact hr0) (by omega) (by omega) (by omega) _ _ rfl (by omega) w
    ·rw [hM,hg,hq,hw]
     exact fun w=>ld_q (q+1) (q+1) (-1074) (by omega) (by rw [hz0];exact hr1) (by omega) (by omega) (by omega) _ _ rfl (by omega) w
  ·have hk:keepOf (e+127-n)=53:=by unfold keepOf;rw [if_neg (by omega)]
   obtain ⟨l,hl⟩ : ∃ l,placeOf (e+127-n)=l:=⟨_,rfl⟩
   obtain ⟨m1,m2,k53,q53,hq52,hx⟩:=hin 53 l hk hl
   unfold placeOf at hl
   rw [if_neg (by omega)] at hl
   have hI:=INF_eq
   have hq:(H:Int) / 2048=((H / 2^(64-53):Nat):Int):=by rw [Int.natCast_ediv,Int.natCast_pow];rfl
   generalize hqe:H / 2^(64-53)=q at *
   have hr0:=M_at l q hq52 (by omega)
   have hr1:M (l*2^52+q+1)=(q+1)*2^l:=by rw [Nat.add_assoc];exact M_at l (q+1) (by omega) (by omega)
   have hlp:(e+127-n-53+1+1074).toNat=l:=by omega
   refine ⟨_,magr_of away _ _ _ (hP _) ⟨m1,m2⟩,fun w => ?_⟩
   refine number_n53 hi lo e rest away n H L hn hn2 hhi b1 hH2 e1 e2 hH hL c2 c1 _ hx (l*2^52+q) ?_ ?_ w
   ·exact fun w=>ld_q q _ _ (by omega) (by rw [hlp];exact hr0) (by omega) (by omega) (by omega) _ _ hq rfl w
   ·have hq1:(H:Int) / 2048+1=((q+1:Nat):Int):=by rw [hq];rfl
    rw [hq1]
    exact fun w=>ld_q (q+1) _ _ (by omega) (by rw [hlp];exact hr1) (by omega) (by omega) (by omega) _ _ rfl rfl w
theorem number_low (hi:Nat) (e:Int) (rest away:Bool) (N D:Nat) (b1:hi<2^64) (h0:hi≠0) (e1 : -5000≤e) (e2:e≤5000) (hD:0<D) (hW:Wide hi 0 (e-64) rest N D) :
  ∃ r,MagR away r N D ∧ ∀ w,Calls Tryz.prog 128 #[.agg #[.int .u64 0,.int .u64 hi,.int .i64 e,.bool rest],.bool away] w fun e w'=>e = .returned (.float .f64 r)∧Below w.heap.size w w':=by
 obtain ⟨n,H,L,hn,hn2,hH2,hH,hL,hLe,hov,hin⟩:=number_facts b1 (show 0<2^64 by omega) h0 hD (.inl hW)
 obtain rfl:L=0:=by rw [hLe,Nat.zero_mul]
 rw [show ((0:Nat):Int) / 2^(64-n)=0 from Int.zero_ediv _] at hH
 have hdec:(rest||decide ((0:Nat)≠0))=rest:=by cases rest<;>rfl
 rw [hdec] at hin
 clear hL hLe hdec hW
 have hhi:((hi:Int)==0)=false:=by rw [beq_eq_false_iff_ne];omega
 rcases Int.lt_or_le 1023 (e-64+127-n) with c1|c1
 ·exact ⟨_,magr_over away (hov c1),fun w=>numberz_over hi e rest away n H hn hn2 hhi b1 hH2 e1 e2 hH c1 w⟩
 ·have hin:=hin c1
  have hP : ∀ q:Prop,[Decidable q]→((rest=true∨q)↔(rest||decide q)=true):=by
   intro q _
   rw [Bool.or_eq_true rest,decide_eq_true_iff]
  rcases Int.lt_or_le (e-64+127-n) (-1022) with c2|c2
  ·obtain ⟨k,hk⟩ : ∃ k,keepOf (e-64+127-n)=k:=⟨_,rfl⟩
   have hl:placeOf (e-64+127-n)=0:=by unfold placeOf;rw [if_pos c2]
   obtain ⟨m1,m2,k53,q53,_,hx⟩:=hin k 0 hk hl
   unfold keepOf at hk
   rw [if_pos c2] at hk
   have hM:max 0 (e-64+127-(n:Int)+1074+1)=(k:Int):=by omega
   have hg:(64-(k:Int)).toNat=64-k:=by omega
   have hq:(H:Int) / 2^(64-k)=((H / 2^(64-k):Nat):Int):=by rw [Int.natCast_ediv,Int.natCast_pow];rfl
   rw [Nat.zero_mul,Nat.zero_add] at m1 m2
   generalize hqe:H / 2^(64-k)=q at *
   have hI:=INF_eq
   have hz0:((-1074:Int)+1074).toNat=0:=by decide
   have hr0:M q=q*2^0:=by have:=M_at 0 q (.inl rfl) (by omega);simpa using this
   have hr1:M (q+1)=(q+1)*2^0:=by have:=M_at 0 (q+1) (.inl rfl) (by omega);simpa using this
   have hw:IntKind.u64.wrap ((q:Int)+1)=((q+1:Nat):Int):=by rw [IntKind.wrap_u64];omega
   rcases Nat.eq_zero_or_pos k with hk0|hk0
   ·refine ⟨_,magr_of away _ _ _ (hP _) ⟨m1,m2⟩,fun w => ?_⟩
    refine numberz_k0 hi e rest away n H hn hn2 hhi b1 hH2 e1 e2 hH c2 (by omega) _ ?_ ?_ q ?_ ?_ w
    ·rw [hM,beq_iff_eq];omega
    ·rw [hM,Int.toNat_natCast];exact hx
    ·rw [hM,hg,hq]
     exact fun w=>ld_q q q (-1074) (by omega) (by rw [hz0];exact hr0) (by omega) (by omega) (by omega) _ _ rfl rfl w
    ·rw [hM,hg,hq,hw]
     exact fun w=>ld_q (q+1) (q+1) (-1074) (by omega) (by rw [hz0];exact hr1) (by omega) (by omega) (by omega) _ _ rfl rfl w
   ·refine ⟨_,magr_of away _ _ _ (hP _) ⟨m1,m2⟩,fun w => ?_⟩
    refine numberz_sub hi e rest away n H hn hn2 hhi b1 hH2 e1 e2 hH c2 (by omega) _ ?_ ?_ q ?_ ?_ w
    ·rw [hM,beq_eq_false_iff_ne];omega
    ·rw [hM,Int.toNat_natCast];exact hx
    ·rw [hM,hg,hq]
     exact fun w=>ld_q q q (-1074) (by omega) (by rw [hz0];exact hr0) (by omega) (by omega) (by omega) _ _ rfl (by omega) w
    ·rw [hM,hg,hq,hw]
     exact fun w=>ld_q (q+1) (q+1) (-1074) (by omega) (by rw [hz0];exact hr1) (by omega) (by omega) (by omega) _ _ rfl (by omega) w
  ·have hk:keepOf (e-64+127-n)=53:=by unfold keepOf;rw [if_neg (by omega)]
   obtain ⟨l,hl⟩ : ∃ l,placeOf (e-64+127-n)=l:=⟨_,rfl⟩
   obtain ⟨m1,m2,k53,q53,hq52,hx⟩:=hin 53 l hk hl
   unfold placeOf at hl
   rw [if_neg (by omega)] at hl
   have hI:=INF_eq
   have hq:(H:Int) / 2048=((H / 2^(64-53):Nat):Int):=by rw [Int.natCast_ediv,Int.natCast_pow];rfl
   generalize hqe:H / 2^(64-53)=q at *
   have hr0:=M_at l q hq52 (by omega)
   have hr1:M (l*2^52+q+1)=(q+1)*2^l:=by rw [Nat.add_assoc];exact M_at l (q+1) (by omega) (by omega)
   have hlp:(e-64+127-n-53+1+1074).toNat=l:=by omega
   refine ⟨_,magr_of away _ _ _ (hP _) ⟨m1,m2⟩,fun w => ?_⟩
   refine numberz_n53 hi e rest away n H hn hn2 hhi b1 hH2 e1 e2 hH c2 c1 _ hx (l*2^52+q) ?_ ?_ w
   ·exact fun w=>ld_q q _ _ (by omega) (by rw [hlp];exact hr0) (by omega) (by omega) (by omega) _ _ hq rfl w
   ·have hq1:(H:Int) / 2048+1=((q+1:Nat):Int):=by rw [hq];rfl
    rw [hq1]
    exact fun w=>ld_q (q+1) _ _ (by omega) (by rw [hlp];exact hr1) (by omega) (by omega) (by omega) _ _ rfl rfl w
theorem number_zero (e:Int) (rest away:Bool) (e1 : -5000≤e) (e2:e≤5000) (hr:rest=false) (w:World) :
  Calls Tryz.prog 128 #[.agg #[.int .u64 0,.int .u64 0,.int .i64 e,.bool rest],.bool away] w fun e w'=>e = .returned (.float .f64 0)∧Below w.heap.size w w':=by
 subst hr
 go_enter Tryz.func128,Tryz.ntmps128
 go_wp2_with fail
 all_goals go_ret
 all_goals exact ⟨rfl,by go_grown⟩
end Go.Proofs.YteephgpefhodnaaGreat
namespace Go.Proofs.YteephgpefhodnaaGreat
open Go.RowKit Go.Sort Go.Fl
set_option linter.unusedSimpArgs false
set_option linter.unusedVariables false
theorem signed_any (hi lo:Nat) (e:Int) (rest ng up:Bool) (r:Nat) (hr:r≤INF) (hnum : ∀ w,Calls Tryz.prog 128 #[.agg #[.int .u64 hi,.int .u64 lo,.int .i64 e,.bool rest],.bool (ng != up)] w fun e w'=>e = .returned (.float .f64 r)∧Below w.heap.size w w') (w:World) :
  Calls Tryz.prog 101 #[.agg #[.int .u64 hi,.int .u64 lo,.int .i64 e,.bool rest],.bool ng,.bool up] w fun e w'=>e = .returned (.float .f64 (ofKey (if ng=true then -(r:Int) else (r:Int))))∧Below w.heap.size w w':=by
 have hrg:Rg (r:Int):=⟨by have:=PI_pos;omega,by have:=PI_INF;omega⟩
 have he:r=ofKey (r:Int):=by unfold ofKey;rw [if_pos (by omega)];omega
 have hnum : ∀ w,Calls Tryz.prog 128 #[.agg #[.int .u64 hi,.int .u64 lo,.int .i64 e,.bool rest],.bool (ng != up)] w fun e w'=>e = .returned (.float .f64 (ofKey (r:Int)))∧Below w.heap.size w w':=by rw [←he];exact hnum
 clear he hr
 generalize (r:Int)=k at *
 cases ng
 ·rw [show (false != up)=up by cases up<;>rfl] at hnum
  have HN:=Lib.hid hnum
  clear hnum
  go_enter Tryz.func101,Tryz.ntmps101
  go_wp2_with (go_at_call 128;refine (HN.out _).mono ?_;rintro e w1 ⟨rfl,hbw1⟩;skip)
  all_goals go_ret
  all_goals exact ⟨rfl,below_alloc hbw1⟩
 ·rw [show (true != up) = !up by cases up<;>rfl] at hnum
  have HN:=Lib.hid hnum
  clear hnum
  go_enter Tryz.func101,Tryz.ntmps101
  go_wp2_with (go_at_call 128;refine (HN.out _).mono ?_;rintro e w1 ⟨rfl,hbw1⟩;skip)
  all_goals go_ret
  all_goals exact ⟨rfl,below_alloc hbw1⟩
theorem signed_real (hi lo:Nat) (e:Int) (rest ng up:Bool) (N D:Nat) (hD:0<D) (c:Int→Int) (hc:Cut c) (hcv : ∀ k,c k=(if ng=true then -(N:Int) else (N:Int))-V k*D)
  (hnum : ∃ r,MagR (ng != up) r N D ∧ ∀ w,Calls Tryz.prog 128 #[.agg #[.int .u64 hi,.int .u64 lo,.int .i64 e,.bool rest],.bool (ng != up)] w fun e w'=>e = .returned (.float .f64 r)∧Below w.heap.size w w') (w:World) :
  Calls Tryz.prog 101 #[.agg #[.int .u64 hi,.int .u64 lo,.int .i64 e,.bool rest],.bool ng,.bool up] w fun e w'=>e = .returned (.float .f64 (ofKey (rnd up c)))∧Below w.heap.size w w':=by
 obtain ⟨r,h1,h2⟩:=hnum
 rw [rnd_eq hc (signed_rnd hD hcv h1)]
 exact signed_any hi lo e rest ng up r (magR_le h1) h2 w
set_option maxHeartbeats 1000000 in
theorem fpmul_any (x y:Nat) (up:Bool) (hx:fin x) (hy:fin y) (hwx:Wd x) (hwy:Wd y) (w:World) :
  Calls Tryz.prog 77 #[.float .f64 x,.float .f64 y,.bool up] w fun e w'=>e = .returned (.float .f64 (ofKey (mulK (key x) (key y) up)))∧Below w.heap.size w w':=by
 have hm:=mgr_lt (rung x)
 have hn:=mgr_lt (rung y)
 have hp:=plr_fin hx
 have hq:=plr_fin hy
 have hD:0<2^X74:=Nat.two_pow_pos X74
 have hN:M (rung x)*M (rung y)=mgr (rung x)*mgr (rung y)*2^(plr (rung x)+plr (rung y)):=by
  rw [M_eq,M_eq,Nat.mul_mul_mul_comm,←Nat.pow_add]
 have hS : ∀ w,Calls Tryz.prog 101 #[.agg #[.int .u64 ((mgr (rung x)*mgr (rung y) / 18446744073709551616:Nat):Int),.int .u64 ((mgr (rung x)*mgr (rung y)%18446744073709551616:Nat):Int),.int .i64 (((plr (rung x):Int)-1074)+((plr (rung y):Int)-1074)),.bool false],.bool (neg x != neg y),.bool up] w fun e w'=>e = .returned (.float .f64 (ofKey (mulK (key x) (key y) up)))∧Below w.heap.size w w':=by
  intro w
  refine signed_real _ _ _ _ _ _ _ _ hD _ (cut_mul _ _) (mul_cut x y) ?_ w
  rw [hN]
  obtain ⟨mn,hmn⟩ : ∃ mn,mn=mgr (rung x)*mgr (rung y):=⟨_,rfl⟩
  rw [←hmn]
  have hmn2:mn<2^64*2^64:=by
   rw [hmn]
   exact Nat.lt_of_le_of_lt (Nat.mul_le_mul (Nat.le_of_lt hm) (Nat.le_of_lt hn)) (by decide)
  have hdm:=Nat.div_add_mod mn 18446744073709551616
  have hml:=Nat.mod_lt mn (show 0<18446744073709551616 by omega)
  have hhl:mn / 18446744073709551616<2^64:=by omega
  generalize mn / 18446744073709551616=hi at *
  generalize mn%18446744073709551616=lo at *
  rcases Nat.eq_zero_or_pos hi with h0|h0
  ·subst h0
   rcases Nat.eq_zero_or_pos lo with h1|h1
   ·subst h1
    obtain rfl:mn=0:=by omega
    rw [Nat.zero_mul]
    exact ⟨0,magR_zero hD,fun w=>number_zero _ _ _ (by omega) (by omega) rfl w⟩
   ·obtain ⟨r,h2,h3⟩:=number_low lo (((plr (rung x):Int)-1074)+((plr (rung y):Int)-1074)) false ((neg x != neg y) != up) (mn*2^(plr (rung x)+plr (rung y))) (2^X74) (by omega) (by omega) (by omega) (by omega) hD (exact_wide (j:=64) (by omega) (by omega))
    exact ⟨r,h2,h3⟩
  ·exact number_up hi lo _ false _ _ _ hhl (by omega) (by omega) (by omega) (by omega) hD (.inl (exact_wide (j:=0) (by omega) (by omega)))
 have HS:=Lib.hid hS
 clear hS hN hD
 have h64 := Tryz.bits_Mul64 (mgr (rung x)) (mgr (rung y)) (by omega) (by omega)
 have HM:=Lib.hid h64
 clear h64
 have PX:=Lib.hid (parts_any x hwx)
 have PY:=Lib.hid (parts_any y hwy)
 generalize mgr (rung x)=m at *
 generalize mgr (rung y)=n at *
 have b1:(0:Int)≤plr (rung x):=by omega
 have b2:(plr (rung x):Int)≤2045:=by omega
 have b3:(0:Int)≤plr (rung y):=by omega
 have b4:(plr (rung y):Int)≤2045:=by omega
 generalize (plr (rung x):Int)=px at *
 generalize (plr (rung y):Int)=py at *
 go_enter Tryz.func77,Tryz.ntmps77
 go_wp2_with (first|(go_at_call 99;(first|(with_reducible refine (PX.out _).mono ?_)|(with_reducible refine (PY.out _).mono ?_));rintro e w' ⟨rfl,rfl⟩)|(go_at_call 100;refine (HM.out _).mono ?_;rintro e w' ⟨rfl,rfl⟩)|(go_at_call 101;refine (HS.out _).mono ?_;rintro e w1 ⟨rfl,hbw1⟩;skip))
 all_goals go_ret
 all_goals exact ⟨rfl,hbw1⟩
end Go.Proofs.YteephgpefhodnaaGreat
namespace Go.Proofs.YteephgpefhodnaaGreat
open Go.RowKit Go.Sort Go.Fl
set_option linter.unusedSimpArgs false
set_option linter.unusedVariables false
theorem ret_uu {a b c d:Int} (h:a=c) (h':b=d):Ending.returned (.tuple #[.int .u64 a,.int .u64 b]) = .returned (.tuple #[.int .u64 c,.int .u64 d]):=by rw [h,h']
theorem bitlen_top {y:Nat} (h1:2^63≤y) (h2:y<2^64):Lib.bitLen y=64:=by
 obtain ⟨_,x2,x3⟩:=Lib.bitLenAux_bounds 64 y h2 (by omega)
 have x3:y<2^Lib.bitLen y:=x3
 have x2:2^(Lib.bitLen y-1)≤y:=x2
 rcases Nat.lt_trichotomy (Lib.bitLen y) 64 with h|h|h
 ·have:(2:Nat)^Lib.bitLen y≤2^63:=Nat.pow_le_pow_right (by omega) (by omega)
  omega
 ·exact h
 ·have:(2:Nat)^64≤2^(Lib.bitLen y-1):=Nat.pow_le_pow_right (by omega) (by omega)
  omega
theorem u64_or0 (u:Nat) (h:u<2^64):bits BinOp.or IntKind.u64 (u:Int) 0=(u:Int):=by
 rw [u64_or (u:Int) 0 (by omega) (by omega) (by omega) (by omega)]
 simp
theorem u64_low32 (u:Nat) (h:u<2^64):bits BinOp.and IntKind.u64 (u:Int) 4294967295=((u%2^32:Nat):Int):=by
 rw [u64_and (u:Int) 4294967295 (by omega) (by omega) (by omega) (by omega)]
 congr 1
 exact Nat.and_two_pow_sub_one_eq_mod u 32
theorem guess {un y v1:Nat} (h1:2^63≤y) (h2:y<2^64) (hu:un<y) (hv:y / 2^32=v1) : ∃ q r:Nat,IntKind.u64.wrap ((un:Int) / (v1:Int))=q∧IntKind.u64.wrap ((un:Int)-IntKind.u64.wrap ((q:Int)*(v1:Int)))=r∧Dig un y q r∧r<2^32∧(q:Int)≤18446744073709551615:=by
 obtain ⟨i1,i2⟩:=dig_init h1 h2 hu
 rw [hv] at i1 i2
 refine ⟨un / v1,un%v1,?_,?_,i1,i2,?_⟩
 ·have hl:un / v1≤un:=Nat.div_le_self _ _
  rw [←Int.natCast_ediv,IntKind.wrap_u64]
  generalize un / v1=z at *
  omega
 ·have h:=i1.1
  rw [hv] at h
  rw [←Int.natCast_mul,IntKind.wrap_u64,IntKind.wrap_u64]
  generalize un / v1*v1=z at *
  omega
 ·have h:=i1.2.2
  omega
theorem left {un y q:Nat} (h1:2^63≤y) (h2:y<2^64) (hu:un<y) (hq:q=un*2^32 / y) (z:Int) (hz:z=q) :
  ∃ A B u2:Nat,IntKind.u64.wrap ((un:Int)*4294967296)=A∧IntKind.u64.wrap (z*(y:Int))=B∧IntKind.u64.wrap ((A:Int)-(B:Int))=u2∧(A:Int)≤18446744073709551615∧(B:Int)≤18446744073709551615∧u2=un*2^32%y∧u2<y:=by
 subst hz
 have e:=Nat.div_add_mod (un*2^32) y
 rw [←hq,Nat.mul_comm] at e
 have hm:=Nat.mod_lt (un*2^32) (show y>0 by omega)
 refine ⟨un*2^32%2^64,q*y%2^64,un*2^32%y,?_,?_,?_,by omega,by omega,rfl,hm⟩
 ·rw [IntKind.wrap_u64];omega
 ·rw [←Int.natCast_mul,IntKind.wrap_u64];omega
 ·rw [IntKind.wrap_u64]
  generalize un*2^32%y=z at *
  generalize q*y=t at *
  omega
theorem round_facts {un y q r v1 v0:Nat} (hV1:y / 2^32=v1) (hV0:y%2^32=v0) (h1:2^63≤y) (hu:un<y) (hD:Dig un y q r) (hr:r<2^32) :
  ∃ p:Nat,IntKind.u64.wrap ((q:Int)*(v0:Int))=(p:Int)∧(p:Int)≤18446744073709551615∧(q:Int)≤4294967297∧(r:Int)≤4294967295 ∧
   (((4294967296:Int)≤q∨(4294967296:Int)*r<p)→(1:Int)≤q∧Dig un y (q-1) (r+v1)∧((4294967296:Int)≤r+v1→q-1=un*2^32 / y)) ∧
   (¬((4294967296:Int)≤q) → ¬((4294967296:Int)*r<p)→q=un*2^32 / y):=by
 have hb:=hD.2.2
 have hv0:v0<2^32:=by omega
 refine ⟨q*v0,?_,?_,by omega,by omega,?_,?_⟩
 ·have:q*v0<18446744073709551616:=Nat.lt_of_le_of_lt (Nat.mul_le_mul hb (show v0≤2^32-1 by omega)) (by decide)
  rw [←Int.natCast_mul,IntKind.wrap_u64]
  generalize q*v0=p at *
  omega
 ·have:q*v0<18446744073709551616:=Nat.lt_of_le_of_lt (Nat.mul_le_mul hb (show v0≤2^32-1 by omega)) (by decide)
  generalize q*v0=p at *
  omega
 ·intro hc
  have:=dig_step h1 hu hD (by rw [hV0];generalize q*v0=p at *;omega)
  rw [hV1] at this
  refine ⟨by omega,this.2.1,fun hh=>dig_break h1 this.2.1 this.2.2 (by omega)⟩
 ·intro a b
  refine dig_exit h1 hD ?_
  rw [hV0]
  generalize q*v0=p at *
  omega
set_option maxHeartbeats 4000000 in
theorem div64_any (u y:Nat) (h0:0<u) (h1:2^63≤y) (h2:y<2^64) (hu:u<y) (Z R:Int) (hZ:Z=((u*2^64 / y:Nat):Int)) (hR:R=((u*2^64%y:Nat):Int)) (w:World) :
  Calls Tryz.prog 103 #[.int .u64 u,.int .u64 0,.int .u64 y] w fun e w'=>e = .returned (.tuple #[.int .u64 Z,.int .u64 R])∧w=w':=by
 have hz := Tryz.bits_LeadingZeros64 (y:Int)
 have hz0:64-(Lib.bitLen y:Int)=0:=by rw [bitlen_top h1 h2];rfl
 have hy0 : ¬(y:Int)=0:=by omega
 have hyu : ¬(y:Int)≤u:=by omega
 have hu0 : ¬(u:Int)=0:=by omega
 have c1:(9223372036854775808:Int)≤y:=by omega
 have c2:(y:Int)≤18446744073709551615:=by omega
 have c3:(u:Int)<y:=by omega
 have c4:(0:Int)<u:=by omega
 have o1:=u64_or0 u (by omega)
 have o2:=u64_low32 y h2
 have o3:bits BinOp.and IntKind.u64 0 4294967295=0:=rfl
 have e1:(y:Int) / 4294967296=((y / 2^32:Nat):Int):=by omega
 have hv:(0:Int)<((y / 2^32:Nat):Int):=by omega
 have n4:((y / 2^32:Nat):Int)≤4294967295:=by omega
 have n5:(2147483648:Int)≤((y / 2^32:Nat):Int):=by omega
 generalize hV1:y / 2^32=v1 at *
 generalize hV0:y%2^32=v0 at *
 obtain ⟨q,r,e2,e3,hD,hr,hqb⟩:=guess h1 h2 hu hV1
 have HQ:=Lib.hid (show Dig u y q r∧r<2^32 from ⟨hD,hr⟩)
 have HV:=Lib.hid (show 2^63≤y∧y<2^64∧u<y∧y / 2^32=v1∧y%2^32=v0 from ⟨h1,h2,hu,hV1,hV0⟩)
 have HB:=Lib.hid (dig_both (un:=u) (y:=y) (by omega))
 have HZ:=Lib.hid hz
 have HZR:=Lib.hid (And.intro hZ hR)
 clear hZ hR hz hD hr h1 h2 hu hV1 hV0
 go_enter Tryz.func103,Tryz.ntmps103
 go_wp2_with (go_at_call 102;refine (HZ.out _ (by omega) (by omega)).mono ?_;rintro e w' ⟨rfl,rfl⟩;rw [Int.toNat_natCast,hz0])
 go_loop [15,16] (fun a b => ∃ q r:Nat,a = .int .u64 q∧b = .int .u64 r∧Dig u y q r∧r<2^32) (fun a _=>(intOf a).toNat)
 case atStart=>exact ⟨q,r,rfl,rfl,HQ.out.1,HQ.out.2⟩
 case round =>
  clear e2 e3 HQ hqb
  obtain ⟨q,r,rfl,rfl,hD,hr⟩:=hrel
  obtain ⟨p,m1,n1,n2,n3,hs,hx⟩:=round_facts HV.out.2.2.2.1 HV.out.2.2.2.2 HV.out.1 HV.out.2.2.1 hD hr
  clear hD hr
  by_cases hc:(4294967296:Int)≤q
  ·obtain ⟨s1,s2,s3⟩:=hs (.inl hc)
   clear hs hx
   by_cases hb:(4294967296:Int)≤r+v1
   ·have hQ:=s3 hb
    clear s3 s2
    have hql:((q:Int)-1:Int)≤4294967295:=by
     have:=dig_lt HV.out.1 HV.out.2.2.1
     rw [←hQ] at this
     omega
    obtain ⟨A,B,u2,a1,a2,a3,a4,a5,a6,a7⟩:=left HV.out.1 HV.out.2.1 HV.out.2.2.1 hQ ((q:Int)-1) (by omega)
    obtain ⟨q',r',e2,e3,hD',hr',hqb'⟩:=guess HV.out.1 HV.out.2.1 a7 HV.out.2.2.2.1
    have b7:(u2:Int)<y:=by omega
    have HR:=Lib.hid (show (q-1)=u*2^32 / y∧u2=u*2^32%y∧u2<y from ⟨hQ,a6,a7⟩)
    have HQ:=Lib.hid (show Dig u2 y q' r'∧r'<2^32 from ⟨hD',hr'⟩)
    clear hQ a6 a7 hD' hr'
    go_wp2
    go_loop [18,16] (fun a b => ∃ q r:Nat,a = .int .u64 q∧b = .int .u64 r∧Dig u2 y q r∧r<2^32) (fun a _=>(intOf a).toNat)
    case atStart=>exact ⟨q',r',rfl,rfl,HQ.out.1,HQ.out.2⟩
    case round =>
     clear e2 e3 HQ hqb' a1 a2 a3 a4 a5
     obtain ⟨q',r',rfl,rfl,hD,hr⟩:=hrel
     obtain ⟨p',m1',n1',n2',n3',hs,hx⟩:=round_facts HV.out.2.2.2.1 HV.out.2.2.2.2 HV.out.1 HR.out.2.2 hD hr
     clear hD hr
     by_cases hc':(4294967296:Int)≤q'
     ·obtain ⟨s1',s2,s3⟩:=hs (.inl hc')
      clear hs hx
      by_cases hb':(4294967296:Int)≤r'+v1
      ·have hQ:=s3 hb'
       clear s3 s2
       have hpl:((q':Int)-1:Int)≤4294967295:=by
        have:=dig_lt HV.out.1 HR.out.2.2
        rw [←hQ] at this
        omega
       obtain ⟨A',B',u3,a1',a2',a3',a4',a5',a6',a7'⟩:=left HV.out.1 HV.out.2.1 HR.out.2.2 hQ ((q':Int)-1) (by omega)
       have b8:(u3:Int)<y:=by omega
       have HL:=Lib.hid (show (q'-1)=u2*2^32 / y∧u3=u2*2^32%y from ⟨hQ,a6'⟩)
       clear hQ a6' a7'
       go_wp2
       go_ret2
       obtain ⟨d1,d2⟩:=HB.out
       obtain ⟨x1,x2,x3⟩:=HR.out
       obtain ⟨x4,x5⟩:=HL.out
       rw [←x2,←x1,←x4] at d1
       rw [←x2,←x5] at d2
       obtain ⟨r1,r2⟩:=HZR.out
       rw [←d1] at r1
       rw [←d2] at r2
       exact ⟨ret_uu (by omega) (by omega),rfl⟩
      ·have S2:=Lib.hid s2
       clear s3 s2
       go_wp2
       exact ⟨⟨q'-1,r'+v1,congrArg _ (by omega),congrArg _ (by omega),S2.out,by omega⟩,by simp only [intOf];omega⟩
     ·by_cases hd':(4294967296:Int)*r'<p'
      ·obtain ⟨s1',s2,s3⟩:=hs (.inr hd')
       clear hs hx
       by_cases hb':(4294967296:Int)≤r'+v1
       ·have hQ:=s3 hb'
        clear s3 s2
        have hpl:((q':Int)-1:Int)≤4294967295:=by
         have:=dig_lt HV.out.1 HR.out.2.2
         rw [←hQ] at this
         omega
        obtain ⟨A',B',u3,a1',a2',a3',a4',a5',a6',a7'⟩:=left HV.out.1 HV.out.2.1 HR.out.2.2 hQ ((q':Int)-1) (by omega)
        have b8:(u3:Int)<y:=by omega
        have HL:=Lib.hid (show (q'-1)=u2*2^32 / y∧u3=u2*2^32%y from ⟨hQ,a6'⟩)
        clear hQ a6' a7'
        go_wp2
        go_ret2
        obtain ⟨d1,d2⟩:=HB.out
        obtain ⟨x1,x2,x3⟩:=HR.out
        obtain ⟨x4,x5⟩:=HL.out
        rw [←x2,←x1,←x4] at d1
        rw [←x2,←x5] at d2
        obtain ⟨r1,r2⟩:=HZR.out
        rw [←d1] at r1
        rw [←d2] at r2
        exact ⟨ret_uu (by omega) (by omega),rfl⟩
       ·have S2:=Lib.hid s2
        clear s3 s2
        go_wp2
        exact ⟨⟨q'-1,r'+v1,congrArg _ (by omega),congrArg _ (by omega),S2.out,by omega⟩,by simp only [intOf];omega⟩
      ·have hQ:=hx hc' hd'
       clear hs hx
       have hpl:((q':Int):Int)≤4294967295:=by
        have:=dig_lt HV.out.1 HR.out.2.2
        rw [←hQ] at this
        omega
       obtain ⟨A',B',u3,a1',a2',a3',a4',a5',a6',a7'⟩:=left HV.out.1 HV.out.2.1 HR.out.2.2 hQ ((q':Int)) (by omega)
       have b8:(u3:Int)<y:=by omega
       have HL:=Lib.hid (show (q')=u2*2^32 / y∧u3=u2*2^32%y from ⟨hQ,a6'⟩)
       clear hQ a6' a7'
       go_wp2
       go_ret2
       obtain ⟨d1,d2⟩:=HB.out
       obtain ⟨x1,x2,x3⟩:=HR.out
       obtain ⟨x4,x5⟩:=HL.out
       rw [←x2,←x1,←x4] at d1
       rw [←x2,←x5] at d2
       obtain ⟨r1,r2⟩:=HZR.out
       rw [←d1] at r1
       rw [←d2] at r2
       exact ⟨ret_uu (by omega) (by omega),rfl⟩
   ·have S2:=Lib.hid s2
    clear s3 s2
    go_wp2
    exact ⟨⟨q-1,r+v1,congrArg _ (by omega),congrArg _ (by omega),S2.out,by omega⟩,by simp only [intOf];omega⟩
  ·by_cases hd:(4294967296:Int)*r<p
   ·obtain ⟨s1,s2,s3⟩:=hs (.inr hd)
    clear hs hx
    by_cases hb:(4294967296:Int)≤r+v1
    ·have hQ:=s3 hb
     clear s3 s2
     have hql:((q:Int)-1:Int)≤4294967295:=by
      have:=dig_lt HV.out.1 HV.out.2.2.1
      rw [←hQ] at this
      omega
     obtain ⟨A,B,u2,a1,a2,a3,a4,a5,a6,a7⟩:=left HV.out.1 HV.out.2.1 HV.out.2.2.1 hQ ((q:Int)-1) (by omega)
     obtain ⟨q',r',e2,e3,hD',hr',hqb'⟩:=guess HV.out.1 HV.out.2.1 a7 HV.out.2.2.2.1
     have b7:(u2:Int)<y:=by omega
     have HR:=Lib.hid (show (q-1)=u*2^32 / y∧u2=u*2^32%y∧u2<y from ⟨hQ,a6,a7⟩)
     have HQ:=Lib.hid (show Dig u2 y q' r'∧r'<2^32 from ⟨hD',hr'⟩)
     clear hQ a6 a7 hD' hr'
     go_wp2
     go_loop [18,16] (fun a b => ∃ q r:Nat,a = .int .u64 q∧b = .int .u64 r∧Dig u2 y q r∧r<2^32) (fun a _=>(intOf a).toNat)
     case atStart=>exact ⟨q',r',rfl,rfl,HQ.out.1,HQ.out.2⟩
     case round =>
      clear e2 e3 HQ hqb' a1 a2 a3 a4 a5
      obtain ⟨q',r',rfl,rfl,hD,hr⟩:=hrel
      obtain ⟨p',m1',n1',n2',n3',hs,hx⟩:=round_facts HV.out.2.2.2.1 HV.out.2.2.2.2 HV.out.1 HR.out.2.2 hD hr
      clear hD hr
      by_cases hc':(4294967296:Int)≤q'
      ·obtain ⟨s1',s2,s3⟩:=hs (.inl hc')
       clear hs hx
       by_cases hb':(4294967296:Int)≤r'+v1
       ·have hQ:=s3 hb'
        clear s3 s2
        have hpl:((q':Int)-1:Int)≤4294967295:=by
         have:=dig_lt HV.out.1 HR.out.2.2
         rw [←hQ] at this
         omega
        obtain ⟨A',B',u3,a1',a2',a3',a4',a5',a6',a7'⟩:=left HV.out.1 HV.out.2.1 HR.out.2.2 hQ ((q':Int)-1) (by omega)
        have b8:(u3:Int)<y:=by omega
        have HL:=Lib.hid (show (q'-1)=u2*2^32 / y∧u3=u2*2^32%y from ⟨hQ,a6'⟩)
        clear hQ a6' a7'
        go_wp2
        go_ret2
        obtain ⟨d1,d2⟩:=HB.out
        obtain ⟨x1,x2,x3⟩:=HR.out
        obtain ⟨x4,x5⟩:=HL.out
        rw [←x2,←x1,←x4] at d1
        rw [←x2,←x5] at d2
        obtain ⟨r1,r2⟩:=HZR.out
        rw [←d1] at r1
        rw [←d2] at r2
        exact ⟨ret_uu (by omega) (by omega),rfl⟩
       ·have S2:=Lib.hid s2
        clear s3 s2
        go_wp2
        exact ⟨⟨q'-1,r'+v1,congrArg _ (by omega),congrArg _ (by omega),S2.out,by omega⟩,by simp only [intOf];omega⟩
      ·by_cases hd':(4294967296:Int)*r'<p'
       ·obtain ⟨s1',s2,s3⟩:=hs (.inr hd')
        clear hs hx
        by_cases hb':(4294967296:Int)≤r'+v1
        ·have hQ:=s3 hb'
         clear s3 s2
         have hpl:((q':Int)-1:Int)≤4294967295:=by
          have:=dig_lt HV.out.1 HR.out.2.2
          rw [←hQ] at this
          omega
         obtain ⟨A',B',u3,a1',a2',a3',a4',a5',a6',a7'⟩:=left HV.out.1 HV.out.2.1 HR.out.2.2 hQ ((q':Int)-1) (by omega)
         have b8:(u3:Int)<y:=by omega
         have HL:=Lib.hid (show (q'-1)=u2*2^32 / y∧u3=u2*2^32%y from ⟨hQ,a6'⟩)
         clear hQ a6' a7'
         go_wp2
         go_ret2
         obtain ⟨d1,d2⟩:=HB.out
         obtain ⟨x1,x2,x3⟩:=HR.out
         obtain ⟨x4,x5⟩:=HL.out
         rw [←x2,←x1,←x4] at d1
         rw [←x2,←x5] at d2
         obtain ⟨r1,r2⟩:=HZR.out
         rw [←d1] at r1
         rw [←d2] at r2
         exact ⟨ret_uu (by omega) (by omega),rfl⟩
        ·have S2:=Lib.hid s2
         clear s3 s2
         go_wp2
         exact ⟨⟨q'-1,r'+v1,congrArg _ (by omega),congrArg _ (by omega),S2.out,by omega⟩,by simp only [intOf];omega⟩
       ·have hQ:=hx hc' hd'
        clear hs hx
        have hpl:((q':Int):Int)≤4294967295:=by
         have:=dig_lt HV.out.1 HR.out.2.2
         rw [←hQ] at this
         omega
        obtain ⟨A',B',u3,a1',a2',a3',a4',a5',a6',a7'⟩:=left HV.out.1 HV.out.2.1 HR.out.2.2 hQ ((q':Int)) (by omega)
        have b8:(u3:Int)<y:=by omega
        have HL:=Lib.hid (show (q')=u2*2^32 / y∧u3=u2*2^32%y from ⟨hQ,a6'⟩)
        clear hQ a6' a7'
        go_wp2
        go_ret2
        obtain ⟨d1,d2⟩:=HB.out
        obtain ⟨x1,x2,x3⟩:=HR.out
        obtain ⟨x4,x5⟩:=HL.out
        rw [←x2,←x1,←x4] at d1
        rw [←x2,←x5] at d2
        obtain ⟨r1,r2⟩:=HZR.out
        rw [←d1] at r1
        rw [←d2] at r2
        exact ⟨ret_uu (by omega) (by omega),rfl⟩
    ·have S2:=Lib.hid s2
     clear s3 s2
     go_wp2
     exact ⟨⟨q-1,r+v1,congrArg _ (by omega),congrArg _ (by omega),S2.out,by omega⟩,by simp only [intOf];omega⟩
   ·have hQ:=hx hc hd
    clear hs hx
    have hql:((q:Int):Int)≤4294967295:=by
     have:=dig_lt HV.out.1 HV.out.2.2.1
     rw [←hQ] at this
     omega
    obtain ⟨A,B,u2,a1,a2,a3,a4,a5,a6,a7⟩:=left HV.out.1 HV.out.2.1 HV.out.2.2.1 hQ ((q:Int)) (by omega)
    obtain ⟨q',r',e2,e3,hD',hr',hqb'⟩:=guess HV.out.1 HV.out.2.1 a7 HV.out.2.2.2.1
    have b7:(u2:Int)<y:=by omega
    have HR:=Lib.hid (show (q)=u*2^32 / y∧u2=u*2^32%y∧u2<y from ⟨hQ,a6,a7⟩)
    have HQ:=Lib.hid (show Dig u2 y q' r'∧r'<2^32 from ⟨hD',hr'⟩)
    clear hQ a6 a7 hD' hr'
    go_wp2
    go_loop [18,16] (fun a b => ∃ q r:Nat,a = .int .u64 q∧b = .int .u64 r∧Dig u2 y q r∧r<2^32) (fun a _=>(intOf a).toNat)
    case atStart=>exact ⟨q',r',rfl,rfl,HQ.out.1,HQ.out.2⟩
    case round =>
     clear e2 e3 HQ hqb' a1 a2 a3 a4 a5
     obtain ⟨q',r',rfl,rfl,hD,hr⟩:=hrel
     obtain ⟨p',m1',n1',n2',n3',hs,hx⟩:=round_facts HV.out.2.2.2.1 HV.out.2.2.2.2 HV.out.1 HR.out.2.2 hD hr
     clear hD hr
     by_cases hc':(4294967296:Int)≤q'
     ·obtain ⟨s1',s2,s3⟩:=hs (.inl hc')
      clear hs hx
      by_cases hb':(4294967296:Int)≤r'+v1
      ·have hQ:=s3 hb'
       clear s3 s2
       have hpl:((q':Int)-1:Int)≤4294967295:=by
        have:=dig_lt HV.out.1 HR.out.2.2
        rw [←hQ] at this
        omega
       obtain ⟨A',B',u3,a1',a2',a3',a4',a5',a6',a7'⟩:=left HV.out.1 HV.out.2.1 HR.out.2.2 hQ ((q':Int)-1) (by omega)
       have b8:(u3:Int)<y:=by omega
       have HL:=Lib.hid (show (q'-1)=u2*2^32 / y∧u3=u2*2^32%y from ⟨hQ,a6'⟩)
       clear hQ a6' a7'
       go_wp2
       go_ret2
       obtain ⟨d1,d2⟩:=HB.out
       obtain ⟨x1,x2,x3⟩:=HR.out
       obtain ⟨x4,x5⟩:=HL.out
       rw [←x2,←x1,←x4] at d1
       rw [←x2,←x5] at d2
       obtain ⟨r1,r2⟩:=HZR.out
       rw [←d1] at r1
       rw [←d2] at r2
       exact ⟨ret_uu (by omega) (by omega),rfl⟩
      ·have S2:=Lib.hid s2
       clear s3 s2
       go_wp2
       exact ⟨⟨q'-1,r'+v1,congrArg _ (by omega),congrArg _ (by omega),S2.out,by omega⟩,by simp only [intOf];omega⟩
     ·by_cases hd':(4294967296:Int)*r'<p'
      ·obtain ⟨s1',s2,s3⟩:=hs (.inr hd')
       clear hs hx
       by_cases hb':(4294967296:Int)≤r'+v1
       ·have hQ:=s3 hb'
        clear s3 s2
        have hpl:((q':Int)-1:Int)≤4294967295:=by
         have:=dig_lt HV.out.1 HR.out.2.2
         rw [←hQ] at this
         omega
        obtain ⟨A',B',u3,a1',a2',a3',a4',a5',a6',a7'⟩:=left HV.out.1 HV.out.2.1 HR.out.2.2 hQ ((q':Int)-1) (by omega)
        have b8:(u3:Int)<y:=by omega
        have HL:=Lib.hid (show (q'-1)=u2*2^32 / y∧u3=u2*2^32%y from ⟨hQ,a6'⟩)
        clear hQ a6' a7'
        go_wp2
        go_ret2
        obtain ⟨d1,d2⟩:=HB.out
        obtain ⟨x1,x2,x3⟩:=HR.out
        obtain ⟨x4,x5⟩:=HL.out
        rw [←x2,←x1,←x4] at d1
        rw [←x2,←x5] at d2
        obtain ⟨r1,r2⟩:=HZR.out
        rw [←d1] at r1
        rw [←d2] at r2
        exact ⟨ret_uu (by omega) (by omega),rfl⟩
       ·have S2:=Lib.hid s2
        clear s3 s2
        go_wp2
        exact ⟨⟨q'-1,r'+v1,congrArg _ (by omega),congrArg _ (by omega),S2.out,by omega⟩,by simp only [intOf];omega⟩
      ·have hQ:=hx hc' hd'
       clear hs hx
       have hpl:((q':Int):Int)≤4294967295:=by
        have:=dig_lt HV.out.1 HR.out.2.2
        rw [←hQ] at this
        omega
       obtain ⟨A',B',u3,a1',a2',a3',a4',a5',a6',a7'⟩:=left HV.out.1 HV.out.2.1 HR.out.2.2 hQ ((q':Int)) (by omega)
       have b8:(u3:Int)<y:=by omega
       have HL:=Lib.hid (show (q')=u2*2^32 / y∧u3=u2*2^32%y from ⟨hQ,a6'⟩)
       clear hQ a6' a7'
       go_wp2
       go_ret2
       obtain ⟨d1,d2⟩:=HB.out
       obtain ⟨x1,x2,x3⟩:=HR.out
       obtain ⟨x4,x5⟩:=HL.out
       rw [←x2,←x1,←x4] at d1
       rw [←x2,←x5] at d2
       obtain ⟨r1,r2⟩:=HZR.out
       rw [←d1] at r1
       rw [←d2] at r2
       exact ⟨ret_uu (by omega) (by omega),rfl⟩
end Go.Proofs.YteephgpefhodnaaGreat
namespace Go.Proofs.YteephgpefhodnaaGreat
open Go.RowKit Go.Sort Go.Fl
set_option linter.unusedSimpArgs false
set_option linter.unusedVariables false
theorem to_top {m:Nat} (h0:0<m) (hm:m<2^53) : ∃ k m1:Nat,64-(Lib.bitLen m:Int)=k∧11≤k∧k≤63∧m1=m*2^k∧2^63≤m1∧m1<2^64∧IntKind.u64.wrap ((m:Int)*2^k)=(m1:Int):=by
 obtain ⟨_,x2,x3⟩:=Lib.bitLenAux_bounds 64 m (by omega) (by omega)
 have x3:m<2^Lib.bitLen m:=x3
 have x2:2^(Lib.bitLen m-1)≤m:=x2
 have hb:Lib.bitLen m≤53:=by
  rcases Nat.lt_or_ge 53 (Lib.bitLen m) with h|h
  ·have:(2:Nat)^53≤2^(Lib.bitLen m-1):=Nat.pow_le_pow_right (by omega) (by omega)
   omega
  ·exact h
 have hb0:0<Lib.bitLen m:=by
  rcases Nat.eq_zero_or_pos (Lib.bitLen m) with h|h
  ·rw [h] at x3;omega
  ·exact h
 generalize Lib.bitLen m=b at *
 obtain ⟨k,hk⟩ : ∃ k,k=64-b:=⟨_,rfl⟩
 have e1:(2:Nat)^64=2^b*2^k:=by rw [←Nat.pow_add];exact congrArg (fun t=>2^t) (by omega)
 have e2:(2:Nat)^63=2^(b-1)*2^k:=by rw [←Nat.pow_add];exact congrArg (fun t=>2^t) (by omega)
 have l1:2^63≤m*2^k:=by rw [e2];exact Nat.mul_le_mul_right _ x2
 have l2:m*2^k<2^64:=by rw [e1];exact Nat.mul_lt_mul_of_pos_right x3 (Nat.two_pow_pos _)
 refine ⟨k,m*2^k,by omega,by omega,by omega,rfl,l1,l2,?_⟩
 have:((m:Int)*2^k)=((m*2^k:Nat):Int):=by rw [Int.natCast_mul,Int.natCast_pow];rfl
 rw [this,IntKind.wrap_u64]
 generalize m*2^k=z at *
 omega
theorem ne_zero_bool (r:Nat):((r:Int) != 0)=false↔r=0:=by
 simp [bne_eq_false_iff_eq]
theorem divK_zero (y:Int) (hy:y≠0) (up:Bool):divK 0 y up=0:=by
 have hP:=PI_pos
 refine rnd_eq (cut_div 0 y hy) ?_
 have hc : ∀ k,cDiv 0 y k=if 0<y then -(V k*V y) else V k*V y:=by
  intro k
  unfold cDiv
  rw [V_zero,Int.zero_mul,Int.zero_sub,Int.sub_zero]
 have v1:V 1=1:=by decide
 have w1:V (-1) = -1:=by decide
 by_cases h:0<y
 ·have hv:0<V y:=by rw [←V_zero];exact V_lt h
  cases up
  ·refine ⟨by omega,by omega,fun _=>by rw [hc,if_pos h,V_zero];omega,fun _=>by rw [hc,if_pos h,show (0:Int)+1=1 from rfl,v1];omega⟩
  ·refine ⟨by omega,by omega,fun _=>by rw [hc,if_pos h,V_zero];omega,fun _=>by rw [hc,if_pos h,show (0:Int)-1 = -1 from rfl,w1];omega⟩
 ·have hv:V y<0:=by rw [←V_zero];exact V_lt (by omega)
  cases up
  ·refine ⟨by omega,by omega,fun _=>by rw [hc,if_neg h,V_zero];omega,fun _=>by rw [hc,if_neg h,show (0:Int)+1=1 from rfl,v1];omega⟩
  ·refine ⟨by omega,by omega,fun _=>by rw [hc,if_neg h,V_zero];omega,fun _=>by rw [hc,if_neg h,show (0:Int)-1 = -1 from rfl,w1];omega⟩
theorem signed_quot {x y:Nat} {up:Bool} (hx:fin x) (hy:fin y) (hy0:key y≠0) {m n k l m2 n1:Nat} (hm:m=mgr (rung x)) (hn:n=mgr (rung y)) (hm2:m2=m*2^k) (hn1:n1=n*2^l) (h0:0<n1) (h1:n1≤2*m2) (h2:m2<n1) (hk:k≤63) (hl:l≤63)
  {E:Int} (hE:E=(plr (rung x):Int)-k-((plr (rung y):Int)-l)-128) (Q R:Int) (hQ:Q=((m2*2^64 / n1:Nat):Int)) (hR:R=((m2*2^64%n1:Nat):Int)) (w:World) :
  Calls Tryz.prog 101 #[.agg #[.int .u64 Q,.int .u64 0,.int .i64 E,.bool (R != 0)],.bool (neg x != neg y),.bool up] w fun e w'=>e = .returned (.float .f64 (ofKey (divK (key x) (key y) up)))∧Below w.heap.size w w':=by
 subst hQ hR
 have hp:=plr_fin hx
 have hq:=plr_fin hy
 obtain ⟨q1,q2⟩:=top_quot h0 h1 h2
 have hdm:=Nat.div_add_mod (m2*2^64) n1
 have hml:=Nat.mod_lt (m2*2^64) h0
 have hry:0<M (rung y):=by
  rcases Nat.eq_zero_or_pos (M (rung y)) with h|h
  ·exfalso
   have:key y=0:=by
    have:rung y=0:=M_inj (by rw [h,M_zero])
    unfold key;rw [this];simp
   exact hy0 this
  ·exact h
 have hT:Top (m2*2^64 / n1) 0 E (((m2*2^64%n1:Nat):Int) != 0) (M (rung x)*2^X74) (M (rung y)):=by
  rw [M_eq (rung x),M_eq (rung y),←hm,←hn]
  refine top_div (k:=k) (l:=l) (rem:=m2*2^64%n1) q1 ?_ (by rw [←hn1];exact hml) hE (by omega) (ne_zero_bool _)
  rw [←hm2,←hn1,Nat.mul_comm (m2*2^64 / n1)]
  exact hdm.symm
 generalize m2*2^64 / n1=q at *
 generalize (((m2*2^64%n1:Nat):Int) != 0)=b at *
 refine signed_real q 0 E b (neg x != neg y) up _ _ hry _ (cut_div _ _ hy0) (div_cut x y hy0) ?_ w
 exact number_up q 0 E b _ _ _ q2 (by omega) (by omega) (by omega) (by omega) hry (.inr hT)
set_option maxHeartbeats 2000000 in
theorem fpdiv_any (x y:Nat) (up:Bool) (hx:fin x) (hy:fin y) (hwx:Wd x) (hwy:Wd y) (hy0:key y≠0) (w:World) :
  Calls Tryz.prog 78 #[.float .f64 x,.float .f64 y,.bool up] w fun e w'=>e = .returned (.float .f64 (ofKey (divK (key x) (key y) up)))∧Below w.heap.size w w':=by
 have hm:=mgr_lt (rung x)
 have hn:=mgr_lt (rung y)
 have hp:=plr_fin hx
 have hq:=plr_fin hy
 have hn0:0<mgr (rung y):=by
  rcases Nat.eq_zero_or_pos (mgr (rung y)) with h|h
  ·exfalso
   have h2:M (rung y)=M 0:=by rw [M_eq,h,Nat.zero_mul,M_zero]
   have h3:=M_inj h2
   apply hy0
   unfold key;rw [h3];simp
  ·exact h
 have PX:=Lib.hid (parts_any x hwx)
 have PY:=Lib.hid (parts_any y hwy)
 have b1:(0:Int)≤plr (rung x):=by omega
 have b2:(plr (rung x):Int)≤2045:=by omega
 have b3:(0:Int)≤plr (rung y):=by omega
 have b4:(plr (rung y):Int)≤2045:=by omega
 rcases Nat.eq_zero_or_pos (mgr (rung x)) with hm0|hm0
 ·have hk:key x=0:=by
   have h2:M (rung x)=M 0:=by rw [M_eq,hm0,Nat.zero_mul,M_zero]
   have h3:=M_inj h2
   unfold key;rw [h3];simp
  rw [hk,divK_zero _ hy0]
  rw [hm0] at PX
  generalize mgr (rung y)=n at *
  generalize (plr (rung x):Int)=px at *
  generalize (plr (rung y):Int)=py at *
  clear hm hn hn0 hm0
  go_enter Tryz.func78,Tryz.ntmps78
  go_wp2_with (go_at_call 99;(first|(with_reducible refine (PX.out _).mono ?_)|(with_reducible refine (PY.out _).mono ?_));rintro e w' ⟨rfl,rfl⟩)
  all_goals go_ret
  all_goals exact ⟨rfl,Below.refl _ _⟩
 ·obtain ⟨k,m1,k1,k2,k3,k4,k5,k6,k7⟩:=to_top hm0 hm
  obtain ⟨l,n1,l1,l2,l3,l4,l5,l6,l7⟩:=to_top hn0 hn
  have zm := Tryz.bits_LeadingZeros64 (mgr (rung x):Int)
  have zn := Tryz.bits_LeadingZeros64 (mgr (rung y):Int)
  have ZM:=Lib.hid zm
  have ZN:=Lib.hid zn
  have K1:=Lib.hid k1
  have L1:=Lib.hid l1
  clear zm zn
  have c0 : ¬((mgr (rung x):Nat):Int)=0:=by omega
  have c1:(0:Int)≤k:=by omega
  have c2:(k:Int)≤63:=by omega
  have c3:(0:Int)≤l:=by omega
  have c4:(l:Int)≤63:=by omega
  have c5:(m1:Int)≤18446744073709551615:=by omega
  have c7:((mgr (rung x):Nat):Int)≤9007199254740991:=by omega
  have c8:((mgr (rung y):Nat):Int)≤9007199254740991:=by omega
  have c6:(n1:Int)≤18446744073709551615:=by omega
  rcases Nat.lt_or_ge m1 n1 with hc|hc
  ·have hS:=fun w=>signed_quot (up:=up) hx hy hy0 rfl rfl k4 l4 (by omega) (by omega) hc k3 l3 (E:=(plr (rung x):Int)-1074-k-((plr (rung y):Int)-1074-l)-128) (by omega) _ _ rfl rfl w
   have hD:=fun Z R hZ hR w=>div64_any m1 n1 (by omega) l5 l6 hc Z R hZ hR w
   obtain ⟨Q,hQ⟩ : ∃ Q,Q=((m1*2^64 / n1:Nat):Int):=⟨_,rfl⟩
   obtain ⟨R,hR⟩ : ∃ R,R=((m1*2^64%n1:Nat):Int):=⟨_,rfl⟩
   have hD:=hD Q R hQ hR
   rw [←hQ,←hR] at hS
   have HS:=Lib.hid hS
   have HD:=Lib.hid hD
   have d1 : ¬(n1:Int)≤m1:=by omega
   clear hS hD hQ hR k1 k2 k3 k4 k5 k6 l1 l2 l3 l4 l5 l6 hc hm0 hn0 hm hn
   generalize mgr (rung x)=m at *
   generalize mgr (rung y)=n at *
   generalize (plr (rung x):Int)=px at *
   generalize (plr (rung y):Int)=py at *
   go_enter Tryz.func78,Tryz.ntmps78
   go_wp2_with (first|(go_at_call 99;(first|(with_reducible refine (PX.out _).mono ?_)|(with_reducible refine (PY.out _).mono ?_));rintro e w' ⟨rfl,rfl⟩)|(go_at_call 102;(first|(with_reducible refine (ZM.out _ (by omega) (by omega)).mono ?_)|(with_reducible refine (ZN.out _ (by omega) (by omega)).mono ?_));rintro e w' ⟨rfl,rfl⟩;(first|rw [Int.toNat_natCast,K1.out]|rw [Int.toNat_natCast,L1.out]))|(go_at_call 103;refine (HD.out _).mono ?_;rintro e w' ⟨rfl,rfl⟩)|(go_at_call 101;refine (HS.out _).mono ?_;rintro e w1 ⟨rfl,hbw1⟩;skip))
   all_goals go_ret
   all_goals exact ⟨rfl,hbw1⟩
  ·obtain ⟨m2,hm2⟩ : ∃ m2,m2=m1 / 2:=⟨_,rfl⟩
   have hm3:m2=mgr (rung x)*2^(k-1):=by
    have:2^k=2^(k-1)*2:=by rw [←Nat.pow_succ];exact congrArg (fun t=>2^t) (by omega)
    rw [this,←Nat.mul_assoc] at k4
    generalize mgr (rung x)*2^(k-1)=z at *
    omega
   have hm4:2*m2=m1:=by
    have:2^k=2^(k-1)*2:=by rw [←Nat.pow_succ];exact congrArg (fun t=>2^t) (by omega)
    rw [this,←Nat.mul_assoc] at k4
    generalize mgr (rung x)*2^(k-1)=z at *
    omega
   have hS:=fun w=>signed_quot (up:=up) hx hy hy0 rfl rfl hm3 l4 (by omega) (by omega) (by omega) (by omega) l3 (E:=(plr (rung x):Int)-1074-k+1-((plr (rung y):Int)-1074-l)-128) (by omega) _ _ rfl rfl w
   have hD:=fun Z R hZ hR w=>div64_any m2 n1 (by omega) l5 l6 (by omega) Z R hZ hR w
   obtain ⟨Q,hQ⟩ : ∃ Q,Q=((m2*2^64 / n1:Nat):Int):=⟨_,rfl⟩
   obtain ⟨R,hR⟩ : ∃ R,R=((m2*2^64%n1:Nat):Int):=⟨_,rfl⟩
   have hD:=hD Q R hQ hR
   rw [←hQ,←hR] at hS
   have HS:=Lib.hid hS
   have HD:=Lib.hid hD
   have d1:(n1:Int)≤m1:=by omega
   have d2:(m1:Int) / 2=m2:=by omega
   clear hm2 hm3 hm4
   clear hS hD hQ hR k1 k2 k3 k4 k5 k6 l1 l2 l3 l4 l5 l6 hc hm0 hn0 hm hn
   generalize mgr (rung x)=m at *
   generalize mgr (rung y)=n at *
   generalize (plr (rung x):Int)=px at *
   generalize (plr (rung y):Int)=py at *
   go_enter Tryz.func78,Tryz.ntmps78
   go_wp2_with (first|(go_at_call 99;(first|(with_reducible refine (PX.out _).mono ?_)|(with_reducible refine (PY.out _).mono ?_));rintro e w' ⟨rfl,rfl⟩)|(go_at_call 102;(first|(with_reducible refine (ZM.out _ (by omega) (by omega)).mono ?_)|(with_reducible refine (ZN.out _ (by omega) (by omega)).mono ?_));rintro e w' ⟨rfl,rfl⟩;(first|rw [Int.toNat_natCast,K1.out]|rw [Int.toNat_natCast,L1.out]))|(go_at_call 103;refine (HD.out _).mono ?_;rintro e w' ⟨rfl,rfl⟩)|(go_at_call 101;refine (HS.out _).mono ?_;rintro e w1 ⟨rfl,hbw1⟩;skip))
   all_goals go_ret
   all_goals exact ⟨rfl,hbw1⟩
end Go.Proofs.YteephgpefhodnaaGreat
namespace Go.Proofs.YteephgpefhodnaaGreat
open Go.RowKit Go.Sort Go.Fl
set_option linter.unusedSimpArgs false
set_option linter.unusedVariables false
theorem run_sqrt (x c:Nat) (h:FloatKind.f64.format.sqrt x=some c) (w:World):(callFunc 130 #[.float .f64 x]).run Tryz.prog w = .ok (.value (.float .f64 c)) w:=by
 rw [run_callFunc_extern Tryz.func130 (by kernel_rfl) (by kernel_rfl) (by kernel_rfl) (by kernel_rfl:Extern.find _=some Extern.MathSqrt.sqrt)]
 have e:Extern.MathSqrt.sqrt #[.float .f64 x]=(match FloatKind.f64.format.sqrt x with|some r=>pure (.float .f64 r)|none=>do pure (.float .f64 (←choose (.nanBits .f64 x x)))):=rfl
 rw [e,h]
 rfl
theorem run_fma (x y z r:Nat) (h:FloatKind.f64.format.fma x y z=some r) (w:World):(callFunc 105 #[.float .f64 x,.float .f64 y,.float .f64 z]).run Tryz.prog w = .ok (.value (.float .f64 r)) w:=by
 rw [run_callFunc_extern Tryz.func105 (by kernel_rfl) (by kernel_rfl) (by kernel_rfl) (by kernel_rfl:Extern.find _=some Extern.MathFMA.fma)]
 have e:Extern.MathFMA.fma #[.float .f64 x,.float .f64 y,.float .f64 z]=(match FloatKind.f64.format.fma x y z with|some r=>pure (.float .f64 r)|none=>do
   let (a,b):=if Extern.MathFMA.isNaN x then (x,y) else if Extern.MathFMA.isNaN y then (y,z) else (z,z)
   pure (.float .f64 (←choose (.nanBits .f64 a b)))):=rfl
 rw [e,h]
 rfl
theorem mathsqrt_any (x c:Nat) (h:FloatKind.f64.format.sqrt x=some c) (w:World) :
  Calls Tryz.prog 104 #[.float .f64 x] w fun e w'=>e = .returned (.float .f64 c)∧w=w':=by
 have hr:=run_sqrt x c h
 go_enter Tryz.func104,Tryz.ntmps104
 go_wp2
 go_ret
 exact ⟨rfl,rfl⟩
theorem nextafter_down (x:Nat) (hx:0<x) (hI:x<INF) (w:World) :
  Calls Tryz.prog 72 #[.float .f64 x,.float .f64 0] w fun e w'=>e = .returned (.float .f64 (x-1:Nat))∧w=w':=by
 have hIe:=INF_eq
 have hw:Wd x:=by unfold Wd;omega
 have hk:key x=x:=key_low (by omega)
 have nx : ¬nan x:=by rw [nan_low (by omega)];omega
 have n0 : ¬nan 0:=by decide
 have hf:=run_frombits
 have ht:=run_tobits
 have hu:=u64_pred hw hx
 have d1:decide (key x<0)=false:=decide_eq_false (by omega)
 have d2:decide (0<key x)=true:=decide_eq_true (by omega)
 have d3:decide (key x=0)=false:=decide_eq_false (by omega)
 clear hk
 go_enter Tryz.func72,Tryz.ntmps72
 go_wp2_with (first|(go_at_call 97;refine (isnan_no _ (by first|exact nx|exact n0) _).mono ?_;rintro e w' ⟨rfl,rfl⟩))
 go_ret
 exact ⟨by simp,rfl⟩
theorem nextafter_up_pos (x:Nat) (hx:0<x) (hI:x<INF) (w:World) :
  Calls Tryz.prog 72 #[.float .f64 x,.float .f64 (ofKey (PI))] w fun e w'=>e = .returned (.float .f64 (x+1:Nat))∧w=w':=by
 have hIe:=INF_eq
 have hP:=PI_INF
 have hw:Wd x:=by unfold Wd;omega
 have hk:key x=x:=key_low (by omega)
 have nx : ¬nan x:=by rw [nan_low (by omega)];omega
 have e:nextW x=x+1:=by unfold nextW;rw [if_neg (by omega),if_neg (by omega),if_pos (by omega)]
 rw [←e]
 exact nextafter_up x nx hw w
theorem fpsqrt_zero (x:Nat) (up:Bool) (hw:Wd x) (h0:key x=0) (w:World) :
  Calls Tryz.prog 79 #[.float .f64 x,.bool up] w fun e w'=>e = .returned (.float .f64 (ofKey (sqrtK (key x) up)))∧w=w':=by
 rw [h0,sqrt_zero_rnd]
 have hx:x=0∨x=9223372036854775808:=by
  unfold Wd at hw
  unfold key rung neg at h0
  split at h0<;>omega
 have s0:FloatKind.f64.format.sqrt 0=some 0:=by decide
 have s1:FloatKind.f64.format.sqrt 9223372036854775808=some 9223372036854775808:=by decide
 have c0:=mathsqrt_any _ _ s0
 have c1:=mathsqrt_any _ _ s1
 have m0:=fun (w:World) (t:TypeId)=>run_float_arith (P := Tryz.prog) w .mul t .f64 0 5507902344274116608 0 (by decide)
 have m1:=fun (w:World) (t:TypeId)=>run_float_arith (P := Tryz.prog) w .mul t .f64 9223372036854775808 5507902344274116608 9223372036854775808 (by decide)
 have m2:=fun (w:World) (t:TypeId)=>run_float_arith (P := Tryz.prog) w .mul t .f64 0 4156822456062967808 0 (by decide)
 have m3:=fun (w:World) (t:TypeId)=>run_float_arith (P := Tryz.prog) w .mul t .f64 9223372036854775808 4156822456062967808 9223372036854775808 (by decide)
 have g0:Op.negFloat .f64 0=9223372036854775808:=by decide
 have g1:Op.negFloat .f64 9223372036854775808=0:=by decide
 have q0:=run_fma 9223372036854775808 0 0 0 (by decide)
 have q1:=run_fma 0 9223372036854775808 9223372036854775808 9223372036854775808 (by decide)
 have n0 : ¬nan 0:=by decide
 have n1 : ¬nan 9223372036854775808:=by decide
 have k1:key 9223372036854775808=0:=by decide
 have nw : ¬nan 553942754166571008:=by decide
 have kw:key 553942754166571008=553942754166571008:=by decide
 have w1:Wd 9223372036854775808:=by unfold Wd;omega
 have C0:=Lib.hid c0
 have C1:=Lib.hid c1
 clear c0 c1 s0 s1 hw
 rcases hx with rfl|rfl
 all_goals
  clear h0
  cases up
  all_goals
   go_enter Tryz.func79,Tryz.ntmps79
   go_wp2_with (first|(go_at_call 104;(first|(with_reducible refine (C0.out _).mono ?_)|(with_reducible refine (C1.out _).mono ?_));rintro e w' ⟨rfl,rfl⟩))
   all_goals go_ret
   all_goals exact ⟨rfl,rfl⟩
set_option maxHeartbeats 1000000 in
theorem fpsqrt_fin (x:Nat) (up:Bool) (hx:x<INF) (h0:553942754166571008≤x) (w:World) :
  Calls Tryz.prog 79 #[.float .f64 x,.bool up] w fun e w'=>e = .returned (.float .f64 (ofKey (sqrtK (key x) up)))∧w=w':=by
 have hI:=INF_eq
 have hP:=PI_INF
 have kx:key x=x:=key_low (by omega)
 have nx : ¬nan x:=by rw [nan_low (by omega)];omega
 have nw : ¬nan 553942754166571008:=by decide
 have kw:key 553942754166571008=553942754166571008:=by decide
 have fx:fin x:=by unfold fin rung;omega
 have gx:neg x=false:=by unfold neg;rw [show x / 2^63=0 by omega];rfl
 have rx:rung x=x:=by unfold rung;omega
 obtain ⟨c,s1,hR,hpl⟩:=sqrt_fin fx gx (by
  rw [rx]
  have h2:M (123*2^52)=2^52*2^122:=M_two 122
  have h3:=M_le (show 123*2^52≤x by omega)
  rw [h2,←Nat.pow_add] at h3
  exact h3)
 rw [rx] at hR
 obtain ⟨c0,c1,c2,c3⟩:=hR
 obtain ⟨r,f1,nr,wr,hsg1,hsg2⟩:=fma_rest (by omega) hx hpl
 have hv:=root_real (x:=key x) (by rw [kx,V_nat,Int.natCast_mul,←E74_nat]) ⟨c0,c1,c2,c3⟩
 clear c2 c3
 simp only [←hsg1,←hsg2] at hv
 have SQ:=Lib.hid (mathsqrt_any x c s1)
 have q:=run_fma _ _ _ _ f1
 have NU:=Lib.hid (nextafter_up_pos c c0 (by omega))
 have ND:=Lib.hid (nextafter_down c c0 (by omega))
 have IP:=Lib.hid (mathinf_pos 1 (by omega))
 have mc : ∀ z:Nat,0<z→z<INF → ∀ (w:World) (t:TypeId),(binOp .mul t (.float .f64 z) (.float .f64 4607182418800017408)).run Tryz.prog w = .ok (.float .f64 z) w:=fun z h1 h2 w t=>run_float_arith (P := Tryz.prog) w .mul t .f64 z 4607182418800017408 z (scale_one h1 h2)
 have wr:Wd r:=wr
 have n0 : ¬nan 0:=by decide
 have dx:decide (key x<(553942754166571008:Int))=false:=decide_eq_false (by omega)
 have hc2:2≤c:=by unfold plr at hpl;omega
 clear f1 s1 hsg1 hsg2 rx gx fx hpl
 have lc : ¬nan c∧Wd c∧key c=c:=⟨by rw [nan_low (by omega)];omega,by unfold Wd;omega,key_low (by omega)⟩
 have lu : ¬nan (c+1)∧Wd (c+1)∧key (c+1)=((c+1:Nat):Int):=⟨by rw [nan_low (by omega)];omega,by unfold Wd;omega,key_low (by omega)⟩
 have ld : ¬nan (c-1)∧Wd (c-1)∧key (c-1)=((c-1:Nat):Int):=⟨by rw [nan_low (by omega)];omega,by unfold Wd;omega,key_low (by omega)⟩
 cases up
 ·by_cases hp:key r<0
  ·have d1:decide (key r<0)=true:=decide_eq_true hp
   have d2:decide (0<key r)=false:=decide_eq_false (by omega)
   obtain ⟨l1,l2,l3⟩:=ld
   have m:=mc (c-1) (by omega) (by omega)
   have hc1:1≤c:=c0
   rw [show sqrtK (key x) false=(((c-1):Nat):Int) by rw [hv];rw [if_neg (by simp),if_pos ⟨hp,rfl⟩];omega]
   clear hv mc hc1 hc2 hx c0 c1 h0 hI hP
   have L3:=Lib.hid l3
   clear l3 kx
   try clear lc
   try clear lu
   try clear ld
   go_enter Tryz.func79,Tryz.ntmps79
   go_wp2_with (first|(go_at_call 104;refine (SQ.out _).mono ?_;rintro e w' ⟨rfl,rfl⟩)|(go_at_call 73;refine (IP.out _).mono ?_;rintro e w' ⟨rfl,rfl⟩)|(go_at_call 72;(first|(with_reducible refine (NU.out _).mono ?_)|(with_reducible refine (ND.out _).mono ?_));rintro e w' ⟨rfl,rfl⟩))
   all_goals go_ret
   all_goals exact ⟨ret_w (by rw [L3.out]),rfl⟩
  ·have d1:decide (key r<0)=false:=decide_eq_false hp
   obtain ⟨l1,l2,l3⟩:=lc
   have m:=mc c (by omega) (by omega)
   have hc1:1≤c:=c0
   rw [show sqrtK (key x) false=((c:Nat):Int) by rw [hv];rw [if_neg (by simp),if_neg (by intro h;exact hp h.1)]]
   clear hv mc hc1 hc2 hx c0 c1 h0 hI hP
   have L3:=Lib.hid l3
   clear l3 kx
   try clear lc
   try clear lu
   try clear ld
   go_enter Tryz.func79,Tryz.ntmps79
   go_wp2_with (first|(go_at_call 104;refine (SQ.out _).mono ?_;rintro e w' ⟨rfl,rfl⟩)|(go_at_call 73;refine (IP.out _).mono ?_;rintro e w' ⟨rfl,rfl⟩)|(go_at_call 72;(first|(with_reducible refine (NU.out _).mono ?_)|(with_reducible refine (ND.out _).mono ?_));rintro e w' ⟨rfl,rfl⟩))
   all_goals go_ret
   all_goals exact ⟨ret_w (by rw [L3.out]),rfl⟩
 ·by_cases hp:0<key r
  ·have d1:decide (0<key r)=true:=decide_eq_true hp
   obtain ⟨l1,l2,l3⟩:=lu
   have m:=mc (c+1) (by omega) (by omega)
   have hc1:1≤c:=c0
   rw [show sqrtK (key x) true=(((c+1):Nat):Int) by rw [hv];rw [if_pos ⟨hp,rfl⟩];omega]
   clear hv mc hc1 hc2 hx c0 c1 h0 hI hP
   have L3:=Lib.hid l3
   clear l3 kx
   try clear lc
   try clear lu
   try clear ld
   go_enter Tryz.func79,Tryz.ntmps79
   go_wp2_with (first|(go_at_call 104;refine (SQ.out _).mono ?_;rintro e w' ⟨rfl,rfl⟩)|(go_at_call 73;refine (IP.out _).mono ?_;rintro e w' ⟨rfl,rfl⟩)|(go_at_call 72;(first|(with_reducible refine (NU.out _).mono ?_)|(with_reducible refine (ND.out _).mono ?_));rintro e w' ⟨rfl,rfl⟩))
   all_goals go_ret
   all_goals exact ⟨ret_w (by rw [L3.out]),rfl⟩
  ·have d1:decide (0<key r)=false:=decide_eq_false hp
   obtain ⟨l1,l2,l3⟩:=lc
   have m:=mc c (by omega) (by omega)
   have hc1:1≤c:=c0
   rw [show sqrtK (key x) true=((c:Nat):Int) by rw [hv];rw [if_neg (by intro h;exact hp h.1),if_neg (by simp)]]
   clear hv mc hc1 hc2 hx c0 c1 h0 hI hP
   have L3:=Lib.hid l3
   clear l3 kx
   try clear lc
   try clear lu
   try clear ld
   go_enter Tryz.func79,Tryz.ntmps79
   go_wp2_with (first|(go_at_call 104;refine (SQ.out _).mono ?_;rintro e w' ⟨rfl,rfl⟩)|(go_at_call 73;refine (IP.out _).mono ?_;rintro e w' ⟨rfl,rfl⟩)|(go_at_call 72;(first|(with_reducible refine (NU.out _).mono ?_)|(with_reducible refine (ND.out _).mono ?_));rintro e w' ⟨rfl,rfl⟩))
   all_goals go_ret
   all_goals exact ⟨ret_w (by rw [L3.out]),rfl⟩
set_option maxHeartbeats 1000000 in
theorem fpsqrt_low (x:Nat) (up:Bool) (h1:0<x) (h0:x<553942754166571008) (w:World) :
  Calls Tryz.prog 79 #[.float .f64 x,.bool up] w fun e w'=>e = .returned (.float .f64 (ofKey (sqrtK (key x) up)))∧w=w':=by
 have hI:=INF_eq
 have hP:=PI_INF
 have kx:key x=x:=key_low (by omega)
 have nx : ¬nan x:=by rw [nan_low (by omega)];omega
 have nw : ¬nan 553942754166571008:=by decide
 have kw:key 553942754166571008=553942754166571008:=by decide
 obtain ⟨x',y0,yI,yM,yb,ym⟩:=scale_up h1 (by omega)
 have mx:=fun (w:World) (t:TypeId)=>run_float_arith (P := Tryz.prog) w .mul t .f64 x 5507902344274116608 x' ym
 have hx:x'<INF:=yI
 have fx:fin x':=by unfold fin rung;omega
 have gx:neg x'=false:=by unfold neg;rw [show x' / 2^63=0 by omega];rfl
 have rx:rung x'=x':=by unfold rung;omega
 obtain ⟨c,s1,hR,hpl⟩:=sqrt_fin fx gx (by rw [rx];exact yb)
 rw [rx] at hR
 have ca:c+1<INF:=hR.2.1
 obtain ⟨r,f1,nr,wr,hsg1,hsg2⟩:=fma_rest (by omega) hx hpl
 rw [yM,Nat.mul_right_comm] at hR hsg1 hsg2
 obtain ⟨d,hd,hR2,q1,q2,hd2⟩:=root_scale rfl hpl hR
 rw [q1] at hsg1
 rw [q2] at hsg2
 have hv:=root_real (x:=key x) (by rw [kx,V_nat,Int.natCast_mul,←E74_nat]) hR2
 have c0:0<c:=by omega
 clear hR hR2 q1 q2
 simp only [←hsg1,←hsg2] at hv
 have SQ:=Lib.hid (mathsqrt_any x' c s1)
 have q:=run_fma _ _ _ _ f1
 have NU:=Lib.hid (nextafter_up_pos c c0 (by omega))
 have ND:=Lib.hid (nextafter_down c c0 (by omega))
 have IP:=Lib.hid (mathinf_pos 1 (by omega))
 have mc : ∀ z y:Nat,z=y+100*2^52→2^52≤y→z<INF → ∀ (w:World) (t:TypeId),(binOp .mul t (.float .f64 z) (.float .f64 4156822456062967808)).run Tryz.prog w = .ok (.float .f64 y) w:=by
  intro z y hz h1 h2 w t
  subst hz
  exact run_float_arith (P := Tryz.prog) w .mul t .f64 _ 4156822456062967808 y (scale_down rfl h1 h2)
 have wr:Wd r:=wr
 have n0 : ¬nan 0:=by decide
 have dx:decide (key x<(553942754166571008:Int))=true:=decide_eq_true (by omega)
 have lc : ¬nan d∧Wd d∧key d=d:=⟨by rw [nan_low (by omega)];omega,by unfold Wd;omega,key_low (by omega)⟩
 have lu : ¬nan (d+1)∧Wd (d+1)∧key (d+1)=((d+1:Nat):Int):=⟨by rw [nan_low (by omega)];omega,by unfold Wd;omega,key_low (by omega)⟩
 have ld : ¬nan (d-1)∧Wd (d-1)∧key (d-1)=((d-1:Nat):Int):=⟨by rw [nan_low (by omega)];omega,by unfold Wd;omega,key_low (by omega)⟩
 have hc2:2≤c:=by omega
 clear f1 s1 hsg1 hsg2 rx gx fx hpl ym yM yb
 have c1:=hd2
 cases up
 ·by_cases hp:key r<0
  ·have d1:decide (key r<0)=true:=decide_eq_true hp
   have d2:decide (0<key r)=false:=decide_eq_false (by omega)
   obtain ⟨l1,l2,l3⟩:=ld
   have m:=mc (c-1) (d-1) (by omega) (by omega) (by omega)
   have hc1:1≤c:=c0
   rw [show sqrtK (key x) false=(((d-1):Nat):Int) by rw [hv];rw [if_neg (by simp),if_pos ⟨hp,rfl⟩];omega]
   clear hv mc hc1 hc2 hx c0 c1 h0 hI hP h1 y0 yI hd hd2 ca
   have L3:=Lib.hid l3
   clear l3 kx
   try clear lc
   try clear lu
   try clear ld
   go_enter Tryz.func79,Tryz.ntmps79
   go_wp2_with (first|(go_at_call 104;refine (SQ.out _).mono ?_;rintro e w' ⟨rfl,rfl⟩)|(go_at_call 73;refine (IP.out _).mono ?_;rintro e w' ⟨rfl,rfl⟩)|(go_at_call 72;(first|(with_reducible refine (NU.out _).mono ?_)|(with_reducible refine (ND.out _).mono ?_));rintro e w' ⟨rfl,rfl⟩))
   all_goals go_ret
   all_goals exact ⟨ret_w (by rw [L3.out]),rfl⟩
  ·have d1:decide (key r<0)=false:=decide_eq_false hp
   obtain ⟨l1,l2,l3⟩:=lc
   have m:=mc c d (by omega) (by omega) (by omega)
   have hc1:1≤c:=c0
   rw [show sqrtK (key x) false=((d:Nat):Int) by rw [hv];rw [if_neg (by simp),if_neg (by intro h;exact hp h.1)]]
   clear hv mc hc1 hc2 hx c0 c1 h0 hI hP h1 y0 yI hd hd2 ca
   have L3:=Lib.hid l3
   clear l3 kx
   try clear lc
   try clear lu
   try clear ld
   go_enter Tryz.func79,Tryz.ntmps79
   go_wp2_with (first|(go_at_call 104;refine (SQ.out _).mono ?_;rintro e w' ⟨rfl,rfl⟩)|(go_at_call 73;refine (IP.out _).mono ?_;rintro e w' ⟨rfl,rfl⟩)|(go_at_call 72;(first|(with_reducible refine (NU.out _).mono ?_)|(with_reducible refine (ND.out _).mono ?_));rintro e w' ⟨rfl,rfl⟩))
   all_goals go_ret
   all_goals exact ⟨ret_w (by rw [L3.out]),rfl⟩
 ·by_cases hp:0<key r
  ·have d1:decide (0<key r)=true:=decide_eq_true hp
   obtain ⟨l1,l2,l3⟩:=lu
   have m:=mc (c+1) (d+1) (by omega) (by omega) (by omega)
   have hc1:1≤c:=c0
   rw [show sqrtK (key x) true=(((d+1):Nat):Int) by rw [hv];rw [if_pos ⟨hp,rfl⟩];omega]
   clear hv mc hc1 hc2 hx c0 c1 h0 hI hP h1 y0 yI hd hd2 ca
   have L3:=Lib.hid l3
   clear l3 kx
   try clear lc
   try clear lu
   try clear ld
   go_enter Tryz.func79,Tryz.ntmps79
   go_wp2_with (first|(go_at_call 104;refine (SQ.out _).mono ?_;rintro e w' ⟨rfl,rfl⟩)|(go_at_call 73;refine (IP.out _).mono ?_;rintro e w' ⟨rfl,rfl⟩)|(go_at_call 72;(first|(with_reducible refine (NU.out _).mono ?_)|(with_reducible refine (ND.out _).mono ?_));rintro e w' ⟨rfl,rfl⟩))
   all_goals go_ret
   all_goals exact ⟨ret_w (by rw [L3.out]),rfl⟩
  ·have d1:decide (0<key r)=false:=decide_eq_false hp
   obtain ⟨l1,l2,l3⟩:=lc
   have m:=mc c d (by omega) (by omega) (by omega)
   have hc1:1≤c:=c0
   rw [show sqrtK (key x) true=((d:Nat):Int) by rw [hv];rw [if_neg (by intro h;exact hp h.1),if_neg (by simp)]]
   clear hv mc hc1 hc2 hx c0 c1 h0 hI hP h1 y0 yI hd hd2 ca
   have L3:=Lib.hid l3
   clear l3 kx
   try clear lc
   try clear lu
   try clear ld
   go_enter Tryz.func79,Tryz.ntmps79
   go_wp2_with (first|(go_at_call 104;refine (SQ.out _).mono ?_;rintro e w' ⟨rfl,rfl⟩)|(go_at_call 73;refine (IP.out _).mono ?_;rintro e w' ⟨rfl,rfl⟩)|(go_at_call 72;(first|(with_reducible refine (NU.out _).mono ?_)|(with_reducible refine (ND.out _).mono ?_));rintro e w' ⟨rfl,rfl⟩))
   all_goals go_ret
   all_goals exact ⟨ret_w (by rw [L3.out]),rfl⟩
theorem fpsqrt_any (x:Nat) (up:Bool) (hx:fin x) (hw:Wd x) (h0:0≤key x) (w:World) :
  Calls Tryz.prog 79 #[.float .f64 x,.bool up] w fun e w'=>e = .returned (.float .f64 (ofKey (sqrtK (key x) up)))∧w=w':=by
 by_cases h:key x=0
 ·exact fpsqrt_zero x up hw h w
 ·obtain ⟨h1,h2⟩:=key_pos hw (by omega)
  have hI:=INF_eq
  have hx:x<INF:=by unfold fin rung at hx;omega
  rcases Nat.lt_or_ge x 553942754166571008 with h3|h3
  ·exact fpsqrt_low x up (by omega) h3 w
  ·exact fpsqrt_fin x up hx h3 w
end Go.Proofs.YteephgpefhodnaaGreat
namespace Go.Proofs.YteephgpefhodnaaGreat
open Go.RowKit Go.Sort Go.Fl
set_option linter.unusedSimpArgs false
set_option linter.unusedVariables false
theorem nan_key_fin {x:Nat} (h : ¬nan x):fin x ↔ ¬(key x=PI∨key x = -PI):=by
 have h1:=Rg_key h
 have:=h1.1;have:=h1.2
 rw [fin_key,←PI_INF];omega
theorem isinf0_nan (x:Nat) (hx:nan x) (hw:Wd x) (w:World) :
  Calls Tryz.prog 41 #[.float .f64 x,.int .i64 0] w fun e w'=>e = .returned (.bool false)∧w=w':=by
 have hn:nan (absw x):=by rw [nn_absw];exact hx
 go_enter Tryz.func41,Tryz.ntmps41
 go_wp2_with (go_at_call 74;refine (mathabs_any _ hw _).mono ?_;rintro e w' ⟨rfl,rfl⟩)
 go_ret
 exact ⟨rfl,rfl⟩
theorem finite_yes (x:Nat) (hw:Wd x) (h:fin x) (w:World) :
  Calls Tryz.prog 75 #[.float .f64 x] w fun e w'=>e = .returned (.bool true)∧w=w':=by
 have hn : ¬nan x:=by unfold nan;unfold fin at h;omega
 have hk:=(nan_key_fin hn).1 h
 have d1:decide (key x=PI)=false:=decide_eq_false (by omega)
 have d2:decide (key x = -PI)=false:=decide_eq_false (by omega)
 go_enter Tryz.func75,Tryz.ntmps75
 go_wp2_with (first|(go_at_call 41;refine (isinf0_any _ hn hw _).mono ?_;rintro e w' ⟨rfl,rfl⟩)|(go_at_call 97;refine (isnan_no _ hn _).mono ?_;rintro e w' ⟨rfl,rfl⟩))
 go_ret
 exact ⟨rfl,rfl⟩
theorem finite_no (x:Nat) (hw:Wd x) (h : ¬fin x) (w:World) :
  Calls Tryz.prog 75 #[.float .f64 x] w fun e w'=>e = .returned (.bool false)∧w=w':=by
 by_cases hn:nan x
 ·go_enter Tryz.func75,Tryz.ntmps75
  go_wp2_with (first|(go_at_call 41;refine (isinf0_nan _ hn hw _).mono ?_;rintro e w' ⟨rfl,rfl⟩)|(go_at_call 97;refine (isnan_yes _ hn _).mono ?_;rintro e w' ⟨rfl,rfl⟩))
  go_ret
  exact ⟨rfl,rfl⟩
 ·have hk:=(not_congr (nan_key_fin hn)).1 h
  have hd:(decide (key x=PI)||decide (key x = -PI))=true:=by
   rw [←Bool.decide_or];exact decide_eq_true (by omega)
  have hI:=isinf0_any x hn hw
  rw [hd] at hI
  have HI:=Lib.hid hI
  clear hI hd hk
  go_enter Tryz.func75,Tryz.ntmps75
  go_wp2_with (first|(go_at_call 41;refine (HI.out _).mono ?_;rintro e w' ⟨rfl,rfl⟩)|(go_at_call 97;refine (isnan_no _ hn _).mono ?_;rintro e w' ⟨rfl,rfl⟩))
  go_ret
  exact ⟨rfl,rfl⟩
def rok (o:Int) (x y:Nat):Bool:=decide (fin x∧((o=3∧0≤key x)∨(fin y∧(o=6∨o=7∨o=8∨(o=9∧key y≠0)))))
noncomputable def roundK (o x y:Int) (up:Bool):Int :=
 if o=3 then sqrtK x up else if o=6 then addK x y up else if o=7 then addK x (-y) up else if o=8 then mulK x y up else divK x y up
noncomputable def roundW (o:Int) (x y:Nat) (up:Bool):Nat:=if rok o x y=true then ofKey (roundK o (key x) (key y) up) else NANW
theorem round_yes {o:Int} {x y:Nat} (up:Bool) (h:fin x∧((o=3∧0≤key x)∨(fin y∧(o=6∨o=7∨o=8∨(o=9∧key y≠0))))):roundW o x y up=ofKey (roundK o (key x) (key y) up):=by
 unfold roundW rok
 rw [if_pos (decide_eq_true h)]
theorem round_no {o:Int} {x y:Nat} (up:Bool) (h : ¬(fin x∧((o=3∧0≤key x)∨(fin y∧(o=6∨o=7∨o=8∨(o=9∧key y≠0)))))):roundW o x y up=NANW:=by
 unfold roundW rok
 rw [decide_eq_false h,if_neg (by decide)]
set_option maxHeartbeats 1000000 in
theorem fpround_any (o:Int) (x y:Nat) (up:Bool) (hwx:Wd x) (hwy:Wd y) (w:World) :
  Calls Tryz.prog 44 #[.int .i64 o,.float .f64 x,.float .f64 y,.bool up] w fun e w'=>e = .returned (.float .f64 (roundW o x y up))∧Below w.heap.size w w':=by
 have nN:=nan_NANW
 have wN:=wd_NANW
 by_cases fx:fin x
 ·have nx : ¬nan x:=by unfold nan;unfold fin at fx;omega
  have FX:=Lib.hid (finite_yes x hwx fx)
  by_cases o3:o=3
  ·subst o3
   by_cases h0:0≤key x
   ·rw [round_yes up ⟨fx,.inl ⟨rfl,h0⟩⟩,show roundK 3 (key x) (key y) up=sqrtK (key x) up from rfl]
    have SQ:=Lib.hid (fpsqrt_any x up fx hwx h0)
    have d1:decide (0≤key x)=true:=decide_eq_true h0
    go_enter Tryz.func44,Tryz.ntmps44
    go_wp2_with (first|(go_at_call 46;refine (mathnan_any _).mono ?_;rintro e w' ⟨rfl,rfl⟩)|(go_at_call 75;refine (FX.out _).mono ?_;rintro e w' ⟨rfl,rfl⟩)|(go_at_call 79;refine (SQ.out _).mono ?_;rintro e w' ⟨rfl,rfl⟩))
    go_ret
    exact ⟨rfl,Below.refl _ _⟩
   ·rw [round_no up (by omega)]
    have d1:decide (0≤key x)=false:=decide_eq_false h0
    go_enter Tryz.func44,Tryz.ntmps44
    go_wp2_with (first|(go_at_call 46;refine (mathnan_any _).mono ?_;rintro e w' ⟨rfl,rfl⟩)|(go_at_call 75;refine (FX.out _).mono ?_;rintro e w' ⟨rfl,rfl⟩))
    go_ret
    exact ⟨rfl,Below.refl _ _⟩
  ·by_cases fy:fin y
   ·have ny : ¬nan y:=by unfold nan;unfold fin at fy;omega
    have FY:=Lib.hid (finite_yes y hwy fy)
    by_cases o6:o=6
    ·subst o6
     rw [round_yes up ⟨fx,.inr ⟨fy,.inl rfl⟩⟩,show roundK 6 (key x) (key y) up=addK (key x) (key y) up from rfl]
     have AD:=Lib.hid (fpadd_any x y up fx fy hwx hwy)
     go_enter Tryz.func44,Tryz.ntmps44
     go_wp2_with (first|(go_at_call 46;refine (mathnan_any _).mono ?_;rintro e w' ⟨rfl,rfl⟩)|(go_at_call 75;(first|(with_reducible refine (FX.out _).mono ?_)|(with_reducible refine (FY.out _).mono ?_));rintro e w' ⟨rfl,rfl⟩)|(go_at_call 76;refine (AD.out _).mono ?_;rintro e w' ⟨rfl,rfl⟩))
     go_ret
     exact ⟨rfl,Below.refl _ _⟩
    ·by_cases o7:o=7
     ·subst o7
      rw [round_yes up ⟨fx,.inr ⟨fy,.inr (.inl rfl)⟩⟩,show roundK 7 (key x) (key y) up=addK (key x) (-key y) up from rfl]
      have f:=fneg_facts hwy
      have fn:fin (Op.negFloat .f64 y):=by
       have h2:rung (Op.negFloat .f64 y)=rung y:=f.2.1
       unfold fin;rw [h2];exact fy
      have hAD:=fpadd_any x (Op.negFloat .f64 y) up fx fn hwx f.1
      rw [k_neg hwy] at hAD
      have AD:=Lib.hid hAD
      clear hAD f fn
      go_enter Tryz.func44,Tryz.ntmps44
      go_wp2_with (first|(go_at_call 46;refine (mathnan_any _).mono ?_;rintro e w' ⟨rfl,rfl⟩)|(go_at_call 75;(first|(with_reducible refine (FX.out _).mono ?_)|(with_reducible refine (FY.out _).mono ?_));rintro e w' ⟨rfl,rfl⟩)|(go_at_call 76;refine (AD.out _).mono ?_;rintro e w' ⟨rfl,rfl⟩))
      go_ret
      exact ⟨rfl,Below.refl _ _⟩
     ·by_cases o8:o=8
      ·subst o8
       rw [round_yes up ⟨fx,.inr ⟨fy,.inr (.inr (.inl rfl))⟩⟩,show roundK 8 (key x) (key y) up=mulK (key x) (key y) up from rfl]
       have MU:=Lib.hid (fpmul_any x y up fx fy hwx hwy)
       go_enter Tryz.func44,Tryz.ntmps44
       go_wp2_with (first|(go_at_call 46;refine (mathnan_any _).mono ?_;rintro e w' ⟨rfl,rfl⟩)|(go_at_call 75;(first|(with_reducible refine (FX.out _).mono ?_)|(with_reducible refine (FY.out _).mono ?_));rintro e w' ⟨rfl,rfl⟩)|(go_at_call 77;refine (MU.out _).mono ?_;rintro e w1 ⟨rfl,hbw1⟩;skip))
       go_ret
       exact ⟨rfl,hbw1⟩
      ·by_cases o9:o=9
       ·subst o9
        by_cases y0:key y=0
        ·rw [round_no up (by omega)]
         have d1:decide (key y=0)=true:=decide_eq_true y0
         go_enter Tryz.func44,Tryz.ntmps44
         go_wp2_with (first|(go_at_call 46;refine (mathnan_any _).mono ?_;rintro e w' ⟨rfl,rfl⟩)|(go_at_call 75;(first|(with_reducible refine (FX.out _).mono ?_)|(with_reducible refine (FY.out _).mono ?_));rintro e w' ⟨rfl,rfl⟩))
         go_ret
         exact ⟨rfl,Below.refl _ _⟩
        ·rw [round_yes up ⟨fx,.inr ⟨fy,.inr (.inr (.inr ⟨rfl,y0⟩))⟩⟩,show roundK 9 (key x) (key y) up=divK (key x) (key y) up from rfl]
         have DI:=Lib.hid (fpdiv_any x y up fx fy hwx hwy y0)
         have d1:decide (key y=0)=false:=decide_eq_false y0
         go_enter Tryz.func44,Tryz.ntmps44
         go_wp2_with (first|(go_at_call 46;refine (mathnan_any _).mono ?_;rintro e w' ⟨rfl,rfl⟩)|(go_at_call 75;(first|(with_reducible refine (FX.out _).mono ?_)|(with_reducible refine (FY.out _).mono ?_));rintro e w' ⟨rfl,rfl⟩)|(go_at_call 78;refine (DI.out _).mono ?_;rintro e w1 ⟨rfl,hbw1⟩;skip))
         go_ret
         exact ⟨rfl,hbw1⟩
       ·rw [round_no up (by omega)]
        go_enter Tryz.func44,Tryz.ntmps44
        go_wp2_with (first|(go_at_call 46;refine (mathnan_any _).mono ?_;rintro e w' ⟨rfl,rfl⟩)|(go_at_call 75;(first|(with_reducible refine (FX.out _).mono ?_)|(with_reducible refine (FY.out _).mono ?_));rintro e w' ⟨rfl,rfl⟩))
        go_ret
        exact ⟨rfl,Below.refl _ _⟩
   ·rw [round_no up (fun h=>h.2.elim (fun h=>o3 h.1) (fun h=>fy h.1))]
    have FY:=Lib.hid (finite_no y hwy fy)
    go_enter Tryz.func44,Tryz.ntmps44
    go_wp2_with (first|(go_at_call 46;refine (mathnan_any _).mono ?_;rintro e w' ⟨rfl,rfl⟩)|(go_at_call 75;(first|(with_reducible refine (FX.out _).mono ?_)|(with_reducible refine (FY.out _).mono ?_));rintro e w' ⟨rfl,rfl⟩))
    go_ret
    exact ⟨rfl,Below.refl _ _⟩
 ·rw [round_no up (fun h=>fx h.1)]
  have FX:=Lib.hid (finite_no x hwx fx)
  go_enter Tryz.func44,Tryz.ntmps44
  go_wp2_with (first|(go_at_call 46;refine (mathnan_any _).mono ?_;rintro e w' ⟨rfl,rfl⟩)|(go_at_call 75;refine (FX.out _).mono ?_;rintro e w' ⟨rfl,rfl⟩))
  go_ret
  exact ⟨rfl,Below.refl _ _⟩
theorem spansround_any (o:Int) (x y:Nat) (up:Bool) (hwx:Wd x) (hwy:Wd y) (w:World) :
  Calls Tryz.prog 17 #[.int .i64 o,.float .f64 x,.float .f64 y,.bool up] w fun e w'=>e = .returned (.float .f64 (roundW o x y up))∧Below w.heap.size w w':=by
 go_enter Tryz.func17,Tryz.ntmps17
 go_wp2_with (go_at_call 44;refine (fpround_any _ _ _ _ hwx hwy _).mono ?_;rintro e w1 ⟨rfl,hbw1⟩;skip)
 go_ret
 exact ⟨rfl,hbw1⟩
end Go.Proofs.YteephgpefhodnaaGreat
