/- The walk of Decorates. -/
import Derived.Test.YteephgpefhodnaaGreatE3
import Derived.ProofKit
import Derived.OpenShut
namespace Go.Proofs.YteephgpefhodnaaGreat.decorates
open Go.RowKit Go.Sort Go.Fl Go.ChangeShapes Go.WideShapes Go.ChangeAt
set_option linter.unusedSimpArgs false
set_option linter.unusedVariables false
set_option maxRecDepth 4000 in
set_option maxHeartbeats 2000000 in
theorem walk (a0 a1 a2 a3 a4 a5 a6:Int) (w0:(Lit.int .u64 a0).wf=true) (w1:(Lit.int .u64 a1).wf=true) (w2:(Lit.int .u64 a2).wf=true) (w3:(Lit.int .u64 a3).wf=true) (w4:(Lit.int .i64 a4).wf=true) (w5:(Lit.int .i64 a5).wf=true) (w6:(Lit.int .i64 a6).wf=true) (w:World) :
  Calls Tryz.prog 9 #[.int .u64 a0,.int .u64 a1,.int .u64 a2,.int .u64 a3,.int .i64 a4,.int .i64 a5,.int .i64 a6] w fun e w'=>e = .returned (.bool true)∧Below w.heap.size w w':=by
 have ha:=wd_of w0
 have hb:=wd_of w1
 have hc:=wd_of w2
 have hd:=wd_of w3
 clear w0 w1 w2 w3 w4 w5 w6
 have O0:=Lib.hid (lawof_any a0);have O1:=Lib.hid (lawof_any a1);have O2:=Lib.hid (lawof_any a2);have O3:=Lib.hid (lawof_any a3)
 generalize a0.toNat=x0 at *
 generalize a1.toNat=x1 at *
 generalize a2.toNat=x2 at *
 generalize a3.toNat=x3 at *
 have ap:=fun o w=>spansdo_any o x0 x1 x2 x3 a4 a5 ha hb hc hd w
 have rp:=fun o w=>refdo_any o x0 x1 x2 x3 a4 a5 ha hb hc hd w
 have iv:=fun o=>z_rg o _ _ _ _ (dD x0 x1 a4) (dD x2 x3 a5) (dc_iv x0 x1 a4) (dc_iv x2 x3 a5)
 have sd:=fun w=>spansdecorate_any x0 x1 a4 ha hb w
 have rd:=fun w=>refdecorate_any x0 x1 a4 ha hb w
 have id:=dc_iv x0 x1 a4
 obtain ⟨P,hP⟩ : ∃ P:Int→Int,P=fun o=>zLo o (dLo x0 x1 a4) (dHi x0 x1 a4) (dLo x2 x3 a5) (dHi x2 x3 a5) (dD x0 x1 a4) (dD x2 x3 a5):=⟨_,rfl⟩
 have eP : ∀ o,zLo o (dLo x0 x1 a4) (dHi x0 x1 a4) (dLo x2 x3 a5) (dHi x2 x3 a5) (dD x0 x1 a4) (dD x2 x3 a5)=P o:=fun o=>by rw [hP]
 obtain ⟨Q,hQ⟩ : ∃ Q:Int→Int,Q=fun o=>zHi o (dLo x0 x1 a4) (dHi x0 x1 a4) (dLo x2 x3 a5) (dHi x2 x3 a5) (dD x0 x1 a4) (dD x2 x3 a5):=⟨_,rfl⟩
 have eQ : ∀ o,zHi o (dLo x0 x1 a4) (dHi x0 x1 a4) (dLo x2 x3 a5) (dHi x2 x3 a5) (dD x0 x1 a4) (dD x2 x3 a5)=Q o:=fun o=>by rw [hQ]
 obtain ⟨R,hR⟩ : ∃ R:Int→Int,R=fun o=>zD o (dLo x0 x1 a4) (dHi x0 x1 a4) (dLo x2 x3 a5) (dHi x2 x3 a5) (dD x0 x1 a4) (dD x2 x3 a5):=⟨_,rfl⟩
 have eR : ∀ o,zD o (dLo x0 x1 a4) (dHi x0 x1 a4) (dLo x2 x3 a5) (dHi x2 x3 a5) (dD x0 x1 a4) (dD x2 x3 a5)=R o:=fun o=>by rw [hR]
 simp only [eP,eQ,eR] at ap rp iv
 clear eP eQ eR hP hQ hR
 generalize dLo x0 x1 a4=lo at *
 generalize dHi x0 x1 a4=hi at *
 generalize dD x0 x1 a4=dd at *
 have AL:=Lib.hid (fun o w=>samely_refl (P o) (Q o) (R o) (iv o).1 (iv o).2 w)
 have SL:=Lib.hid (fun w=>samely_refl lo hi dd id.1 id.2.1 w)
 have AP:=Lib.hid ap
 have RP:=Lib.hid rp
 have SD:=Lib.hid sd
 have RD:=Lib.hid rd
 clear ap rp iv sd rd id ha hb hc hd
 go_enter Tryz.func9,Tryz.ntmps9
 go_wp2_with (go_at_call 11;(first|(with_reducible refine (O0.out _).mono ?_)|(with_reducible refine (O1.out _).mono ?_)|(with_reducible refine (O2.out _).mono ?_)|(with_reducible refine (O3.out _).mono ?_));rintro e w' ⟨rfl,rfl⟩)
 refine Hold.i33.goc ?_;intro wl H;have F:=H.f;dsimp only [Fac] at F
 refine (SD.out _).mono ?_;rintro e v1 ⟨rfl,hb⟩
 replace H:=H.below hb;clear hb;replace F:=H.f;dsimp only [Fac] at F
 go_wp2_with fail
 have n1:=H.lt;dsimp only [Lts] at n1
 refine (H.new3 _ _ _ _).goc ?_;clear H F;intro v2 H;dsimp only [add] at H;have F:=H.f;dsimp only [Fac] at F
 refine (RD.out _).mono ?_;rintro e v3 ⟨rfl,hb⟩
 replace H:=H.below hb;clear hb;replace F:=H.f;dsimp only [Fac] at F
 go_wp2_with fail
 have n2:=H.lt;dsimp only [Lts] at n2
 refine (H.new3 _ _ _ _).goc ?_;clear H F;intro v4 H;dsimp only [add] at H;have F:=H.f;dsimp only [Fac] at F
 refine (SL.out _).mono ?_;rintro e v5 ⟨rfl,hb⟩
 replace H:=H.below hb;clear hb;replace F:=H.f;dsimp only [Fac] at F
 go_wp2_with fail
 replace H:=H.cut 6;dsimp only [List.take] at H
 clear F
 go_loopw [20] (fun k wr => ∃ n:Int,-1≤n∧n≤14∧k = .int .i64 n∧Hold w wr [(w.heap.size,0,.float .f64 (x0)),(w.heap.size,1,.float .f64 (x1)),(w.heap.size,2,.int .i64 (a4)),(w.heap.size+1,0,.float .f64 (x2)),(w.heap.size+1,1,.float .f64 (x3)),(w.heap.size+1,2,.int .i64 (a5))]) (fun k _=>(14-intOf k).toNat)
 case atStart=>exact ⟨-1,by omega,by omega,rfl,H⟩
 case round =>
  clear H
  obtain ⟨n,hn1,hn2,rfl,H⟩:=hrel
  have F:=H.f;dsimp only [Fac] at F
  by_cases hlt:n<14
  ·by_cases h0:n<0
   ·go_wp2_with fail
    refine (AP.out _ _).mono ?_;rintro e wp ⟨rfl,hb⟩
    replace H:=H.below hb;clear hb;replace F:=H.f;dsimp only [Fac] at F
    go_wp2_with fail
    have n1:=H.lt;dsimp only [Lts] at n1
    refine (H.new3 _ _ _ _).goc ?_;clear H F;intro wq H;dsimp only [add] at H;have F:=H.f;dsimp only [Fac] at F
    refine (RP.out _ _).mono ?_;rintro e wr2 ⟨rfl,hb⟩
    replace H:=H.below hb;clear hb;replace F:=H.f;dsimp only [Fac] at F
    go_wp2_with fail
    have n2:=H.lt;dsimp only [Lts] at n2
    refine (H.new3 _ _ _ _).goc ?_;clear H F;intro ws H;dsimp only [add] at H;have F:=H.f;dsimp only [Fac] at F
    refine (AL.out _ _).mono ?_;rintro e wz ⟨rfl,hb⟩
    replace H:=H.below hb;clear hb;replace F:=H.f;dsimp only [Fac] at F
    go_wp2_with fail
    go_roundw
    case rel=>exact ⟨n+1,by omega,by omega,rfl,H.cut 6⟩
    case measure=>simp [intOf];omega
   ·go_wp2_with fail
    refine (AP.out _ _).mono ?_;rintro e wp ⟨rfl,hb⟩
    replace H:=H.below hb;clear hb;replace F:=H.f;dsimp only [Fac] at F
    go_wp2_with fail
    have n1:=H.lt;dsimp only [Lts] at n1
    refine (H.new3 _ _ _ _).goc ?_;clear H F;intro wq H;dsimp only [add] at H;have F:=H.f;dsimp only [Fac] at F
    refine (RP.out _ _).mono ?_;rintro e wr2 ⟨rfl,hb⟩
    replace H:=H.below hb;clear hb;replace F:=H.f;dsimp only [Fac] at F
    go_wp2_with fail
    have n2:=H.lt;dsimp only [Lts] at n2
    refine (H.new3 _ _ _ _).goc ?_;clear H F;intro ws H;dsimp only [add] at H;have F:=H.f;dsimp only [Fac] at F
    refine (AL.out _ _).mono ?_;rintro e wz ⟨rfl,hb⟩
    replace H:=H.below hb;clear hb;replace F:=H.f;dsimp only [Fac] at F
    go_wp2_with fail
    go_roundw
    case rel=>exact ⟨n+1,by omega,by omega,rfl,H.cut 6⟩
    case measure=>simp [intOf];omega
  ·go_wp2_with fail
   go_ret
   exact ⟨rfl,H.B⟩
end Go.Proofs.YteephgpefhodnaaGreat.decorates
