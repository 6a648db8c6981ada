/- The walk of Evals. -/
import Derived.Test.YteephgpefhodnaaGreatV9
import Derived.Test.YteephgpefhodnaaGreatV6
import Derived.ProofKit
import Derived.OpenShut
namespace Go.Proofs.YteephgpefhodnaaGreat.evals
open Go.RowKit Go.Sort Go.Fl Go.ChangeShapes Go.WideShapes Go.ChangeAt Go.Deep
set_option linter.unusedSimpArgs false
set_option linter.unusedVariables false
theorem own_slice {α:Type} {f:α→List Value} {T:TypeId} {base:Nat} {w:World} {v:Value} {β:Type} {l:List β} {t:β→α} (h:Own f T base w v (l.map t)) : ∃ s c,v = .slice s l.length c:=by
 rcases h.cases with ⟨rfl,e⟩|⟨g,cap,rfl,_⟩
 ·rw [List.map_eq_nil_iff] at e;subst e;exact ⟨_,_,rfl⟩
 ·rw [List.length_map];exact ⟨_,_,rfl⟩
theorem own_at {α:Type} {f:α→List Value} {T:TypeId} {base:Nat} {w:World} {s:Option Addr} {n c:Nat} {β:Type} {l:List β} {t:β→α} (hf : ∀ x,(f x).length=3) (zb:β) (h:Own f T base w (.slice s n c) (l.map t)) (j:Nat) (hj:j<l.length) :
  ∃ g,s=some ⟨g,0,none⟩∧g<w.heap.size ∧ ∀ k,k<3→w.cell? ⟨g,j*3+k,none⟩=(f (t (l.getD j zb)))[k]? := by
 have hj':j<(l.map t).length:=by rw [List.length_map];exact hj
 rcases h.cases with ⟨_,e⟩|⟨g,cap,e,_,_,_,hg⟩
 ·rw [e] at hj';exact absurd hj' (Nat.not_lt_zero _)
 ·cases e
  refine ⟨g,rfl,hg,fun k hk => ?_⟩
  rw [Own.cell h hf (t zb) j k hj' hk]
  rw [List.getD_eq_getElem?_getD,List.getElem?_map,List.getD_eq_getElem?_getD,List.getElem?_eq_getElem hj]
  rfl
theorem ev_zero {l:List St} {b:List De} (h:(evD l b).2≠0):(evD l b).1=zeroD:=by
 unfold evD at h ⊢
 split
 ·rfl
 ·rename_i h1
  rw [if_neg h1] at h
  split
  ·rfl
  ·rename_i h2
   rw [if_neg h2] at h
   split
   ·rename_i x hx
    rw [hx] at h;exact absurd rfl h
   ·rfl
set_option maxRecDepth 4000 in
theorem over0 (a b:Option Addr) (n m c d:Nat) (w:World) (h:65536<(n:Int)):Calls Tryz.prog 10 #[.slice a n c,.slice b m d] w fun e w'=>e = .returned (.bool true)∧Below w.heap.size w w':=by
 go_enter Tryz.func10,Tryz.ntmps10
 go_wp2_with fail
 go_ret
 exact ⟨rfl,Below.refl _ _⟩
set_option maxRecDepth 4000 in
theorem over1 (a b:Option Addr) (n m c d:Nat) (w:World) (h:(n:Int)≤65536) (h1:65536<(m:Int)):Calls Tryz.prog 10 #[.slice a n c,.slice b m d] w fun e w'=>e = .returned (.bool true)∧Below w.heap.size w w':=by
 go_enter Tryz.func10,Tryz.ntmps10
 go_wp2_with fail
 go_ret
 exact ⟨rfl,Below.refl _ _⟩
set_option maxRecDepth 4000 in
set_option maxHeartbeats 2000000 in
theorem main (l b:List Raw) (w:World) (al ab:Option Addr) (cl cb:Nat) (wl : ∀ x∈l,(Lit.int .u64 x.2.2).wf=true) (wb : ∀ x∈b,(Lit.int .u64 x.1).wf=true∧(Lit.int .u64 x.2.1).wf=true) (hl:(l.length:Int)≤65536) (hb:(b.length:Int)≤65536)
  (A0:Arg (cR .i64 .i64 .u64) w (.slice al l.length cl) l) (A1:Arg (cR .u64 .u64 .i64) w (.slice ab b.length cb) b) :
  Calls Tryz.prog 10 #[.slice al l.length cl,.slice ab b.length cb] w fun e w'=>e = .returned (.bool true)∧Below w.heap.size w w':=by
 have ws : ∀ s∈l.map toS,Wd s.2.2:=by
  intro s hs;obtain ⟨x,hx,rfl⟩:=List.mem_map.1 hs;exact wd_of (wl x hx)
 have wd : ∀ s∈b.map toD,WdD s:=by
  intro s hs;obtain ⟨x,hx,rfl⟩:=List.mem_map.1 hs;exact ⟨wd_of (wb x hx).1,wd_of (wb x hx).2⟩
 clear wl wb
 have SE:=fun vs vb w h1 h2=>spanseval_any (l.map toS) (b.map toD) vs vb w h1 h2 ws wd
 have RE:=fun vs vb w h1 h2=>refeval_any (l.map toS) (b.map toD) vs vb w h1 h2 ws wd
 have OK:=evD_ok (l.map toS) (b.map toD)
 have ZR:=ev_zero (l:=l.map toS) (b:=b.map toD)
 clear ws wd
 generalize evD (l.map toS) (b.map toD)=r at *
 obtain ⟨⟨p,q,z⟩,er⟩:=r
 obtain ⟨ka,kb,ra,rb,e1,e2⟩:=OK
 dsimp only at e1 e2 SE RE ZR
 subst e1 e2
 have CS:er=0∨((er != 0)=true∧ka=0∧kb=0∧z=0):=by
  by_cases h:er=0
  ·exact .inl h
  ·have t:=ZR h
   simp only [zeroD,Prod.mk.injEq] at t
   exact .inr ⟨by simp [h],ofKey_inj ra Rg_zero (t.1.trans zero_ofKey),ofKey_inj rb Rg_zero (t.2.1.trans zero_ofKey),t.2.2⟩
 clear ZR
 have SL:=Lib.hid (fun w=>samely_refl ka kb z ra rb w)
 have OF:=Lib.hid lawof_any
 have SA:=Lib.hid (fun w' (hB:Below w.heap.size w w')=>lawsteps_any l _ w' (A0.grown hB) (by omega))
 have BA:=Lib.hid (fun w' (hB:Below w.heap.size w w')=>lawbox_any b _ w' (A1.grown hB) (by omega))
 replace SE:=Lib.hid SE;replace RE:=Lib.hid RE
 replace A0:=Lib.hid A0;replace A1:=Lib.hid A1
 go_enter Tryz.func10,Tryz.ntmps10
 go_wp2_with fail
 refine (SA.out _ (Below.refl _ _)).mono ?_;rintro e w1 ⟨sv,rfl,O1,B1⟩
 obtain ⟨sb,sc,rfl⟩:=own_slice O1
 replace O1:=Lib.hid O1;replace B1:=Lib.hid B1
 go_wp2_with fail
 refine (BA.out _ B1.out).mono ?_;rintro e w2 ⟨xv,rfl,O2,B2⟩
 obtain ⟨xb,xc,rfl⟩:=own_slice O2
 replace O1:=Lib.hid (O1.out.grown B2)
 replace O2:=Lib.hid (O2.low B1.out.size)
 replace B2:=Lib.hid (B1.out.trans (B2.mono B1.out.size))
 clear B1
 go_wp2_with fail
 refine (SE.out _ _ _ (O1.out.low (Nat.zero_le _)) (O2.out.low (Nat.zero_le _))).mono ?_;rintro e w3 ⟨rfl,B3⟩
 replace O1:=Lib.hid (O1.out.grown B3)
 replace O2:=Lib.hid (O2.out.grown B3)
 replace B3:=Lib.hid (B2.out.trans (B3.mono B2.out.size))
 clear B2
 go_wp2_with fail
 refine ((Hold.st w3).new3 _ _ _ _).goc ?_;intro w4 H;dsimp only [add] at H
 have B4:=Lib.hid (B3.out.trans (H.B.mono B3.out.size))
 refine (SA.out _ B4.out).mono ?_;rintro e w5 ⟨sv2,rfl,P1,B5⟩
 obtain ⟨sb2,sc2,rfl⟩:=own_slice P1
 replace H:=H.below B5
 replace B5:=Lib.hid (B4.out.trans (B5.mono B4.out.size))
 replace P1:=Lib.hid P1
 clear B4
 go_wp2_with fail
 refine (BA.out _ B5.out).mono ?_;rintro e w6 ⟨xv2,rfl,P2,B6⟩
 obtain ⟨xb2,xc2,rfl⟩:=own_slice P2
 replace H:=H.below B6
 replace P1:=Lib.hid (P1.out.grown B6)
 replace P2:=Lib.hid P2
 clear B6 B5
 go_wp2_with fail
 refine (RE.out _ _ _ (P1.out.low (Nat.zero_le _)) (P2.out.low (Nat.zero_le _))).mono ?_;rintro e w7 ⟨rfl,B7⟩
 replace H:=H.below B7;clear B7 P1 P2
 have F:=H.f;dsimp only [Fac] at F
 go_wp2_with fail
 have n1:=H.lt;dsimp only [Lts] at n1
 refine (H.new3 _ _ _ _).goc ?_;clear H F;intro w8 H;dsimp only [add] at H;have F:=H.f;dsimp only [Fac] at F
 refine (SL.out _).mono ?_;rintro e w9 ⟨rfl,hb9⟩
 replace H:=H.below hb9;clear hb9;replace F:=H.f;dsimp only [Fac] at F
 replace O1:=Lib.hid (O1.out.grown H.B)
 replace O2:=Lib.hid (O2.out.grown H.B)
 have B9:=Lib.hid (B3.out.trans (H.B.mono B3.out.size))
 clear SA BA SE RE SL B3
 rcases CS with rfl|⟨h0,rfl,rfl,rfl⟩
 all_goals
  go_wp2_with fail
  clear H F
  try clear n1
  go_loopw [11,12] (fun y i wr => ∃ n:Nat,y = .bool true∧i = .int .i64 (n:Int)∧n≤l.length∧Hid (Below w9.heap.size w9 wr)) (fun _ i _=>l.length-(intOf i).toNat)
  case atStart=>exact ⟨0,rfl,rfl,Nat.zero_le _,Lib.hid (Below.refl _ _)⟩
  case round =>
   obtain ⟨n,rfl,rfl,hn,hB⟩:=hrel
   by_cases hlt:n<l.length
   ·obtain ⟨g,rfl,hg,cs⟩:=own_at cS_len zeroR O1.out n hlt
    obtain ⟨a',cap',e,hA⟩:=A0.out
    cases e
    obtain ⟨g',off,rfl,hg',ca⟩:=hA n hlt
    obtain ⟨x,hx⟩ : ∃ x,x=l.getD n zeroR:=⟨_,rfl⟩
    have c0:=(hB.out.cell (p:=⟨g,n*3+0,none⟩) hg).trans ((cs 0 (by decide)).trans (by rw [←hx];rfl:_=some (.int .i64 x.1)))
    have d0:=((B9.out.trans (hB.out.mono B9.out.size)).cell (p:=⟨g',off+n*3,none⟩) hg').trans ((ca 0 (by decide)).trans (by rw [←hx];rfl:_=some (.int .i64 x.1)))
    have c1:=(hB.out.cell (p:=⟨g,n*3+1,none⟩) hg).trans ((cs 1 (by decide)).trans (by rw [←hx];rfl:_=some (.int .i64 x.2.1)))
    have d1:=((B9.out.trans (hB.out.mono B9.out.size)).cell (p:=⟨g',off+n*3+1,none⟩) hg').trans ((ca 1 (by decide)).trans (by rw [←hx];rfl:_=some (.int .i64 x.2.1)))
    have c2:=(hB.out.cell (p:=⟨g,n*3+2,none⟩) hg).trans ((cs 2 (by decide)).trans (by rw [←hx];rfl:_=some (.float .f64 x.2.2.toNat)))
    have d2:=((B9.out.trans (hB.out.mono B9.out.size)).cell (p:=⟨g',off+n*3+2,none⟩) hg').trans ((ca 2 (by decide)).trans (by rw [←hx];rfl:_=some (.int .u64 x.2.2)))
    rw [Nat.add_zero] at c0
    clear cs ca hA hx
    have hni:(n:Int)<(l.length:Int):=by omega
    go_wp2_with fail
    go_region_held3 (fun w'=>w'.cell? ⟨g,n*3,none⟩=some (.int .i64 x.1)∧w'.cell? ⟨g,n*3+1,none⟩=some (.int .i64 x.2.1)∧w'.cell? ⟨g,n*3+2,none⟩=some (.float .f64 x.2.2.toNat)∧w'.cell? ⟨g',off+n*3,none⟩=some (.int .i64 x.1)∧w'.cell? ⟨g',off+n*3+1,none⟩=some (.int .i64 x.2.1)∧w'.cell? ⟨g',off+n*3+2,none⟩=some (.int .u64 x.2.2)) (first|with_reducible exact ⟨c0,c1,c2,d0,d1,d2⟩|go_keep) (first|(go_at_call 11;refine (OF.out _ _).mono ?_;rintro e w' ⟨rfl,rfl⟩)|(go_at_call 16;refine (same_refl _ _).mono ?_;rintro e w' ⟨rfl,rfl⟩))
    go_wp2_with fail
    go_region_held3 (fun w'=>w'.cell? ⟨g,n*3,none⟩=some (.int .i64 x.1)∧w'.cell? ⟨g,n*3+1,none⟩=some (.int .i64 x.2.1)∧w'.cell? ⟨g,n*3+2,none⟩=some (.float .f64 x.2.2.toNat)∧w'.cell? ⟨g',off+n*3,none⟩=some (.int .i64 x.1)∧w'.cell? ⟨g',off+n*3+1,none⟩=some (.int .i64 x.2.1)∧w'.cell? ⟨g',off+n*3+2,none⟩=some (.int .u64 x.2.2)) (first|with_reducible exact ⟨c0,c1,c2,d0,d1,d2⟩|go_keep) (first|(go_at_call 11;refine (OF.out _ _).mono ?_;rintro e w' ⟨rfl,rfl⟩)|(go_at_call 16;refine (same_refl _ _).mono ?_;rintro e w' ⟨rfl,rfl⟩))
    go_wp2_with fail
    all_goals
     go_roundw
     case rel=>exact ⟨n+1,rfl,by go_num,hlt,Lib.hid (by repeat (first|exact hB.out|refine Below.drew ?_))⟩
     case measure=>simp [intOf];omega
   ·have hni : ¬(n:Int)<(l.length:Int):=by omega
    go_wp2_with fail
    go_loopw [11,14] (fun y i wr => ∃ n:Nat,y = .bool true∧i = .int .i64 (n:Int)∧n≤b.length∧Hid (Below w9.heap.size w9 wr)) (fun _ i _=>b.length-(intOf i).toNat)
    case atStart=>exact ⟨0,rfl,rfl,Nat.zero_le _,Lib.hid hB.out⟩
    case round =>
     obtain ⟨n,rfl,rfl,hn,hB⟩:=hrel
     by_cases hlt:n<b.length
     ·obtain ⟨g,rfl,hg,cs⟩:=own_at cD_len zeroR O2.out n hlt
      obtain ⟨a',cap',e,hA⟩:=A1.out
      cases e
      obtain ⟨g',off,rfl,hg',ca⟩:=hA n hlt
      obtain ⟨x,hx⟩ : ∃ x,x=b.getD n zeroR:=⟨_,rfl⟩
      have c0:=(hB.out.cell (p:=⟨g,n*3+0,none⟩) hg).trans ((cs 0 (by decide)).trans (by rw [←hx];rfl:_=some (.float .f64 x.1.toNat)))
      have d0:=((B9.out.trans (hB.out.mono B9.out.size)).cell (p:=⟨g',off+n*3,none⟩) hg').trans ((ca 0 (by decide)).trans (by rw [←hx];rfl:_=some (.int .u64 x.1)))
      have c1:=(hB.out.cell (p:=⟨g,n*3+1,none⟩) hg).trans ((cs 1 (by decide)).trans (by rw [←hx];rfl:_=some (.float .f64 x.2.1.toNat)))
      have d1:=((B9.out.trans (hB.out.mono B9.out.size)).cell (p:=⟨g',off+n*3+1,none⟩) hg').trans ((ca 1 (by decide)).trans (by rw [←hx];rfl:_=some (.int .u64 x.2.1)))
      have c2:=(hB.out.cell (p:=⟨g,n*3+2,none⟩) hg).trans ((cs 2 (by decide)).trans (by rw [←hx];rfl:_=some (.int .i64 x.2.2)))
      have d2:=((B9.out.trans (hB.out.mono B9.out.size)).cell (p:=⟨g',off+n*3+2,none⟩) hg').trans ((ca 2 (by decide)).trans (by rw [←hx];rfl:_=some (.int .i64 x.2.2)))
      rw [Nat.add_zero] at c0
      clear cs ca hA hx
      have hni:(n:Int)<(b.length:Int):=by omega
      go_wp2_with fail
      go_region_held3 (fun w'=>w'.cell? ⟨g,n*3,none⟩=some (.float .f64 x.1.toNat)∧w'.cell? ⟨g,n*3+1,none⟩=some (.float .f64 x.2.1.toNat)∧w'.cell? ⟨g,n*3+2,none⟩=some (.int .i64 x.2.2)∧w'.cell? ⟨g',off+n*3,none⟩=some (.int .u64 x.1)∧w'.cell? ⟨g',off+n*3+1,none⟩=some (.int .u64 x.2.1)∧w'.cell? ⟨g',off+n*3+2,none⟩=some (.int .i64 x.2.2)) (first|with_reducible exact ⟨c0,c1,c2,d0,d1,d2⟩|go_keep) (first|(go_at_call 11;refine (OF.out _ _).mono ?_;rintro e w' ⟨rfl,rfl⟩)|(go_at_call 16;refine (same_refl _ _).mono ?_;rintro e w' ⟨rfl,rfl⟩))
      go_wp2_with fail
      go_region_held3 (fun w'=>w'.cell? ⟨g,n*3,none⟩=some (.float .f64 x.1.toNat)∧w'.cell? ⟨g,n*3+1,none⟩=some (.float .f64 x.2.1.toNat)∧w'.cell? ⟨g,n*3+2,none⟩=some (.int .i64 x.2.2)∧w'.cell? ⟨g',off+n*3,none⟩=some (.int .u64 x.1)∧w'.cell? ⟨g',off+n*3+1,none⟩=some (.int .u64 x.2.1)∧w'.cell? ⟨g',off+n*3+2,none⟩=some (.int .i64 x.2.2)) (first|with_reducible exact ⟨c0,c1,c2,d0,d1,d2⟩|go_keep) (first|(go_at_call 11;refine (OF.out _ _).mono ?_;rintro e w' ⟨rfl,rfl⟩)|(go_at_call 16;refine (same_refl _ _).mono ?_;rintro e w' ⟨rfl,rfl⟩))
      go_wp2_with fail
      go_region_held3 (fun w'=>w'.cell? ⟨g,n*3,none⟩=some (.float .f64 x.1.toNat)∧w'.cell? ⟨g,n*3+1,none⟩=some (.float .f64 x.2.1.toNat)∧w'.cell? ⟨g,n*3+2,none⟩=some (.int .i64 x.2.2)∧w'.cell? ⟨g',off+n*3,none⟩=some (.int .u64 x.1)∧w'.cell? ⟨g',off+n*3+1,none⟩=some (.int .u64 x.2.1)∧w'.cell? ⟨g',off+n*3+2,none⟩=some (.int .i64 x.2.2)) (first|with_reducible exact ⟨c0,c1,c2,d0,d1,d2⟩|go_keep) (first|(go_at_call 11;refine (OF.out _ _).mono ?_;rintro e w' ⟨rfl,rfl⟩)|(go_at_call 16;refine (same_refl _ _).mono ?_;rintro e w' ⟨rfl,rfl⟩))
      go_wp2_with fail
      all_goals
       go_roundw
       case rel=>exact ⟨n+1,rfl,by go_num,hlt,Lib.hid (by repeat (first|exact hB.out|refine Below.drew ?_))⟩
       case measure=>simp [intOf];omega
     ·have hni : ¬(n:Int)<(b.length:Int):=by omega
      go_wp2_with fail
      go_ret
      exact ⟨rfl,B9.out.trans (hB.out.mono B9.out.size)⟩
theorem walk (l:List Raw) (v0:Value) (b:List Raw) (v1:Value) (wl : ∀ x∈l,(Lit.int .i64 x.1).wf=true∧(Lit.int .i64 x.2.1).wf=true∧(Lit.int .u64 x.2.2).wf=true) (wb : ∀ x∈b,(Lit.int .u64 x.1).wf=true∧(Lit.int .u64 x.2.1).wf=true∧(Lit.int .i64 x.2.2).wf=true) (w:World)
  (A0:Arg (cR .i64 .i64 .u64) w v0 l) (A1:Arg (cR .u64 .u64 .i64) w v1 b) :
  Calls Tryz.prog 10 #[v0,v1] w fun e w'=>e = .returned (.bool true)∧Below w.heap.size w w':=by
 have k0:=A0
 have k1:=A1
 obtain ⟨a,ca,rfl,_⟩:=k0
 obtain ⟨c,cc,rfl,_⟩:=k1
 by_cases h0:65536<(l.length:Int)
 ·exact over0 a c _ _ ca cc w h0
 by_cases h1:65536<(b.length:Int)
 ·exact over1 a c _ _ ca cc w (by omega) h1
 exact main l b w a c ca cc (fun x hx=>(wl x hx).2.2) (fun x hx=>⟨(wb x hx).1,(wb x hx).2.1⟩) (by omega) (by omega) A0 A1
end Go.Proofs.YteephgpefhodnaaGreat.evals
