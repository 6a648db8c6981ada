/- The document's Eval. -/
import Derived.Test.YteephgpefhodnaaGreatV4
import Derived.Test.YteephgpefhodnaaGreatV5
import Derived.Test.YteephgpefhodnaaGreatE3
namespace Go.Proofs.YteephgpefhodnaaGreat
open Go.RowKit Go.Sort Go.Fl
set_option linter.unusedSimpArgs false
set_option linter.unusedVariables false
theorem badB_take {b:List De} {k:Nat} (h:badB (b.take k)=true):badB b=true:=by
 unfold badB at *
 rw [List.any_eq_true] at *
 obtain ⟨x,hx,e⟩:=h
 exact ⟨x,List.mem_of_mem_take hx,e⟩
theorem wpGo {P:Program} {c:Code} {Q:Exit→Act→World→Prop} {a:Act} {W:World} {p:World→Prop} (h:p W) (k : ∀ x,p x→c.wp P Q a x):c.wp P Q a W:=k W h
theorem own_snoc2 {w:World} {base m:Nat} {v:Value} {st:List De} {d:De} (hl:(st.take m).length=m) (h:w.ownsRow base 49 3 v (m+1) ((st.take m).flatMap cD++cD d)):Own cD 49 base w v (st.take m++[d]):=by
 rw [show m+1=(st.take m).length+1 by rw [hl]] at h
 exact own_snoc h
theorem own_take2 {w:World} {base m n c g:Nat} {st:List De} (h:Own cD 49 base w (.slice (some ⟨g,0,none⟩) n c) st) (hm:m≤st.length):w.ownsRow base 49 3 (.slice (some ⟨g,0,none⟩) m c) m ((st.take m).flatMap cD):=by
 have:=Own.take cD_len h m hm
 unfold Own at this
 rwa [List.length_take,Nat.min_eq_left hm] at this
theorem grow_hold {w W w3:World} {r:Option Nat} {y0 y1 y2:Value} (H:Hold w W [(w.heap.size,0,y0),(w.heap.size,1,y1),(w.heap.size,2,y2)]) (hg:W.grownBy w3 r) (hr : ∀ k,r=some k→w.heap.size+1≤k):Hold w w3 [(w.heap.size,0,y0),(w.heap.size,1,y1),(w.heap.size,2,y2)] :=
 ⟨H.B.grown hg H.B.size (fun k e=>by have:=hr k e;omega),fun t m=>at_heap (H.c t m) (hg.block _ (H.c t m).lt (fun e=>by
  have:=hr _ e.symm
  simp only [List.mem_cons,List.not_mem_nil,or_false] at m
  rcases m with rfl|rfl|rfl<;>(simp only at this;omega))),H.s,H.n⟩
theorem re_box (l:List St) (b:List De) (bs bb:Option Addr) (cs cb:Nat) (w:World) (hs:Own cS 61 0 w (.slice bs l.length cs) l) (hb:Own cD 49 0 w (.slice bb b.length cb) b) (h4:4<b.length) :
  Calls Tryz.prog 38 #[.slice bs l.length cs,.slice bb b.length cb] w fun e w'=>e = .returned (.tuple #[.agg #[.float .f64 ((evD l b).1.1),.float .f64 ((evD l b).1.2.1),.int .i64 ((evD l b).1.2.2)],.int .i64 (evD l b).2])∧Below w.heap.size w w':=by
 have h4':4<(b.length:Int):=by omega
 rw [evD_box h4]
 go_enter Tryz.func38,Tryz.ntmps38
 go_wp2_with fail
 refine bodyPost_ret (v := .tuple #[.agg #[.float .f64 (0),.float .f64 (0),.int .i64 (0)],.int .i64 1]) (by simp [results,Tryz.results38,go_sem]) rfl ⟨rfl,?_⟩
 go_grown
theorem re_not (l:List St) (b:List De) (bs bb:Option Addr) (cs cb:Nat) (w:World) (hs:Own cS 61 0 w (.slice bs l.length cs) l) (hb:Own cD 49 0 w (.slice bb b.length cb) b) (h4:b.length≤4) (hp:progB l b.length=false) :
  Calls Tryz.prog 38 #[.slice bs l.length cs,.slice bb b.length cb] w fun e w'=>e = .returned (.tuple #[.agg #[.float .f64 ((evD l b).1.1),.float .f64 ((evD l b).1.2.1),.int .i64 ((evD l b).1.2.2)],.int .i64 (evD l b).2])∧Below w.heap.size w w':=by
 have h4':(b.length:Int)≤4:=by omega
 have PR:=fun w1 hb1=>refprog_any l (.slice bs l.length cs) b.length w1 (hs.grown hb1) h4
 rw [prog_not (by omega) hp]
 rw [hp] at PR
 replace PR:=Lib.hid PR
 clear hs hb hp h4
 have H0:=Hold.st w
 go_enter Tryz.func38,Tryz.ntmps38
 go_wp2_with fail
 refine (PR.out _ (by go_grown)).mono ?_;rintro e w1 ⟨rfl,hb1⟩
 have H:=(H0.new3 (.float .f64 0) (.float .f64 0) (.int .i64 0) 49).below hb1
 dsimp only [add] at H
 have F:=H.f;dsimp only [Fac] at F
 clear hb1
 go_wp2_with fail
 refine (((H.set 0 (.float .f64 0)).set 1 (.float .f64 0)).set 2 (.int .i64 0)).gob ?_;clear H F;intro wz H;dsimp only [upd] at H;have F:=H.f;dsimp only [Fac] at F
 refine bodyPost_ret (v := .tuple #[.agg #[.float .f64 (0),.float .f64 (0),.int .i64 (0)],.int .i64 2]) (by simp [results,Tryz.results38,go_sem,F]) rfl ⟨rfl,?_⟩
 exact H.B
set_option maxRecDepth 4000 in
set_option maxHeartbeats 4000000 in
theorem re_main (l:List St) (b:List De) (bs bb:Option Addr) (cs cb:Nat) (w:World) (hs:Own cS 61 0 w (.slice bs l.length cs) l) (hb:Own cD 49 0 w (.slice bb b.length cb) b) (h4:(b.length:Int)≤4) (hp:progB l b.length=true) (ws : ∀ s∈l,Wd s.2.2) (wb : ∀ x∈b,WdD x) :
  Calls Tryz.prog 38 #[.slice bs l.length cs,.slice bb b.length cb] w fun e w'=>e = .returned (.tuple #[.agg #[.float .f64 ((evD l b).1.1),.float .f64 ((evD l b).1.2.1),.int .i64 ((evD l b).1.2.2)],.int .i64 (evD l b).2])∧Below w.heap.size w w':=by
 obtain ⟨i0,hi,hz0,hz1,hz2⟩:=info_of info_D
 have PR:=fun w1 hb1=>refprog_any l (.slice bs l.length cs) b.length w1 (hs.grown hb1) (by omega)
 rw [hp] at PR
 obtain ⟨stF,hrun,hF1⟩:=prog_run hp
 have h24:l.length≤24:=(of_decide_eq_true hp).2.1
 replace hi:=Lib.hid hi;replace hz0:=Lib.hid hz0;replace hz1:=Lib.hid hz1;replace hz2:=Lib.hid hz2
 replace hs:=Lib.hid hs;replace hb:=Lib.hid hb;replace ws:=Lib.hid ws;replace wb:=Lib.hid wb
 replace PR:=Lib.hid PR;replace hrun:=Lib.hid hrun;replace hF1:=Lib.hid hF1
 clear hp
 have H0:=Hold.st w
 go_enter Tryz.func38,Tryz.ntmps38
 go_wp2_with fail
 refine (PR.out _ (by go_grown)).mono ?_;rintro e w1 ⟨rfl,hb1⟩
 have H:=(H0.new3 (.float .f64 0) (.float .f64 0) (.int .i64 0) 49).below hb1
 dsimp only [add] at H
 clear hb1 H0
 go_wp2_with fail
 go_loopw [7] (fun i wr => ∃ (k:Nat),i = .int .i64 (k:Int)∧k≤b.length∧badB (b.take k)=false∧Hold w wr [(w.heap.size,0,.float .f64 0),(w.heap.size,1,.float .f64 0),(w.heap.size,2,.int .i64 0)]) (fun i _=>b.length-(intOf i).toNat)
 case atStart=>exact ⟨0,rfl,Nat.zero_le _,rfl,H⟩
 case round =>
  clear H
  obtain ⟨k,rfl,hk,hbd,H⟩:=hrel
  have F:=H.f;dsimp only [Fac] at F
  replace hbd:=Lib.hid hbd
  by_cases hlt:k<b.length
  ·obtain ⟨x,hx⟩ : ∃ x,x=b.getD k zeroD:=⟨_,rfl⟩
   obtain ⟨g,hg,e⟩ : ∃ g,g<w.heap.size∧bb=some ⟨g,0,none⟩:=by
    rcases hb.out.cases with ⟨_,e2⟩|⟨g,cap,e,_,_,_,hg⟩
    ·rw [e2] at hlt;simp at hlt
    ·cases e;exact ⟨g,hg,rfl⟩
   subst e
   have c0:=RowKit.Below.cells H.B ((hb.out.cell cD_len zeroD k 0 hlt (by decide)).trans (by rw [←hx];rfl:_=some (.float .f64 x.1)))
   have c1:=RowKit.Below.cells H.B ((hb.out.cell cD_len zeroD k 1 hlt (by decide)).trans (by rw [←hx];rfl:_=some (.float .f64 x.2.1)))
   have c2:=RowKit.Below.cells H.B ((hb.out.cell cD_len zeroD k 2 hlt (by decide)).trans (by rw [←hx];rfl:_=some (.int .i64 x.2.2)))
   rw [Nat.add_zero] at c0
   have wx:WdD x:=wb.out x (by rw [hx,List.getD_eq_getElem?_getD,List.getElem?_eq_getElem hlt];exact List.getElem_mem hlt)
   have OF:=Lib.hid (fun w=>refdecorate_any x.1 x.2.1 x.2.2 wx.1 wx.2 w)
   replace hx:=Lib.hid hx
   have hki:(k:Int)<(b.length:Int):=by omega
   have hgq : ¬g=wr.heap.size:=by have:=H.B.size;omega
   have hqg : ¬wr.heap.size=g:=fun e=>hgq e.symm
   have ho:=Lib.hid (own_nil cD 49 (w.heap.size+1) wr)
   have hne : ∀ g,(Value.slice none 0 0).ownBlock=some g→g≠wr.heap.size:=fun g e=>by cases e
   go_wp2_with fail
   go_region_held3 (fun w'=>w'.cell? ⟨g,k*3,none⟩=some (.float .f64 x.1)∧w'.cell? ⟨g,k*3+1,none⟩=some (.float .f64 x.2.1)∧w'.cell? ⟨g,k*3+2,none⟩=some (.int .i64 x.2.2)) (first|exact ⟨c0,c1,c2⟩|exact ⟨dc0,dc1,dc2⟩|go_keep) (first|(go_at_call 31;refine (OF.out _).mono ?_;rintro e w2 ⟨rfl,hb2⟩;have dc0:=RowKit.Below.cells hb2 (b:=g) (o:=k*3) (v := .float .f64 x.1) (by first|exact c0|simp [c0,World.cell?_alloc_some]);have dc1:=RowKit.Below.cells hb2 (b:=g) (o:=k*3+1) (v := .float .f64 x.2.1) (by first|exact c1|simp [c1,World.cell?_alloc_some]);have dc2:=RowKit.Below.cells hb2 (b:=g) (o:=k*3+2) (v := .int .i64 x.2.2) (by first|exact c2|simp [c2,World.cell?_alloc_some]);(first|(refine keepThat (RowKit.Below.cells hb2 (b:=wr.heap.size) (o:=0) (v := .float .f64 0) ?_) ?_;simp [go_sem];intro z0;refine keepThat (RowKit.Below.cells hb2 (b:=wr.heap.size) (o:=1) (v := .float .f64 0) ?_) ?_;simp [go_sem];intro z1;refine keepThat (RowKit.Below.cells hb2 (b:=wr.heap.size) (o:=2) (v := .int .i64 0) ?_) ?_;simp [go_sem];intro z2;refine keepThat (RowKit.Below.froz hb2 (b:=wr.heap.size) (o:=0) (v := .float .f64 0) ?_ ?_) ?_;simp [go_sem];simp [go_sem];intro y0;refine keepThat (RowKit.Below.froz hb2 (b:=wr.heap.size) (o:=1) (v := .float .f64 0) ?_ ?_) ?_;simp [go_sem];simp [go_sem];intro y1;refine keepThat (RowKit.Below.froz hb2 (b:=wr.heap.size) (o:=2) (v := .int .i64 0) ?_ ?_) ?_;simp [go_sem];simp [go_sem];intro y2)|skip)))
   all_goals
    first
     | refine thenGo (p:=fun x_=>Hold w x_ [(w.heap.size,0,.float .f64 0),(w.heap.size,1,.float .f64 0),(w.heap.size,2,.int .i64 0),(w2.heap.size,0,.float .f64 (ofKey (dLo x.1 x.2.1 x.2.2))),(w2.heap.size,1,.float .f64 (ofKey (dHi x.1 x.2.1 x.2.2))),(w2.heap.size,2,.int .i64 (dD x.1 x.2.1 x.2.2))]∧Hid (Own cD 49 (w.heap.size+1) x_ (.slice none 0 0) [])) ⟨(H.drew.below hb2).new3 _ _ _ _,Lib.hid ((ho.out.drew.grown hb2).alloc _)⟩ ?_
     | refine thenGo (p:=fun x_=>Hold w x_ [(w.heap.size,0,.float .f64 0),(w.heap.size,1,.float .f64 0),(w.heap.size,2,.int .i64 0),(wr.heap.size,0,.float .f64 (ofKey (dLo x.1 x.2.1 x.2.2))),(wr.heap.size,1,.float .f64 (ofKey (dHi x.1 x.2.1 x.2.2))),(wr.heap.size,2,.int .i64 (dD x.1 x.2.1 x.2.2))]∧Hid (Own cD 49 (w.heap.size+1) x_ (.slice none 0 0) [])) ⟨((((H.new3 (.float .f64 0) (.float .f64 0) (.int .i64 0) 49).drew.below hb2).set 3 (.float .f64 (ofKey (dLo x.1 x.2.1 x.2.2)))).set 4 (.float .f64 (ofKey (dHi x.1 x.2.1 x.2.2)))).set 5 (.int .i64 (dD x.1 x.2.1 x.2.2)),Lib.hid (((((ho.out.alloc _).drew.grown hb2).set_ne hne _).set_ne hne _).set_ne hne _)⟩ ?_
    intro wz hwz
    obtain ⟨Hz,Oz⟩:=hwz
    have Fz:=Hz.f;dsimp only [Fac] at Fz
    clear H F hb2 c0 c1 c2
    try clear dc0 dc1 dc2
    try clear z0 z1 z2 y0 y1 y2
    by_cases hd:dD x.1 x.2.1 x.2.2=0
    ·have hbt:badB b=true:=badB_take (k:=k+1) (by rw [badB_step hlt,←hx.out,hbd.out,decide_eq_true hd];rfl)
     have he:evD l b=(illD,0):=by rw [evD_one (by omega) (by omega) hrun.out hF1.out,show b.any (fun y=>decide ((ofD y).2.2=0))=true from hbt];rfl
     have hil:ofD x=illD:=ofD_ill hd
     replace hil:=Lib.hid hil;replace he:=Lib.hid he
     have hd0:(dD x.1 x.2.1 x.2.2==0)=true:=by rw [beq_iff_eq];exact hd
     clear hd hbt
     go_wp2_with fail
     refine (((Hz.set 0 (.float .f64 (ofD x).1)).set 1 (.float .f64 (ofD x).2.1)).set 2 (.int .i64 (ofD x).2.2)).gob ?_;clear Hz Fz;intro wy H;rw [hil.out] at H;dsimp only [upd] at H;have F:=H.f;dsimp only [Fac] at F
     refine bodyPost_ret (v := .tuple #[.agg #[.float .f64 (illD.1),.float .f64 (illD.2.1),.int .i64 (illD.2.2)],.int .i64 0]) (by simp [results,Tryz.results38,go_sem,F]) rfl ⟨by rw [he.out],?_⟩
     exact H.B
    ·have hd0:(dD x.1 x.2.1 x.2.2==0)=false:=by rw [beq_eq_false_iff_ne];exact hd
     have hbd':=Lib.hid (by rw [badB_step hlt,←hx.out,hbd.out,decide_eq_false hd];rfl:badB (b.take (k+1))=false)
     clear hd
     go_wp2_with fail
     go_roundw
     case rel=>exact ⟨k+1,by go_num,by omega,hbd'.out,Hz.cut 3⟩
     case measure=>simp [intOf];omega
  ·have hkb:b.take k=b:=List.take_of_length_le (by omega)
   rw [hkb] at hbd
   go_wp2_with fail
   clear F hkb hlt
   go_loopw [9,10] (fun vi i wr => ∃ (n:Nat) (v:Value) (st:List De),i = .int .i64 (n:Int)∧v=vi∧n≤l.length∧runD (b.map ofD) (l.take n) []=some st∧Own cD 49 (w.heap.size+1) wr v st∧Hold w wr [(w.heap.size,0,.float .f64 0),(w.heap.size,1,.float .f64 0),(w.heap.size,2,.int .i64 0)]) (fun _ i _=>l.length-(intOf i).toNat)
   case atStart=>exact ⟨0,_,[],rfl,rfl,Nat.zero_le _,rfl,own_nil _ _ _ _,H⟩
   case round =>
    clear H
    obtain ⟨n,v,st,rfl,e,hn,hr,ho,H⟩:=hrel
    subst e
    have hf:=run_facts (ok_map b) hr okl_nil (by simp)
    have F:=H.f;dsimp only [Fac] at F
    replace hr:=Lib.hid hr
    obtain ⟨vb,vc,hv⟩ : ∃ vb vc,v = .slice vb st.length vc:=by
     rcases ho.cases with ⟨rfl,rfl⟩|⟨g,cap,rfl,_⟩
     ·exact ⟨_,_,rfl⟩
     ·exact ⟨_,_,rfl⟩
    subst hv
    replace ho:=Lib.hid ho
    by_cases hlt:n<l.length
    ·obtain ⟨s,hs'⟩ : ∃ s,s=l.getD n zeroS:=⟨_,rfl⟩
     obtain ⟨g,hg,e⟩ : ∃ g,g<w.heap.size∧bs=some ⟨g,0,none⟩:=by
      rcases hs.out.cases with ⟨_,e2⟩|⟨g,cap,e,_,_,_,hg⟩
      ·rw [e2] at hlt;simp at hlt
      ·cases e;exact ⟨g,hg,rfl⟩
     subst e
     have c0:=RowKit.Below.cells H.B ((hs.out.cell cS_len zeroS n 0 hlt (by decide)).trans (by rw [←hs'];rfl:_=some (.int .i64 s.1)))
     have c1:=RowKit.Below.cells H.B ((hs.out.cell cS_len zeroS n 1 hlt (by decide)).trans (by rw [←hs'];rfl:_=some (.int .i64 s.2.1)))
     have c2:=RowKit.Below.cells H.B ((hs.out.cell cS_len zeroS n 2 hlt (by decide)).trans (by rw [←hs'];rfl:_=some (.float .f64 s.2.2)))
     rw [Nat.add_zero] at c0
     have wx:Wd s.2.2:=ws.out s (by rw [hs',List.getD_eq_getElem?_getD,List.getElem?_eq_getElem hlt];exact List.getElem_mem hlt)
     have hnx:runD (b.map ofD) (l.take (n+1)) []=stepD (b.map ofD) s st:=by rw [runD_step _ _ _ _ hlt,hr.out,←hs'];rfl
     obtain ⟨st',hst⟩ : ∃ st',stepD (b.map ofD) s st=some st':=by
      cases hst:stepD (b.map ofD) s st with
      | none=>exact absurd (runD_none (hnx.trans hst)) (by rw [hrun.out];simp)
      | some st'=>exact ⟨st',rfl⟩
     replace hnx:=Lib.hid (hnx.trans hst)
     have hok:=step_facts hst (ok_map b) hf.1 hf.2
     have hni:(n:Int)<(l.length:Int):=by omega
     have hgw:g<wr.heap.size:=by have:=H.B.size;omega
     clear hs' hr
     obtain ⟨o,i,x⟩:=s
     dsimp only at c0 c1 c2 wx
     unfold stepD at hst
     dsimp only at hst
     rw [List.length_map] at hst
     have hww:=(H.c (w.heap.size,0,.float .f64 0) (by simp)).lt
     simp only at hww
     by_cases h12:o=12
     ·subst h12
      by_cases hfx:fin x
      ·rw [if_pos ⟨rfl,hfx⟩] at hst
       replace hst:=(put_facts hst hf.1 (ok_ofD _) hf.2).2.2
       replace hst:=Lib.hid hst
       have RD:=Lib.hid (fun w=>refdecorate_any x x 4 wx wx w)
       replace hf:=hf.2
       clear hfx hok
       go_wp2_with fail
       refine (RD.out _).mono ?_;rintro e w2 ⟨rfl,hb2⟩
       have H2:=(H.al _).below hb2
       have O2:=Lib.hid ((ho.out.alloc _).grown hb2)
       have hw2:=(H2.c (w.heap.size,0,.float .f64 0) (by simp)).lt
       simp only at hw2
       clear H F c0 c1 c2 hb2
       go_wp2_with (at_builtin;refine wpList_append_own _ rfl _ _ 55 rfl (w.heap.size+1) 49 i0 _ 3 24 Tryz.underlying55 hi.out hz0.out hz1.out hz2.out rfl (by decide) _ _ _ rfl ((O2.out.alloc _).alloc _) ⟨w2.heap.size+1,0,none⟩ 1 1 (cD (ofD (x,x,4))) rfl rfl (by intro j u hj;match j,hj with|0,hj=>(simp [cD,ofD,doD] at hj;subst hj;simp [go_sem,Addr.add])|1,hj=>(simp [cD,ofD,doD] at hj;subst hj;simp [go_sem,Addr.add])|2,hj=>(simp [cD,ofD,doD] at hj;subst hj;simp [go_sem,Addr.add])) (by intro u hu;simp [cD] at hu;rcases hu with rfl|rfl|rfl<;>rfl) (by unfold maxLen;omega) (by omega) (by simp;omega) ?_;intro v' w3 hown' hgrow _;have R1:=Lib.hid (own_snoc hown');have hgrow:=Lib.hid hgrow;clear hown')
       have R2:=Lib.hid (grow_hold ((H2.al _).al _) hgrow.out (fun g e=>((O2.out).lt g e).1))
       clear hgrow
       go_wp2_with fail
       go_roundw
       case rel=>exact ⟨n+1,v',st',by go_num,rfl,by omega,hnx.out,by rw [hst.out];exact R1.out,R2.out⟩
       case measure=>simp [intOf];omega
      ·rw [if_neg (fun g=>hfx g.2),if_neg (by omega),if_neg (by omega),if_neg (by omega)] at hst;cases hst
     rw [if_neg (fun g=>h12 g.1)] at hst
     have d12:(o==12)=false:=by rw [beq_eq_false_iff_ne];exact h12
     by_cases h13:o=13
     ·subst h13
      by_cases hix:0≤i∧i<b.length
      ·rw [if_pos ⟨rfl,hix⟩] at hst
       obtain ⟨j,rfl⟩ : ∃ j:Nat,i=(j:Int):=⟨i.toNat,by omega⟩
       have hjb:j<b.length:=by omega
       obtain ⟨y,hy⟩ : ∃ y,y=b.getD j zeroD:=⟨_,rfl⟩
       have hyo:(b.map ofD).getD j zeroD=ofD y:=by
        rw [hy,List.getD_eq_getElem?_getD,List.getElem?_map,List.getElem?_eq_getElem hjb,List.getD_eq_getElem?_getD,List.getElem?_eq_getElem hjb];rfl
       rw [Int.toNat_natCast,hyo] at hst
       replace hst:=(put_facts hst hf.1 (ok_ofD _) hf.2).2.2
       replace hst:=Lib.hid hst
       obtain ⟨gb,hgb,e⟩ : ∃ g,g<w.heap.size∧bb=some ⟨g,0,none⟩:=by
        rcases hb.out.cases with ⟨_,e2⟩|⟨g,cap,e,_,_,_,hg⟩
        ·rw [e2] at hjb;simp at hjb
        ·cases e;exact ⟨g,hg,rfl⟩
       subst e
       have wy:WdD y:=wb.out y (by rw [hy,List.getD_eq_getElem?_getD,List.getElem?_eq_getElem hjb];exact List.getElem_mem hjb)
       have RD:=Lib.hid (fun w=>refdecorate_any y.1 y.2.1 y.2.2 wy.1 wy.2 w)
       have hf2:=hf.2
       have hji:(j:Int)<(b.length:Int):=by omega
       clear hix hok hyo hf d12
       go_wp2_with fail
       obtain ⟨q,hq⟩ : ∃ q,q=wr.heap.size:=⟨_,rfl⟩
       rw [←hq]
       refine wpGo (p:=fun x_=>Hold w x_ [(w.heap.size,0,.float .f64 0),(w.heap.size,1,.float .f64 0),(w.heap.size,2,.int .i64 0),(q,0,.int .i64 13),(q,1,.int .i64 (j:Int)),(q,2,.float .f64 x)]∧Hid (Own cD 49 (w.heap.size+1) x_ (.slice vb st.length vc) st)) ⟨by rw [hq];exact H.new3 _ _ _ _,Lib.hid (ho.out.alloc _)⟩ ?_
       clear H F ho c0 c1 c2
       intro wa hwa
       replace hq:=Lib.hid hq
       obtain ⟨H,ho⟩:=hwa
       have F:=H.f;dsimp only [Fac] at F
       have c0:=RowKit.Below.cells H.B ((hb.out.cell cD_len zeroD j 0 hjb (by decide)).trans (by rw [←hy];rfl:_=some (.float .f64 y.1)))
       have c1:=RowKit.Below.cells H.B ((hb.out.cell cD_len zeroD j 1 hjb (by decide)).trans (by rw [←hy];rfl:_=some (.float .f64 y.2.1)))
       have c2:=RowKit.Below.cells H.B ((hb.out.cell cD_len zeroD j 2 hjb (by decide)).trans (by rw [←hy];rfl:_=some (.int .i64 y.2.2)))
       rw [Nat.add_zero] at c0
       have cq:=F.2.2.2.2.2.2.2.2.2.2.2.2.1
       replace hy:=Lib.hid hy
       have hwa:=(H.c (w.heap.size,0,.float .f64 0) (by simp)).lt
       have hqa:=(H.c (q,0,.int .i64 13) (by simp)).lt
       simp only at hwa hqa
       have hgq : ¬gb=wa.heap.size:=by omega
       have hqg : ¬wa.heap.size=gb:=fun e=>hgq e.symm
       have hqq : ¬q=wa.heap.size:=by omega
       have hqq' : ¬wa.heap.size=q:=by omega
       have hne : ∀ g,(Value.slice vb st.length vc).ownBlock=some g→g≠wa.heap.size:=fun g e=>Nat.ne_of_lt (ho.out.lt g e).2
       go_region_held3 (fun w'=>w'.cell? ⟨gb,j*3,none⟩=some (.float .f64 y.1)∧w'.cell? ⟨gb,j*3+1,none⟩=some (.float .f64 y.2.1)∧w'.cell? ⟨gb,j*3+2,none⟩=some (.int .i64 y.2.2)∧w'.cell? ⟨q,1,none⟩=some (.int .i64 (j:Int))) (first|exact ⟨c0,c1,c2,cq⟩|exact ⟨dc0,dc1,dc2,dcq⟩|go_keep) (first|(go_at_call 31;refine (RD.out _).mono ?_;rintro e w2 ⟨rfl,hb2⟩;have dc0:=RowKit.Below.cells hb2 (b:=gb) (o:=j*3) (v := .float .f64 y.1) (by first|exact c0|simp [c0,World.cell?_alloc_some]);have dc1:=RowKit.Below.cells hb2 (b:=gb) (o:=j*3+1) (v := .float .f64 y.2.1) (by first|exact c1|simp [c1,World.cell?_alloc_some]);have dc2:=RowKit.Below.cells hb2 (b:=gb) (o:=j*3+2) (v := .int .i64 y.2.2) (by first|exact c2|simp [c2,World.cell?_alloc_some]);have dcq:=RowKit.Below.cells hb2 (b:=q) (o:=1) (v := .int .i64 (j:Int)) (by first|exact cq|simp [cq,World.cell?_alloc_some]);(first|(refine keepThat (RowKit.Below.cells hb2 (b:=wa.heap.size) (o:=0) (v := .float .f64 0) ?_) ?_;simp [go_sem];intro z0;refine keepThat (RowKit.Below.cells hb2 (b:=wa.heap.size) (o:=1) (v := .float .f64 0) ?_) ?_;simp [go_sem];intro z1;refine keepThat (RowKit.Below.cells hb2 (b:=wa.heap.size) (o:=2) (v := .int .i64 0) ?_) ?_;simp [go_sem];intro z2;refine keepThat (RowKit.Below.froz hb2 (b:=wa.heap.size) (o:=0) (v := .float .f64 0) ?_ ?_) ?_;simp [go_sem];simp [go_sem];intro y0;refine keepThat (RowKit.Below.froz hb2 (b:=wa.heap.size) (o:=1) (v := .float .f64 0) ?_ ?_) ?_;simp [go_sem];simp [go_sem];intro y1;refine keepThat (RowKit.Below.froz hb2 (b:=wa.heap.size) (o:=2) (v := .int .i64 0) ?_ ?_) ?_;simp [go_sem];simp [go_sem];intro y2)|skip)))
       all_goals
        first
         | refine thenGo (p:=fun x_=>Hold w x_ [(w.heap.size,0,.float .f64 0),(w.heap.size,1,.float .f64 0),(w.heap.size,2,.int .i64 0),(q,0,.int .i64 13),(q,1,.int .i64 (j:Int)),(q,2,.float .f64 x),(w2.heap.size,0,.float .f64 (ofKey (dLo y.1 y.2.1 y.2.2))),(w2.heap.size,1,.float .f64 (ofKey (dHi y.1 y.2.1 y.2.2))),(w2.heap.size,2,.int .i64 (dD y.1 y.2.1 y.2.2))]∧Hid (Own cD 49 (w.heap.size+1) x_ (.slice vb st.length vc) st)) ⟨(H.drew.below hb2).new3 _ _ _ _,Lib.hid ((ho.out.drew.grown hb2).alloc _)⟩ ?_
         | refine thenGo (p:=fun x_=>Hold w x_ [(w.heap.size,0,.float .f64 0),(w.heap.size,1,.float .f64 0),(w.heap.size,2,.int .i64 0),(q,0,.int .i64 13),(q,1,.int .i64 (j:Int)),(q,2,.float .f64 x),(wa.heap.size,0,.float .f64 (ofKey (dLo y.1 y.2.1 y.2.2))),(wa.heap.size,1,.float .f64 (ofKey (dHi y.1 y.2.1 y.2.2))),(wa.heap.size,2,.int .i64 (dD y.1 y.2.1 y.2.2))]∧Hid (Own cD 49 (w.heap.size+1) x_ (.slice vb st.length vc) st)) ⟨((((H.new3 (.float .f64 0) (.float .f64 0) (.int .i64 0) 49).drew.below hb2).set 6 (.float .f64 (ofKey (dLo y.1 y.2.1 y.2.2)))).set 7 (.float .f64 (ofKey (dHi y.1 y.2.1 y.2.2)))).set 8 (.int .i64 (dD y.1 y.2.1 y.2.2)),Lib.hid (((((ho.out.alloc _).drew.grown hb2).set_ne hne _).set_ne hne _).set_ne hne _)⟩ ?_
        intro wz hwz
        obtain ⟨Hz,Oz⟩:=hwz
        have Fz:=Hz.f;dsimp only [Fac] at Fz
        clear H F hb2 c0 c1 c2 cq
        try clear dc0 dc1 dc2 dcq
        try clear z0 z1 z2 y0 y1 y2
        have hwz:=(Hz.c (w.heap.size,0,.float .f64 0) (by simp)).lt
        simp only at hwz
        go_wp2_with (at_builtin;refine wpList_append_own _ rfl _ _ 55 rfl (w.heap.size+1) 49 i0 _ 3 24 Tryz.underlying55 hi.out hz0.out hz1.out hz2.out rfl (by decide) _ _ _ rfl (Oz.out.alloc _) ⟨wz.heap.size,0,none⟩ 1 1 (cD (ofD y)) rfl rfl (by intro j u hj;match j,hj with|0,hj=>(simp [cD,ofD,doD] at hj;subst hj;simp [go_sem,Addr.add])|1,hj=>(simp [cD,ofD,doD] at hj;subst hj;simp [go_sem,Addr.add])|2,hj=>(simp [cD,ofD,doD] at hj;subst hj;simp [go_sem,Addr.add])) (by intro u hu;simp [cD] at hu;rcases hu with rfl|rfl|rfl<;>rfl) (by unfold maxLen;omega) (by omega) (by simp;omega) ?_;intro v' w3 hown' hgrow _;have R1:=Lib.hid (own_snoc hown');have hgrow:=Lib.hid hgrow;clear hown')
        have R2:=Lib.hid (grow_hold ((Hz.cut 3).al _) hgrow.out (fun g e=>((Oz.out).lt g e).1))
        clear hgrow
        go_wp2_with fail
        go_roundw
        case rel=>exact ⟨n+1,v',st',by go_num,rfl,by omega,hnx.out,by rw [hst.out];exact R1.out,R2.out⟩
        case measure=>simp [intOf];omega
      ·rw [if_neg (fun g=>hix g.2),if_neg (by omega),if_neg (by omega)] at hst;cases hst
     rw [if_neg (fun g=>h13 g.1)] at hst
     have d13:(o==13)=false:=by rw [beq_eq_false_iff_ne];exact h13
     by_cases h5:0≤o∧o≤5
     ·rw [if_pos h5] at hst
      by_cases hl0:st.length=0
      ·rw [if_pos hl0] at hst;cases hst
      rw [if_neg hl0] at hst
      obtain ⟨m,hm⟩ : ∃ m,st.length=m+1:=⟨st.length-1,by omega⟩
      rw [show st.length-1=m by omega] at hst
      obtain ⟨d,hd⟩ : ∃ d,d=st.getD m zeroD:=⟨_,rfl⟩
      rw [←hd] at hst
      have wd:WdD d:=by rw [hd];exact (hf.1.getD _).wd
      have DO:=Lib.hid (fun w=>refdo_any o d.1 d.2.1 d.1 d.2.1 d.2.2 d.2.2 wd.1 wd.2 wd.1 wd.2 w)
      have hlm:(st.take m).length=m:=by rw [List.length_take];omega
      replace hst:=(put_facts hst (hf.1.take _) (ok_doD _ _ _) (by rw [List.length_take];omega)).2.2
      replace hst:=Lib.hid hst
      have hf2:=hf.2
      obtain ⟨o1,o2⟩:=h5
      have hm7:m≤7:=by omega
      clear hok hf
      obtain ⟨gs,hgs1,hgs2,e⟩ : ∃ g,g<wr.heap.size∧w.heap.size+1≤g∧vb=some ⟨g,0,none⟩:=by
       rcases ho.out.cases with ⟨_,e2⟩|⟨g,cap,e,_,_,h,hg⟩
       ·rw [e2] at hm;simp at hm
       ·cases e;exact ⟨g,hg,h,rfl⟩
      subst e
      have e0:=(ho.out.cell cD_len zeroD m 0 (by omega) (by decide)).trans (by rw [←hd];rfl:_=some (.float .f64 d.1))
      have e1:=(ho.out.cell cD_len zeroD m 1 (by omega) (by decide)).trans (by rw [←hd];rfl:_=some (.float .f64 d.2.1))
      have e2:=(ho.out.cell cD_len zeroD m 2 (by omega) (by decide)).trans (by rw [←hd];rfl:_=some (.int .i64 d.2.2))
      rw [Nat.add_zero] at e0
      have hvc:m+1≤vc:=by
       rcases ho.out.cases with ⟨e,_⟩|⟨g,cap,e,h,_⟩
       ·cases e
       ·cases e;omega
      rw [hm] at ho ⊢
      replace hd:=Lib.hid hd;replace hm:=Lib.hid hm
      go_wp2_with fail
      obtain ⟨q,hq⟩ : ∃ q,q=wr.heap.size:=⟨_,rfl⟩
      rw [←hq]
      have hL:=below_new (w:=wr) (.cells #[.int .i64 o,.int .i64 i,.float .f64 x] 61)
      replace e0:=RowKit.Below.cells hL e0
      replace e1:=RowKit.Below.cells hL e1
      replace e2:=RowKit.Below.cells hL e2
      have hgsn:gs<(wr.alloc (.cells #[.int .i64 o,.int .i64 i,.float .f64 x] 61)).heap.size:=by simp;omega
      refine wpGo (p:=fun x_=>Hold w x_ [(w.heap.size,0,.float .f64 0),(w.heap.size,1,.float .f64 0),(w.heap.size,2,.int .i64 0),(q,0,.int .i64 o),(q,1,.int .i64 i),(q,2,.float .f64 x)]∧Hid (Own cD 49 (w.heap.size+1) x_ (.slice (some ⟨gs,0,none⟩) (m+1) vc) st)∧x_.cell? ⟨gs,m*3,none⟩=some (.float .f64 d.1)∧x_.cell? ⟨gs,m*3+1,none⟩=some (.float .f64 d.2.1)∧x_.cell? ⟨gs,m*3+2,none⟩=some (.int .i64 d.2.2)∧gs<x_.heap.size) ⟨by rw [hq];exact H.new3 _ _ _ _,Lib.hid (ho.out.alloc _),e0,e1,e2,hgsn⟩ ?_
      clear hL H F ho c0 c1 c2 e0 e1 e2 hgsn
      intro wa hwa
      replace hq:=Lib.hid hq
      obtain ⟨H,ho,e0,e1,e2,hgsn⟩:=hwa
      have F:=H.f;dsimp only [Fac] at F
      have cq:=F.2.2.2.2.2.2.2.2.2.1
      have hwa:=(H.c (w.heap.size,0,.float .f64 0) (by simp)).lt
      have hqa:=(H.c (q,0,.int .i64 o) (by simp)).lt
      simp only at hwa hqa
      have hgq : ¬gs=wa.heap.size:=by omega
      have hqg : ¬wa.heap.size=gs:=fun e=>hgq e.symm
      have hqq : ¬q=wa.heap.size:=by omega
      have hqq' : ¬wa.heap.size=q:=by omega
      have hne : ∀ g,(Value.slice (some ⟨gs,0,none⟩) (m+1) vc).ownBlock=some g→g≠wa.heap.size:=fun g e=>Nat.ne_of_lt (ho.out.lt g e).2
      have hmm:m≤vc:=by omega
      have hw1:IntKind.i64.wrap ((m:Int)+1-1)=m:=by rw [IntKind.wrap_i64];omega
      have hw2:IntKind.i64.wrap (m:Int)=m:=by rw [IntKind.wrap_i64];omega
      have hl0:(0:Int)≤m:=by omega
      have hl3:(m:Int)<(m:Int)+1:=by omega
      have hl4:m<m+1:=by omega
      go_region_held3 (fun w'=>w'.cell? ⟨gs,m*3,none⟩=some (.float .f64 d.1)∧w'.cell? ⟨gs,m*3+1,none⟩=some (.float .f64 d.2.1)∧w'.cell? ⟨gs,m*3+2,none⟩=some (.int .i64 d.2.2)∧w'.cell? ⟨q,0,none⟩=some (.int .i64 o)) (first|exact ⟨e0,e1,e2,cq⟩|exact ⟨de0,de1,de2,dcq⟩|go_keep) (first|(go_at_call 34;refine (DO.out _).mono ?_;rintro e w2 ⟨rfl,hb2⟩;have de0:=RowKit.Below.cells hb2 (b:=gs) (o:=m*3) (v := .float .f64 d.1) (by first|exact e0|simp [e0,World.cell?_alloc_some]);have de1:=RowKit.Below.cells hb2 (b:=gs) (o:=m*3+1) (v := .float .f64 d.2.1) (by first|exact e1|simp [e1,World.cell?_alloc_some]);have de2:=RowKit.Below.cells hb2 (b:=gs) (o:=m*3+2) (v := .int .i64 d.2.2) (by first|exact e2|simp [e2,World.cell?_alloc_some]);have dcq:=RowKit.Below.cells hb2 (b:=q) (o:=0) (v := .int .i64 o) (by first|exact cq|simp [cq,World.cell?_alloc_some]);(first|(refine keepThat (RowKit.Below.cells hb2 (b:=wa.heap.size) (o:=0) (v := .float .f64 0) ?_) ?_;simp [go_sem];intro z0;refine keepThat (RowKit.Below.cells hb2 (b:=wa.heap.size) (o:=1) (v := .float .f64 0) ?_) ?_;simp [go_sem];intro z1;refine keepThat (RowKit.Below.cells hb2 (b:=wa.heap.size) (o:=2) (v := .int .i64 0) ?_) ?_;simp [go_sem];intro z2;refine keepThat (RowKit.Below.froz hb2 (b:=wa.heap.size) (o:=0) (v := .float .f64 0) ?_ ?_) ?_;simp [go_sem];simp [go_sem];intro y0;refine keepThat (RowKit.Below.froz hb2 (b:=wa.heap.size) (o:=1) (v := .float .f64 0) ?_ ?_) ?_;simp [go_sem];simp [go_sem];intro y1;refine keepThat (RowKit.Below.froz hb2 (b:=wa.heap.size) (o:=2) (v := .int .i64 0) ?_ ?_) ?_;simp [go_sem];simp [go_sem];intro y2)|skip)))
      all_goals
       first
        | refine thenGo (p:=fun x_=>Hold w x_ [(w.heap.size,0,.float .f64 0),(w.heap.size,1,.float .f64 0),(w.heap.size,2,.int .i64 0),(q,0,.int .i64 o),(q,1,.int .i64 i),(q,2,.float .f64 x),(w2.heap.size,0,.float .f64 (ofKey (zLo o (dLo d.1 d.2.1 d.2.2) (dHi d.1 d.2.1 d.2.2) (dLo d.1 d.2.1 d.2.2) (dHi d.1 d.2.1 d.2.2) (dD d.1 d.2.1 d.2.2) (dD d.1 d.2.1 d.2.2)))),(w2.heap.size,1,.float .f64 (ofKey (zHi o (dLo d.1 d.2.1 d.2.2) (dHi d.1 d.2.1 d.2.2) (dLo d.1 d.2.1 d.2.2) (dHi d.1 d.2.1 d.2.2) (dD d.1 d.2.1 d.2.2) (dD d.1 d.2.1 d.2.2)))),(w2.heap.size,2,.int .i64 (zD o (dLo d.1 d.2.1 d.2.2) (dHi d.1 d.2.1 d.2.2) (dLo d.1 d.2.1 d.2.2) (dHi d.1 d.2.1 d.2.2) (dD d.1 d.2.1 d.2.2) (dD d.1 d.2.1 d.2.2)))]∧Hid (Own cD 49 (w.heap.size+1) x_ (.slice (some ⟨gs,0,none⟩) (m+1) vc) st)) ⟨(H.drew.below hb2).new3 _ _ _ _,Lib.hid ((ho.out.drew.grown hb2).alloc _)⟩ ?_
        | refine thenGo (p:=fun x_=>Hold w x_ [(w.heap.size,0,.float .f64 0),(w.heap.size,1,.float .f64 0),(w.heap.size,2,.int .i64 0),(q,0,.int .i64 o),(q,1,.int .i64 i),(q,2,.float .f64 x),(wa.heap.size,0,.float .f64 (ofKey (zLo o (dLo d.1 d.2.1 d.2.2) (dHi d.1 d.2.1 d.2.2) (dLo d.1 d.2.1 d.2.2) (dHi d.1 d.2.1 d.2.2) (dD d.1 d.2.1 d.2.2) (dD d.1 d.2.1 d.2.2)))),(wa.heap.size,1,.float .f64 (ofKey (zHi o (dLo d.1 d.2.1 d.2.2) (dHi d.1 d.2.1 d.2.2) (dLo d.1 d.2.1 d.2.2) (dHi d.1 d.2.1 d.2.2) (dD d.1 d.2.1 d.2.2) (dD d.1 d.2.1 d.2.2)))),(wa.heap.size,2,.int .i64 (zD o (dLo d.1 d.2.1 d.2.2) (dHi d.1 d.2.1 d.2.2) (dLo d.1 d.2.1 d.2.2) (dHi d.1 d.2.1 d.2.2) (dD d.1 d.2.1 d.2.2) (dD d.1 d.2.1 d.2.2)))]∧Hid (Own cD 49 (w.heap.size+1) x_ (.slice (some ⟨gs,0,none⟩) (m+1) vc) st)) ⟨((((H.new3 (.float .f64 0) (.float .f64 0) (.int .i64 0) 49).drew.below hb2).set 6 (.float .f64 (ofKey (zLo o (dLo d.1 d.2.1 d.2.2) (dHi d.1 d.2.1 d.2.2) (dLo d.1 d.2.1 d.2.2) (dHi d.1 d.2.1 d.2.2) (dD d.1 d.2.1 d.2.2) (dD d.1 d.2.1 d.2.2))))).set 7 (.float .f64 (ofKey (zHi o (dLo d.1 d.2.1 d.2.2) (dHi d.1 d.2.1 d.2.2) (dLo d.1 d.2.1 d.2.2) (dHi d.1 d.2.1 d.2.2) (dD d.1 d.2.1 d.2.2) (dD d.1 d.2.1 d.2.2))))).set 8 (.int .i64 (zD o (dLo d.1 d.2.1 d.2.2) (dHi d.1 d.2.1 d.2.2) (dLo d.1 d.2.1 d.2.2) (dHi d.1 d.2.1 d.2.2) (dD d.1 d.2.1 d.2.2) (dD d.1 d.2.1 d.2.2))),Lib.hid (((((ho.out.alloc _).drew.grown hb2).set_ne hne _).set_ne hne _).set_ne hne _)⟩ ?_
       intro wz hwz
       obtain ⟨Hz,Oz⟩:=hwz
       have Fz:=Hz.f;dsimp only [Fac] at Fz
       clear H F hb2 e0 e1 e2 cq
       try clear de0 de1 de2 dcq
       try clear z0 z1 z2 y0 y1 y2
       have hwz:=(Hz.c (w.heap.size,0,.float .f64 0) (by simp)).lt
       simp only at hwz
       have T:=Lib.hid (own_take2 (m:=m) Oz.out (by have:=hm.out;first|omega|(have:=hm1.out;omega)))
       go_wp2_with fail
       go_region_law (refine step_append_own rfl _ _ _ rfl (w.heap.size+1) 49 i0 _ 3 24 Tryz.underlying55 hi.out hz0.out hz1.out hz2.out rfl (by decide) (.slice (some ⟨gs,0,none⟩) m vc) m ((st.take m).flatMap cD) (by simp [Act.eval,Act.put]) (by first|exact World.ownsRow.alloc T.out _|exact World.ownsRow.alloc T.out _) ⟨wz.heap.size,0,none⟩ 1 1 (cD (doD o d d)) (by simp [Act.eval,Act.put]) rfl (by intro j u hj;match j,hj with|0,hj=>(simp [cD,ofD,doD] at hj;subst hj;simp [go_sem,Addr.add])|1,hj=>(simp [cD,ofD,doD] at hj;subst hj;simp [go_sem,Addr.add])|2,hj=>(simp [cD,ofD,doD] at hj;subst hj;simp [go_sem,Addr.add])) (by intro u hu;simp [cD] at hu;rcases hu with rfl|rfl|rfl<;>rfl) (by unfold maxLen;omega) (by omega) (by simp;omega) ?_;intro v' w3 hown' hgrow;have R1:=Lib.hid (own_snoc2 hlm hown');have hgrow:=Lib.hid hgrow;clear hown')
       all_goals
        have R2:=Lib.hid (grow_hold (by first|exact (Hz.cut 3).drew.al _|exact ((Hz.cut 3).al _).drew|exact (Hz.cut 3).al _) hgrow.out (fun g e=>(World.ownsRow.lt T.out g e).1))
        clear hgrow
        go_wp2_with fail
        go_roundw
        case rel=>exact ⟨n+1,v',st',by go_num,rfl,by omega,hnx.out,by rw [hst.out];exact R1.out,R2.out⟩
        case measure=>simp [intOf];omega
     rw [if_neg h5] at hst
     by_cases h6:6≤o∧o≤11
     ·rw [if_pos h6] at hst
      by_cases hl2:st.length<2
      ·rw [if_pos hl2] at hst;cases hst
      rw [if_neg hl2] at hst
      obtain ⟨m,hm⟩ : ∃ m,st.length=m+1+1:=⟨st.length-2,by omega⟩
      rw [show st.length-2=m by omega,show st.length-1=m+1 by omega] at hst
      obtain ⟨d,hd⟩ : ∃ d,d=st.getD (m+1) zeroD:=⟨_,rfl⟩
      obtain ⟨d2,hd2⟩ : ∃ d,d=st.getD m zeroD:=⟨_,rfl⟩
      rw [←hd,←hd2] at hst
      have wd:WdD d:=by rw [hd];exact (hf.1.getD _).wd
      have wd2:WdD d2:=by rw [hd2];exact (hf.1.getD _).wd
      have DO:=Lib.hid (fun w=>refdo_any o d2.1 d2.2.1 d.1 d.2.1 d2.2.2 d.2.2 wd2.1 wd2.2 wd.1 wd.2 w)
      obtain ⟨m1,hm1⟩ : ∃ m1,m1=m+1:=⟨_,rfl⟩
      rw [←hm1] at hm hd
      have hlm:(st.take m).length=m:=by rw [List.length_take];omega
      replace hst:=(put_facts hst (hf.1.take _) (ok_doD _ _ _) (by rw [List.length_take];omega)).2.2
      replace hst:=Lib.hid hst
      have hf2:=hf.2
      obtain ⟨o1,o2⟩:=h6
      have hm7:m1≤7:=by omega
      clear hok hf
      obtain ⟨gs,hgs1,hgs2,e⟩ : ∃ g,g<wr.heap.size∧w.heap.size+1≤g∧vb=some ⟨g,0,none⟩:=by
       rcases ho.out.cases with ⟨_,e2⟩|⟨g,cap,e,_,_,h,hg⟩
       ·rw [e2] at hm;simp at hm
       ·cases e;exact ⟨g,hg,h,rfl⟩
      subst e
      have e0:=(ho.out.cell cD_len zeroD m1 0 (by omega) (by decide)).trans (by rw [←hd];rfl:_=some (.float .f64 d.1))
      have e1:=(ho.out.cell cD_len zeroD m1 1 (by omega) (by decide)).trans (by rw [←hd];rfl:_=some (.float .f64 d.2.1))
      have e2:=(ho.out.cell cD_len zeroD m1 2 (by omega) (by decide)).trans (by rw [←hd];rfl:_=some (.int .i64 d.2.2))
      rw [Nat.add_zero] at e0
      have f0:=(ho.out.cell cD_len zeroD m 0 (by omega) (by decide)).trans (by rw [←hd2];rfl:_=some (.float .f64 d2.1))
      have f1:=(ho.out.cell cD_len zeroD m 1 (by omega) (by decide)).trans (by rw [←hd2];rfl:_=some (.float .f64 d2.2.1))
      have f2:=(ho.out.cell cD_len zeroD m 2 (by omega) (by decide)).trans (by rw [←hd2];rfl:_=some (.int .i64 d2.2.2))
      rw [Nat.add_zero] at f0
      have hvc:m1+1≤vc:=by
       rcases ho.out.cases with ⟨e,_⟩|⟨g,cap,e,h,_⟩
       ·cases e
       ·cases e;omega
      rw [hm] at ho ⊢
      replace hd:=Lib.hid hd;replace hd2:=Lib.hid hd2;replace hm:=Lib.hid hm
      go_wp2_with fail
      obtain ⟨q,hq⟩ : ∃ q,q=wr.heap.size:=⟨_,rfl⟩
      rw [←hq]
      have hL:=below_new (w:=wr) (.cells #[.int .i64 o,.int .i64 i,.float .f64 x] 61)
      replace e0:=RowKit.Below.cells hL e0
      replace e1:=RowKit.Below.cells hL e1
      replace e2:=RowKit.Below.cells hL e2
      replace f0:=RowKit.Below.cells hL f0
      replace f1:=RowKit.Below.cells hL f1
      replace f2:=RowKit.Below.cells hL f2
      have hgsn:gs<(wr.alloc (.cells #[.int .i64 o,.int .i64 i,.float .f64 x] 61)).heap.size:=by simp;omega
      refine wpGo (p:=fun x_=>Hold w x_ [(w.heap.size,0,.float .f64 0),(w.heap.size,1,.float .f64 0),(w.heap.size,2,.int .i64 0),(q,0,.int .i64 o),(q,1,.int .i64 i),(q,2,.float .f64 x)]∧Hid (Own cD 49 (w.heap.size+1) x_ (.slice (some ⟨gs,0,none⟩) (m1+1) vc) st)∧x_.cell? ⟨gs,m1*3,none⟩=some (.float .f64 d.1)∧x_.cell? ⟨gs,m1*3+1,none⟩=some (.float .f64 d.2.1)∧x_.cell? ⟨gs,m1*3+2,none⟩=some (.int .i64 d.2.2)∧x_.cell? ⟨gs,m*3,none⟩=some (.float .f64 d2.1)∧x_.cell? ⟨gs,m*3+1,none⟩=some (.float .f64 d2.2.1)∧x_.cell? ⟨gs,m*3+2,none⟩=some (.int .i64 d2.2.2)∧gs<x_.heap.size) ⟨by rw [hq];exact H.new3 _ _ _ _,Lib.hid (ho.out.alloc _),e0,e1,e2,f0,f1,f2,hgsn⟩ ?_
      clear hL H F ho c0 c1 c2 e0 e1 e2 f0 f1 f2 hgsn
      intro wa hwa
      replace hq:=Lib.hid hq
      obtain ⟨H,ho,e0,e1,e2,f0,f1,f2,hgsn⟩:=hwa
      have F:=H.f;dsimp only [Fac] at F
      have cq:=F.2.2.2.2.2.2.2.2.2.1
      have hwa:=(H.c (w.heap.size,0,.float .f64 0) (by simp)).lt
      have hqa:=(H.c (q,0,.int .i64 o) (by simp)).lt
      simp only at hwa hqa
      have hgq : ¬gs=wa.heap.size:=by omega
      have hqg : ¬wa.heap.size=gs:=fun e=>hgq e.symm
      have hqq : ¬q=wa.heap.size:=by omega
      have hqq' : ¬wa.heap.size=q:=by omega
      have hne : ∀ g,(Value.slice (some ⟨gs,0,none⟩) (m1+1) vc).ownBlock=some g→g≠wa.heap.size:=fun g e=>Nat.ne_of_lt (ho.out.lt g e).2
      have hm2:(m1:Int)+1-2=(m:Int):=by omega
      have hmm:m≤vc:=by omega
      have hw0:IntKind.i64.wrap ((m1:Int)+1-2)=m:=by rw [IntKind.wrap_i64];omega
      have hw1:IntKind.i64.wrap ((m1:Int)+1-1)=m1:=by rw [IntKind.wrap_i64];omega
      have hw2:IntKind.i64.wrap (m1:Int)=m1:=by rw [IntKind.wrap_i64];omega
      have hw3:IntKind.i64.wrap (m:Int)=m:=by rw [IntKind.wrap_i64];omega
      have hl0:(0:Int)≤m:=by omega
      have hl1:(0:Int)≤m1:=by omega
      have hl2:(m:Int)<(m1:Int)+1:=by omega
      have hl3:(m1:Int)<(m1:Int)+1:=by omega
      have hl4:m<m1+1:=by omega
      have hm8:m≤6:=by omega
      have hmi:(m:Int)+1=(m1:Int):=by omega
      replace hm1:=Lib.hid hm1
      go_region_held3 (fun w'=>w'.cell? ⟨gs,m1*3,none⟩=some (.float .f64 d.1)∧w'.cell? ⟨gs,m1*3+1,none⟩=some (.float .f64 d.2.1)∧w'.cell? ⟨gs,m1*3+2,none⟩=some (.int .i64 d.2.2)∧w'.cell? ⟨gs,m*3,none⟩=some (.float .f64 d2.1)∧w'.cell? ⟨gs,m*3+1,none⟩=some (.float .f64 d2.2.1)∧w'.cell? ⟨gs,m*3+2,none⟩=some (.int .i64 d2.2.2)∧w'.cell? ⟨q,0,none⟩=some (.int .i64 o)) (first|exact ⟨e0,e1,e2,f0,f1,f2,cq⟩|exact ⟨de0,de1,de2,df0,df1,df2,dcq⟩|go_keep) (first|(go_at_call 34;refine (DO.out _).mono ?_;rintro e w2 ⟨rfl,hb2⟩;have de0:=RowKit.Below.cells hb2 (b:=gs) (o:=m1*3) (v := .float .f64 d.1) (by first|exact e0|simp [e0,World.cell?_alloc_some]);have de1:=RowKit.Below.cells hb2 (b:=gs) (o:=m1*3+1) (v := .float .f64 d.2.1) (by first|exact e1|simp [e1,World.cell?_alloc_some]);have de2:=RowKit.Below.cells hb2 (b:=gs) (o:=m1*3+2) (v := .int .i64 d.2.2) (by first|exact e2|simp [e2,World.cell?_alloc_some]);have df0:=RowKit.Below.cells hb2 (b:=gs) (o:=m*3) (v := .float .f64 d2.1) (by first|exact f0|simp [f0,World.cell?_alloc_some]);have df1:=RowKit.Below.cells hb2 (b:=gs) (o:=m*3+1) (v := .float .f64 d2.2.1) (by first|exact f1|simp [f1,World.cell?_alloc_some]);have df2:=RowKit.Below.cells hb2 (b:=gs) (o:=m*3+2) (v := .int .i64 d2.2.2) (by first|exact f2|simp [f2,World.cell?_alloc_some]);have dcq:=RowKit.Below.cells hb2 (b:=q) (o:=0) (v := .int .i64 o) (by first|exact cq|simp [cq,World.cell?_alloc_some]);(first|(refine keepThat (RowKit.Below.cells hb2 (b:=wa.heap.size) (o:=0) (v := .float .f64 0) ?_) ?_;simp [go_sem];intro z0;refine keepThat (RowKit.Below.cells hb2 (b:=wa.heap.size) (o:=1) (v := .float .f64 0) ?_) ?_;simp [go_sem];intro z1;refine keepThat (RowKit.Below.cells hb2 (b:=wa.heap.size) (o:=2) (v := .int .i64 0) ?_) ?_;simp [go_sem];intro z2;refine keepThat (RowKit.Below.froz hb2 (b:=wa.heap.size) (o:=0) (v := .float .f64 0) ?_ ?_) ?_;simp [go_sem];simp [go_sem];intro y0;refine keepThat (RowKit.Below.froz hb2 (b:=wa.heap.size) (o:=1) (v := .float .f64 0) ?_ ?_) ?_;simp [go_sem];simp [go_sem];intro y1;refine keepThat (RowKit.Below.froz hb2 (b:=wa.heap.size) (o:=2) (v := .int .i64 0) ?_ ?_) ?_;simp [go_sem];simp [go_sem];intro y2)|skip)))
      all_goals
       first
        | refine thenGo (p:=fun x_=>Hold w x_ [(w.heap.size,0,.float .f64 0),(w.heap.size,1,.float .f64 0),(w.heap.size,2,.int .i64 0),(q,0,.int .i64 o),(q,1,.int .i64 i),(q,2,.float .f64 x),(w2.heap.size,0,.float .f64 (ofKey (zLo o (dLo d2.1 d2.2.1 d2.2.2) (dHi d2.1 d2.2.1 d2.2.2) (dLo d.1 d.2.1 d.2.2) (dHi d.1 d.2.1 d.2.2) (dD d2.1 d2.2.1 d2.2.2) (dD d.1 d.2.1 d.2.2)))),(w2.heap.size,1,.float .f64 (ofKey (zHi o (dLo d2.1 d2.2.1 d2.2.2) (dHi d2.1 d2.2.1 d2.2.2) (dLo d.1 d.2.1 d.2.2) (dHi d.1 d.2.1 d.2.2) (dD d2.1 d2.2.1 d2.2.2) (dD d.1 d.2.1 d.2.2)))),(w2.heap.size,2,.int .i64 (zD o (dLo d2.1 d2.2.1 d2.2.2) (dHi d2.1 d2.2.1 d2.2.2) (dLo d.1 d.2.1 d.2.2) (dHi d.1 d.2.1 d.2.2) (dD d2.1 d2.2.1 d2.2.2) (dD d.1 d.2.1 d.2.2)))]∧Hid (Own cD 49 (w.heap.size+1) x_ (.slice (some ⟨gs,0,none⟩) (m1+1) vc) st)) ⟨(H.drew.below hb2).new3 _ _ _ _,Lib.hid ((ho.out.drew.grown hb2).alloc _)⟩ ?_
        | refine thenGo (p:=fun x_=>Hold w x_ [(w.heap.size,0,.float .f64 0),(w.heap.size,1,.float .f64 0),(w.heap.size,2,.int .i64 0),(q,0,.int .i64 o),(q,1,.int .i64 i),(q,2,.float .f64 x),(wa.heap.size,0,.float .f64 (ofKey (zLo o (dLo d2.1 d2.2.1 d2.2.2) (dHi d2.1 d2.2.1 d2.2.2) (dLo d.1 d.2.1 d.2.2) (dHi d.1 d.2.1 d.2.2) (dD d2.1 d2.2.1 d2.2.2) (dD d.1 d.2.1 d.2.2)))),(wa.heap.size,1,.float .f64 (ofKey (zHi o (dLo d2.1 d2.2.1 d2.2.2) (dHi d2.1 d2.2.1 d2.2.2) (dLo d.1 d.2.1 d.2.2) (dHi d.1 d.2.1 d.2.2) (dD d2.1 d2.2.1 d2.2.2) (dD d.1 d.2.1 d.2.2)))),(wa.heap.size,2,.int .i64 (zD o (dLo d2.1 d2.2.1 d2.2.2) (dHi d2.1 d2.2.1 d2.2.2) (dLo d.1 d.2.1 d.2.2) (dHi d.1 d.2.1 d.2.2) (dD d2.1 d2.2.1 d2.2.2) (dD d.1 d.2.1 d.2.2)))]∧Hid (Own cD 49 (w.heap.size+1) x_ (.slice (some ⟨gs,0,none⟩) (m1+1) vc) st)) ⟨((((H.new3 (.float .f64 0) (.float .f64 0) (.int .i64 0) 49).drew.below hb2).set 6 (.float .f64 (ofKey (zLo o (dLo d2.1 d2.2.1 d2.2.2) (dHi d2.1 d2.2.1 d2.2.2) (dLo d.1 d.2.1 d.2.2) (dHi d.1 d.2.1 d.2.2) (dD d2.1 d2.2.1 d2.2.2) (dD d.1 d.2.1 d.2.2))))).set 7 (.float .f64 (ofKey (zHi o (dLo d2.1 d2.2.1 d2.2.2) (dHi d2.1 d2.2.1 d2.2.2) (dLo d.1 d.2.1 d.2.2) (dHi d.1 d.2.1 d.2.2) (dD d2.1 d2.2.1 d2.2.2) (dD d.1 d.2.1 d.2.2))))).set 8 (.int .i64 (zD o (dLo d2.1 d2.2.1 d2.2.2) (dHi d2.1 d2.2.1 d2.2.2) (dLo d.1 d.2.1 d.2.2) (dHi d.1 d.2.1 d.2.2) (dD d2.1 d2.2.1 d2.2.2) (dD d.1 d.2.1 d.2.2))),Lib.hid (((((ho.out.alloc _).drew.grown hb2).set_ne hne _).set_ne hne _).set_ne hne _)⟩ ?_
       intro wz hwz
       obtain ⟨Hz,Oz⟩:=hwz
       have Fz:=Hz.f;dsimp only [Fac] at Fz
       clear H F hb2 e0 e1 e2 f0 f1 f2 cq
       try clear de0 de1 de2 df0 df1 df2 dcq
       try clear z0 z1 z2 y0 y1 y2
       have hwz:=(Hz.c (w.heap.size,0,.float .f64 0) (by simp)).lt
       simp only at hwz
       have T:=Lib.hid (own_take2 (m:=m) Oz.out (by have:=hm.out;first|omega|(have:=hm1.out;omega)))
       go_wp2_with fail
       go_region_law (refine step_append_own rfl _ _ _ rfl (w.heap.size+1) 49 i0 _ 3 24 Tryz.underlying55 hi.out hz0.out hz1.out hz2.out rfl (by decide) (.slice (some ⟨gs,0,none⟩) m vc) m ((st.take m).flatMap cD) (by simp [Act.eval,Act.put]) (by first|exact World.ownsRow.alloc T.out _|exact World.ownsRow.alloc T.out _) ⟨wz.heap.size,0,none⟩ 1 1 (cD (doD o d2 d)) (by simp [Act.eval,Act.put]) rfl (by intro j u hj;match j,hj with|0,hj=>(simp [cD,ofD,doD] at hj;subst hj;simp [go_sem,Addr.add])|1,hj=>(simp [cD,ofD,doD] at hj;subst hj;simp [go_sem,Addr.add])|2,hj=>(simp [cD,ofD,doD] at hj;subst hj;simp [go_sem,Addr.add])) (by intro u hu;simp [cD] at hu;rcases hu with rfl|rfl|rfl<;>rfl) (by unfold maxLen;omega) (by omega) (by simp;omega) ?_;intro v' w3 hown' hgrow;have R1:=Lib.hid (own_snoc2 hlm hown');have hgrow:=Lib.hid hgrow;clear hown')
       all_goals
        have R2:=Lib.hid (grow_hold (by first|exact (Hz.cut 3).drew.al _|exact ((Hz.cut 3).al _).drew|exact (Hz.cut 3).al _) hgrow.out (fun g e=>(World.ownsRow.lt T.out g e).1))
        clear hgrow
        go_wp2_with fail
        go_roundw
        case rel=>exact ⟨n+1,v',st',by go_num,rfl,by omega,hnx.out,by rw [hst.out];exact R1.out,R2.out⟩
        case measure=>simp [intOf];omega
     rw [if_neg h6] at hst;cases hst
    ·have hln:l.take n=l:=List.take_of_length_le (by omega)
     rw [hln,hrun.out] at hr
     have e:stF=st:=Option.some.inj hr.out
     subst e
     have h1:=hF1.out
     have he:=evD_one (by omega) (by omega) hrun.out hF1.out
     rw [show b.any (fun y=>decide ((ofD y).2.2=0))=false from hbd.out] at he
     obtain ⟨x,hx⟩ : ∃ x,x=stF.getD 0 zeroD:=⟨_,rfl⟩
     rw [←hx] at he
     obtain ⟨gs,hgs1,e⟩ : ∃ g,g<wr.heap.size∧vb=some ⟨g,0,none⟩:=by
      rcases ho.out.cases with ⟨_,e2⟩|⟨g,cap,e,_,_,h,hg⟩
      ·rw [e2] at h1;simp at h1
      ·cases e;exact ⟨g,hg,rfl⟩
     subst e
     have c0:=(ho.out.cell cD_len zeroD 0 0 (by omega) (by decide)).trans (by rw [←hx];rfl:_=some (.float .f64 x.1))
     have c1:=(ho.out.cell cD_len zeroD 0 1 (by omega) (by decide)).trans (by rw [←hx];rfl:_=some (.float .f64 x.2.1))
     have c2:=(ho.out.cell cD_len zeroD 0 2 (by omega) (by decide)).trans (by rw [←hx];rfl:_=some (.int .i64 x.2.2))
     simp only [Nat.zero_mul,Nat.zero_add] at c0 c1 c2
     rw [h1]
     replace he:=Lib.hid he
     have hgw : ¬gs=w.heap.size:=by
      have:=fun g e=>(ho.out.lt g e).1
      have:=this gs rfl
      omega
     have hwg : ¬w.heap.size=gs:=fun e=>hgw e.symm
     replace hx:=Lib.hid hx
     clear h1
     go_wp2_with fail
     refine (((H.set 0 (.float .f64 x.1)).set 1 (.float .f64 x.2.1)).set 2 (.int .i64 x.2.2)).gob ?_;clear H F c0 c1 c2;intro wy H;dsimp only [upd] at H;have F:=H.f;dsimp only [Fac] at F
     refine bodyPost_ret (v := .tuple #[.agg #[.float .f64 (x.1),.float .f64 (x.2.1),.int .i64 (x.2.2)],.int .i64 0]) (by simp [results,Tryz.results38,go_sem,F]) rfl ⟨by rw [he.out];rfl,?_⟩
     exact H.B
theorem refeval_any (l:List St) (b:List De) (vs vb:Value) (w:World) (hs:Own cS 61 0 w vs l) (hb:Own cD 49 0 w vb b) (ws : ∀ s∈l,Wd s.2.2) (wb : ∀ x∈b,WdD x) :
  Calls Tryz.prog 38 #[vs,vb] w fun e w'=>e = .returned (.tuple #[.agg #[.float .f64 ((evD l b).1.1),.float .f64 ((evD l b).1.2.1),.int .i64 ((evD l b).1.2.2)],.int .i64 (evD l b).2])∧Below w.heap.size w w':=by
 obtain ⟨bs,cs,rfl⟩ : ∃ bs cs,vs = .slice bs l.length cs:=by
  rcases hs.cases with ⟨rfl,rfl⟩|⟨g,cap,rfl,_⟩
  ·exact ⟨_,_,rfl⟩
  ·exact ⟨_,_,rfl⟩
 obtain ⟨bb,cb,rfl⟩ : ∃ bs cs,vb = .slice bs b.length cs:=by
  rcases hb.cases with ⟨rfl,rfl⟩|⟨g,cap,rfl,_⟩
  ·exact ⟨_,_,rfl⟩
  ·exact ⟨_,_,rfl⟩
 by_cases h4:4<b.length
 ·exact re_box l b bs bb cs cb w hs hb h4
 cases hp:progB l b.length with
 | false=>exact re_not l b bs bb cs cb w hs hb (by omega) hp
 | true=>exact re_main l b bs bb cs cb w hs hb (by omega) hp ws wb
end Go.Proofs.YteephgpefhodnaaGreat
