/- A program's run: Eval. -/
import Derived.Test.YteephgpefhodnaaGreatV3
import Derived.Defers
import Derived.Recover
import Derived.Deep.RegionHeld3
namespace Go.Proofs.YteephgpefhodnaaGreat
open Go.RowKit Go.Sort Go.Fl
set_option linter.unusedSimpArgs false
set_option linter.unusedVariables false
def wiped (w:World) (p q:Nat):World:=(((w.setCell ⟨p,0,none⟩ (.float .f64 0)).setCell ⟨p,1,none⟩ (.float .f64 0)).setCell ⟨p,2,none⟩ (.int .i64 0)).setCell ⟨q,0,none⟩ (.int .i64 2)
set_option maxRecDepth 4000 in
theorem catch_panicking (p q:Nat) (hpq:p<q) (x0 x1 x2 y:Value) (u:TypeId) (pv:Value) (older:List PanicEntry) (w:World) (h0:At w p 0 x0) (h1:At w p 1 x1) (h2:At w p 2 x2) (h3:At w q 0 y) :
  CallsD Tryz.prog 67 #[.pointer (some ⟨p,0,none⟩),.pointer (some ⟨q,0,none⟩)] (.panicking ({ v := .iface u pv,recovered:=false }::older)) w fun e u' w' =>
   e = .returned (.tuple #[])∧u' = .panicking ({ v := .iface u pv,recovered:=true }::older)∧w'=wiped w p q:=by
 obtain ⟨a0,b0⟩:=h0
 obtain ⟨a1,b1⟩:=h1
 obtain ⟨a2,b2⟩:=h2
 obtain ⟨a3,b3⟩:=h3
 have hne : ¬p=q:=by omega
 have hne' : ¬q=p:=by omega
 refine callsD_of_wpS Tryz.func67 rfl fun c₀ cs hu => ?_
 apply wpS_seq
 apply wpS_region
 simp [wpOpsS,go_sem,recoverD,hu,Tryz.ntmps67,Exit.thenS]
 refine wpS_cond (t:=true) (by simp [Act.eval,Array.replicate]) ?_
 simp only [if_true]
 apply wpS_region
 simp [wpOpsS,go_sem,a0,a1,a2,a3,b0,b1,b2,b3,hne,hne',bodyPostS,results,Tryz.results67,wiped]
theorem catch_idle (p q:Addr) (w:World) :
  CallsD Tryz.prog 67 #[.pointer (some p),.pointer (some q)] .returning w fun e u' w'=>e = .returned (.tuple #[])∧u' = .returning∧w'=w:=by
 refine callsD_of_wpS Tryz.func67 rfl fun c₀ cs hu => ?_
 apply wpS_seq
 apply wpS_region
 simp [wpOpsS,go_sem,recoverD,hu,Tryz.ntmps67,Exit.thenS]
 refine wpS_cond (t:=false) (by simp [Act.eval,Array.replicate]) ?_
 simp only [Bool.false_eq_true,if_false]
 refine wpS_of_wp (wp_skip ?_)
 cases c₀
 simp_all [bodyPostS,results,Tryz.results67]
theorem ev_box (b:Option Addr) (n c:Nat) (b2:Option Addr) (n2 c2:Nat) (h:4<(n2:Int)) (w:World) :
  Calls Tryz.prog 37 #[.slice b n c,.slice b2 n2 c2] w fun e w'=>e = .returned (.tuple #[.agg #[.float .f64 (0),.float .f64 (0),.int .i64 (0)],.int .i64 1])∧Below w.heap.size w w':=by
 have hmf : ∀ (fn:Fn) (first cap:Array Value) (w:World),(Instr.makeFunc fn first cap).run Tryz.prog w = .ok (.func fn first cap) w:=fun _ _ _ _=>rfl
 go_enter_defers Tryz.func37,Tryz.ntmps37
 go_wp2_with fail
 simp only [bodyPostD,Leaves,settle,results,Tryz.results37]
 refine ⟨_,by simp [go_sem],rfl,by go_grown⟩
theorem ev_long (b:Option Addr) (n c:Nat) (b2:Option Addr) (n2 c2:Nat) (h:(n2:Int)≤4) (h2:24<(n:Int)) (w:World) :
  Calls Tryz.prog 37 #[.slice b n c,.slice b2 n2 c2] w fun e w'=>e = .returned (.tuple #[.agg #[.float .f64 (0),.float .f64 (0),.int .i64 (0)],.int .i64 2])∧Below w.heap.size w w':=by
 have hmf : ∀ (fn:Fn) (first cap:Array Value) (w:World),(Instr.makeFunc fn first cap).run Tryz.prog w = .ok (.func fn first cap) w:=fun _ _ _ _=>rfl
 go_enter_defers Tryz.func37,Tryz.ntmps37
 go_wp2_with fail
 simp only [bodyPostD,Leaves,settle,results,Tryz.results37]
 refine ⟨_,by simp [go_sem],rfl,by go_grown⟩
theorem _root_.Go.Hold.al {w0 w:World} {l:List (Nat × Nat × Value)} (h:Hold w0 w l) (o:Obj):Hold w0 (w.alloc o) l:=⟨h.B.alloc h.B.size _,fun t m=>At.alloc (h.c t m),h.s,h.n⟩
theorem _root_.Go.Hold.row {w0 w w1:World} {l:List (Nat × Nat × Value)} {r:Option Nat} (h:Hold w0 w l) (hg:w.grownBy w1 r) (hr : ∀ k,r=some k→w0.heap.size+2≤k) (hl : ∀ t∈l,t.1<w0.heap.size+2):Hold w0 w1 l :=
 ⟨h.B.grown hg h.B.size (fun k e=>by have:=hr k e;omega),fun t m=>at_heap (h.c t m) (hg.block _ (h.c t m).lt (fun e=>by have:=hr _ e.symm;have:=hl t m;omega)),h.s,h.n⟩
theorem Own.set_ne {α:Type} {f:α→List Value} {T:TypeId} {base:Nat} {w:World} {v:Value} {l:List α} (h:Own f T base w v l) {p:Addr} (hne : ∀ g,v.ownBlock=some g→g≠p.block) (u:Value):Own f T base (w.setCell p u) v l:=by
 refine ⟨h.1,?_⟩
 rcases h.2 with h1|⟨g,cap,cur,rfl,h2,h3,rest⟩
 ·exact .inl h1
 ·exact .inr ⟨g,cap,cur,rfl,h2,(heap_setCell_other w p g u (hne g rfl)).trans h3,rest⟩
theorem thenGo {K:Act→World→Prop} {Q:Exit→Act→World→Prop} {a:Act} {W:World} {p:World→Prop} (h:p W) (k : ∀ x,p x→Exit.then K Q .normal a x):Exit.then K Q .normal a W:=k W h
theorem keepThat {p q:Prop} (h:p) (k:p→q):q:=k h
theorem _root_.Go.Hold.by {w0 w w1:World} {l:List (Nat × Nat × Value)} {p:Nat} (h:Hold w0 w l) (hg:w.grownBy w1 (some p)) (hp:w0.heap.size≤p) (hl : ∀ t∈l,t.1≠p):Hold w0 w1 l :=
 ⟨h.B.grown hg h.B.size (fun k e=>by cases e;exact hp),fun t m=>at_heap (h.c t m) (hg.block _ (h.c t m).lt (fun e=>hl t m (by cases e;rfl))),h.s,h.n⟩
theorem wiped_hold {w w1:World} {x0 x1 x2 y:Value} (H:Hold w w1 [(w.heap.size,0,x0),(w.heap.size,1,x1),(w.heap.size,2,x2),(w.heap.size+1,0,y)]) :
  Hold w (wiped w1 w.heap.size (w.heap.size+1)) [(w.heap.size,0,.float .f64 0),(w.heap.size,1,.float .f64 0),(w.heap.size,2,.int .i64 0),(w.heap.size+1,0,.int .i64 2)] :=
 (((H.set 0 (.float .f64 0)).set 1 (.float .f64 0)).set 2 (.int .i64 0)).set 3 (.int .i64 2)
theorem _root_.Go.Hold.gobD {w0 W:World} {l:List (Nat × Nat × Value)} {P:Program} {fn:Func} {R:Ending→World→Prop} {e:Exit} {a:Act} (h:Hold w0 W l) (k : ∀ x,Hold w0 x l→bodyPostD P fn R e a x):bodyPostD P fn R e a W:=k W h
theorem wiped_hold' {w w1:World} {x0 x1 x2 y:Value} (H:Hold w w1 [(w.heap.size,0,x0),(w.heap.size,1,x1),(w.heap.size,2,x2),(w.heap.size+1,0,y)]):At w1 w.heap.size 0 x0∧At w1 w.heap.size 1 x1∧At w1 w.heap.size 2 x2∧At w1 (w.heap.size+1) 0 y :=
 ⟨H.c (w.heap.size,0,x0) (by simp),H.c (w.heap.size,1,x1) (by simp),H.c (w.heap.size,2,x2) (by simp),H.c (w.heap.size+1,0,y) (by simp)⟩
theorem of_none (w:World) :
  Calls Tryz.prog 63 #[.agg #[.float .f64 (ofKey (PI)),.float .f64 (ofKey (-PI))],.int .i64 0] w fun e w'=>e = .returned (.agg #[.float .f64 (ofKey (PI)),.float .f64 (ofKey (-PI)),.int .i64 (0)])∧Below w.heap.size w w':=by
 have h:=decoof_any (ofKey PI) (ofKey (-PI)) 0 (ofKey_lt Rg_PI) (ofKey_lt Rg_MI) w
 have hi:dIll (ofKey PI) (ofKey (-PI)) 0 := .inl (Int.le_refl 0)
 unfold dLo dHi dD at h
 rw [if_pos hi,if_pos hi,if_pos hi] at h
 exact h
def badB (b:List De):Bool:=b.any (fun y=>decide ((ofD y).2.2=0))
theorem badB_snoc (l:List De) (y:De):badB (l++[y])=(badB l||decide (dD y.1 y.2.1 y.2.2=0)):=by
 unfold badB;rw [List.any_append,List.any_cons,List.any_nil,Bool.or_false];rfl
theorem badB_step {b:List De} {k:Nat} (h:k<b.length):badB (b.take (k+1))=(badB (b.take k)||decide (dD (b.getD k zeroD).1 (b.getD k zeroD).2.1 (b.getD k zeroD).2.2=0)):=by
 rw [take_one b zeroD k h,badB_snoc]
theorem in_rel {w wz w3:World} {b:List De} {k:Nat} {x:De} {v v':Value} {o:Obj} {y0 y1 y2 y3:Value} {m:List (Nat × Nat × Value)} (hx:x=b.getD k zeroD) (hlt:k<b.length)
  (hown:w3.ownsRow (w.heap.size+2) 49 3 v' (((b.take k).map ofD).length+1) (((b.take k).map ofD).flatMap cD++cD (ofD x))) (hg:(wz.alloc o).grownBy w3 v.ownBlock)
  (H:Hold w wz ((w.heap.size,0,y0)::(w.heap.size,1,y1)::(w.heap.size,2,y2)::(w.heap.size+1,0,y3)::m)) (O:Own cD 49 (w.heap.size+2) wz v ((b.take k).map ofD)) :
  Own cD 49 (w.heap.size+2) w3 v' ((b.take (k+1)).map ofD)∧Hold w w3 [(w.heap.size,0,y0),(w.heap.size,1,y1),(w.heap.size,2,y2),(w.heap.size+1,0,y3)]:=by
 constructor
 ·rw [take_one b zeroD k hlt,List.map_append,←hx]
  exact own_snoc hown
 ·refine ((H.cut 4).al o).row hg (fun g e=>(O.lt g e).1) (fun t m => ?_)
  simp only [List.take_succ_cons,List.take_zero,List.mem_cons,List.not_mem_nil,or_false] at m
  rcases m with rfl|rfl|rfl|rfl<;>(simp only;omega)
set_option maxRecDepth 4000 in
set_option maxHeartbeats 1500000 in
theorem ev_main (l:List St) (b:List De) (bs bb:Option Addr) (cs cb:Nat) (w:World) (hs:Own cS 61 0 w (.slice bs l.length cs) l) (hb:Own cD 49 0 w (.slice bb b.length cb) b) (h4:(b.length:Int)≤4) (h24:(l.length:Int)≤24) (ws : ∀ s∈l,Wd s.2.2) (wb : ∀ x∈b,WdD x) :
  Calls Tryz.prog 37 #[.slice bs l.length cs,.slice bb b.length cb] w fun e w'=>e = .returned (.tuple #[.agg #[.float .f64 ((evD l b).1.1),.float .f64 ((evD l b).1.2.1),.int .i64 ((evD l b).1.2.2)],.int .i64 (evD l b).2])∧Below w.heap.size w w':=by
 have hmf : ∀ (fn:Fn) (first cap:Array Value) (w:World),(Instr.makeFunc fn first cap).run Tryz.prog w = .ok (.func fn first cap) w:=fun _ _ _ _=>rfl
 obtain ⟨i0,hi,hz0,hz1,hz2⟩:=info_of info_D
 replace hi:=Lib.hid hi;replace hz0:=Lib.hid hz0;replace hz1:=Lib.hid hz1;replace hz2:=Lib.hid hz2
 replace hs:=Lib.hid hs;replace hb:=Lib.hid hb;replace ws:=Lib.hid ws;replace wb:=Lib.hid wb
 go_enter_defers Tryz.func37,Tryz.ntmps37
 go_wp2_with fail
 have H:=((Hold.st w).new3 (.float .f64 0) (.float .f64 0) (.int .i64 0) 49).new1 (.int .i64 0) 57
 simp only [add,World.size_alloc] at H
 refine H.go ?_;clear H;intro wl H
 go_loopw [6,7,23] (fun vi bd i wr => ∃ (k:Nat) (v:Value),i = .int .i64 (k:Int)∧v=vi∧bd = .bool (badB (b.take k))∧k≤b.length∧Own cD 49 (w.heap.size+2) wr v ((b.take k).map ofD)∧Hold w wr [(w.heap.size,0,.float .f64 0),(w.heap.size,1,.float .f64 0),(w.heap.size,2,.int .i64 0),(w.heap.size+1,0,.int .i64 0)])
  (fun _ _ i _=>b.length-(intOf i).toNat)
 case atStart=>exact ⟨0,_,rfl,rfl,rfl,Nat.zero_le _,own_nil _ _ _ _,H⟩
 case round =>
  clear H
  obtain ⟨k,v,rfl,e,rfl,hk,ho,H⟩:=hrel
  subst e
  have F:=H.f;dsimp only [Fac] at F
  replace ho:=Lib.hid ho
  by_cases hlt:k<b.length
  ·obtain ⟨x,hx⟩ : ∃ x,x=b.getD k zeroD:=⟨_,rfl⟩
   obtain ⟨g,hg,e⟩ : ∃ g,g<w.heap.size∧bb=some ⟨g,0,none⟩:=by
    rcases hb.out.cases with ⟨_,e2⟩|⟨g,cap,e,_,_,_,hg⟩
    ·rw [e2] at hlt;simp at hlt
    ·cases e;exact ⟨g,hg,rfl⟩
   subst e
   have c0:=RowKit.Below.cells H.B ((hb.out.cell cD_len zeroD k 0 hlt (by decide)).trans (by rw [←hx];rfl:_=some (.float .f64 x.1)))
   have c1:=RowKit.Below.cells H.B ((hb.out.cell cD_len zeroD k 1 hlt (by decide)).trans (by rw [←hx];rfl:_=some (.float .f64 x.2.1)))
   have c2:=RowKit.Below.cells H.B ((hb.out.cell cD_len zeroD k 2 hlt (by decide)).trans (by rw [←hx];rfl:_=some (.int .i64 x.2.2)))
   rw [Nat.add_zero] at c0
   have k0:=cell_regrown c0;have k1:=cell_regrown c1;have k2:=cell_regrown c2
   have wx:WdD x:=wb.out x (by rw [hx,List.getD_eq_getElem?_getD,List.getElem?_eq_getElem hlt];exact List.getElem_mem hlt)
   have OF:=Lib.hid (fun w=>decoof_any x.1 x.2.1 x.2.2 wx.1 wx.2 w)
   replace hx:=Lib.hid hx
   have hki:(k:Int)<(b.length:Int):=by omega
   cases hbd:badB (b.take k)
   all_goals
    replace hbd:=Lib.hid hbd
    go_wp2_with fail
    have hne : ∀ g,v.ownBlock=some g→g≠wr.heap.size:=fun g e=>Nat.ne_of_lt (ho.out.lt g e).2
    replace hne:=hne
    have hgq : ¬g=wr.heap.size:=by have:=H.B.size;omega
    have hqg : ¬wr.heap.size=g:=fun e=>hgq e.symm
    go_region_held3 (fun w'=>w'.cell? ⟨g,k*3,none⟩=some (.float .f64 x.1)∧w'.cell? ⟨g,k*3+1,none⟩=some (.float .f64 x.2.1)∧w'.cell? ⟨g,k*3+2,none⟩=some (.int .i64 x.2.2)) (first|exact ⟨c0,c1,c2⟩|exact ⟨d0,d1,d2⟩|go_keep) (first|(go_at_call 63;refine (OF.out _).mono ?_;rintro e w2 ⟨rfl,hb2⟩;have d0:=RowKit.Below.cells hb2 (b:=g) (o:=k*3) (v := .float .f64 x.1) (by first|exact c0|simp [c0,World.cell?_alloc_some]);have d1:=RowKit.Below.cells hb2 (b:=g) (o:=k*3+1) (v := .float .f64 x.2.1) (by first|exact c1|simp [c1,World.cell?_alloc_some]);have d2:=RowKit.Below.cells hb2 (b:=g) (o:=k*3+2) (v := .int .i64 x.2.2) (by first|exact c2|simp [c2,World.cell?_alloc_some]);(first|(refine keepThat (RowKit.Below.cells hb2 (b:=wr.heap.size) (o:=0) (v := .float .f64 0) ?_) ?_;simp [go_sem];intro z0;refine keepThat (RowKit.Below.cells hb2 (b:=wr.heap.size) (o:=1) (v := .float .f64 0) ?_) ?_;simp [go_sem];intro z1;refine keepThat (RowKit.Below.cells hb2 (b:=wr.heap.size) (o:=2) (v := .int .i64 0) ?_) ?_;simp [go_sem];intro z2;refine keepThat (RowKit.Below.froz hb2 (b:=wr.heap.size) (o:=0) (v := .float .f64 0) ?_ ?_) ?_;simp [go_sem];simp [go_sem];intro y0;refine keepThat (RowKit.Below.froz hb2 (b:=wr.heap.size) (o:=1) (v := .float .f64 0) ?_ ?_) ?_;simp [go_sem];simp [go_sem];intro y1;refine keepThat (RowKit.Below.froz hb2 (b:=wr.heap.size) (o:=2) (v := .int .i64 0) ?_ ?_) ?_;simp [go_sem];simp [go_sem];intro y2)|skip)))
    all_goals
     first
      | refine thenGo (p:=fun x_=>Hold w x_ [(w.heap.size,0,.float .f64 0),(w.heap.size,1,.float .f64 0),(w.heap.size,2,.int .i64 0),(w.heap.size+1,0,.int .i64 0),(w2.heap.size,0,.float .f64 (ofKey (dLo x.1 x.2.1 x.2.2))),(w2.heap.size,1,.float .f64 (ofKey (dHi x.1 x.2.1 x.2.2))),(w2.heap.size,2,.int .i64 (dD x.1 x.2.1 x.2.2))]∧Hid (Own cD 49 (w.heap.size+2) x_ v ((b.take k).map ofD))) ⟨(H.drew.below hb2).new3 _ _ _ _,Lib.hid ((ho.out.drew.grown hb2).alloc _)⟩ ?_
      | refine thenGo (p:=fun x_=>Hold w x_ [(w.heap.size,0,.float .f64 0),(w.heap.size,1,.float .f64 0),(w.heap.size,2,.int .i64 0),(w.heap.size+1,0,.int .i64 0),(wr.heap.size,0,.float .f64 (ofKey (dLo x.1 x.2.1 x.2.2))),(wr.heap.size,1,.float .f64 (ofKey (dHi x.1 x.2.1 x.2.2))),(wr.heap.size,2,.int .i64 (dD x.1 x.2.1 x.2.2))]∧Hid (Own cD 49 (w.heap.size+2) x_ v ((b.take k).map ofD))) ⟨((((H.new3 (.float .f64 0) (.float .f64 0) (.int .i64 0) 49).drew.below hb2).set 4 (.float .f64 (ofKey (dLo x.1 x.2.1 x.2.2)))).set 5 (.float .f64 (ofKey (dHi x.1 x.2.1 x.2.2)))).set 6 (.int .i64 (dD x.1 x.2.1 x.2.2)),Lib.hid (((((ho.out.alloc _).drew.grown hb2).set_ne hne _).set_ne hne _).set_ne hne _)⟩ ?_
     intro wz hwz
     obtain ⟨Hz,Oz⟩:=hwz
     have Fz:=Hz.f;dsimp only [Fac] at Fz
     clear H F hb2 c0 c1 c2
     try clear d0 d1 d2
     try clear z0 z1 z2 y0 y1 y2
     have hw2:=Hz.B.size
     go_wp2_with (at_builtin;refine wpList_append_own _ rfl _ _ 55 rfl (w.heap.size+2) 49 i0 _ 3 24 Tryz.underlying55 hi.out hz0.out hz1.out hz2.out rfl (by decide) _ _ _ rfl (Oz.out.alloc _) ⟨wz.heap.size,0,none⟩ 1 1 (cD (ofD x)) rfl rfl (by intro j u hj;match j,hj with|0,hj=>(simp [cD,ofD] at hj;subst hj;simp [go_sem,Addr.add])|1,hj=>(simp [cD,ofD] at hj;subst hj;simp [go_sem,Addr.add])|2,hj=>(simp [cD,ofD] at hj;subst hj;simp [go_sem,Addr.add])) (by intro u hu;simp [cD] at hu;rcases hu with rfl|rfl|rfl<;>rfl) (by rw [List.length_map,List.length_take];unfold maxLen;omega) (by rw [List.length_map,List.length_take];omega) (by have:=(Hz.c _ (List.mem_cons_of_mem _ (List.mem_cons_of_mem _ (List.mem_cons_of_mem _ List.mem_cons_self)))).lt;simp at this ⊢;omega) ?_;intro v' w3 hown' hgrow _;have R:=Lib.hid (in_rel hx.out hlt hown' hgrow Hz Oz.out);clear hown' hgrow)
     go_wp2_with fail
     go_roundw
     case rel=>exact ⟨k+1,v',by go_num,rfl,by rw [badB_step hlt,←hx.out,hbd.out];rfl,by omega,R.out.1,R.out.2⟩
     case measure=>simp [intOf];omega
  ·obtain ⟨wi,rfl⟩ : ∃ wi,wi=wr:=⟨_,rfl⟩
   have hkb:b.take k=b:=List.take_of_length_le (by omega)
   rw [hkb] at ho
   simp only [hkb]
   go_wp2_with fail
   have hS:Stk wi.heap.size (wi.alloc (.cells #[.slice none 0 0] 78)) []:=⟨_,by simp [go_sem],by simp [go_sem],own_nil _ _ _ _⟩
   have hB:=below_new (w:=wi) (.cells #[.slice none 0 0] 78)
   have HH:=Lib.hid H
   have ho:=Lib.hid ho
   clear H F hkb hlt
   go_loopw [50] (fun i wk => ∃ (n:Nat) (st:List De),i = .int .i64 (n:Int)∧n≤l.length∧runD (b.map ofD) (l.take n) []=some st∧Stk wi.heap.size wk st∧Below wi.heap.size wi wk) (fun i _=>l.length-(intOf i).toNat)
   case atStart=>exact ⟨0,[],rfl,Nat.zero_le _,rfl,hS,hB⟩
   case round =>
    clear hS hB
    obtain ⟨n,st,rfl,hn,hr,hS,hB⟩:=hrel
    have hf:=run_facts (ok_map b) hr okl_nil (by simp)
    replace hr:=Lib.hid hr
    replace hS:=Lib.hid hS
    have hPB:=HH.out.B.size
    by_cases hlt:n<l.length
    ·obtain ⟨s,hs'⟩ : ∃ s,s=l.getD n zeroS:=⟨_,rfl⟩
     obtain ⟨g,hg,e⟩ : ∃ g,g<w.heap.size∧bs=some ⟨g,0,none⟩:=by
      rcases hs.out.cases with ⟨_,e2⟩|⟨g,cap,e,_,_,_,hg⟩
      ·rw [e2] at hlt;simp at hlt
      ·cases e;exact ⟨g,hg,rfl⟩
     subst e
     have lift:=fun (j:Nat) (u:Value) (h:w.cell? ⟨g,j,none⟩=some u)=>(hB.cell (p:=⟨g,j,none⟩) (by show g<_;omega)).trans (RowKit.Below.cells HH.out.B h)
     have c0:=lift _ _ ((hs.out.cell cS_len zeroS n 0 hlt (by decide)).trans (by rw [←hs'];rfl:_=some (.int .i64 s.1)))
     have c1:=lift _ _ ((hs.out.cell cS_len zeroS n 1 hlt (by decide)).trans (by rw [←hs'];rfl:_=some (.int .i64 s.2.1)))
     have c2:=lift _ _ ((hs.out.cell cS_len zeroS n 2 hlt (by decide)).trans (by rw [←hs'];rfl:_=some (.float .f64 s.2.2)))
     rw [Nat.add_zero] at c0
     clear lift
     have wx:Wd s.2.2:=ws.out s (by rw [hs',List.getD_eq_getElem?_getD,List.getElem?_eq_getElem hlt];exact List.getElem_mem hlt)
     have ST:=Lib.hid (step_any wi.heap.size st (b.map ofD) s v _ hS.out hf.2 hf.1 (ok_map b) (by rw [List.length_map];omega) ((ho.out.low (Nat.zero_le _)).below hB (fun g e=>(ho.out.lt g e).2)) wx)
     have hnx:runD (b.map ofD) (l.take (n+1)) []=stepD (b.map ofD) s st:=by rw [runD_step _ _ _ _ hlt,hr.out,←hs'];rfl
     replace hs':=Lib.hid hs';replace hnx:=Lib.hid hnx
     have hni:(n:Int)<(l.length:Int):=by omega
     go_wp2_with fail
     refine ST.out.mono ?_
     rintro e w3 ⟨hb3,hq⟩
     have hB3:=hB.trans hb3
     clear c0 c1 c2 ST
     cases hst:stepD (b.map ofD) s st with
     | none =>
      rw [hst] at hq
      obtain rfl:=hq
      have he:evD l b=(zeroD,2):=evD_none (by omega) (by omega) (runD_none (hnx.out.trans hst))
      clear hst
      have H3:=HH.out.below hB3
      go_wp2_with fail
      rw [he]
      refine leaves_cons (f:=67) (args := #[.pointer (some ⟨w.heap.size,0,none⟩),.pointer (some ⟨w.heap.size+1,0,none⟩)]) (by simp) (by simp [go_sem]) ?_
      refine (catch_panicking w.heap.size (w.heap.size+1) (Nat.lt_succ_self _) _ _ _ _ _ _ [] _ (H3.c (w.heap.size,0,.float .f64 0) (by simp)) (H3.c (w.heap.size,1,.float .f64 0) (by simp)) (H3.c (w.heap.size,2,.int .i64 0) (by simp)) (H3.c (w.heap.size+1,0,.int .i64 0) (by simp))).mono ?_
      rintro e u' w4 ⟨rfl,rfl,rfl⟩
      have H4:=wiped_hold H3
      have F4:=H4.f;dsimp only [Fac] at F4
      have B4:=H4.B
      generalize wiped _ _ _=w4 at *
      simp [Leaves,settle,results,Tryz.results37,go_sem,F4]
      exact ⟨⟨rfl,rfl,rfl⟩,B4⟩
     | some st' =>
      rw [hst] at hq
      obtain ⟨rfl,hS'⟩:=hq
      replace hS':=Lib.hid hS';replace hst:=Lib.hid hst
      go_wp2_with fail
      go_roundw
      case rel=>exact ⟨n+1,st',by go_num,by omega,hnx.out.trans hst.out,hS'.out,hB3⟩
      case measure=>simp [intOf];omega
    ·have hln:l.take n=l:=List.take_of_length_le (by omega)
     rw [hln] at hr
     have H2:=HH.out.below hB
     by_cases hm0:st.length=0
     ·have he:evD l b=(zeroD,2):=evD_not (by omega) (by omega) hr.out (by omega)
      go_wp2_with fail
      refine (take_nil _ _ _ hS.out hm0).mono ?_
      rintro e w3 ⟨rfl,hb3⟩
      have H3:=HH.out.below (hB.trans hb3)
      go_wp2_with fail
      rw [he]
      refine leaves_cons (f:=67) (args := #[.pointer (some ⟨w.heap.size,0,none⟩),.pointer (some ⟨w.heap.size+1,0,none⟩)]) (by simp) (by simp [go_sem]) ?_
      refine (catch_panicking w.heap.size (w.heap.size+1) (Nat.lt_succ_self _) _ _ _ _ _ _ [] _ (H3.c (w.heap.size,0,.float .f64 0) (by simp)) (H3.c (w.heap.size,1,.float .f64 0) (by simp)) (H3.c (w.heap.size,2,.int .i64 0) (by simp)) (H3.c (w.heap.size+1,0,.int .i64 0) (by simp))).mono ?_
      rintro e u' w4 ⟨rfl,rfl,rfl⟩
      have H4:=wiped_hold H3
      have F4:=H4.f;dsimp only [Fac] at F4
      have B4:=H4.B
      generalize wiped _ _ _=w4 at *
      simp [Leaves,settle,results,Tryz.results37,go_sem,F4]
      exact ⟨⟨rfl,rfl,rfl⟩,B4⟩
     ·obtain ⟨m,hm⟩ : ∃ m,st.length=m+1:=⟨st.length-1,by omega⟩
      have hm7:m≤7:=by omega
      go_wp2_with fail
      refine (take_k _ _ _ hS.out m hm hm7).mono ?_
      rintro e w3 ⟨rfl,hS3,hg3⟩
      have H3:=H2.by hg3 hPB (by intro t m;simp only [List.mem_cons,List.not_mem_nil,or_false] at m;have:=(HH.out.c (_,_,_) (List.mem_cons_of_mem _ (List.mem_cons_of_mem _ (List.mem_cons_of_mem _ List.mem_cons_self)))).lt;rcases m with rfl|rfl|rfl|rfl<;>(simp only;omega))
      have hS3':=hS3
      obtain ⟨b3,c3,hp3⟩ : ∃ b3 c3,w3.cell? ⟨wi.heap.size,0,none⟩=some (.slice b3 m c3):=by
       obtain ⟨v3,p1,p2,p3⟩:=hS3
       have hlm:(st.take m).length=m:=by rw [List.length_take];omega
       rcases p3.cases with ⟨rfl,e⟩|⟨g,cap,rfl,_⟩
       ·rw [e] at hlm;simp at hlm;subst hlm;exact ⟨_,_,p1⟩
       ·rw [hlm] at p1;exact ⟨_,_,p1⟩
      clear hS3 hS3' hg3
      obtain ⟨x,hx⟩ : ∃ x,x=st.getD m zeroD:=⟨_,rfl⟩
      rw [←hx]
      replace hx:=Lib.hid hx
      have hwi:=(HH.out.c (w.heap.size+1,0,.int .i64 0) (by simp)).lt
      simp only at hwi
      have q0 : ¬wi.heap.size=w.heap.size:=by omega
      have q1 : ¬w.heap.size=wi.heap.size:=by omega
      have q2 : ¬wi.heap.size=w.heap.size+1:=by omega
      have F3:=H3.f;dsimp only [Fac] at F3
      by_cases hm1:m=0
      ·subst hm1
       have he:=evD_one (by omega) (by omega) hr.out (by omega)
       rw [←hx.out] at he
       cases hbad:badB b
       ·have he':evD l b=(x,0):=by rw [he,show b.any (fun y=>decide ((ofD y).2.2=0))=false from hbad];rfl
        clear he
        go_wp2_with fail
        rw [he']
        clear F3 hp3
        refine (((((((H3.set 0 (.float .f64 x.1)).set 1 (.float .f64 x.2.1)).set 2 (.int .i64 x.2.2)).set 0 (.float .f64 x.1)).set 1 (.float .f64 x.2.1)).set 2 (.int .i64 x.2.2)).set 3 (.int .i64 0)).gobD ?_
        clear H3;intro w8 H8;dsimp only [upd] at H8
        have F8:=H8.f;dsimp only [Fac] at F8
        have B8:=H8.B
        refine leaves_cons (f:=67) (args := #[.pointer (some ⟨w.heap.size,0,none⟩),.pointer (some ⟨w.heap.size+1,0,none⟩)]) (by simp) (by simp [go_sem]) ?_
        refine (catch_idle _ _ _).mono ?_
        rintro e u' w9 ⟨rfl,rfl,rfl⟩
        simp [Leaves,settle,results,Tryz.results37,go_sem,F8]
        first|exact B8|exact ⟨⟨rfl,rfl,rfl⟩,B8⟩
       ·have he':evD l b=(illD,0):=by rw [he,show b.any (fun y=>decide ((ofD y).2.2=0))=true from hbad];rfl
        clear he
        go_wp2_with fail
        refine (((H3.set 0 (.float .f64 x.1)).set 1 (.float .f64 x.2.1)).set 2 (.int .i64 x.2.2)).goc ?_
        clear H3 F3 hp3;intro w5 H5;dsimp only [upd] at H5
        have F5:=H5.f;dsimp only [Fac] at F5
        refine (ivlempty_any _).mono ?_;rintro e w6 ⟨rfl,hb6⟩
        replace H5:=H5.below hb6;clear hb6;replace F5:=H5.f;dsimp only [Fac] at F5
        go_wp2_with fail
        refine (of_none _).mono ?_;rintro e w7 ⟨rfl,hb7⟩
        replace H5:=H5.below hb7;clear hb7;replace F5:=H5.f;dsimp only [Fac] at F5
        go_wp2_with fail
        rw [he']
        clear F5
        refine (((((((H5.set 0 (.float .f64 (ofKey PI))).set 1 (.float .f64 (ofKey (-PI)))).set 2 (.int .i64 0)).set 0 (.float .f64 (ofKey PI))).set 1 (.float .f64 (ofKey (-PI)))).set 2 (.int .i64 0)).set 3 (.int .i64 0)).gobD ?_
        clear H5;intro w8 H8;dsimp only [upd] at H8
        have F8:=H8.f;dsimp only [Fac] at F8
        have B8:=H8.B
        refine leaves_cons (f:=67) (args := #[.pointer (some ⟨w.heap.size,0,none⟩),.pointer (some ⟨w.heap.size+1,0,none⟩)]) (by simp) (by simp [go_sem]) ?_
        refine (catch_idle _ _ _).mono ?_
        rintro e u' w9 ⟨rfl,rfl,rfl⟩
        simp [Leaves,settle,results,Tryz.results37,go_sem,F8]
        first|exact B8|exact ⟨⟨rfl,rfl,rfl⟩,B8⟩
      ·have he:evD l b=(zeroD,2):=evD_not (by omega) (by omega) hr.out (by omega)
       have hm2:(0:Int)<(m:Int):=by omega
       go_wp2_with fail
       rw [he]
       refine (((H3.set 0 (.float .f64 x.1)).set 1 (.float .f64 x.2.1)).set 2 (.int .i64 x.2.2)).gobD ?_
       clear H3 F3 hp3;intro w5 H5;dsimp only [upd] at H5
       have K5:=wiped_hold' H5
       refine leaves_cons (f:=67) (args := #[.pointer (some ⟨w.heap.size,0,none⟩),.pointer (some ⟨w.heap.size+1,0,none⟩)]) (by simp) (by simp [go_sem]) ?_
       refine (catch_panicking w.heap.size (w.heap.size+1) (Nat.lt_succ_self _) _ _ _ _ _ _ [] _ K5.1 K5.2.1 K5.2.2.1 K5.2.2.2).mono ?_
       rintro e u' w4 ⟨rfl,rfl,rfl⟩
       have H4:=wiped_hold H5
       have F4:=H4.f;dsimp only [Fac] at F4
       have B4:=H4.B
       generalize wiped _ _ _=w4 at *
       simp [Leaves,settle,results,Tryz.results37,go_sem,F4]
       exact ⟨⟨rfl,rfl,rfl⟩,B4⟩
theorem spanseval_any (l:List St) (b:List De) (vs vb:Value) (w:World) (hs:Own cS 61 0 w vs l) (hb:Own cD 49 0 w vb b) (ws : ∀ s∈l,Wd s.2.2) (wb : ∀ x∈b,WdD x) :
  Calls Tryz.prog 37 #[vs,vb] w fun e w'=>e = .returned (.tuple #[.agg #[.float .f64 ((evD l b).1.1),.float .f64 ((evD l b).1.2.1),.int .i64 ((evD l b).1.2.2)],.int .i64 (evD l b).2])∧Below w.heap.size w w':=by
 obtain ⟨bs,cs,rfl⟩ : ∃ bs cs,vs = .slice bs l.length cs:=by
  rcases hs.cases with ⟨rfl,rfl⟩|⟨g,cap,rfl,_⟩
  ·exact ⟨_,_,rfl⟩
  ·exact ⟨_,_,rfl⟩
 obtain ⟨bb,cb,rfl⟩ : ∃ bs cs,vb = .slice bs b.length cs:=by
  rcases hb.cases with ⟨rfl,rfl⟩|⟨g,cap,rfl,_⟩
  ·exact ⟨_,_,rfl⟩
  ·exact ⟨_,_,rfl⟩
 by_cases h4:4<b.length
 ·rw [evD_box h4];exact ev_box bs _ cs bb _ cb (by omega) w
 by_cases h24:24<l.length
 ·rw [evD_long h4 h24];exact ev_long bs _ cs bb _ cb (by omega) (by omega) w
 exact ev_main l b bs bb cs cb w hs hb (by omega) (by omega) ws wb
end Go.Proofs.YteephgpefhodnaaGreat
