/- A program's step. -/
import Derived.Test.YteephgpefhodnaaGreatV1
namespace Go.Proofs.YteephgpefhodnaaGreat
open Go.RowKit Go.Sort Go.Fl
set_option linter.unusedSimpArgs false
set_option linter.unusedVariables false
theorem _root_.Go.Ats.grown {w w':World} {l:List (Nat × Nat × Value)} (h:Ats w l) (hb:Below w.heap.size w w'):Ats w' l:=fun t m=>At.below (h t m) hb
theorem at_heap {w w':World} {b f:Nat} {u:Value} (h:At w b f u) (e:w'.heap[b]? = w.heap[b]?):At w' b f u :=
 ⟨(World.cell?_of_block (w:=w) (a:=⟨b,f,none⟩) e).trans h.1,(World.frozen?_of_block (w:=w) (a:=⟨b,f,none⟩) e).trans h.2⟩
theorem _root_.Go.Ats.by {w w':World} {l:List (Nat × Nat × Value)} {p:Nat} (h:Ats w l) (hg:w.grownBy w' (some p)) (hne : ∀ t∈l,t.1≠p):Ats w' l :=
 fun t m=>at_heap (h t m) (hg.block _ (h t m).lt (fun e=>hne t m (by cases e;rfl)))
theorem _root_.Go.Ats.new3 {w:World} {l:List (Nat × Nat × Value)} (h:Ats w l) (v0 v1 v2:Value) (T:TypeId):Ats (w.alloc (.cells #[v0,v1,v2] T)) (add l [(w.heap.size,0,v0),(w.heap.size,1,v1),(w.heap.size,2,v2)]):=by
 rw [add_eq]
 intro t ht
 rcases List.mem_append.1 ht with ht|ht
 ·exact At.alloc (h t ht)
 ·simp only [List.mem_cons,List.not_mem_nil,or_false] at ht
  rcases ht with rfl|rfl|rfl<;>exact ⟨by simp [go_sem],by simp [go_sem]⟩
theorem ats_nil (w:World):Ats w []:=fun _ h=>(by cases h)
theorem by_low {w w':World} {p:Nat} (hg:w.grownBy w' (some p)) (hp:p<w.heap.size):Below p w w' :=
 ⟨hg.os,hg.tape,hg.output,hg.size,fun k hk=>hg.block k (by omega) (fun e=>by cases e;omega)⟩
theorem below_new {w:World} (o:Obj):Below w.heap.size w (w.alloc o):=(Below.refl _ _).alloc (Nat.le_refl _) _
theorem argsK_13:argsK 13=0:=by decide
theorem argsK_12:argsK 12=0:=by decide
set_option maxRecDepth 4000 in
set_option maxHeartbeats 2000000 in
theorem step_c (pb:Nat) (st:List De) (i:Int) (x:Nat) (vin:Value) (hx:Wd x) (fx:fin x) (w:World) (hS:Stk pb w st) (h8:st.length≤8) :
  Calls Tryz.prog 68 #[.pointer (some ⟨pb,0,none⟩),.agg #[.int .i64 (12),.int .i64 (i),.float .f64 (x)],vin] w (Done pb w (putD st (ofD (x,x,4)))):=by
 have OF:=Lib.hid (fun w=>decoof_any x x 4 hx hx w)
 have FI:=Lib.hid (fun w=>finite_yes x hx fx w)
 clear fx
 have hlt:=hS.lt
 have A0:=(ats_nil w).new3 (.int .i64 (12)) (.int .i64 (i)) (.float .f64 (x)) 61
 dsimp only [add] at A0
 have hS0:=hS.grown (below_new (.cells #[.int .i64 (12),.int .i64 (i),.float .f64 (x)] 61))
 have B0:Below w.heap.size w (w.alloc (.cells #[.int .i64 (12),.int .i64 (i),.float .f64 (x)] 61)):=below_new _
 have hS0:=Lib.hid hS0
 clear A0 hS
 go_enter Tryz.func68,Tryz.ntmps68
 go_wp2_with fail
 refine (FI.out _).mono ?_;rintro e w' ⟨rfl,rfl⟩
 go_wp2_with fail
 refine (OF.out _).mono ?_;rintro e w1 ⟨rfl,hb1⟩
 have hS1:=hS0.out.grown hb1
 go_wp2_with fail
 refine (put_any pb st (ofD (x,x,4)) _ hS1 h8).mono ?_
 rintro e wq ⟨hbq,hq⟩
 have hB:Below pb w wq:=((B0.mono (Nat.le_of_lt hlt)).trans (hb1.mono (Nat.le_of_lt hS0.out.lt))).trans hbq
 cases hr:putD st (ofD (x,x,4)) with
 | none =>
  rw [hr] at hq
  obtain rfl:=hq
  have hr:=Lib.hid hr
  go_wp2_with fail
  refine ⟨rfl,hB,?_⟩
  first|exact rfl|(rw [hr.out])
 | some st' =>
  rw [hr] at hq
  obtain ⟨rfl,hs⟩:=hq
  have hr:=Lib.hid hr
  have hs:=Lib.hid hs
  go_wp2_with fail
  go_end0
  refine ⟨hB,?_⟩
  rw [hr.out]
  exact ⟨rfl,hs.out⟩
set_option maxRecDepth 4000 in
set_option maxHeartbeats 2000000 in
theorem step_cn (pb:Nat) (st:List De) (i:Int) (x:Nat) (vin:Value) (hx:Wd x) (fx : ¬fin x) (w:World) (hS:Stk pb w st) (h8:st.length≤8) :
  Calls Tryz.prog 68 #[.pointer (some ⟨pb,0,none⟩),.agg #[.int .i64 (12),.int .i64 (i),.float .f64 (x)],vin] w (Done pb w none):=by
 have ar:=fun w=>ivlargs_any 12 w
 rw [argsK_12] at ar
 have AR:=Lib.hid ar
 clear ar
 have FI:=Lib.hid (fun w=>finite_no x hx fx w)
 clear fx
 have hlt:=hS.lt
 have A0:=(ats_nil w).new3 (.int .i64 (12)) (.int .i64 (i)) (.float .f64 (x)) 61
 dsimp only [add] at A0
 have hS0:=hS.grown (below_new (.cells #[.int .i64 (12),.int .i64 (i),.float .f64 (x)] 61))
 have B0:Below w.heap.size w (w.alloc (.cells #[.int .i64 (12),.int .i64 (i),.float .f64 (x)] 61)):=below_new _
 clear A0 hS
 go_enter Tryz.func68,Tryz.ntmps68
 go_wp2_with fail
 refine (FI.out _).mono ?_;rintro e w' ⟨rfl,rfl⟩
 go_wp2_with fail
 refine (AR.out _).mono ?_;rintro e w1 ⟨rfl,hb1⟩
 have hB:Below pb w w1:=(B0.trans (hb1.mono B0.size)).mono (Nat.le_of_lt hlt)
 go_wp2_with fail
 refine ⟨rfl,hB,rfl⟩
set_option maxRecDepth 4000 in
set_option maxHeartbeats 2000000 in
theorem step_vn (pb:Nat) (st:List De) (i:Int) (x:Nat) (b:Option Addr) (n c:Nat) (hi:i<0∨(0≤i∧(n:Int)≤i)) (w:World) (hS:Stk pb w st) (h8:st.length≤8) :
  Calls Tryz.prog 68 #[.pointer (some ⟨pb,0,none⟩),.agg #[.int .i64 (13),.int .i64 (i),.float .f64 (x)],.slice b n c] w (Done pb w none):=by
 have ar:=fun w=>ivlargs_any 13 w
 rw [argsK_13] at ar
 have AR:=Lib.hid ar
 clear ar
 rcases hi with hi|⟨hi,hi2⟩
 all_goals
  have hlt:=hS.lt
  have A0:=(ats_nil w).new3 (.int .i64 (13)) (.int .i64 (i)) (.float .f64 (x)) 61
  dsimp only [add] at A0
  have hS0:=hS.grown (below_new (.cells #[.int .i64 (13),.int .i64 (i),.float .f64 (x)] 61))
  have B0:Below w.heap.size w (w.alloc (.cells #[.int .i64 (13),.int .i64 (i),.float .f64 (x)] 61)):=below_new _
  clear A0 hS
  go_enter Tryz.func68,Tryz.ntmps68
  go_wp2_with fail
  refine (AR.out _).mono ?_;rintro e w1 ⟨rfl,hb1⟩
  have hB:Below pb w w1:=(B0.trans (hb1.mono B0.size)).mono (Nat.le_of_lt hlt)
  go_wp2_with fail
  refine ⟨rfl,hB,rfl⟩
set_option maxRecDepth 4000 in
set_option maxHeartbeats 2000000 in
theorem step_n (pb:Nat) (st:List De) (o i:Int) (x:Nat) (vin:Value) (h12 : ¬o=12) (h13 : ¬o=13) (ha:argsK o=0) (w:World) (hS:Stk pb w st) (h8:st.length≤8) :
  Calls Tryz.prog 68 #[.pointer (some ⟨pb,0,none⟩),.agg #[.int .i64 (o),.int .i64 (i),.float .f64 (x)],vin] w (Done pb w none):=by
 have d12:(o==12)=false:=by rw [beq_eq_false_iff_ne];exact h12
 have d13:(o==13)=false:=by rw [beq_eq_false_iff_ne];exact h13
 have ar:=fun w=>ivlargs_any o w
 rw [ha] at ar
 have AR:=Lib.hid ar
 clear ar
 clear ha h12 h13
 have hlt:=hS.lt
 have A0:=(ats_nil w).new3 (.int .i64 (o)) (.int .i64 (i)) (.float .f64 (x)) 61
 dsimp only [add] at A0
 have hS0:=hS.grown (below_new (.cells #[.int .i64 (o),.int .i64 (i),.float .f64 (x)] 61))
 have B0:Below w.heap.size w (w.alloc (.cells #[.int .i64 (o),.int .i64 (i),.float .f64 (x)] 61)):=below_new _
 clear A0 hS
 go_enter Tryz.func68,Tryz.ntmps68
 go_wp2_with fail
 refine (AR.out _).mono ?_;rintro e w1 ⟨rfl,hb1⟩
 have hB:Below pb w w1:=(B0.trans (hb1.mono B0.size)).mono (Nat.le_of_lt hlt)
 go_wp2_with fail
 refine ⟨rfl,hB,rfl⟩
set_option maxRecDepth 4000 in
set_option maxHeartbeats 2000000 in
theorem step_v (w:World) (pb:Nat) (st:List De) (k:Nat) (x:Nat) (g c:Nat) (bx:List De) (hin:Own cD 49 0 w (.slice (some ⟨g,0,none⟩) bx.length c) bx) (hk:k<bx.length) (hl:bx.length≤4) (hS:Stk pb w st) (h8:st.length≤8) :
  Calls Tryz.prog 68 #[.pointer (some ⟨pb,0,none⟩),.agg #[.int .i64 (13),.int .i64 ((k:Int)),.float .f64 (x)],.slice (some ⟨g,0,none⟩) bx.length c] w (Done pb w (putD st (bx.getD k zeroD))):=by
 have hlt:=hS.lt
 have A0:=(ats_nil w).new3 (.int .i64 (13)) (.int .i64 ((k:Int))) (.float .f64 (x)) 61
 dsimp only [add] at A0
 have hS0:=hS.grown (below_new (.cells #[.int .i64 (13),.int .i64 ((k:Int)),.float .f64 (x)] 61))
 have B0:Below w.heap.size w (w.alloc (.cells #[.int .i64 (13),.int .i64 ((k:Int)),.float .f64 (x)] 61)):=below_new _
 have hcap:bx.length≤c:=by
  rcases hin.cases with ⟨e,_⟩|⟨_,_,e,h,_⟩
  ·cases e
  ·cases e;exact h
 have c0:=hin.cell cD_len zeroD k 0 hk (by decide)
 have c1:=hin.cell cD_len zeroD k 1 hk (by decide)
 have c2:=hin.cell cD_len zeroD k 2 hk (by decide)
 simp only [cD,List.getElem?_cons_zero,List.getElem?_cons_succ,Nat.add_zero] at c0 c1 c2
 have hS0:=Lib.hid hS0
 have ki:(k:Int)<(bx.length:Int):=by omega
 have hgl:=(hin.lt g rfl).2
 clear A0 hS hin
 generalize bx.getD k zeroD=d at *
 go_enter Tryz.func68,Tryz.ntmps68
 go_wp2_with fail
 refine (put_any pb st d _ hS0.out h8).mono ?_
 rintro e wq ⟨hbq,hq⟩
 have hB:Below pb w wq:=(B0.mono (Nat.le_of_lt hlt)).trans hbq
 cases hr:putD st d with
 | none =>
  rw [hr] at hq
  obtain rfl:=hq
  have hr:=Lib.hid hr
  go_wp2_with fail
  refine ⟨rfl,hB,?_⟩
  first|exact rfl|(rw [hr.out])
 | some st' =>
  rw [hr] at hq
  obtain ⟨rfl,hs⟩:=hq
  have hr:=Lib.hid hr
  have hs:=Lib.hid hs
  go_wp2_with fail
  go_end0
  refine ⟨hB,?_⟩
  rw [hr.out]
  exact ⟨rfl,hs.out⟩
set_option maxRecDepth 4000 in
set_option maxHeartbeats 2000000 in
theorem step_1n (pb:Nat) (st:List De) (o i:Int) (x:Nat) (vin:Value) (ho:0≤o∧o≤5) (hn:st.length=0) (w:World) (hS:Stk pb w st) (h8:st.length≤8) :
  Calls Tryz.prog 68 #[.pointer (some ⟨pb,0,none⟩),.agg #[.int .i64 (o),.int .i64 (i),.float .f64 (x)],vin] w (Done pb w none):=by
 have ar:=fun w=>ivlargs_any o w
 rw [show argsK o=1 by unfold argsK;rw [if_pos ho]] at ar
 have AR:=Lib.hid ar
 clear ar
 have d12:(o==12)=false:=by rw [beq_eq_false_iff_ne];omega
 have d13:(o==13)=false:=by rw [beq_eq_false_iff_ne];omega
 clear ho
 have hlt:=hS.lt
 have A0:=(ats_nil w).new3 (.int .i64 (o)) (.int .i64 (i)) (.float .f64 (x)) 61
 dsimp only [add] at A0
 have hS0:=hS.grown (below_new (.cells #[.int .i64 (o),.int .i64 (i),.float .f64 (x)] 61))
 have B0:Below w.heap.size w (w.alloc (.cells #[.int .i64 (o),.int .i64 (i),.float .f64 (x)] 61)):=below_new _
 have hS0:=Lib.hid hS0
 have A0:=Lib.hid A0
 clear hS
 go_enter Tryz.func68,Tryz.ntmps68
 go_wp2_with fail
 refine (AR.out _).mono ?_;rintro e w1 ⟨rfl,hb1⟩
 have hS1:=hS0.out.grown hb1
 have A1:=A0.out.grown hb1
 have n1:w.heap.size<w1.heap.size:=by have:=hb1.size;simp only [World.size_alloc] at this;omega
 have B1:Below pb w w1:=(B0.trans (hb1.mono B0.size)).mono (Nat.le_of_lt hlt)
 clear B0 hb1
 have F:=fac_of _ A1;dsimp only [Fac] at F
 have hS1:=Lib.hid hS1;have A1:=Lib.hid A1
 go_wp2_with fail
 refine (take_nil pb _ _ hS1.out hn).mono ?_;rintro e w2 ⟨rfl,hb2⟩
 have hB:Below pb w w2:=B1.trans hb2
 go_wp2_with fail
 exact ⟨rfl,hB,rfl⟩
set_option maxRecDepth 4000 in
set_option maxHeartbeats 2000000 in
theorem step_1 (pb:Nat) (st:List De) (o i:Int) (x:Nat) (vin:Value) (ho:0≤o∧o≤5) (m:Nat) (hn:st.length=m+1) (d:De) (hd:st.getD m zeroD=d) (wd:WdD d) (w:World) (hS:Stk pb w st) (h8:st.length≤8) :
  Calls Tryz.prog 68 #[.pointer (some ⟨pb,0,none⟩),.agg #[.int .i64 (o),.int .i64 (i),.float .f64 (x)],vin] w (Done pb w (putD (st.take m) (doD o d d))):=by
 have h7:m≤7:=by omega
 have DO:=Lib.hid (fun w=>decodo_any o d.1 d.2.1 d.1 d.2.1 d.2.2 d.2.2 wd.1 wd.2 wd.1 wd.2 w)
 have ar:=fun w=>ivlargs_any o w
 rw [show argsK o=1 by unfold argsK;rw [if_pos ho]] at ar
 have AR:=Lib.hid ar
 clear ar
 have d12:(o==12)=false:=by rw [beq_eq_false_iff_ne];omega
 have d13:(o==13)=false:=by rw [beq_eq_false_iff_ne];omega
 clear ho
 have hlt:=hS.lt
 have A0:=(ats_nil w).new3 (.int .i64 (o)) (.int .i64 (i)) (.float .f64 (x)) 61
 dsimp only [add] at A0
 have hS0:=hS.grown (below_new (.cells #[.int .i64 (o),.int .i64 (i),.float .f64 (x)] 61))
 have B0:Below w.heap.size w (w.alloc (.cells #[.int .i64 (o),.int .i64 (i),.float .f64 (x)] 61)):=below_new _
 have hS0:=Lib.hid hS0
 have A0:=Lib.hid A0
 clear hS
 go_enter Tryz.func68,Tryz.ntmps68
 go_wp2_with fail
 refine (AR.out _).mono ?_;rintro e w1 ⟨rfl,hb1⟩
 have hS1:=hS0.out.grown hb1
 have A1:=A0.out.grown hb1
 have n1:w.heap.size<w1.heap.size:=by have:=hb1.size;simp only [World.size_alloc] at this;omega
 have B1:Below pb w w1:=(B0.trans (hb1.mono B0.size)).mono (Nat.le_of_lt hlt)
 clear B0 hb1
 have F:=fac_of _ A1;dsimp only [Fac] at F
 have hS1:=Lib.hid hS1;have A1:=Lib.hid A1
 go_wp2_with fail
 have TK:=take_k pb st _ hS1.out m hn h7
 rw [hd] at TK
 refine TK.mono ?_
 rintro e w2 ⟨rfl,hT2,hg2⟩
 have A2:=A1.out.by hg2 (by intro t m;simp only [List.mem_cons,List.not_mem_nil,or_false] at m;rcases m with rfl|rfl|rfl<;>(simp only;omega))
 have n2:w1.heap.size≤w2.heap.size:=hg2.size
 have B2:=B1.trans (by_low hg2 hS1.out.lt)
 have A2:=A2.new3 (.float .f64 d.1) (.float .f64 d.2.1) (.int .i64 d.2.2) 49
 have hS2:=hT2.grown (below_new (.cells #[.float .f64 d.1,.float .f64 d.2.1,.int .i64 d.2.2] 49))
 dsimp only [add] at A2
 have F2:=fac_of _ A2;dsimp only [Fac] at F2
 clear F A1 hS1 A2
 have hS2:=Lib.hid hS2;have hT2:=Lib.hid hT2
 go_wp2_with fail
 refine (DO.out _).mono ?_;rintro e w3 ⟨rfl,hb3⟩
 have hS3:=hS2.out.grown hb3
 clear F2
 go_wp2_with fail
 refine (put_any pb (st.take m) (doD o d d) _ hS3 (by rw [List.length_take];omega)).mono ?_
 rintro e wq ⟨hbq,hq⟩
 have hB:Below pb w wq:=((B2.trans ((below_new _).mono (Nat.le_of_lt hT2.out.lt))).trans (hb3.mono (Nat.le_of_lt hS2.out.lt))).trans hbq
 cases hr:putD (st.take m) (doD o d d) with
 | none =>
  rw [hr] at hq
  obtain rfl:=hq
  have hr:=Lib.hid hr
  go_wp2_with fail
  refine ⟨rfl,hB,?_⟩
  first|exact rfl|(rw [hr.out])
 | some st' =>
  rw [hr] at hq
  obtain ⟨rfl,hs⟩:=hq
  have hr:=Lib.hid hr
  have hs:=Lib.hid hs
  go_wp2_with fail
  go_end0
  refine ⟨hB,?_⟩
  rw [hr.out]
  exact ⟨rfl,hs.out⟩
set_option maxRecDepth 4000 in
set_option maxHeartbeats 2000000 in
theorem step_20 (pb:Nat) (st:List De) (o i:Int) (x:Nat) (vin:Value) (ho:6≤o∧o≤11) (hn:st.length=0) (w:World) (hS:Stk pb w st) (h8:st.length≤8) :
  Calls Tryz.prog 68 #[.pointer (some ⟨pb,0,none⟩),.agg #[.int .i64 (o),.int .i64 (i),.float .f64 (x)],vin] w (Done pb w none):=by
 have ar:=fun w=>ivlargs_any o w
 rw [show argsK o=2 by unfold argsK;rw [if_neg (by omega),if_pos ho]] at ar
 have AR:=Lib.hid ar
 clear ar
 have d12:(o==12)=false:=by rw [beq_eq_false_iff_ne];omega
 have d13:(o==13)=false:=by rw [beq_eq_false_iff_ne];omega
 clear ho
 have hlt:=hS.lt
 have A0:=(ats_nil w).new3 (.int .i64 (o)) (.int .i64 (i)) (.float .f64 (x)) 61
 dsimp only [add] at A0
 have hS0:=hS.grown (below_new (.cells #[.int .i64 (o),.int .i64 (i),.float .f64 (x)] 61))
 have B0:Below w.heap.size w (w.alloc (.cells #[.int .i64 (o),.int .i64 (i),.float .f64 (x)] 61)):=below_new _
 have hS0:=Lib.hid hS0
 have A0:=Lib.hid A0
 clear hS
 go_enter Tryz.func68,Tryz.ntmps68
 go_wp2_with fail
 refine (AR.out _).mono ?_;rintro e w1 ⟨rfl,hb1⟩
 have hS1:=hS0.out.grown hb1
 have A1:=A0.out.grown hb1
 have n1:w.heap.size<w1.heap.size:=by have:=hb1.size;simp only [World.size_alloc] at this;omega
 have B1:Below pb w w1:=(B0.trans (hb1.mono B0.size)).mono (Nat.le_of_lt hlt)
 clear B0 hb1
 have F:=fac_of _ A1;dsimp only [Fac] at F
 have hS1:=Lib.hid hS1;have A1:=Lib.hid A1
 go_wp2_with fail
 refine (take_nil pb _ _ hS1.out hn).mono ?_;rintro e w2 ⟨rfl,hb2⟩
 have hB:Below pb w w2:=B1.trans hb2
 go_wp2_with fail
 exact ⟨rfl,hB,rfl⟩
set_option maxRecDepth 4000 in
set_option maxHeartbeats 2000000 in
theorem step_21 (pb:Nat) (st:List De) (o i:Int) (x:Nat) (vin:Value) (ho:6≤o∧o≤11) (m:Nat) (hm:m=0) (hn:st.length=m+1) (d:De) (hd:st.getD m zeroD=d) (w:World) (hS:Stk pb w st) (h8:st.length≤8) :
  Calls Tryz.prog 68 #[.pointer (some ⟨pb,0,none⟩),.agg #[.int .i64 (o),.int .i64 (i),.float .f64 (x)],vin] w (Done pb w none):=by
 have h7:m≤7:=by omega
 have hl0:(st.take m).length=0:=by rw [List.length_take];omega
 clear hm
 have ar:=fun w=>ivlargs_any o w
 rw [show argsK o=2 by unfold argsK;rw [if_neg (by omega),if_pos ho]] at ar
 have AR:=Lib.hid ar
 clear ar
 have d12:(o==12)=false:=by rw [beq_eq_false_iff_ne];omega
 have d13:(o==13)=false:=by rw [beq_eq_false_iff_ne];omega
 clear ho
 have hlt:=hS.lt
 have A0:=(ats_nil w).new3 (.int .i64 (o)) (.int .i64 (i)) (.float .f64 (x)) 61
 dsimp only [add] at A0
 have hS0:=hS.grown (below_new (.cells #[.int .i64 (o),.int .i64 (i),.float .f64 (x)] 61))
 have B0:Below w.heap.size w (w.alloc (.cells #[.int .i64 (o),.int .i64 (i),.float .f64 (x)] 61)):=below_new _
 have hS0:=Lib.hid hS0
 have A0:=Lib.hid A0
 clear hS
 go_enter Tryz.func68,Tryz.ntmps68
 go_wp2_with fail
 refine (AR.out _).mono ?_;rintro e w1 ⟨rfl,hb1⟩
 have hS1:=hS0.out.grown hb1
 have A1:=A0.out.grown hb1
 have n1:w.heap.size<w1.heap.size:=by have:=hb1.size;simp only [World.size_alloc] at this;omega
 have B1:Below pb w w1:=(B0.trans (hb1.mono B0.size)).mono (Nat.le_of_lt hlt)
 clear B0 hb1
 have F:=fac_of _ A1;dsimp only [Fac] at F
 have hS1:=Lib.hid hS1;have A1:=Lib.hid A1
 go_wp2_with fail
 have TK:=take_k pb st _ hS1.out m hn h7
 rw [hd] at TK
 refine TK.mono ?_
 rintro e w2 ⟨rfl,hT2,hg2⟩
 have A2:=A1.out.by hg2 (by intro t m;simp only [List.mem_cons,List.not_mem_nil,or_false] at m;rcases m with rfl|rfl|rfl<;>(simp only;omega))
 have n2:w1.heap.size≤w2.heap.size:=hg2.size
 have B2:=B1.trans (by_low hg2 hS1.out.lt)
 have A2:=A2.new3 (.float .f64 d.1) (.float .f64 d.2.1) (.int .i64 d.2.2) 49
 have hS2:=hT2.grown (below_new (.cells #[.float .f64 d.1,.float .f64 d.2.1,.int .i64 d.2.2] 49))
 have B2':=B2.trans ((below_new (.cells #[.float .f64 d.1,.float .f64 d.2.1,.int .i64 d.2.2] 49)).mono (Nat.le_of_lt hT2.lt))
 dsimp only [add] at A2
 have hT2l:=hT2.lt
 have F2:=fac_of _ A2;dsimp only [Fac] at F2
 clear F A1 hS1 B2 hT2
 have hS2:=Lib.hid hS2;have A2:=Lib.hid A2
 go_wp2_with fail
 refine (take_nil pb _ _ hS2.out hl0).mono ?_;rintro e w3 ⟨rfl,hb3⟩
 have hB:Below pb w w3:=B2'.trans hb3
 go_wp2_with fail
 exact ⟨rfl,hB,rfl⟩
set_option maxRecDepth 4000 in
set_option maxHeartbeats 2000000 in
theorem step_2 (pb:Nat) (st:List De) (o i:Int) (x:Nat) (vin:Value) (ho:6≤o∧o≤11) (m:Nat) (hn:st.length=m+1+1) (d d2:De) (hd0:st.getD (m+1) zeroD=d) (hd2:st.getD m zeroD=d2) (wd:WdD d) (wd2:WdD d2) (w:World) (hS:Stk pb w st) (h8:st.length≤8) :
  Calls Tryz.prog 68 #[.pointer (some ⟨pb,0,none⟩),.agg #[.int .i64 (o),.int .i64 (i),.float .f64 (x)],vin] w (Done pb w (putD (st.take m) (doD o d2 d))):=by
 have h7:m+1≤7:=by omega
 have hl1:(st.take (m+1)).length=m+1:=by rw [List.length_take];omega
 have hg1:(st.take (m+1)).getD m zeroD=d2:=by rw [←hd2,List.getD_eq_getElem?_getD,List.getElem?_take_of_lt (by omega),←List.getD_eq_getElem?_getD]
 have ht1:(st.take (m+1)).take m=st.take m:=by rw [List.take_take,Nat.min_eq_left (by omega)]
 have DO:=Lib.hid (fun w=>decodo_any o d2.1 d2.2.1 d.1 d.2.1 d2.2.2 d.2.2 wd2.1 wd2.2 wd.1 wd.2 w)
 obtain ⟨m1,hm1⟩ : ∃ m1,m1=m+1:=⟨_,rfl⟩
 rw [←hm1] at hn hd0 hl1 hg1 ht1 h7
 have hm7:m≤7:=by omega
 have hl1:=Lib.hid hl1;have hm1:=Lib.hid hm1
 have ar:=fun w=>ivlargs_any o w
 rw [show argsK o=2 by unfold argsK;rw [if_neg (by omega),if_pos ho]] at ar
 have AR:=Lib.hid ar
 clear ar
 have d12:(o==12)=false:=by rw [beq_eq_false_iff_ne];omega
 have d13:(o==13)=false:=by rw [beq_eq_false_iff_ne];omega
 clear ho
 have hlt:=hS.lt
 have A0:=(ats_nil w).new3 (.int .i64 (o)) (.int .i64 (i)) (.float .f64 (x)) 61
 dsimp only [add] at A0
 have hS0:=hS.grown (below_new (.cells #[.int .i64 (o),.int .i64 (i),.float .f64 (x)] 61))
 have B0:Below w.heap.size w (w.alloc (.cells #[.int .i64 (o),.int .i64 (i),.float .f64 (x)] 61)):=below_new _
 have hS0:=Lib.hid hS0
 have A0:=Lib.hid A0
 clear hS
 go_enter Tryz.func68,Tryz.ntmps68
 go_wp2_with fail
 refine (AR.out _).mono ?_;rintro e w1 ⟨rfl,hb1⟩
 have hS1:=hS0.out.grown hb1
 have A1:=A0.out.grown hb1
 have n1:w.heap.size<w1.heap.size:=by have:=hb1.size;simp only [World.size_alloc] at this;omega
 have B1:Below pb w w1:=(B0.trans (hb1.mono B0.size)).mono (Nat.le_of_lt hlt)
 clear B0 hb1
 have F:=fac_of _ A1;dsimp only [Fac] at F
 have hS1:=Lib.hid hS1;have A1:=Lib.hid A1
 go_wp2_with fail
 have TK:=take_k pb st _ hS1.out m1 hn h7
 rw [hd0] at TK
 refine TK.mono ?_
 rintro e w2 ⟨rfl,hT2,hg2⟩
 have A2:=A1.out.by hg2 (by intro t m;simp only [List.mem_cons,List.not_mem_nil,or_false] at m;rcases m with rfl|rfl|rfl<;>(simp only;omega))
 have n2:w1.heap.size≤w2.heap.size:=hg2.size
 have B2:=B1.trans (by_low hg2 hS1.out.lt)
 have A2:=A2.new3 (.float .f64 d.1) (.float .f64 d.2.1) (.int .i64 d.2.2) 49
 have hS2:=hT2.grown (below_new (.cells #[.float .f64 d.1,.float .f64 d.2.1,.int .i64 d.2.2] 49))
 have B2':=B2.trans ((below_new (.cells #[.float .f64 d.1,.float .f64 d.2.1,.int .i64 d.2.2] 49)).mono (Nat.le_of_lt hT2.lt))
 dsimp only [add] at A2
 have hT2l:=hT2.lt
 have F2:=fac_of _ A2;dsimp only [Fac] at F2
 clear F A1 hS1 B2 hT2
 have hS2:=Lib.hid hS2;have A2:=Lib.hid A2
 go_wp2_with fail
 have TK2:=take_k pb _ _ hS2.out m (hl1.out.trans hm1.out) hm7
 rw [hg1,ht1] at TK2
 refine TK2.mono ?_
 rintro e w3 ⟨rfl,hT3,hg3⟩
 have A3:=A2.out.by hg3 (by intro t m;simp only [List.mem_cons,List.not_mem_nil,or_false] at m;rcases m with rfl|rfl|rfl|rfl|rfl|rfl<;>(simp only;omega))
 have n3:w2.heap.size<w3.heap.size:=by have:=hg3.size;simp only [World.size_alloc] at this;omega
 have B3:=B2'.trans (by_low hg3 hS2.out.lt)
 have A3:=A3.new3 (.float .f64 d2.1) (.float .f64 d2.2.1) (.int .i64 d2.2.2) 49
 have hS3:=hT3.grown (below_new (.cells #[.float .f64 d2.1,.float .f64 d2.2.1,.int .i64 d2.2.2] 49))
 have B3':=B3.trans ((below_new (.cells #[.float .f64 d2.1,.float .f64 d2.2.1,.int .i64 d2.2.2] 49)).mono (Nat.le_of_lt hT3.lt))
 dsimp only [add] at A3
 have F3:=fac_of _ A3;dsimp only [Fac] at F3
 clear F2 A2 hS2 B2' B3 hT3 A3
 have hS3:=Lib.hid hS3
 go_wp2_with fail
 refine (DO.out _).mono ?_;rintro e w4 ⟨rfl,hb4⟩
 have hS4:=hS3.out.grown hb4
 clear F3
 go_wp2_with fail
 refine (put_any pb (st.take m) (doD o d2 d) _ hS4 (by rw [List.length_take];omega)).mono ?_
 rintro e wq ⟨hbq,hq⟩
 have hB:Below pb w wq:=(B3'.trans (hb4.mono (Nat.le_of_lt hS3.out.lt))).trans hbq
 cases hr:putD (st.take m) (doD o d2 d) with
 | none =>
  rw [hr] at hq
  obtain rfl:=hq
  have hr:=Lib.hid hr
  go_wp2_with fail
  refine ⟨rfl,hB,?_⟩
  first|exact rfl|(rw [hr.out])
 | some st' =>
  rw [hr] at hq
  obtain ⟨rfl,hs⟩:=hq
  have hr:=Lib.hid hr
  have hs:=Lib.hid hs
  go_wp2_with fail
  go_end0
  refine ⟨hB,?_⟩
  rw [hr.out]
  exact ⟨rfl,hs.out⟩
theorem step_any (pb:Nat) (st bx:List De) (s:St) (vin:Value) (w:World) (hS:Stk pb w st) (h8:st.length≤8) (ok:OkL st) (ob:OkL bx) (hl:bx.length≤4) (hin:Own cD 49 0 w vin bx) (ws:Wd s.2.2) :
  Calls Tryz.prog 68 #[.pointer (some ⟨pb,0,none⟩),.agg #[.int .i64 (s.1),.int .i64 (s.2.1),.float .f64 (s.2.2)],vin] w (Done pb w (stepD bx s st)):=by
 obtain ⟨o,i,x⟩:=s
 dsimp only at ws ⊢
 unfold stepD
 dsimp only
 by_cases h12:o=12
 ·subst h12
  by_cases hf:fin x
  ·rw [if_pos ⟨rfl,hf⟩]
   exact step_c pb st i x vin ws hf w hS h8
  ·rw [if_neg (fun g=>hf g.2),if_neg (by omega),if_neg (by omega),if_neg (by omega)]
   exact step_cn pb st i x vin ws hf w hS h8
 rw [if_neg (fun g=>h12 g.1)]
 by_cases h13:o=13
 ·subst h13
  obtain ⟨b,c,hv⟩ : ∃ b c,vin = .slice b bx.length c:=by
   rcases hin.cases with ⟨rfl,rfl⟩|⟨g,cap,rfl,_⟩
   ·exact ⟨_,_,rfl⟩
   ·exact ⟨_,_,rfl⟩
  by_cases hi:0≤i∧i<bx.length
  ·rw [if_pos ⟨rfl,hi⟩]
   rcases hin.cases with ⟨_,h⟩|⟨g,cap,rfl,_⟩
   ·subst h;simp at hi;omega
   ·have:=step_v w pb st i.toNat x g cap bx hin (by omega) hl hS h8
    rw [show ((i.toNat:Nat):Int)=i by omega] at this
    exact this
  ·rw [if_neg (fun g=>hi g.2),if_neg (by omega),if_neg (by omega)]
   subst hv
   exact step_vn pb st i x b bx.length c (by omega) w hS h8
 rw [if_neg (fun g=>h13 g.1)]
 by_cases h1:0≤o∧o≤5
 ·rw [if_pos h1]
  by_cases hn:st.length=0
  ·rw [if_pos hn];exact step_1n pb st o i x vin h1 hn w hS h8
  ·rw [if_neg hn]
   exact step_1 pb st o i x vin h1 (st.length-1) (by omega) _ rfl (ok.getD _).wd w hS h8
 rw [if_neg h1]
 by_cases h2:6≤o∧o≤11
 ·rw [if_pos h2]
  by_cases hn:st.length=0
  ·rw [if_pos (by omega)];exact step_20 pb st o i x vin h2 hn w hS h8
  by_cases hn1:st.length=1
  ·rw [if_pos (by omega)];exact step_21 pb st o i x vin h2 0 rfl hn1 _ rfl w hS h8
  ·rw [if_neg (by omega)]
   have:=step_2 pb st o i x vin h2 (st.length-2) (by omega) _ _ rfl rfl (ok.getD _).wd (ok.getD _).wd w hS h8
   rw [show st.length-2+1=st.length-1 by omega] at this
   exact this
 rw [if_neg h2]
 exact step_n pb st o i x vin h12 h13 (by unfold argsK;rw [if_neg h1,if_neg h2]) w hS h8
end Go.Proofs.YteephgpefhodnaaGreat
