/- The document's numbers: Times. The document's numbers: Of. The document's numbers: Times, where a factor is nought. The document's numbers: Plus. The document's reals: contracts of Of, Times, Plus, Minus, Sign. -/
import Derived.Test.YteephgpefhodnaaGreatQA
import Derived.OneCell
import Derived.Test.YteephgpefhodnaaGreatBA
namespace Go.Proofs.YteephgpefhodnaaGreat
open Go.RowKit Go.Sort Go.Fl
set_option linter.unusedSimpArgs false
set_option linter.unusedVariables false
def GivesBig (w:World) (e:Ending) (N E:Int):Prop := ∃ s v l,e = .returned (.agg #[.bool s,v,.int .i64 E])∧Row w v l∧Words l∧Trim l∧N=(if s=true then -(num l:Int) else (num l:Int))
theorem below3 {w w1:World} {o1 o2 o3:Obj} (h:Below (w.heap.size+3) (((w.alloc o1).alloc o2).alloc o3) w1):Below w.heap.size w w1:=by
 have h':Below (((w.alloc o1).alloc o2).alloc o3).heap.size (((w.alloc o1).alloc o2).alloc o3) w1:=by
  have e:(((w.alloc o1).alloc o2).alloc o3).heap.size=w.heap.size+3:=by simp
  rw [e];exact h
 exact below_alloc (below_alloc (below_alloc h'))
theorem row_ne {w:World} {v:Value} {l:List Nat} {B:Nat} {cs:Array Value} {T:TypeId} {z:Nat × Nat} (h:Row w v l) (hb:w.heap[B]? = some (.cells cs T z)) (hT:T≠115):v.ownBlock≠some B:=by
 rcases h.2 with ⟨rfl,_⟩|⟨g,cap,cur,rfl,_,h3,_⟩
 ·simp [Value.ownBlock]
 ·intro e
  simp [Value.ownBlock] at e
  subst e
  rw [hb] at h3
  simp at h3
  exact hT h3.2.1
theorem row_set {w:World} {v:Value} {l:List Nat} {B f:Nat} (h:Row w v l) (hne:v.ownBlock≠some B) (u:Value):Row (w.setCell ⟨B,f,none⟩ u) v l:=ownsRow_setCell_other h hne u
theorem row_cell {w:World} {g n cap:Nat} {o:List Nat} {B:Nat} (h:w.ownsRow B 115 1 (.slice (some ⟨g,0,none⟩) n cap) n (o.map W32)) (j:Nat) (hj:j<n):w.cell? ⟨g,j,none⟩=some (.int .u32 (o.getD j 0:Nat)):=by
 have hl:o.length=n:=by have:=h.1;simpa using this
 have:=World.ownsRow.cells h (g:=g) rfl j (W32 (o.getD j 0)) (by rw [List.getElem?_map,List.getD_eq_getElem?_getD,List.getElem?_eq_getElem (by omega)];rfl)
 have e:(⟨g,0,none⟩:Addr).add j=⟨g,j,none⟩:=by unfold Addr.add;split<;>simp_all
 rw [e] at this
 exact this
theorem row_stored {w:World} {g n cap:Nat} {o:List Nat} {B:Nat} (h:w.ownsRow B 115 1 (.slice (some ⟨g,0,none⟩) n cap) n (o.map W32)) (j d:Nat) (u:Value) (hu:u=W32 d):(w.setCell ⟨g,j,none⟩ u).ownsRow B 115 1 (.slice (some ⟨g,0,none⟩) n cap) n ((o.set j d).map W32):=by
 have:=(World.ownsRow.stored h j u).1
 rw [List.map_set,←hu]
 exact this
theorem big_stored {w:World} {B:Nat} {v0 v1 v2:Value} (R0:At w B 0 v0) (R1:At w B 1 v1) (R2:At w B 2 v2) (b s e:Value) :
  (((w.setCell ⟨B,0,none⟩ b).setCell ⟨B,1,none⟩ s).setCell ⟨B,2,none⟩ e).cell? ⟨B,0,none⟩=some b∧(((w.setCell ⟨B,0,none⟩ b).setCell ⟨B,1,none⟩ s).setCell ⟨B,2,none⟩ e).cell? ⟨B,1,none⟩=some s∧(((w.setCell ⟨B,0,none⟩ b).setCell ⟨B,1,none⟩ s).setCell ⟨B,2,none⟩ e).cell? ⟨B,2,none⟩=some e :=
 ⟨(At.set_off (f':=2) (At.set_off (f':=1) (At.set_same R0 b) (by decide) s) (by decide) e).1,(At.set_off (f':=2) (At.set_same (At.set_off (f':=0) R1 (by decide) b) s) (by decide) e).1,(At.set_same (At.set_off (f':=1) (At.set_off (f':=0) R2 (by decide) b) (by decide) s) e).1⟩
theorem row_stored3 {w:World} {B:Nat} {v:Value} {l:List Nat} (h:Row w v l) (hne:v.ownBlock≠some B) (b s e:Value):Row (((w.setCell ⟨B,0,none⟩ b).setCell ⟨B,1,none⟩ s).setCell ⟨B,2,none⟩ e) v l:=row_set (row_set (row_set h hne b) hne s) hne e
theorem below_stored3 {w0 w:World} {B:Nat} (h:Below w0.heap.size w0 w) (hB:w0.heap.size≤B) (b s e:Value):Below w0.heap.size w0 (((w.setCell ⟨B,0,none⟩ b).setCell ⟨B,1,none⟩ s).setCell ⟨B,2,none⟩ e) :=
 Below.setCell (Below.setCell (Below.setCell h (p:=⟨B,0,none⟩) hB b) (p:=⟨B,1,none⟩) hB s) (p:=⟨B,2,none⟩) hB e
theorem heap_last3 (w:World) (o1 o2 o3:Obj):(((w.alloc o1).alloc o2).alloc o3).heap[w.heap.size+1+1]? = some o3:=by
 have h:=heap_alloc_new ((w.alloc o1).alloc o2) o3
 have e:((w.alloc o1).alloc o2).heap.size=w.heap.size+1+1:=by simp
 rw [e] at h;exact h
theorem mul_words (x y:Nat) (hx:x≤4294967295) (hy:y≤4294967295):IntKind.u64.wrap ((x:Int)*(y:Int))=((x*y:Nat):Int)∧x*y≤18446744065119617025:=by
 have h:x*y≤4294967295*4294967295:=Nat.mul_le_mul hx hy
 rw [←Int.natCast_mul,IntKind.wrap_u64]
 omega
set_option maxRecDepth 8000 in
set_option maxHeartbeats 4000000 in
theorem times_11 (sa sb:Bool) (ea eb:Int) (he1 : -10000≤ea∧ea≤10000) (he2 : -10000≤eb∧eb≤10000) (a:List Nat) (wa:Words a) (g c:Nat) (h0:0<a.length) (h1:a.length≤4) (b:List Nat) (wb:Words b) (g' c':Nat) (h0':0<b.length) (h2:b.length≤4) (w:World)
  (hga:g<w.heap.size) (hgb:g'<w.heap.size)
  (hc : ∀ j,j<a.length→w.cell? ⟨g,j,none⟩=some (.int .u32 (a.getD j 0:Nat))) (hc' : ∀ j,j<b.length→w.cell? ⟨g',j,none⟩=some (.int .u32 (b.getD j 0:Nat))) :
  Calls Tryz.prog 107 #[.agg #[.bool sa,(.slice (some ⟨g,0,none⟩) a.length c),.int .i64 ea],.agg #[.bool sb,(.slice (some ⟨g',0,none⟩) b.length c'),.int .i64 eb]] w fun e w'=>GivesBig w' e ((if sa=true then -1 else 1)*(if sb=true then -1 else 1)*((num a:Int)*num b)) (ea+eb)∧Below w.heap.size w w':=by
 obtain ⟨i0,hi,hz0,hz1,hz2⟩:=info_parts info_u32
 obtain ⟨W,hW⟩ : ∃ W,W=(World.alloc (World.alloc (World.alloc w (.cells #[.bool sa,(.slice (some ⟨g,0,none⟩) a.length c),.int .i64 ea] 106)) (.cells #[.bool sb,(.slice (some ⟨g',0,none⟩) b.length c'),.int .i64 eb] 106)) (.cells #[.bool false,(.slice none 0 0),.int .i64 0] 106)):=⟨_,rfl⟩
 have hWs:W.heap.size=w.heap.size+3:=by rw [hW];simp
 obtain ⟨w0,hmk,hown0,hg0⟩:=run_make_full (P := Tryz.prog) W W.heap.size 104 115 i0 (.int .u32 0) 1 Tryz.underlying104 hi hz0 hz1 .i64 .i64 (a.length+b.length) (by rw [hz2];omega) (by unfold maxLen;omega) (Nat.le_refl _)
 have hB0:Below W.heap.size W w0:=grown_none hg0 (Nat.le_refl _)
 rw [made_zeros] at hown0
 rw [Int.natCast_add] at hmk
 have A0:W.cell? ⟨w.heap.size,1,none⟩=some (.slice (some ⟨g,0,none⟩) a.length c):=by rw [hW];simp [go_sem]
 have A1:W.cell? ⟨w.heap.size+1,1,none⟩=some (.slice (some ⟨g',0,none⟩) b.length c'):=by rw [hW];simp [go_sem]
 have A2:W.cell? ⟨w.heap.size,0,none⟩=some (.bool sa):=by rw [hW];simp [go_sem]
 have A3:W.cell? ⟨w.heap.size+1,0,none⟩=some (.bool sb):=by rw [hW];simp [go_sem]
 have A4:W.cell? ⟨w.heap.size,2,none⟩=some (.int .i64 ea):=by rw [hW];simp [go_sem]
 have A5:W.cell? ⟨w.heap.size+1,2,none⟩=some (.int .i64 eb):=by rw [hW];simp [go_sem]
 have R0:At W (w.heap.size+1+1) 0 (.bool false):=by rw [hW];exact ⟨by simp [go_sem],by simp [go_sem]⟩
 have R1:At W (w.heap.size+1+1) 1 (.slice none 0 0):=by rw [hW];exact ⟨by simp [go_sem],by simp [go_sem]⟩
 have R2:At W (w.heap.size+1+1) 2 (.int .i64 0):=by rw [hW];exact ⟨by simp [go_sem],by simp [go_sem]⟩
 have HH:W.heap[w.heap.size+1+1]? = some (.cells #[.bool false,.slice none 0 0,.int .i64 0] 106):=by rw [hW];exact heap_last3 _ _ _ _
 have C1 : ∀ j,j<a.length→W.cell? ⟨g,j,none⟩=some (.int .u32 (a.getD j 0:Nat)):=fun j hj=>by rw [hW];exact cell_alloc (cell_alloc (cell_alloc (hc j hj)))
 have C2 : ∀ j,j<b.length→W.cell? ⟨g',j,none⟩=some (.int .u32 (b.getD j 0:Nat)):=fun j hj=>by rw [hW];exact cell_alloc (cell_alloc (cell_alloc (hc' j hj)))
 have HWs:=Lib.hid hWs
 have HC1:=Lib.hid C1
 have HC2:=Lib.hid C2
 have Hwa:=Lib.hid wa
 have Hwb:=Lib.hid wb
 clear hc hc' hWs hg0 C1 C2 wa wb
 go_enter Tryz.func107,Tryz.ntmps107
 go_wp2_with fail
 rw [←hW]
 have HW:=Lib.hid hW
 clear hW
 simp only [hmk,Result.andThen_ok]
 clear hmk
 go_wp2
 go_loopw [6] (fun i wr => ∃ (k:Nat) (o:List Nat),i = .int .i64 k∧k≤a.length∧TimesAt a b o k∧wr.ownsRow W.heap.size 115 1 (.slice (some ⟨W.heap.size,0,none⟩) (a.length+b.length) (a.length+b.length)) (a.length+b.length) (o.map W32)∧Below W.heap.size W wr)
  (fun i _=>a.length-(intOf i).toNat)
 case atStart=>exact ⟨0,List.replicate (a.length+b.length) 0,rfl,by omega,⟨by simp,Words.zeros _,by simp [num,num_zeros],fun t _=>by rw [List.getD_eq_getElem?_getD,List.getElem?_replicate];split<;>rfl⟩,hown0,hB0⟩
 case round =>
  obtain ⟨k,o,rfl,hk,hp,hown,hB⟩:=hrel
  have F0:=RowKit.Below.cells hB A0
  have F1:=RowKit.Below.cells hB A1
  have F2:=RowKit.Below.cells hB A2
  have F3:=RowKit.Below.cells hB A3
  have F4:=RowKit.Below.cells hB A4
  have F5:=RowKit.Below.cells hB A5
  have Hp:=Lib.hid hp
  clear hp
  by_cases hka:k<a.length
  ·go_wp2
   clear F0 F1 F2 F3 F4 F5
   go_loopw [7,8] (fun cv jv wr => ∃ (j cc:Nat) (o:List Nat),jv = .int .i64 j∧cv = .int .u64 cc∧j≤b.length∧TimesIn a b o k j cc∧wr.ownsRow W.heap.size 115 1 (.slice (some ⟨W.heap.size,0,none⟩) (a.length+b.length) (a.length+b.length)) (a.length+b.length) (o.map W32)∧Below W.heap.size W wr)
    (fun _ jv _=>b.length-(intOf jv).toNat)
   case atStart=>exact ⟨0,0,o,rfl,rfl,by omega,times_in Hp.out,hown,hB⟩
   case round =>
    obtain ⟨j,cc,o2,rfl,rfl,hj,hp2,hown2,hB2⟩:=hrel
    have F0:=RowKit.Below.cells hB2 A0
    have F1:=RowKit.Below.cells hB2 A1
    have hfz : ∀ j,wr.frozen? ⟨W.heap.size,j,none⟩=false:=fun j=>World.ownsRow.frozenAt hown2 j
    have hst:=fun hj=>times_step Hwa.out Hwb.out hp2 hka hj
    have hout:=fun e:j=b.length=>times_out (e ▸ hp2) hka
    have hcc:cc≤4294967295:=by have:=hp2.2.2.1;rw [BB_eq] at this;omega
    obtain ⟨x,hx⟩ : ∃ x,x=a.getD k 0:=⟨_,rfl⟩
    obtain ⟨y,hy⟩ : ∃ y,y=b.getD j 0:=⟨_,rfl⟩
    obtain ⟨z,hz⟩ : ∃ z,z=o2.getD (k+j) 0:=⟨_,rfl⟩
    rw [←hx,←hy,←hz] at hst
    have gx:x≤4294967295:=by have:=Hwa.out.getD k;rw [←hx,BB_eq] at this;omega
    have gy:y≤4294967295:=by have:=Hwb.out.getD j;rw [←hy,BB_eq] at this;omega
    have gz:z≤4294967295:=by have:=hp2.2.1.getD (k+j);rw [←hz,BB_eq] at this;omega
    have cX:wr.cell? ⟨g,k,none⟩=some (.int .u32 (x:Nat)):=hx ▸ RowKit.Below.cells hB2 (HC1.out k hka)
    have cY:j<b.length→wr.cell? ⟨g',j,none⟩=some (.int .u32 (y:Nat)):=fun h=>hy ▸ RowKit.Below.cells hB2 (HC2.out j h)
    have cZ:j<b.length→wr.cell? ⟨W.heap.size,k+j,none⟩=some (.int .u32 (z:Nat)):=fun h=>hz ▸ row_cell hown2 (k+j) (by omega)
    obtain ⟨hm,hmb⟩:=mul_words x y gx gy
    obtain ⟨p,hp⟩ : ∃ p,p=x*y:=⟨_,rfl⟩
    rw [←hp] at hst hm hmb
    have Hst:=Lib.hid hst
    have Hout:=Lib.hid hout
    have Hp2:=Lib.hid hp2
    have Hxyz:=Lib.hid (And.intro hx (And.intro hy (And.intro hz hp)))
    clear hst hout hp2 hx hy hz hp
    by_cases hjb:j<b.length
    ·have c2:=cY hjb
     have c3:=cZ hjb
     have f3:=hfz (k+j)
     clear cY cZ hfz
     go_wp2
     refine wp_region_quiet_lit (by kernel_rfl) (by kernel_rfl) ?_
     repeat (any_goals (first|go_big_quiet_step (fail)|quiet_step (fail)|(refine wpQuiet_step (fun K hK => ?_);go_simp;split<;>(refine hK _ ?_;clear hK K))))
     all_goals (refine wpQuiet_nil ?_;intro _ hw';obtain ⟨nq,hw''⟩:=hw';subst hw'')
     go_wp2
     go_roundw
     case rel=>exact ⟨j+1,(cc+p+z) / BB,_,by go_num,by rw [BB_eq];exact congrArg _ (by omega),by omega,Hst.out hjb,row_stored (by exact hown2) _ _ _ (by unfold W32;rw [BB_eq];exact congrArg _ (by omega)),Below.setCell (below_drewN hB2) (by show W.heap.size≤W.heap.size;omega) _⟩
     case measure=>simp only [intOf];omega
    ·have hje:j=b.length:=by omega
     subst hje
     have f3:=hfz (k+b.length)
     have c4:wr.cell? ⟨W.heap.size,k+b.length,none⟩=some _:=row_cell hown2 (k+b.length) (by omega)
     clear cY cZ cX hm hfz
     go_wp2
     go_roundw
     case rel=>exact ⟨k+1,_,by go_num,by omega,Hout.out rfl,row_stored hown2 _ _ _ (by unfold W32;exact congrArg _ (by omega)),Below.setCell hB2 (by show W.heap.size≤W.heap.size;omega) _⟩
     case measure=>simp only [intOf];omega
  ·have hke:k=a.length:=by omega
   subst hke
   have hpp:=Hp.out
   have hnum:num o=num a*num b:=by rw [hpp.2.2.1,List.take_length]
   have hrow:Row wr (.slice (some ⟨W.heap.size,0,none⟩) (a.length+b.length) (a.length+b.length)) o:=own_row (n:=a.length+b.length) hown hpp.1.symm
   have hwo:=hpp.2.1
   have Hn:=Lib.hid hnum
   have Hwo:=Lib.hid hwo
   have Hrow:=Lib.hid hrow
   clear hnum hpp hwo hrow hown Hp
   have R0':=At.below R0 hB
   have R1':=At.below R1 hB
   have R2':=At.below R2 hB
   have hBl:wr.heap[w.heap.size+1+1]? = some (.cells #[.bool false,.slice none 0 0,.int .i64 0] 106):=(hB.block _ (by rw [HWs.out];omega)).trans HH
   have hbw:Below w.heap.size w wr:=below3 (by rw [←HWs.out,←HW.out];exact hB)
   have f0:=R0'.1;have f1:=R1'.1;have f2:=R2'.1;have z0:=R0'.2;have z1:=R1'.2;have z2:=R2'.2
   have HBl:=Lib.hid hBl
   have Hbw:=Lib.hid hbw
   clear hBl hbw hB
   go_wp2_with fail
   refine (trim_any _ _ Hwo.out _ Hrow.out).mono ?_
   rintro e w2 ⟨⟨v3,l3,rfl,g1,g2,g3,g4⟩,rfl⟩
   obtain ⟨p3,c3,rfl,_⟩:=g1.len
   have hne:=row_ne g1 HBl.out (by decide)
   have G:=Lib.hid (And.intro g1 (And.intro g2 (And.intro g3 (And.intro g4 hne))))
   clear g1 g2 g3 g4 hne
   by_cases hl:l3.length=0
   ·have hl':=Lib.hid hl
    have hl0 : ¬(0:Int)<(l3.length:Int):=by omega
    have hd0:decide (0<l3.length)=false:=decide_eq_false (by omega)
    clear hl
    cases sa<;>cases sb
    ·go_wp2
     have bs:=big_stored R0' R1' R2' (.bool false) (.slice p3 l3.length c3) (.int .i64 (ea+eb))
     refine bodyPost_ret (v := .agg #[.bool false,.slice p3 l3.length c3,.int .i64 (ea+eb)]) (by simp [results,Tryz.results107,go_sem,bs]) rfl ?_
     refine ⟨⟨false,_,l3,rfl,row_stored3 G.out.1 G.out.2.2.2.2 _ _ _,G.out.2.1,G.out.2.2.1,?_⟩,below_stored3 Hbw.out (by omega) _ _ _⟩
     have hg:=G.out.2.2.2.1
     rw [Hn.out] at hg
     rw [List.length_eq_zero_iff.1 hl'.out] at hg ⊢
     rw [←Int.natCast_mul,←hg]
     rfl
    ·go_wp2
     have bs:=big_stored R0' R1' R2' (.bool false) (.slice p3 l3.length c3) (.int .i64 (ea+eb))
     refine bodyPost_ret (v := .agg #[.bool false,.slice p3 l3.length c3,.int .i64 (ea+eb)]) (by simp [results,Tryz.results107,go_sem,bs]) rfl ?_
     refine ⟨⟨false,_,l3,rfl,row_stored3 G.out.1 G.out.2.2.2.2 _ _ _,G.out.2.1,G.out.2.2.1,?_⟩,below_stored3 Hbw.out (by omega) _ _ _⟩
     have hg:=G.out.2.2.2.1
     rw [Hn.out] at hg
     rw [List.length_eq_zero_iff.1 hl'.out] at hg ⊢
     rw [←Int.natCast_mul,←hg]
     rfl
    ·go_wp2
     have bs:=big_stored R0' R1' R2' (.bool false) (.slice p3 l3.length c3) (.int .i64 (ea+eb))
     refine bodyPost_ret (v := .agg #[.bool false,.slice p3 l3.length c3,.int .i64 (ea+eb)]) (by simp [results,Tryz.results107,go_sem,bs]) rfl ?_
     refine ⟨⟨false,_,l3,rfl,row_stored3 G.out.1 G.out.2.2.2.2 _ _ _,G.out.2.1,G.out.2.2.1,?_⟩,below_stored3 Hbw.out (by omega) _ _ _⟩
     have hg:=G.out.2.2.2.1
     rw [Hn.out] at hg
     rw [List.length_eq_zero_iff.1 hl'.out] at hg ⊢
     rw [←Int.natCast_mul,←hg]
     rfl
    ·go_wp2
     have bs:=big_stored R0' R1' R2' (.bool false) (.slice p3 l3.length c3) (.int .i64 (ea+eb))
     refine bodyPost_ret (v := .agg #[.bool false,.slice p3 l3.length c3,.int .i64 (ea+eb)]) (by simp [results,Tryz.results107,go_sem,bs]) rfl ?_
     refine ⟨⟨false,_,l3,rfl,row_stored3 G.out.1 G.out.2.2.2.2 _ _ _,G.out.2.1,G.out.2.2.1,?_⟩,below_stored3 Hbw.out (by omega) _ _ _⟩
     have hg:=G.out.2.2.2.1
     rw [Hn.out] at hg
     rw [List.length_eq_zero_iff.1 hl'.out] at hg ⊢
     rw [←Int.natCast_mul,←hg]
     rfl
   ·have hl0:(0:Int)<(l3.length:Int):=by omega
    have hd0:decide (0<l3.length)=true:=decide_eq_true (by omega)
    cases sa<;>cases sb
    ·go_wp2
     have bs:=big_stored R0' R1' R2' (.bool false) (.slice p3 l3.length c3) (.int .i64 (ea+eb))
     refine bodyPost_ret (v := .agg #[.bool false,.slice p3 l3.length c3,.int .i64 (ea+eb)]) (by simp [results,Tryz.results107,go_sem,bs]) rfl ?_
     refine ⟨⟨false,_,l3,rfl,row_stored3 G.out.1 G.out.2.2.2.2 _ _ _,G.out.2.1,G.out.2.2.1,?_⟩,below_stored3 Hbw.out (by omega) _ _ _⟩
     have hg:=G.out.2.2.2.1
     rw [Hn.out] at hg
     rw [←Int.natCast_mul,←hg]
     simp
    ·go_wp2
     have bs:=big_stored R0' R1' R2' (.bool true) (.slice p3 l3.length c3) (.int .i64 (ea+eb))
     refine bodyPost_ret (v := .agg #[.bool true,.slice p3 l3.length c3,.int .i64 (ea+eb)]) (by simp [results,Tryz.results107,go_sem,bs]) rfl ?_
     refine ⟨⟨true,_,l3,rfl,row_stored3 G.out.1 G.out.2.2.2.2 _ _ _,G.out.2.1,G.out.2.2.1,?_⟩,below_stored3 Hbw.out (by omega) _ _ _⟩
     have hg:=G.out.2.2.2.1
     rw [Hn.out] at hg
     rw [←Int.natCast_mul,←hg]
     simp
    ·go_wp2
     have bs:=big_stored R0' R1' R2' (.bool true) (.slice p3 l3.length c3) (.int .i64 (ea+eb))
     refine bodyPost_ret (v := .agg #[.bool true,.slice p3 l3.length c3,.int .i64 (ea+eb)]) (by simp [results,Tryz.results107,go_sem,bs]) rfl ?_
     refine ⟨⟨true,_,l3,rfl,row_stored3 G.out.1 G.out.2.2.2.2 _ _ _,G.out.2.1,G.out.2.2.1,?_⟩,below_stored3 Hbw.out (by omega) _ _ _⟩
     have hg:=G.out.2.2.2.1
     rw [Hn.out] at hg
     rw [←Int.natCast_mul,←hg]
     simp
    ·go_wp2
     have bs:=big_stored R0' R1' R2' (.bool false) (.slice p3 l3.length c3) (.int .i64 (ea+eb))
     refine bodyPost_ret (v := .agg #[.bool false,.slice p3 l3.length c3,.int .i64 (ea+eb)]) (by simp [results,Tryz.results107,go_sem,bs]) rfl ?_
     refine ⟨⟨false,_,l3,rfl,row_stored3 G.out.1 G.out.2.2.2.2 _ _ _,G.out.2.1,G.out.2.2.1,?_⟩,below_stored3 Hbw.out (by omega) _ _ _⟩
     have hg:=G.out.2.2.2.1
     rw [Hn.out] at hg
     rw [←Int.natCast_mul,←hg]
     simp
end Go.Proofs.YteephgpefhodnaaGreat
namespace Go.Proofs.YteephgpefhodnaaGreat
open Go.RowKit Go.Sort Go.Fl
set_option linter.unusedSimpArgs false
set_option linter.unusedVariables false
theorem row_lit (w:World) (a b:Nat):Row (w.alloc (.cells #[.int .u32 (a:Int),.int .u32 (b:Int)] 115)) (.slice (some ⟨w.heap.size,0,none⟩) 2 2) [a,b] :=
 ⟨rfl,.inr ⟨w.heap.size,2,#[.int .u32 (a:Int),.int .u32 (b:Int)],rfl,Nat.zero_le _,heap_alloc_new w _,Nat.le_refl _,by unfold maxLen;omega,rfl,rfl⟩⟩
theorem num_two (m:Nat):num [m%BB,m / BB]=m:=by
 simp only [num,Nat.mul_zero,Nat.add_zero]
 exact Nat.mod_add_div m BB
theorem words_two {m:Nat} (h:m≤9007199254740992):Words [m%BB,m / BB]:=by
 intro x hx
 have e:=BB_eq
 rcases List.mem_cons.1 hx with rfl|hx
 ·exact Nat.mod_lt _ BB_pos
 ·have:=List.mem_singleton.1 hx
  subst this
  rw [e];omega
theorem heap_first (w:World) (o1 o2:Obj):((w.alloc o1).alloc o2).heap[w.heap.size]? = some o1:=by
 have h:=heap_alloc_new w o1
 rw [heap_alloc_old _ o2 (by simp)];exact h
set_option maxRecDepth 8000 in
set_option maxHeartbeats 4000000 in
theorem of_z (x:Nat) (hw:Wd x) (s:Bool) (hs:((x:Int) / 9223372036854775808==1)=s) (m:Nat) (E:Int) (hm:bits BinOp.and IntKind.u64 (x:Int) 4503599627370495=(m:Int)) (hf:bits BinOp.and IntKind.u64 ((x:Int) / 4503599627370496) 2047=0) (hM:m≤9007199254740992) (hE:E = -1074) (w:World) :
  Calls Tryz.prog 106 #[.float .f64 x] w fun e w'=>GivesBig w' e (if s=true then -(m:Int) else (m:Int)) E∧Below w.heap.size w w':=by
 have ht:=run_tobits
 go_enter Tryz.func106,Tryz.ntmps106
 go_wp2_with fail
 have hrow:=row_lit (w.alloc (.cells #[.bool false,.slice none 0 0,.int .i64 0] 106)) (m%BB) (m / BB)
 have e1:(((m%BB:Nat):Int))=(m:Int)%4294967296:=by rw [BB_eq];omega
 have e2:(((m / BB:Nat):Int))=(m:Int) / 4294967296:=by rw [BB_eq];omega
 rw [e1,e2] at hrow
 have hsz:(w.alloc (.cells #[.bool false,.slice none 0 0,.int .i64 0] 106)).heap.size=w.heap.size+1:=by simp
 rw [hsz] at hrow
 have LW : ∃ L,L=((w.alloc (.cells #[.bool false,.slice none 0 0,.int .i64 0] 106)).alloc (.cells #[.int .u32 ((m:Int)%4294967296),.int .u32 ((m:Int) / 4294967296)] 115)):=⟨_,rfl⟩
 obtain ⟨L,hL⟩:=LW
 have R0:At L w.heap.size 0 (.bool false):=by rw [hL];exact ⟨by simp [go_sem],by simp [go_sem]⟩
 have R1:At L w.heap.size 1 (.slice none 0 0):=by rw [hL];exact ⟨by simp [go_sem],by simp [go_sem]⟩
 have R2:At L w.heap.size 2 (.int .i64 0):=by rw [hL];exact ⟨by simp [go_sem],by simp [go_sem]⟩
 have hBl:L.heap[w.heap.size]? = some (.cells #[.bool false,.slice none 0 0,.int .i64 0] 106):=by rw [hL];exact heap_first _ _ _
 have hbw:Below w.heap.size w L:=by rw [hL];go_grown
 rw [←hL] at hrow ⊢
 clear hL hsz
 have f0:=R0.1;have f1:=R1.1;have f2:=R2.1;have z0:=R0.2;have z1:=R1.2;have z2:=R2.2
 have HBl:=Lib.hid hBl
 have Hbw:=Lib.hid hbw
 clear hBl hbw
 refine (trim_any _ _ (words_two hM) _ hrow).mono ?_
 rintro e w2 ⟨⟨v3,l3,rfl,g1,g2,g3,g4⟩,rfl⟩
 obtain ⟨p3,c3,rfl,_⟩:=g1.len
 have hne:=row_ne g1 HBl.out (by decide)
 have G:=Lib.hid (And.intro g1 (And.intro g2 (And.intro g3 (And.intro g4 hne))))
 subst hE
 clear g1 g2 g3 g4 hne hrow e1 e2
 by_cases hl:l3.length=0
 ·have hl':=Lib.hid hl
  have hl0 : ¬(0:Int)<(l3.length:Int):=by omega
  have hd0:decide (0<l3.length)=false:=decide_eq_false (by omega)
  clear hl
  cases s
  ·go_wp2
   have bs:=big_stored R0 R1 R2 (.bool false) (.slice p3 l3.length c3) (.int .i64 (-1074))
   refine bodyPost_ret (v := .agg #[.bool false,.slice p3 l3.length c3,.int .i64 (-1074)]) (by simp [results,Tryz.results106,go_sem,bs]) rfl ?_
   refine ⟨⟨false,_,l3,rfl,row_stored3 G.out.1 G.out.2.2.2.2 _ _ _,G.out.2.1,G.out.2.2.1,?_⟩,below_stored3 Hbw.out (Nat.le_refl _) _ _ _⟩
   have hg:=G.out.2.2.2.1
   rw [num_two] at hg
   rw [List.length_eq_zero_iff.1 hl'.out] at hg ⊢
   rw [←hg]
   rfl
  ·go_wp2
   have bs:=big_stored R0 R1 R2 (.bool false) (.slice p3 l3.length c3) (.int .i64 (-1074))
   refine bodyPost_ret (v := .agg #[.bool false,.slice p3 l3.length c3,.int .i64 (-1074)]) (by simp [results,Tryz.results106,go_sem,bs]) rfl ?_
   refine ⟨⟨false,_,l3,rfl,row_stored3 G.out.1 G.out.2.2.2.2 _ _ _,G.out.2.1,G.out.2.2.1,?_⟩,below_stored3 Hbw.out (Nat.le_refl _) _ _ _⟩
   have hg:=G.out.2.2.2.1
   rw [num_two] at hg
   rw [List.length_eq_zero_iff.1 hl'.out] at hg ⊢
   rw [←hg]
   rfl
 ·have hl0:(0:Int)<(l3.length:Int):=by omega
  have hd0:decide (0<l3.length)=true:=decide_eq_true (by omega)
  cases s
  ·go_wp2
   have bs:=big_stored R0 R1 R2 (.bool false) (.slice p3 l3.length c3) (.int .i64 (-1074))
   refine bodyPost_ret (v := .agg #[.bool false,.slice p3 l3.length c3,.int .i64 (-1074)]) (by simp [results,Tryz.results106,go_sem,bs]) rfl ?_
   refine ⟨⟨false,_,l3,rfl,row_stored3 G.out.1 G.out.2.2.2.2 _ _ _,G.out.2.1,G.out.2.2.1,?_⟩,below_stored3 Hbw.out (Nat.le_refl _) _ _ _⟩
   have hg:=G.out.2.2.2.1
   rw [num_two] at hg
   rw [←hg]
   rfl
  ·go_wp2
   have bs:=big_stored R0 R1 R2 (.bool true) (.slice p3 l3.length c3) (.int .i64 (-1074))
   refine bodyPost_ret (v := .agg #[.bool true,.slice p3 l3.length c3,.int .i64 (-1074)]) (by simp [results,Tryz.results106,go_sem,bs]) rfl ?_
   refine ⟨⟨true,_,l3,rfl,row_stored3 G.out.1 G.out.2.2.2.2 _ _ _,G.out.2.1,G.out.2.2.1,?_⟩,below_stored3 Hbw.out (Nat.le_refl _) _ _ _⟩
   have hg:=G.out.2.2.2.1
   rw [num_two] at hg
   rw [←hg]
   rfl
set_option maxRecDepth 8000 in
set_option maxHeartbeats 4000000 in
theorem of_n (x:Nat) (hw:Wd x) (s:Bool) (hs:((x:Int) / 9223372036854775808==1)=s) (m ef M:Nat) (E:Int) (hm:bits BinOp.and IntKind.u64 (x:Int) 4503599627370495=(m:Int)) (hf:bits BinOp.and IntKind.u64 ((x:Int) / 4503599627370496) 2047=(ef:Int)) (hor:bits BinOp.or IntKind.u64 (m:Int) 4503599627370496=(M:Int)) (hb1:(1:Int)≤ef) (hb2:(ef:Int)≤2047) (hM:M≤9007199254740992) (hE:E=(ef:Int)-1075) (w:World) :
  Calls Tryz.prog 106 #[.float .f64 x] w fun e w'=>GivesBig w' e (if s=true then -(M:Int) else (M:Int)) E∧Below w.heap.size w w':=by
 have ht:=run_tobits
 go_enter Tryz.func106,Tryz.ntmps106
 go_wp2_with fail
 have hrow:=row_lit (w.alloc (.cells #[.bool false,.slice none 0 0,.int .i64 0] 106)) (M%BB) (M / BB)
 have e1:(((M%BB:Nat):Int))=(M:Int)%4294967296:=by rw [BB_eq];omega
 have e2:(((M / BB:Nat):Int))=(M:Int) / 4294967296:=by rw [BB_eq];omega
 rw [e1,e2] at hrow
 have hsz:(w.alloc (.cells #[.bool false,.slice none 0 0,.int .i64 0] 106)).heap.size=w.heap.size+1:=by simp
 rw [hsz] at hrow
 have LW : ∃ L,L=((w.alloc (.cells #[.bool false,.slice none 0 0,.int .i64 0] 106)).alloc (.cells #[.int .u32 ((M:Int)%4294967296),.int .u32 ((M:Int) / 4294967296)] 115)):=⟨_,rfl⟩
 obtain ⟨L,hL⟩:=LW
 have R0:At L w.heap.size 0 (.bool false):=by rw [hL];exact ⟨by simp [go_sem],by simp [go_sem]⟩
 have R1:At L w.heap.size 1 (.slice none 0 0):=by rw [hL];exact ⟨by simp [go_sem],by simp [go_sem]⟩
 have R2:At L w.heap.size 2 (.int .i64 0):=by rw [hL];exact ⟨by simp [go_sem],by simp [go_sem]⟩
 have hBl:L.heap[w.heap.size]? = some (.cells #[.bool false,.slice none 0 0,.int .i64 0] 106):=by rw [hL];exact heap_first _ _ _
 have hbw:Below w.heap.size w L:=by rw [hL];go_grown
 rw [←hL] at hrow ⊢
 clear hL hsz
 have f0:=R0.1;have f1:=R1.1;have f2:=R2.1;have z0:=R0.2;have z1:=R1.2;have z2:=R2.2
 have HBl:=Lib.hid hBl
 have Hbw:=Lib.hid hbw
 clear hBl hbw
 refine (trim_any _ _ (words_two hM) _ hrow).mono ?_
 rintro e w2 ⟨⟨v3,l3,rfl,g1,g2,g3,g4⟩,rfl⟩
 obtain ⟨p3,c3,rfl,_⟩:=g1.len
 have hne:=row_ne g1 HBl.out (by decide)
 have G:=Lib.hid (And.intro g1 (And.intro g2 (And.intro g3 (And.intro g4 hne))))
 subst hE
 clear g1 g2 g3 g4 hne hrow e1 e2
 by_cases hl:l3.length=0
 ·have hl':=Lib.hid hl
  have hl0 : ¬(0:Int)<(l3.length:Int):=by omega
  have hd0:decide (0<l3.length)=false:=decide_eq_false (by omega)
  clear hl
  cases s
  ·go_wp2
   have bs:=big_stored R0 R1 R2 (.bool false) (.slice p3 l3.length c3) (.int .i64 ((ef:Int)-1075))
   refine bodyPost_ret (v := .agg #[.bool false,.slice p3 l3.length c3,.int .i64 ((ef:Int)-1075)]) (by simp [results,Tryz.results106,go_sem,bs]) rfl ?_
   refine ⟨⟨false,_,l3,rfl,row_stored3 G.out.1 G.out.2.2.2.2 _ _ _,G.out.2.1,G.out.2.2.1,?_⟩,below_stored3 Hbw.out (Nat.le_refl _) _ _ _⟩
   have hg:=G.out.2.2.2.1
   rw [num_two] at hg
   rw [List.length_eq_zero_iff.1 hl'.out] at hg ⊢
   rw [←hg]
   rfl
  ·go_wp2
   have bs:=big_stored R0 R1 R2 (.bool false) (.slice p3 l3.length c3) (.int .i64 ((ef:Int)-1075))
   refine bodyPost_ret (v := .agg #[.bool false,.slice p3 l3.length c3,.int .i64 ((ef:Int)-1075)]) (by simp [results,Tryz.results106,go_sem,bs]) rfl ?_
   refine ⟨⟨false,_,l3,rfl,row_stored3 G.out.1 G.out.2.2.2.2 _ _ _,G.out.2.1,G.out.2.2.1,?_⟩,below_stored3 Hbw.out (Nat.le_refl _) _ _ _⟩
   have hg:=G.out.2.2.2.1
   rw [num_two] at hg
   rw [List.length_eq_zero_iff.1 hl'.out] at hg ⊢
   rw [←hg]
   rfl
 ·have hl0:(0:Int)<(l3.length:Int):=by omega
  have hd0:decide (0<l3.length)=true:=decide_eq_true (by omega)
  cases s
  ·go_wp2
   have bs:=big_stored R0 R1 R2 (.bool false) (.slice p3 l3.length c3) (.int .i64 ((ef:Int)-1075))
   refine bodyPost_ret (v := .agg #[.bool false,.slice p3 l3.length c3,.int .i64 ((ef:Int)-1075)]) (by simp [results,Tryz.results106,go_sem,bs]) rfl ?_
   refine ⟨⟨false,_,l3,rfl,row_stored3 G.out.1 G.out.2.2.2.2 _ _ _,G.out.2.1,G.out.2.2.1,?_⟩,below_stored3 Hbw.out (Nat.le_refl _) _ _ _⟩
   have hg:=G.out.2.2.2.1
   rw [num_two] at hg
   rw [←hg]
   rfl
  ·go_wp2
   have bs:=big_stored R0 R1 R2 (.bool true) (.slice p3 l3.length c3) (.int .i64 ((ef:Int)-1075))
   refine bodyPost_ret (v := .agg #[.bool true,.slice p3 l3.length c3,.int .i64 ((ef:Int)-1075)]) (by simp [results,Tryz.results106,go_sem,bs]) rfl ?_
   refine ⟨⟨true,_,l3,rfl,row_stored3 G.out.1 G.out.2.2.2.2 _ _ _,G.out.2.1,G.out.2.2.1,?_⟩,below_stored3 Hbw.out (Nat.le_refl _) _ _ _⟩
   have hg:=G.out.2.2.2.1
   rw [num_two] at hg
   rw [←hg]
   rfl
end Go.Proofs.YteephgpefhodnaaGreat
namespace Go.Proofs.YteephgpefhodnaaGreat
open Go.RowKit Go.Sort Go.Fl
set_option linter.unusedSimpArgs false
set_option linter.unusedVariables false
theorem zero_row {l:List Nat} (h:num l=0) (ht:Trim l):l=[]:=(num_pos ht).1 h
set_option maxRecDepth 8000 in
set_option maxHeartbeats 4000000 in
theorem times_0x (sa sb:Bool) (ea eb:Int) (he1 : -10000≤ea∧ea≤10000) (he2 : -10000≤eb∧eb≤10000) (p p':Option Addr) (c c' lb:Nat) (h1:lb≤4) (w:World) :
  Calls Tryz.prog 107 #[.agg #[.bool sa,(.slice p 0 c),.int .i64 ea],.agg #[.bool sb,(.slice p' lb c'),.int .i64 eb]] w fun e w'=>GivesBig w' e 0 (ea+eb)∧Below w.heap.size w w':=by
 obtain ⟨i0,hi,hz0,hz1,hz2⟩:=info_parts info_u32
 obtain ⟨W,hW⟩ : ∃ W,W=(World.alloc (World.alloc (World.alloc w (.cells #[.bool sa,(.slice p 0 c),.int .i64 ea] 106)) (.cells #[.bool sb,(.slice p' lb c'),.int .i64 eb] 106)) (.cells #[.bool false,(.slice none 0 0),.int .i64 0] 106)):=⟨_,rfl⟩
 have hWs:W.heap.size=w.heap.size+3:=by rw [hW];simp
 obtain ⟨w0,hmk,hown0,hg0⟩:=run_make_full (P := Tryz.prog) W W.heap.size 104 115 i0 (.int .u32 0) 1 Tryz.underlying104 hi hz0 hz1 .i64 .i64 lb (by rw [hz2];omega) (by unfold maxLen;omega) (Nat.le_refl _)
 have hB0:Below W.heap.size W w0:=grown_none hg0 (Nat.le_refl _)
 rw [made_zeros] at hown0
 have A0:W.cell? ⟨w.heap.size,1,none⟩=some (.slice p 0 c):=by rw [hW];simp [go_sem]
 have A1:W.cell? ⟨w.heap.size+1,1,none⟩=some (.slice p' lb c'):=by rw [hW];simp [go_sem]
 have A2:W.cell? ⟨w.heap.size,0,none⟩=some (.bool sa):=by rw [hW];simp [go_sem]
 have A3:W.cell? ⟨w.heap.size+1,0,none⟩=some (.bool sb):=by rw [hW];simp [go_sem]
 have A4:W.cell? ⟨w.heap.size,2,none⟩=some (.int .i64 ea):=by rw [hW];simp [go_sem]
 have A5:W.cell? ⟨w.heap.size+1,2,none⟩=some (.int .i64 eb):=by rw [hW];simp [go_sem]
 have R0:At W (w.heap.size+1+1) 0 (.bool false):=by rw [hW];exact ⟨by simp [go_sem],by simp [go_sem]⟩
 have R1:At W (w.heap.size+1+1) 1 (.slice none 0 0):=by rw [hW];exact ⟨by simp [go_sem],by simp [go_sem]⟩
 have R2:At W (w.heap.size+1+1) 2 (.int .i64 0):=by rw [hW];exact ⟨by simp [go_sem],by simp [go_sem]⟩
 have HH:W.heap[w.heap.size+1+1]? = some (.cells #[.bool false,.slice none 0 0,.int .i64 0] 106):=by rw [hW];exact heap_last3 _ _ _ _
 have HWs:=Lib.hid hWs
 clear hWs hg0
 go_enter Tryz.func107,Tryz.ntmps107
 go_wp2_with fail
 rw [←hW]
 have HW:=Lib.hid hW
 clear hW
 simp only [hmk,Result.andThen_ok]
 clear hmk
 go_wp2
 go_loopw [6] (fun i wr => ∃ (k:Nat) (o:List Nat),i = .int .i64 k∧k≤0∧(o.length=lb∧Words o∧num o=0)∧wr.ownsRow W.heap.size 115 1 (.slice (some ⟨W.heap.size,0,none⟩) lb lb) lb (o.map W32)∧Below W.heap.size W wr)
  (fun i _=>0-(intOf i).toNat)
 case atStart=>exact ⟨0,List.replicate lb 0,rfl,by omega,⟨by simp,Words.zeros _,num_zeros _⟩,hown0,hB0⟩
 case round =>
  obtain ⟨k,o,rfl,hk,hp,hown,hB⟩:=hrel
  have F0:=RowKit.Below.cells hB A0
  have F1:=RowKit.Below.cells hB A1
  have F2:=RowKit.Below.cells hB A2
  have F3:=RowKit.Below.cells hB A3
  have F4:=RowKit.Below.cells hB A4
  have F5:=RowKit.Below.cells hB A5
  have hnum:num o=0:=hp.2.2
  have hrow:Row wr (.slice (some ⟨W.heap.size,0,none⟩) lb lb) o:=own_row (n:=lb) hown hp.1.symm
  have hwo:=hp.2.1
  have R0':=At.below R0 hB
  have R1':=At.below R1 hB
  have R2':=At.below R2 hB
  have hBl:wr.heap[w.heap.size+1+1]? = some (.cells #[.bool false,.slice none 0 0,.int .i64 0] 106):=(hB.block _ (by rw [HWs.out];omega)).trans HH
  have hbw:Below w.heap.size w wr:=below3 (by rw [←HWs.out,←HW.out];exact hB)
  have f0:=R0'.1;have f1:=R1'.1;have f2:=R2'.1;have z0:=R0'.2;have z1:=R1'.2;have z2:=R2'.2
  have HBl:=Lib.hid hBl
  have Hbw:=Lib.hid hbw
  have Hn:=Lib.hid hnum
  have Hwo:=Lib.hid hwo
  have Hrow:=Lib.hid hrow
  clear hBl hbw hB hnum hwo hrow hown hp
  go_wp2_with fail
  refine (trim_any _ _ Hwo.out _ Hrow.out).mono ?_
  rintro e w2 ⟨⟨v3,l3,rfl,g1,g2,g3,g4⟩,rfl⟩
  rw [Hn.out] at g4
  have el:=zero_row g4 g3
  subst el
  obtain ⟨p3,c3,rfl,_⟩:=g1.len
  have hne:=row_ne g1 HBl.out (by decide)
  have G:=Lib.hid (And.intro g1 hne)
  clear g1 g2 g3 g4 hne
  have e0:([]:List Nat).length=0:=rfl
  rw [e0] at *
  cases sa<;>cases sb
  all_goals
   go_wp2
   have bs:=big_stored R0' R1' R2' (.bool false) (.slice p3 0 c3) (.int .i64 (ea+eb))
   refine bodyPost_ret (v := .agg #[.bool false,.slice p3 0 c3,.int .i64 (ea+eb)]) (by simp [results,Tryz.results107,go_sem,bs]) rfl ?_
   exact ⟨⟨false,_,[],rfl,row_stored3 G.out.1 G.out.2 _ _ _,Words.nil,.inl rfl,rfl⟩,below_stored3 Hbw.out (by omega) _ _ _⟩
set_option maxRecDepth 8000 in
set_option maxHeartbeats 4000000 in
theorem times_x0 (sa sb:Bool) (ea eb:Int) (he1 : -10000≤ea∧ea≤10000) (he2 : -10000≤eb∧eb≤10000) (p p':Option Addr) (c c' la:Nat) (h1:la≤4) (h0:0<la) (w:World) :
  Calls Tryz.prog 107 #[.agg #[.bool sa,(.slice p la c),.int .i64 ea],.agg #[.bool sb,(.slice p' 0 c'),.int .i64 eb]] w fun e w'=>GivesBig w' e 0 (ea+eb)∧Below w.heap.size w w':=by
 obtain ⟨i0,hi,hz0,hz1,hz2⟩:=info_parts info_u32
 obtain ⟨W,hW⟩ : ∃ W,W=(World.alloc (World.alloc (World.alloc w (.cells #[.bool sa,(.slice p la c),.int .i64 ea] 106)) (.cells #[.bool sb,(.slice p' 0 c'),.int .i64 eb] 106)) (.cells #[.bool false,(.slice none 0 0),.int .i64 0] 106)):=⟨_,rfl⟩
 have hWs:W.heap.size=w.heap.size+3:=by rw [hW];simp
 obtain ⟨w0,hmk,hown0,hg0⟩:=run_make_full (P := Tryz.prog) W W.heap.size 104 115 i0 (.int .u32 0) 1 Tryz.underlying104 hi hz0 hz1 .i64 .i64 la (by rw [hz2];omega) (by unfold maxLen;omega) (Nat.le_refl _)
 have hB0:Below W.heap.size W w0:=grown_none hg0 (Nat.le_refl _)
 rw [made_zeros] at hown0
 have A0:W.cell? ⟨w.heap.size,1,none⟩=some (.slice p la c):=by rw [hW];simp [go_sem]
 have A1:W.cell? ⟨w.heap.size+1,1,none⟩=some (.slice p' 0 c'):=by rw [hW];simp [go_sem]
 have A2:W.cell? ⟨w.heap.size,0,none⟩=some (.bool sa):=by rw [hW];simp [go_sem]
 have A3:W.cell? ⟨w.heap.size+1,0,none⟩=some (.bool sb):=by rw [hW];simp [go_sem]
 have A4:W.cell? ⟨w.heap.size,2,none⟩=some (.int .i64 ea):=by rw [hW];simp [go_sem]
 have A5:W.cell? ⟨w.heap.size+1,2,none⟩=some (.int .i64 eb):=by rw [hW];simp [go_sem]
 have R0:At W (w.heap.size+1+1) 0 (.bool false):=by rw [hW];exact ⟨by simp [go_sem],by simp [go_sem]⟩
 have R1:At W (w.heap.size+1+1) 1 (.slice none 0 0):=by rw [hW];exact ⟨by simp [go_sem],by simp [go_sem]⟩
 have R2:At W (w.heap.size+1+1) 2 (.int .i64 0):=by rw [hW];exact ⟨by simp [go_sem],by simp [go_sem]⟩
 have HH:W.heap[w.heap.size+1+1]? = some (.cells #[.bool false,.slice none 0 0,.int .i64 0] 106):=by rw [hW];exact heap_last3 _ _ _ _
 have HWs:=Lib.hid hWs
 clear hWs hg0
 go_enter Tryz.func107,Tryz.ntmps107
 go_wp2_with fail
 rw [←hW]
 have HW:=Lib.hid hW
 clear hW
 simp only [hmk,Result.andThen_ok]
 clear hmk
 go_wp2
 go_loopw [6] (fun i wr => ∃ (k:Nat) (o:List Nat),i = .int .i64 k∧k≤la∧(o.length=la∧Words o∧num o=0)∧wr.ownsRow W.heap.size 115 1 (.slice (some ⟨W.heap.size,0,none⟩) la la) la (o.map W32)∧Below W.heap.size W wr)
  (fun i _=>la-(intOf i).toNat)
 case atStart=>exact ⟨0,List.replicate la 0,rfl,by omega,⟨by simp,Words.zeros _,num_zeros _⟩,hown0,hB0⟩
 case round =>
  obtain ⟨k,o,rfl,hk,hp,hown,hB⟩:=hrel
  have F0:=RowKit.Below.cells hB A0
  have F1:=RowKit.Below.cells hB A1
  have F2:=RowKit.Below.cells hB A2
  have F3:=RowKit.Below.cells hB A3
  have F4:=RowKit.Below.cells hB A4
  have F5:=RowKit.Below.cells hB A5
  by_cases hka:k<la
  ·have f3:=World.ownsRow.frozenAt hown k
   have c4:wr.cell? ⟨W.heap.size,k,none⟩=some _:=row_cell hown k (by omega)
   have hz0':num (o.set k 0)=0:=by
    have:=num_set o k 0 (by omega)
    have h3:=hp.2.2
    rw [h3,Nat.mul_zero] at this
    omega
   have hrel':(o.set k 0).length=la∧Words (o.set k 0)∧num (o.set k 0)=0:=⟨by rw [List.length_set];exact hp.1,hp.2.1.set k BB_pos,hz0'⟩
   have Hrel:=Lib.hid hrel'
   clear hrel' hp hz0'
   go_wp2
   go_loopw [7,8] (fun cv jv wr2=>cv = .int .u64 0∧jv = .int .i64 0∧wr2=wr) (fun _ _ _=>0)
   case atStart=>exact ⟨rfl,rfl,rfl⟩
   case round =>
    obtain ⟨rfl,rfl,rfl⟩:=hrel
    go_wp2
    go_roundw
    case rel=>exact ⟨k+1,_,by go_num,by omega,Hrel.out,row_stored hown k 0 _ rfl,Below.setCell hB (by show W.heap.size≤W.heap.size;omega) _⟩
    case measure=>simp only [intOf];omega
  ·have hnum:num o=0:=hp.2.2
   have hrow:Row wr (.slice (some ⟨W.heap.size,0,none⟩) la la) o:=own_row (n:=la) hown hp.1.symm
   have hwo:=hp.2.1
   have R0':=At.below R0 hB
   have R1':=At.below R1 hB
   have R2':=At.below R2 hB
   have hBl:wr.heap[w.heap.size+1+1]? = some (.cells #[.bool false,.slice none 0 0,.int .i64 0] 106):=(hB.block _ (by rw [HWs.out];omega)).trans HH
   have hbw:Below w.heap.size w wr:=below3 (by rw [←HWs.out,←HW.out];exact hB)
   have f0:=R0'.1;have f1:=R1'.1;have f2:=R2'.1;have z0:=R0'.2;have z1:=R1'.2;have z2:=R2'.2
   have HBl:=Lib.hid hBl
   have Hbw:=Lib.hid hbw
   have Hn:=Lib.hid hnum
   have Hwo:=Lib.hid hwo
   have Hrow:=Lib.hid hrow
   clear hBl hbw hB hnum hwo hrow hown hp
   go_wp2_with fail
   refine (trim_any _ _ Hwo.out _ Hrow.out).mono ?_
   rintro e w2 ⟨⟨v3,l3,rfl,g1,g2,g3,g4⟩,rfl⟩
   rw [Hn.out] at g4
   have el:=zero_row g4 g3
   subst el
   obtain ⟨p3,c3,rfl,_⟩:=g1.len
   have hne:=row_ne g1 HBl.out (by decide)
   have G:=Lib.hid (And.intro g1 hne)
   clear g1 g2 g3 g4 hne
   have e0:([]:List Nat).length=0:=rfl
   rw [e0] at *
   cases sa<;>cases sb
   all_goals
    go_wp2
    have bs:=big_stored R0' R1' R2' (.bool false) (.slice p3 0 c3) (.int .i64 (ea+eb))
    refine bodyPost_ret (v := .agg #[.bool false,.slice p3 0 c3,.int .i64 (ea+eb)]) (by simp [results,Tryz.results107,go_sem,bs]) rfl ?_
    exact ⟨⟨false,_,[],rfl,row_stored3 G.out.1 G.out.2 _ _ _,Words.nil,.inl rfl,rfl⟩,below_stored3 Hbw.out (by omega) _ _ _⟩
theorem sgn_eq (s:Bool) (n:Nat):(if s=true then -(n:Int) else (n:Int))=(if s=true then -1 else 1)*(n:Int):=by cases s<;>simp
theorem times_any (sa sb:Bool) (ea eb:Int) (he1 : -10000≤ea∧ea≤10000) (he2 : -10000≤eb∧eb≤10000) (va vb:Value) (a b:List Nat) (wa:Words a) (wb:Words b) (ha:a.length≤4) (hb:b.length≤4) (w:World) (hr:Row w va a) (hs:Row w vb b) :
  Calls Tryz.prog 107 #[.agg #[.bool sa,va,.int .i64 ea],.agg #[.bool sb,vb,.int .i64 eb]] w fun e w'=>GivesBig w' e ((if sa=true then -(num a:Int) else num a)*(if sb=true then -(num b:Int) else num b)) (ea+eb)∧Below w.heap.size w w':=by
 by_cases h0:a.length=0
 ·have e:=List.length_eq_zero_iff.1 h0
  subst e
  obtain ⟨p,c,rfl,_⟩:=hr.len
  obtain ⟨p',c',rfl,_⟩:=hs.len
  have:=times_0x sa sb ea eb he1 he2 p p' c c' b.length hb w
  rw [sgn_eq sa,show ((num []:Nat):Int)=0 from rfl,Int.mul_zero,Int.zero_mul]
  exact this
 by_cases h0':b.length=0
 ·have e:=List.length_eq_zero_iff.1 h0'
  subst e
  obtain ⟨p,c,rfl,_⟩:=hr.len
  obtain ⟨p',c',rfl,_⟩:=hs.len
  have:=times_x0 sa sb ea eb he1 he2 p p' c c' a.length ha (by omega) w
  rw [sgn_eq sb,show ((num []:Nat):Int)=0 from rfl,Int.mul_zero,Int.mul_zero]
  exact this
 rcases hr.cases with ⟨_,e⟩|⟨g,c,rfl,_,_,hg,hc⟩
 ·rw [e] at h0;exact absurd rfl h0
 rcases hs.cases with ⟨_,e⟩|⟨g',c',rfl,_,_,hg',hc'⟩
 ·rw [e] at h0';exact absurd rfl h0'
 have:=times_11 sa sb ea eb he1 he2 a wa g c (by omega) ha b wb g' c' (by omega) hb w hg hg' hc hc'
 have e:(if sa=true then -1 else 1)*(if sb=true then -1 else 1)*((num a:Int)*num b)=(if sa=true then -(num a:Int) else num a)*(if sb=true then -(num b:Int) else num b):=by
  cases sa<;>cases sb<;>simp [Int.neg_mul,Int.mul_neg]
 rw [e] at this
 exact this
end Go.Proofs.YteephgpefhodnaaGreat
namespace Go.Proofs.YteephgpefhodnaaGreat
open Go.RowKit Go.Sort Go.Fl
set_option linter.unusedSimpArgs false
set_option linter.unusedVariables false
theorem len_of {l:List Nat} {n:Nat} (ht:Trim l) (h:num l<BB^n):l.length≤n:=by
 refine Int.ofNat_le.1 (Int.not_lt.1 fun hl => ?_)
 have hl':n<l.length:=Int.ofNat_lt.1 hl
 have g:=num_ge ht (fun e=>by rw [e] at hl';exact absurd hl' (Nat.not_lt_zero _))
 have:=Nat.pow_le_pow_right BB_pos (show n≤l.length-1 by omega)
 omega
theorem len_le_of {l m:List Nat} (tl:Trim l) (wm:Words m) (h:num l≤num m):l.length≤m.length:=by
 refine Nat.le_of_not_lt fun hl => ?_
 have:=num_len wm tl hl
 omega
theorem Row.alloc {w:World} {v:Value} {l:List Nat} (h:Row w v l) (o:Obj):Row (w.alloc o) v l:=World.ownsRow.alloc h o
set_option maxRecDepth 8000 in
set_option maxHeartbeats 4000000 in
theorem plus_lt_same (s:Bool) (ea eb:Int) (he1 : -10000≤ea∧ea≤10000) (he2 : -10000≤eb∧eb≤10000) (hord:eb<ea) (n:Nat) (hn:(n:Int)=ea-eb) (va vb:Value) (a b:List Nat) (wa:Words a) (wb:Words b) (ha:a.length≤1000) (hb:b.length≤1000)
  (hx:2^n*num a<BB^1000) (hy:2^0*num b<BB^1000) (N:Int) (hN:N=(if s=true then -((2^n*num a:Nat):Int) else ((2^n*num a:Nat):Int))+(if s=true then -((2^0*num b:Nat):Int) else ((2^0*num b:Nat):Int))) (w:World) (hr:Row w va a) (hs:Row w vb b) :
  Calls Tryz.prog 108 #[.agg #[.bool s,va,.int .i64 ea],.agg #[.bool s,vb,.int .i64 eb]] w fun e w'=>GivesBig w' e N eb∧Below w.heap.size w w':=by
 obtain ⟨W,hW⟩ : ∃ W,W=(World.alloc (World.alloc (World.alloc w (.cells #[.bool s,va,.int .i64 ea] 106)) (.cells #[.bool s,vb,.int .i64 eb] 106)) (.cells #[.bool false,(.slice none 0 0),.int .i64 0] 106)):=⟨_,rfl⟩
 have hWs:W.heap.size=w.heap.size+3:=by rw [hW];simp
 have A0:W.cell? ⟨w.heap.size,1,none⟩=some va:=by rw [hW];simp [go_sem]
 have A1:W.cell? ⟨w.heap.size+1,1,none⟩=some vb:=by rw [hW];simp [go_sem]
 have A2:W.cell? ⟨w.heap.size,0,none⟩=some (.bool s):=by rw [hW];simp [go_sem]
 have A3:W.cell? ⟨w.heap.size+1,0,none⟩=some (.bool s):=by rw [hW];simp [go_sem]
 have A4:W.cell? ⟨w.heap.size,2,none⟩=some (.int .i64 ea):=by rw [hW];simp [go_sem]
 have A5:W.cell? ⟨w.heap.size+1,2,none⟩=some (.int .i64 eb):=by rw [hW];simp [go_sem]
 have R0:At W (w.heap.size+1+1) 0 (.bool false):=by rw [hW];exact ⟨by simp [go_sem],by simp [go_sem]⟩
 have R1:At W (w.heap.size+1+1) 1 (.slice none 0 0):=by rw [hW];exact ⟨by simp [go_sem],by simp [go_sem]⟩
 have R2:At W (w.heap.size+1+1) 2 (.int .i64 0):=by rw [hW];exact ⟨by simp [go_sem],by simp [go_sem]⟩
 have HH:W.heap[w.heap.size+1+1]? = some (.cells #[.bool false,.slice none 0 0,.int .i64 0] 106):=by rw [hW];exact heap_last3 _ _ _ _
 have hra:Row W va a:=by rw [hW];exact ((hr.alloc _).alloc _).alloc _
 have hrb:Row W vb b:=by rw [hW];exact ((hs.alloc _).alloc _).alloc _
 have S1 : ∀ w,Row w va a→Calls Tryz.prog 132 #[va,.int .i64 (ea-eb)] w fun e w'=>Gives w' e (2^n*num a)∧Below w.heap.size w w':=fun w h=>by
  have:=shift_any va a n wa ha (by omega) w h
  rw [hn] at this
  exact this
 have S2 : ∀ w,Row w vb b→Calls Tryz.prog 132 #[vb,.int .i64 0] w fun e w'=>Gives w' e (2^0*num b)∧Below w.heap.size w w':=fun w h=>by
  have:=shift_any vb b 0 wb hb (by omega) w h
  rw [Int.natCast_zero] at this
  exact this
 have HS1:=Lib.hid S1
 have HS2:=Lib.hid S2
 have HWs:=Lib.hid hWs
 have Hx:=Lib.hid hx
 have Hy:=Lib.hid hy
 have HN:=Lib.hid hN
 clear hN
 have HW:=Lib.hid hW
 clear S1 S2 hWs hx hy hn
 go_enter Tryz.func108,Tryz.ntmps108
 go_wp2_with fail
 rw [←HW.out]
 refine (HS1.out _ hra).mono ?_
 rintro e w1 ⟨⟨v1,l1,rfl,r1,w1',t1,m1⟩,hB1⟩
 have F0:=RowKit.Below.cells hB1 A0
 have F1:=RowKit.Below.cells hB1 A1
 have F2:=RowKit.Below.cells hB1 A2
 have F3:=RowKit.Below.cells hB1 A3
 have F4:=RowKit.Below.cells hB1 A4
 have F5:=RowKit.Below.cells hB1 A5
 have Hhid:=Lib.hid (And.intro r1 (And.intro w1' (And.intro t1 m1)))
 clear r1 w1' t1 m1
 dsimp only
 go_wp2_with fail
 refine (HS2.out _ (hrb.below hB1)).mono ?_
 rintro e w2 ⟨⟨v2,l2,rfl,r2,w2',t2,m2⟩,hB2⟩
 have G1:=Lib.hid (And.intro (Hhid.out.1.below hB2) Hhid.out.2)
 have G2:=Lib.hid (And.intro r2 (And.intro w2' (And.intro t2 m2)))
 have hB3:=below_step hB1 hB1.size hB2
 clear r2 w2' t2 m2 F0 F1 F2 F3 F4 F5 hB1 hB2 Hhid
 have F0:=RowKit.Below.cells hB3 A0
 have F1:=RowKit.Below.cells hB3 A1
 have F2:=RowKit.Below.cells hB3 A2
 have F3:=RowKit.Below.cells hB3 A3
 have F4:=RowKit.Below.cells hB3 A4
 have F5:=RowKit.Below.cells hB3 A5
 cases s
 all_goals
  go_wp2_with fail
  refine (plus_any v1 v2 l1 l2 G1.out.2.1 G2.out.2.1 (Nat.le_trans (len_of G1.out.2.2.1 (by rw [G1.out.2.2.2];exact Hx.out)) (by decide)) (Nat.le_trans (len_of G2.out.2.2.1 (by rw [G2.out.2.2.2];exact Hy.out)) (by decide)) _ G1.out.1 G2.out.1).mono ?_
  rintro e w3 ⟨⟨v3,l3,rfl,r3,w3',t3,m3⟩,hB4⟩
  obtain ⟨p3,c3,rfl,_⟩:=r3.len
  have hB5:=below_step hB3 hB3.size hB4
  have R0':=At.below R0 hB5
  have R1':=At.below R1 hB5
  have R2':=At.below R2 hB5
  have hBl:w3.heap[w.heap.size+1+1]? = some (.cells #[.bool false,.slice none 0 0,.int .i64 0] 106):=(hB5.block _ (by rw [HWs.out];omega)).trans HH
  have hbw:Below w.heap.size w w3:=below3 (by rw [←HWs.out,←HW.out];exact hB5)
  have hne:=row_ne r3 hBl (by decide)
  have G3:=Lib.hid (And.intro r3 (And.intro w3' (And.intro t3 (And.intro m3 hne))))
  have Hbw:=Lib.hid hbw
  have Q2:=RowKit.Below.cells hB5 A2
  have Q3:=RowKit.Below.cells hB5 A3
  clear r3 w3' t3 m3 hne hBl hbw hB4 hB3 hB5 F0 F1 F2 F3
  have f0:=R0'.1;have f1:=R1'.1;have f2:=R2'.1;have z0:=R0'.2;have z1:=R1'.2;have z2:=R2'.2
  by_cases hl:l3.length=0
  ·have hl':=Lib.hid hl
   have hl0 : ¬(0:Int)<(l3.length:Int):=by omega
   have hd0:decide (0<l3.length)=false:=decide_eq_false (by omega)
   clear hl
   dsimp only
   go_wp2
   first|(have bs:=big_stored R0' R1' R2' (.bool false) (.slice p3 l3.length c3) (.int .i64 eb);refine bodyPost_ret (v := .agg #[.bool false,.slice p3 l3.length c3,.int .i64 eb]) (by simp [results,Tryz.results108,go_sem,bs]) rfl ?_;exact ⟨⟨false,_,l3,rfl,row_stored3 G3.out.1 G3.out.2.2.2.2 _ _ _,G3.out.2.1,G3.out.2.2.1,by have hm:=G3.out.2.2.2.1;have h1:=G1.out.2.2.2;have h2:=G2.out.2.2.2;have hN:=HN.out;have hz:num l3=0:=(by rw [List.length_eq_zero_iff.1 hl'.out];rfl);generalize 2^n*num a=x0 at h1 h2 hN;generalize 2^0*num b=y0 at h1 h2 hN;clear G1 G2 G3 HN Hbw;simp at hN ⊢;omega⟩,below_stored3 Hbw.out (by omega) _ _ _⟩)|(have bs:=big_stored R0' R1' R2' (.bool true) (.slice p3 l3.length c3) (.int .i64 eb);refine bodyPost_ret (v := .agg #[.bool true,.slice p3 l3.length c3,.int .i64 eb]) (by simp [results,Tryz.results108,go_sem,bs]) rfl ?_;exact ⟨⟨true,_,l3,rfl,row_stored3 G3.out.1 G3.out.2.2.2.2 _ _ _,G3.out.2.1,G3.out.2.2.1,by have hm:=G3.out.2.2.2.1;have h1:=G1.out.2.2.2;have h2:=G2.out.2.2.2;have hN:=HN.out;have hz:num l3=0:=(by rw [List.length_eq_zero_iff.1 hl'.out];rfl);generalize 2^n*num a=x0 at h1 h2 hN;generalize 2^0*num b=y0 at h1 h2 hN;clear G1 G2 G3 HN Hbw;simp at hN ⊢;omega⟩,below_stored3 Hbw.out (by omega) _ _ _⟩)
  ·have hl0:(0:Int)<(l3.length:Int):=by omega
   have hd0:decide (0<l3.length)=true:=decide_eq_true (by omega)
   dsimp only
   go_wp2
   first|(have bs:=big_stored R0' R1' R2' (.bool false) (.slice p3 l3.length c3) (.int .i64 eb);refine bodyPost_ret (v := .agg #[.bool false,.slice p3 l3.length c3,.int .i64 eb]) (by simp [results,Tryz.results108,go_sem,bs]) rfl ?_;exact ⟨⟨false,_,l3,rfl,row_stored3 G3.out.1 G3.out.2.2.2.2 _ _ _,G3.out.2.1,G3.out.2.2.1,by have hm:=G3.out.2.2.2.1;have h1:=G1.out.2.2.2;have h2:=G2.out.2.2.2;have hN:=HN.out;generalize 2^n*num a=x0 at h1 h2 hN;generalize 2^0*num b=y0 at h1 h2 hN;clear G1 G2 G3 HN Hbw;simp at hN ⊢;omega⟩,below_stored3 Hbw.out (by omega) _ _ _⟩)|(have bs:=big_stored R0' R1' R2' (.bool true) (.slice p3 l3.length c3) (.int .i64 eb);refine bodyPost_ret (v := .agg #[.bool true,.slice p3 l3.length c3,.int .i64 eb]) (by simp [results,Tryz.results108,go_sem,bs]) rfl ?_;exact ⟨⟨true,_,l3,rfl,row_stored3 G3.out.1 G3.out.2.2.2.2 _ _ _,G3.out.2.1,G3.out.2.2.1,by have hm:=G3.out.2.2.2.1;have h1:=G1.out.2.2.2;have h2:=G2.out.2.2.2;have hN:=HN.out;generalize 2^n*num a=x0 at h1 h2 hN;generalize 2^0*num b=y0 at h1 h2 hN;clear G1 G2 G3 HN Hbw;simp at hN ⊢;omega⟩,below_stored3 Hbw.out (by omega) _ _ _⟩)
set_option maxRecDepth 8000 in
set_option maxHeartbeats 4000000 in
theorem plus_lt_less (s:Bool) (ea eb:Int) (he1 : -10000≤ea∧ea≤10000) (he2 : -10000≤eb∧eb≤10000) (hord:eb<ea) (n:Nat) (hn:(n:Int)=ea-eb) (va vb:Value) (a b:List Nat) (wa:Words a) (wb:Words b) (ha:a.length≤1000) (hb:b.length≤1000)
  (hx:2^n*num a<BB^1000) (hy:2^0*num b<BB^1000) (hk:2^n*num a<2^0*num b) (N:Int) (hN:N=(if s=true then -((2^n*num a:Nat):Int) else ((2^n*num a:Nat):Int))+(if (!s)=true then -((2^0*num b:Nat):Int) else ((2^0*num b:Nat):Int))) (w:World) (hr:Row w va a) (hs:Row w vb b) :
  Calls Tryz.prog 108 #[.agg #[.bool s,va,.int .i64 ea],.agg #[.bool (!s),vb,.int .i64 eb]] w fun e w'=>GivesBig w' e N eb∧Below w.heap.size w w':=by
 obtain ⟨W,hW⟩ : ∃ W,W=(World.alloc (World.alloc (World.alloc w (.cells #[.bool s,va,.int .i64 ea] 106)) (.cells #[.bool (!s),vb,.int .i64 eb] 106)) (.cells #[.bool false,(.slice none 0 0),.int .i64 0] 106)):=⟨_,rfl⟩
 have hWs:W.heap.size=w.heap.size+3:=by rw [hW];simp
 have A0:W.cell? ⟨w.heap.size,1,none⟩=some va:=by rw [hW];simp [go_sem]
 have A1:W.cell? ⟨w.heap.size+1,1,none⟩=some vb:=by rw [hW];simp [go_sem]
 have A2:W.cell? ⟨w.heap.size,0,none⟩=some (.bool s):=by rw [hW];simp [go_sem]
 have A3:W.cell? ⟨w.heap.size+1,0,none⟩=some (.bool (!s)):=by rw [hW];simp [go_sem]
 have A4:W.cell? ⟨w.heap.size,2,none⟩=some (.int .i64 ea):=by rw [hW];simp [go_sem]
 have A5:W.cell? ⟨w.heap.size+1,2,none⟩=some (.int .i64 eb):=by rw [hW];simp [go_sem]
 have R0:At W (w.heap.size+1+1) 0 (.bool false):=by rw [hW];exact ⟨by simp [go_sem],by simp [go_sem]⟩
 have R1:At W (w.heap.size+1+1) 1 (.slice none 0 0):=by rw [hW];exact ⟨by simp [go_sem],by simp [go_sem]⟩
 have R2:At W (w.heap.size+1+1) 2 (.int .i64 0):=by rw [hW];exact ⟨by simp [go_sem],by simp [go_sem]⟩
 have HH:W.heap[w.heap.size+1+1]? = some (.cells #[.bool false,.slice none 0 0,.int .i64 0] 106):=by rw [hW];exact heap_last3 _ _ _ _
 have hra:Row W va a:=by rw [hW];exact ((hr.alloc _).alloc _).alloc _
 have hrb:Row W vb b:=by rw [hW];exact ((hs.alloc _).alloc _).alloc _
 have S1 : ∀ w,Row w va a→Calls Tryz.prog 132 #[va,.int .i64 (ea-eb)] w fun e w'=>Gives w' e (2^n*num a)∧Below w.heap.size w w':=fun w h=>by
  have:=shift_any va a n wa ha (by omega) w h
  rw [hn] at this
  exact this
 have S2 : ∀ w,Row w vb b→Calls Tryz.prog 132 #[vb,.int .i64 0] w fun e w'=>Gives w' e (2^0*num b)∧Below w.heap.size w w':=fun w h=>by
  have:=shift_any vb b 0 wb hb (by omega) w h
  rw [Int.natCast_zero] at this
  exact this
 have HS1:=Lib.hid S1
 have HS2:=Lib.hid S2
 have HWs:=Lib.hid hWs
 have Hx:=Lib.hid hx
 have Hy:=Lib.hid hy
 have HN:=Lib.hid hN
 clear hN
 have Hk:=Lib.hid hk
 clear hk
 have HW:=Lib.hid hW
 clear S1 S2 hWs hx hy hn
 go_enter Tryz.func108,Tryz.ntmps108
 go_wp2_with fail
 rw [←HW.out]
 refine (HS1.out _ hra).mono ?_
 rintro e w1 ⟨⟨v1,l1,rfl,r1,w1',t1,m1⟩,hB1⟩
 have F0:=RowKit.Below.cells hB1 A0
 have F1:=RowKit.Below.cells hB1 A1
 have F2:=RowKit.Below.cells hB1 A2
 have F3:=RowKit.Below.cells hB1 A3
 have F4:=RowKit.Below.cells hB1 A4
 have F5:=RowKit.Below.cells hB1 A5
 have Hhid:=Lib.hid (And.intro r1 (And.intro w1' (And.intro t1 m1)))
 clear r1 w1' t1 m1
 dsimp only
 go_wp2_with fail
 refine (HS2.out _ (hrb.below hB1)).mono ?_
 rintro e w2 ⟨⟨v2,l2,rfl,r2,w2',t2,m2⟩,hB2⟩
 have G1:=Lib.hid (And.intro (Hhid.out.1.below hB2) Hhid.out.2)
 have G2:=Lib.hid (And.intro r2 (And.intro w2' (And.intro t2 m2)))
 have hB3:=below_step hB1 hB1.size hB2
 clear r2 w2' t2 m2 F0 F1 F2 F3 F4 F5 hB1 hB2 Hhid
 have F0:=RowKit.Below.cells hB3 A0
 have F1:=RowKit.Below.cells hB3 A1
 have F2:=RowKit.Below.cells hB3 A2
 have F3:=RowKit.Below.cells hB3 A3
 have F4:=RowKit.Below.cells hB3 A4
 have F5:=RowKit.Below.cells hB3 A5
 cases s
 all_goals
  go_wp2_with fail
  refine (less_any v1 v2 l1 l2 G1.out.2.1 G2.out.2.1 G1.out.2.2.1 G2.out.2.2.1 _ G1.out.1 G2.out.1).mono ?_
  rintro e w4 ⟨rfl,hB4⟩
  have hd:decide (num l1<num l2)=true:=by rw [G1.out.2.2.2,G2.out.2.2.2];exact decide_eq_true Hk.out
  rw [hd]
  have K1:=Lib.hid (And.intro (G1.out.1.below hB4) G1.out.2)
  have K2:=Lib.hid (And.intro (G2.out.1.below hB4) G2.out.2)
  have hB5:=below_step hB3 hB3.size hB4
  clear hd hB3 hB4 F0 F1 F2 F3 F4 F5 G1 G2
  have hB3:=hB5
  clear hB5
  have F0:=RowKit.Below.cells hB3 A0
  have F1:=RowKit.Below.cells hB3 A1
  have F2:=RowKit.Below.cells hB3 A2
  have F3:=RowKit.Below.cells hB3 A3
  have G1:=K1
  have G2:=K2
  clear K1 K2
  dsimp only
  go_wp2_with fail
  refine (minus_any v2 v1 l2 l1 G2.out.2.1 G1.out.2.1 (Nat.le_trans (len_of G2.out.2.2.1 (by rw [G2.out.2.2.2];exact Hy.out)) (by decide)) (len_le_of G1.out.2.2.1 G2.out.2.1 (by rw [G1.out.2.2.2,G2.out.2.2.2];exact Nat.le_of_lt Hk.out)) (by rw [G1.out.2.2.2,G2.out.2.2.2];exact Nat.le_of_lt Hk.out) _ G2.out.1 G1.out.1).mono ?_
  rintro e w3 ⟨⟨v3,l3,rfl,r3,w3',t3,m3⟩,hB4⟩
  obtain ⟨p3,c3,rfl,_⟩:=r3.len
  have hB5:=below_step hB3 hB3.size hB4
  have R0':=At.below R0 hB5
  have R1':=At.below R1 hB5
  have R2':=At.below R2 hB5
  have hBl:w3.heap[w.heap.size+1+1]? = some (.cells #[.bool false,.slice none 0 0,.int .i64 0] 106):=(hB5.block _ (by rw [HWs.out];omega)).trans HH
  have hbw:Below w.heap.size w w3:=below3 (by rw [←HWs.out,←HW.out];exact hB5)
  have hne:=row_ne r3 hBl (by decide)
  have G3:=Lib.hid (And.intro r3 (And.intro w3' (And.intro t3 (And.intro m3 hne))))
  have Hbw:=Lib.hid hbw
  have Q2:=RowKit.Below.cells hB5 A2
  have Q3:=RowKit.Below.cells hB5 A3
  clear r3 w3' t3 m3 hne hBl hbw hB4 hB3 hB5 F0 F1 F2 F3
  have f0:=R0'.1;have f1:=R1'.1;have f2:=R2'.1;have z0:=R0'.2;have z1:=R1'.2;have z2:=R2'.2
  by_cases hl:l3.length=0
  ·have hl':=Lib.hid hl
   have hl0 : ¬(0:Int)<(l3.length:Int):=by omega
   have hd0:decide (0<l3.length)=false:=decide_eq_false (by omega)
   clear hl
   exfalso
   have hm:=G3.out.2.2.2.1
   have hk:=Hk.out
   have hz:num l3=0:=by rw [List.length_eq_zero_iff.1 hl'.out];rfl
   rw [G1.out.2.2.2,G2.out.2.2.2,hz] at hm
   omega
  ·have hl0:(0:Int)<(l3.length:Int):=by omega
   have hd0:decide (0<l3.length)=true:=decide_eq_true (by omega)
   dsimp only
   go_wp2
   first|(have bs:=big_stored R0' R1' R2' (.bool false) (.slice p3 l3.length c3) (.int .i64 eb);refine bodyPost_ret (v := .agg #[.bool false,.slice p3 l3.length c3,.int .i64 eb]) (by simp [results,Tryz.results108,go_sem,bs]) rfl ?_;exact ⟨⟨false,_,l3,rfl,row_stored3 G3.out.1 G3.out.2.2.2.2 _ _ _,G3.out.2.1,G3.out.2.2.1,by have hm:=G3.out.2.2.2.1;have h1:=G1.out.2.2.2;have h2:=G2.out.2.2.2;have hN:=HN.out;have hk:=Hk.out;generalize 2^n*num a=x0 at h1 h2 hN hk;generalize 2^0*num b=y0 at h1 h2 hN hk;clear G1 G2 G3 HN Hbw;simp at hN ⊢;omega⟩,below_stored3 Hbw.out (by omega) _ _ _⟩)|(have bs:=big_stored R0' R1' R2' (.bool true) (.slice p3 l3.length c3) (.int .i64 eb);refine bodyPost_ret (v := .agg #[.bool true,.slice p3 l3.length c3,.int .i64 eb]) (by simp [results,Tryz.results108,go_sem,bs]) rfl ?_;exact ⟨⟨true,_,l3,rfl,row_stored3 G3.out.1 G3.out.2.2.2.2 _ _ _,G3.out.2.1,G3.out.2.2.1,by have hm:=G3.out.2.2.2.1;have h1:=G1.out.2.2.2;have h2:=G2.out.2.2.2;have hN:=HN.out;have hk:=Hk.out;generalize 2^n*num a=x0 at h1 h2 hN hk;generalize 2^0*num b=y0 at h1 h2 hN hk;clear G1 G2 G3 HN Hbw;simp at hN ⊢;omega⟩,below_stored3 Hbw.out (by omega) _ _ _⟩)
set_option maxRecDepth 8000 in
set_option maxHeartbeats 4000000 in
theorem plus_lt_more (s:Bool) (ea eb:Int) (he1 : -10000≤ea∧ea≤10000) (he2 : -10000≤eb∧eb≤10000) (hord:eb<ea) (n:Nat) (hn:(n:Int)=ea-eb) (va vb:Value) (a b:List Nat) (wa:Words a) (wb:Words b) (ha:a.length≤1000) (hb:b.length≤1000)
  (hx:2^n*num a<BB^1000) (hy:2^0*num b<BB^1000) (hk : ¬2^n*num a<2^0*num b) (N:Int) (hN:N=(if s=true then -((2^n*num a:Nat):Int) else ((2^n*num a:Nat):Int))+(if (!s)=true then -((2^0*num b:Nat):Int) else ((2^0*num b:Nat):Int))) (w:World) (hr:Row w va a) (hs:Row w vb b) :
  Calls Tryz.prog 108 #[.agg #[.bool s,va,.int .i64 ea],.agg #[.bool (!s),vb,.int .i64 eb]] w fun e w'=>GivesBig w' e N eb∧Below w.heap.size w w':=by
 obtain ⟨W,hW⟩ : ∃ W,W=(World.alloc (World.alloc (World.alloc w (.cells #[.bool s,va,.int .i64 ea] 106)) (.cells #[.bool (!s),vb,.int .i64 eb] 106)) (.cells #[.bool false,(.slice none 0 0),.int .i64 0] 106)):=⟨_,rfl⟩
 have hWs:W.heap.size=w.heap.size+3:=by rw [hW];simp
 have A0:W.cell? ⟨w.heap.size,1,none⟩=some va:=by rw [hW];simp [go_sem]
 have A1:W.cell? ⟨w.heap.size+1,1,none⟩=some vb:=by rw [hW];simp [go_sem]
 have A2:W.cell? ⟨w.heap.size,0,none⟩=some (.bool s):=by rw [hW];simp [go_sem]
 have A3:W.cell? ⟨w.heap.size+1,0,none⟩=some (.bool (!s)):=by rw [hW];simp [go_sem]
 have A4:W.cell? ⟨w.heap.size,2,none⟩=some (.int .i64 ea):=by rw [hW];simp [go_sem]
 have A5:W.cell? ⟨w.heap.size+1,2,none⟩=some (.int .i64 eb):=by rw [hW];simp [go_sem]
 have R0:At W (w.heap.size+1+1) 0 (.bool false):=by rw [hW];exact ⟨by simp [go_sem],by simp [go_sem]⟩
 have R1:At W (w.heap.size+1+1) 1 (.slice none 0 0):=by rw [hW];exact ⟨by simp [go_sem],by simp [go_sem]⟩
 have R2:At W (w.heap.size+1+1) 2 (.int .i64 0):=by rw [hW];exact ⟨by simp [go_sem],by simp [go_sem]⟩
 have HH:W.heap[w.heap.size+1+1]? = some (.cells #[.bool false,.slice none 0 0,.int .i64 0] 106):=by rw [hW];exact heap_last3 _ _ _ _
 have hra:Row W va a:=by rw [hW];exact ((hr.alloc _).alloc _).alloc _
 have hrb:Row W vb b:=by rw [hW];exact ((hs.alloc _).alloc _).alloc _
 have S1 : ∀ w,Row w va a→Calls Tryz.prog 132 #[va,.int .i64 (ea-eb)] w fun e w'=>Gives w' e (2^n*num a)∧Below w.heap.size w w':=fun w h=>by
  have:=shift_any va a n wa ha (by omega) w h
  rw [hn] at this
  exact this
 have S2 : ∀ w,Row w vb b→Calls Tryz.prog 132 #[vb,.int .i64 0] w fun e w'=>Gives w' e (2^0*num b)∧Below w.heap.size w w':=fun w h=>by
  have:=shift_any vb b 0 wb hb (by omega) w h
  rw [Int.natCast_zero] at this
  exact this
 have HS1:=Lib.hid S1
 have HS2:=Lib.hid S2
 have HWs:=Lib.hid hWs
 have Hx:=Lib.hid hx
 have Hy:=Lib.hid hy
 have HN:=Lib.hid hN
 clear hN
 have Hk:=Lib.hid hk
 clear hk
 have HW:=Lib.hid hW
 clear S1 S2 hWs hx hy hn
 go_enter Tryz.func108,Tryz.ntmps108
 go_wp2_with fail
 rw [←HW.out]
 refine (HS1.out _ hra).mono ?_
 rintro e w1 ⟨⟨v1,l1,rfl,r1,w1',t1,m1⟩,hB1⟩
 have F0:=RowKit.Below.cells hB1 A0
 have F1:=RowKit.Below.cells hB1 A1
 have F2:=RowKit.Below.cells hB1 A2
 have F3:=RowKit.Below.cells hB1 A3
 have F4:=RowKit.Below.cells hB1 A4
 have F5:=RowKit.Below.cells hB1 A5
 have Hhid:=Lib.hid (And.intro r1 (And.intro w1' (And.intro t1 m1)))
 clear r1 w1' t1 m1
 dsimp only
 go_wp2_with fail
 refine (HS2.out _ (hrb.below hB1)).mono ?_
 rintro e w2 ⟨⟨v2,l2,rfl,r2,w2',t2,m2⟩,hB2⟩
 have G1:=Lib.hid (And.intro (Hhid.out.1.below hB2) Hhid.out.2)
 have G2:=Lib.hid (And.intro r2 (And.intro w2' (And.intro t2 m2)))
 have hB3:=below_step hB1 hB1.size hB2
 clear r2 w2' t2 m2 F0 F1 F2 F3 F4 F5 hB1 hB2 Hhid
 have F0:=RowKit.Below.cells hB3 A0
 have F1:=RowKit.Below.cells hB3 A1
 have F2:=RowKit.Below.cells hB3 A2
 have F3:=RowKit.Below.cells hB3 A3
 have F4:=RowKit.Below.cells hB3 A4
 have F5:=RowKit.Below.cells hB3 A5
 cases s
 all_goals
  go_wp2_with fail
  refine (less_any v1 v2 l1 l2 G1.out.2.1 G2.out.2.1 G1.out.2.2.1 G2.out.2.2.1 _ G1.out.1 G2.out.1).mono ?_
  rintro e w4 ⟨rfl,hB4⟩
  have hd:decide (num l1<num l2)=false:=by rw [G1.out.2.2.2,G2.out.2.2.2];exact decide_eq_false Hk.out
  rw [hd]
  have K1:=Lib.hid (And.intro (G1.out.1.below hB4) G1.out.2)
  have K2:=Lib.hid (And.intro (G2.out.1.below hB4) G2.out.2)
  have hB5:=below_step hB3 hB3.size hB4
  clear hd hB3 hB4 F0 F1 F2 F3 F4 F5 G1 G2
  have hB3:=hB5
  clear hB5
  have F0:=RowKit.Below.cells hB3 A0
  have F1:=RowKit.Below.cells hB3 A1
  have F2:=RowKit.Below.cells hB3 A2
  have F3:=RowKit.Below.cells hB3 A3
  have G1:=K1
  have G2:=K2
  clear K1 K2
  dsimp only
  go_wp2_with fail
  refine (minus_any v1 v2 l1 l2 G1.out.2.1 G2.out.2.1 (Nat.le_trans (len_of G1.out.2.2.1 (by rw [G1.out.2.2.2];exact Hx.out)) (by decide)) (len_le_of G2.out.2.2.1 G1.out.2.1 (by rw [G1.out.2.2.2,G2.out.2.2.2];exact Nat.le_of_not_lt Hk.out)) (by rw [G1.out.2.2.2,G2.out.2.2.2];exact Nat.le_of_not_lt Hk.out) _ G1.out.1 G2.out.1).mono ?_
  rintro e w3 ⟨⟨v3,l3,rfl,r3,w3',t3,m3⟩,hB4⟩
  obtain ⟨p3,c3,rfl,_⟩:=r3.len
  have hB5:=below_step hB3 hB3.size hB4
  have R0':=At.below R0 hB5
  have R1':=At.below R1 hB5
  have R2':=At.below R2 hB5
  have hBl:w3.heap[w.heap.size+1+1]? = some (.cells #[.bool false,.slice none 0 0,.int .i64 0] 106):=(hB5.block _ (by rw [HWs.out];omega)).trans HH
  have hbw:Below w.heap.size w w3:=below3 (by rw [←HWs.out,←HW.out];exact hB5)
  have hne:=row_ne r3 hBl (by decide)
  have G3:=Lib.hid (And.intro r3 (And.intro w3' (And.intro t3 (And.intro m3 hne))))
  have Hbw:=Lib.hid hbw
  have Q2:=RowKit.Below.cells hB5 A2
  have Q3:=RowKit.Below.cells hB5 A3
  clear r3 w3' t3 m3 hne hBl hbw hB4 hB3 hB5 F0 F1 F2 F3
  have f0:=R0'.1;have f1:=R1'.1;have f2:=R2'.1;have z0:=R0'.2;have z1:=R1'.2;have z2:=R2'.2
  by_cases hl:l3.length=0
  ·have hl':=Lib.hid hl
   have hl0 : ¬(0:Int)<(l3.length:Int):=by omega
   have hd0:decide (0<l3.length)=false:=decide_eq_false (by omega)
   clear hl
   dsimp only
   go_wp2
   first|(have bs:=big_stored R0' R1' R2' (.bool false) (.slice p3 l3.length c3) (.int .i64 eb);refine bodyPost_ret (v := .agg #[.bool false,.slice p3 l3.length c3,.int .i64 eb]) (by simp [results,Tryz.results108,go_sem,bs]) rfl ?_;exact ⟨⟨false,_,l3,rfl,row_stored3 G3.out.1 G3.out.2.2.2.2 _ _ _,G3.out.2.1,G3.out.2.2.1,by have hm:=G3.out.2.2.2.1;have h1:=G1.out.2.2.2;have h2:=G2.out.2.2.2;have hN:=HN.out;have hk:=Hk.out;have hz:num l3=0:=(by rw [List.length_eq_zero_iff.1 hl'.out];rfl);generalize 2^n*num a=x0 at h1 h2 hN hk;generalize 2^0*num b=y0 at h1 h2 hN hk;clear G1 G2 G3 HN Hbw;simp at hN ⊢;omega⟩,below_stored3 Hbw.out (by omega) _ _ _⟩)|(have bs:=big_stored R0' R1' R2' (.bool true) (.slice p3 l3.length c3) (.int .i64 eb);refine bodyPost_ret (v := .agg #[.bool true,.slice p3 l3.length c3,.int .i64 eb]) (by simp [results,Tryz.results108,go_sem,bs]) rfl ?_;exact ⟨⟨true,_,l3,rfl,row_stored3 G3.out.1 G3.out.2.2.2.2 _ _ _,G3.out.2.1,G3.out.2.2.1,by have hm:=G3.out.2.2.2.1;have h1:=G1.out.2.2.2;have h2:=G2.out.2.2.2;have hN:=HN.out;have hk:=Hk.out;have hz:num l3=0:=(by rw [List.length_eq_zero_iff.1 hl'.out];rfl);generalize 2^n*num a=x0 at h1 h2 hN hk;generalize 2^0*num b=y0 at h1 h2 hN hk;clear G1 G2 G3 HN Hbw;simp at hN ⊢;omega⟩,below_stored3 Hbw.out (by omega) _ _ _⟩)
  ·have hl0:(0:Int)<(l3.length:Int):=by omega
   have hd0:decide (0<l3.length)=true:=decide_eq_true (by omega)
   dsimp only
   go_wp2
   first|(have bs:=big_stored R0' R1' R2' (.bool false) (.slice p3 l3.length c3) (.int .i64 eb);refine bodyPost_ret (v := .agg #[.bool false,.slice p3 l3.length c3,.int .i64 eb]) (by simp [results,Tryz.results108,go_sem,bs]) rfl ?_;exact ⟨⟨false,_,l3,rfl,row_stored3 G3.out.1 G3.out.2.2.2.2 _ _ _,G3.out.2.1,G3.out.2.2.1,by have hm:=G3.out.2.2.2.1;have h1:=G1.out.2.2.2;have h2:=G2.out.2.2.2;have hN:=HN.out;have hk:=Hk.out;generalize 2^n*num a=x0 at h1 h2 hN hk;generalize 2^0*num b=y0 at h1 h2 hN hk;clear G1 G2 G3 HN Hbw;simp at hN ⊢;omega⟩,below_stored3 Hbw.out (by omega) _ _ _⟩)|(have bs:=big_stored R0' R1' R2' (.bool true) (.slice p3 l3.length c3) (.int .i64 eb);refine bodyPost_ret (v := .agg #[.bool true,.slice p3 l3.length c3,.int .i64 eb]) (by simp [results,Tryz.results108,go_sem,bs]) rfl ?_;exact ⟨⟨true,_,l3,rfl,row_stored3 G3.out.1 G3.out.2.2.2.2 _ _ _,G3.out.2.1,G3.out.2.2.1,by have hm:=G3.out.2.2.2.1;have h1:=G1.out.2.2.2;have h2:=G2.out.2.2.2;have hN:=HN.out;have hk:=Hk.out;generalize 2^n*num a=x0 at h1 h2 hN hk;generalize 2^0*num b=y0 at h1 h2 hN hk;clear G1 G2 G3 HN Hbw;simp at hN ⊢;omega⟩,below_stored3 Hbw.out (by omega) _ _ _⟩)
set_option maxRecDepth 8000 in
set_option maxHeartbeats 4000000 in
theorem plus_ge_same (s:Bool) (ea eb:Int) (he1 : -10000≤ea∧ea≤10000) (he2 : -10000≤eb∧eb≤10000) (hord : ¬eb<ea) (n:Nat) (hn:(n:Int)=eb-ea) (va vb:Value) (a b:List Nat) (wa:Words a) (wb:Words b) (ha:a.length≤1000) (hb:b.length≤1000)
  (hx:2^0*num a<BB^1000) (hy:2^n*num b<BB^1000) (N:Int) (hN:N=(if s=true then -((2^0*num a:Nat):Int) else ((2^0*num a:Nat):Int))+(if s=true then -((2^n*num b:Nat):Int) else ((2^n*num b:Nat):Int))) (w:World) (hr:Row w va a) (hs:Row w vb b) :
  Calls Tryz.prog 108 #[.agg #[.bool s,va,.int .i64 ea],.agg #[.bool s,vb,.int .i64 eb]] w fun e w'=>GivesBig w' e N ea∧Below w.heap.size w w':=by
 obtain ⟨W,hW⟩ : ∃ W,W=(World.alloc (World.alloc (World.alloc w (.cells #[.bool s,va,.int .i64 ea] 106)) (.cells #[.bool s,vb,.int .i64 eb] 106)) (.cells #[.bool false,(.slice none 0 0),.int .i64 0] 106)):=⟨_,rfl⟩
 have hWs:W.heap.size=w.heap.size+3:=by rw [hW];simp
 have A0:W.cell? ⟨w.heap.size,1,none⟩=some va:=by rw [hW];simp [go_sem]
 have A1:W.cell? ⟨w.heap.size+1,1,none⟩=some vb:=by rw [hW];simp [go_sem]
 have A2:W.cell? ⟨w.heap.size,0,none⟩=some (.bool s):=by rw [hW];simp [go_sem]
 have A3:W.cell? ⟨w.heap.size+1,0,none⟩=some (.bool s):=by rw [hW];simp [go_sem]
 have A4:W.cell? ⟨w.heap.size,2,none⟩=some (.int .i64 ea):=by rw [hW];simp [go_sem]
 have A5:W.cell? ⟨w.heap.size+1,2,none⟩=some (.int .i64 eb):=by rw [hW];simp [go_sem]
 have R0:At W (w.heap.size+1+1) 0 (.bool false):=by rw [hW];exact ⟨by simp [go_sem],by simp [go_sem]⟩
 have R1:At W (w.heap.size+1+1) 1 (.slice none 0 0):=by rw [hW];exact ⟨by simp [go_sem],by simp [go_sem]⟩
 have R2:At W (w.heap.size+1+1) 2 (.int .i64 0):=by rw [hW];exact ⟨by simp [go_sem],by simp [go_sem]⟩
 have HH:W.heap[w.heap.size+1+1]? = some (.cells #[.bool false,.slice none 0 0,.int .i64 0] 106):=by rw [hW];exact heap_last3 _ _ _ _
 have hra:Row W va a:=by rw [hW];exact ((hr.alloc _).alloc _).alloc _
 have hrb:Row W vb b:=by rw [hW];exact ((hs.alloc _).alloc _).alloc _
 have S1 : ∀ w,Row w va a→Calls Tryz.prog 132 #[va,.int .i64 0] w fun e w'=>Gives w' e (2^0*num a)∧Below w.heap.size w w':=fun w h=>by
  have:=shift_any va a 0 wa ha (by omega) w h
  rw [Int.natCast_zero] at this
  exact this
 have S2 : ∀ w,Row w vb b→Calls Tryz.prog 132 #[vb,.int .i64 (eb-ea)] w fun e w'=>Gives w' e (2^n*num b)∧Below w.heap.size w w':=fun w h=>by
  have:=shift_any vb b n wb hb (by omega) w h
  rw [hn] at this
  exact this
 have HS1:=Lib.hid S1
 have HS2:=Lib.hid S2
 have HWs:=Lib.hid hWs
 have Hx:=Lib.hid hx
 have Hy:=Lib.hid hy
 have HN:=Lib.hid hN
 clear hN
 have HW:=Lib.hid hW
 clear S1 S2 hWs hx hy hn
 go_enter Tryz.func108,Tryz.ntmps108
 go_wp2_with fail
 rw [←HW.out]
 refine (HS1.out _ hra).mono ?_
 rintro e w1 ⟨⟨v1,l1,rfl,r1,w1',t1,m1⟩,hB1⟩
 have F0:=RowKit.Below.cells hB1 A0
 have F1:=RowKit.Below.cells hB1 A1
 have F2:=RowKit.Below.cells hB1 A2
 have F3:=RowKit.Below.cells hB1 A3
 have F4:=RowKit.Below.cells hB1 A4
 have F5:=RowKit.Below.cells hB1 A5
 have Hhid:=Lib.hid (And.intro r1 (And.intro w1' (And.intro t1 m1)))
 clear r1 w1' t1 m1
 dsimp only
 go_wp2_with fail
 refine (HS2.out _ (hrb.below hB1)).mono ?_
 rintro e w2 ⟨⟨v2,l2,rfl,r2,w2',t2,m2⟩,hB2⟩
 have G1:=Lib.hid (And.intro (Hhid.out.1.below hB2) Hhid.out.2)
 have G2:=Lib.hid (And.intro r2 (And.intro w2' (And.intro t2 m2)))
 have hB3:=below_step hB1 hB1.size hB2
 clear r2 w2' t2 m2 F0 F1 F2 F3 F4 F5 hB1 hB2 Hhid
 have F0:=RowKit.Below.cells hB3 A0
 have F1:=RowKit.Below.cells hB3 A1
 have F2:=RowKit.Below.cells hB3 A2
 have F3:=RowKit.Below.cells hB3 A3
 have F4:=RowKit.Below.cells hB3 A4
 have F5:=RowKit.Below.cells hB3 A5
 cases s
 all_goals
  go_wp2_with fail
  refine (plus_any v1 v2 l1 l2 G1.out.2.1 G2.out.2.1 (Nat.le_trans (len_of G1.out.2.2.1 (by rw [G1.out.2.2.2];exact Hx.out)) (by decide)) (Nat.le_trans (len_of G2.out.2.2.1 (by rw [G2.out.2.2.2];exact Hy.out)) (by decide)) _ G1.out.1 G2.out.1).mono ?_
  rintro e w3 ⟨⟨v3,l3,rfl,r3,w3',t3,m3⟩,hB4⟩
  obtain ⟨p3,c3,rfl,_⟩:=r3.len
  have hB5:=below_step hB3 hB3.size hB4
  have R0':=At.below R0 hB5
  have R1':=At.below R1 hB5
  have R2':=At.below R2 hB5
  have hBl:w3.heap[w.heap.size+1+1]? = some (.cells #[.bool false,.slice none 0 0,.int .i64 0] 106):=(hB5.block _ (by rw [HWs.out];omega)).trans HH
  have hbw:Below w.heap.size w w3:=below3 (by rw [←HWs.out,←HW.out];exact hB5)
  have hne:=row_ne r3 hBl (by decide)
  have G3:=Lib.hid (And.intro r3 (And.intro w3' (And.intro t3 (And.intro m3 hne))))
  have Hbw:=Lib.hid hbw
  have Q2:=RowKit.Below.cells hB5 A2
  have Q3:=RowKit.Below.cells hB5 A3
  clear r3 w3' t3 m3 hne hBl hbw hB4 hB3 hB5 F0 F1 F2 F3
  have f0:=R0'.1;have f1:=R1'.1;have f2:=R2'.1;have z0:=R0'.2;have z1:=R1'.2;have z2:=R2'.2
  by_cases hl:l3.length=0
  ·have hl':=Lib.hid hl
   have hl0 : ¬(0:Int)<(l3.length:Int):=by omega
   have hd0:decide (0<l3.length)=false:=decide_eq_false (by omega)
   clear hl
   dsimp only
   go_wp2
   first|(have bs:=big_stored R0' R1' R2' (.bool false) (.slice p3 l3.length c3) (.int .i64 ea);refine bodyPost_ret (v := .agg #[.bool false,.slice p3 l3.length c3,.int .i64 ea]) (by simp [results,Tryz.results108,go_sem,bs]) rfl ?_;exact ⟨⟨false,_,l3,rfl,row_stored3 G3.out.1 G3.out.2.2.2.2 _ _ _,G3.out.2.1,G3.out.2.2.1,by have hm:=G3.out.2.2.2.1;have h1:=G1.out.2.2.2;have h2:=G2.out.2.2.2;have hN:=HN.out;have hz:num l3=0:=(by rw [List.length_eq_zero_iff.1 hl'.out];rfl);generalize 2^0*num a=x0 at h1 h2 hN;generalize 2^n*num b=y0 at h1 h2 hN;clear G1 G2 G3 HN Hbw;simp at hN ⊢;omega⟩,below_stored3 Hbw.out (by omega) _ _ _⟩)|(have bs:=big_stored R0' R1' R2' (.bool true) (.slice p3 l3.length c3) (.int .i64 ea);refine bodyPost_ret (v := .agg #[.bool true,.slice p3 l3.length c3,.int .i64 ea]) (by simp [results,Tryz.results108,go_sem,bs]) rfl ?_;exact ⟨⟨true,_,l3,rfl,row_stored3 G3.out.1 G3.out.2.2.2.2 _ _ _,G3.out.2.1,G3.out.2.2.1,by have hm:=G3.out.2.2.2.1;have h1:=G1.out.2.2.2;have h2:=G2.out.2.2.2;have hN:=HN.out;have hz:num l3=0:=(by rw [List.length_eq_zero_iff.1 hl'.out];rfl);generalize 2^0*num a=x0 at h1 h2 hN;generalize 2^n*num b=y0 at h1 h2 hN;clear G1 G2 G3 HN Hbw;simp at hN ⊢;omega⟩,below_stored3 Hbw.out (by omega) _ _ _⟩)
  ·have hl0:(0:Int)<(l3.length:Int):=by omega
   have hd0:decide (0<l3.length)=true:=decide_eq_true (by omega)
   dsimp only
   go_wp2
   first|(have bs:=big_stored R0' R1' R2' (.bool false) (.slice p3 l3.length c3) (.int .i64 ea);refine bodyPost_ret (v := .agg #[.bool false,.slice p3 l3.length c3,.int .i64 ea]) (by simp [results,Tryz.results108,go_sem,bs]) rfl ?_;exact ⟨⟨false,_,l3,rfl,row_stored3 G3.out.1 G3.out.2.2.2.2 _ _ _,G3.out.2.1,G3.out.2.2.1,by have hm:=G3.out.2.2.2.1;have h1:=G1.out.2.2.2;have h2:=G2.out.2.2.2;have hN:=HN.out;generalize 2^0*num a=x0 at h1 h2 hN;generalize 2^n*num b=y0 at h1 h2 hN;clear G1 G2 G3 HN Hbw;simp at hN ⊢;omega⟩,below_stored3 Hbw.out (by omega) _ _ _⟩)|(have bs:=big_stored R0' R1' R2' (.bool true) (.slice p3 l3.length c3) (.int .i64 ea);refine bodyPost_ret (v := .agg #[.bool true,.slice p3 l3.length c3,.int .i64 ea]) (by simp [results,Tryz.results108,go_sem,bs]) rfl ?_;exact ⟨⟨true,_,l3,rfl,row_stored3 G3.out.1 G3.out.2.2.2.2 _ _ _,G3.out.2.1,G3.out.2.2.1,by have hm:=G3.out.2.2.2.1;have h1:=G1.out.2.2.2;have h2:=G2.out.2.2.2;have hN:=HN.out;generalize 2^0*num a=x0 at h1 h2 hN;generalize 2^n*num b=y0 at h1 h2 hN;clear G1 G2 G3 HN Hbw;simp at hN ⊢;omega⟩,below_stored3 Hbw.out (by omega) _ _ _⟩)
set_option maxRecDepth 8000 in
set_option maxHeartbeats 4000000 in
theorem plus_ge_less (s:Bool) (ea eb:Int) (he1 : -10000≤ea∧ea≤10000) (he2 : -10000≤eb∧eb≤10000) (hord : ¬eb<ea) (n:Nat) (hn:(n:Int)=eb-ea) (va vb:Value) (a b:List Nat) (wa:Words a) (wb:Words b) (ha:a.length≤1000) (hb:b.length≤1000)
  (hx:2^0*num a<BB^1000) (hy:2^n*num b<BB^1000) (hk:2^0*num a<2^n*num b) (N:Int) (hN:N=(if s=true then -((2^0*num a:Nat):Int) else ((2^0*num a:Nat):Int))+(if (!s)=true then -((2^n*num b:Nat):Int) else ((2^n*num b:Nat):Int))) (w:World) (hr:Row w va a) (hs:Row w vb b) :
  Calls Tryz.prog 108 #[.agg #[.bool s,va,.int .i64 ea],.agg #[.bool (!s),vb,.int .i64 eb]] w fun e w'=>GivesBig w' e N ea∧Below w.heap.size w w':=by
 obtain ⟨W,hW⟩ : ∃ W,W=(World.alloc (World.alloc (World.alloc w (.cells #[.bool s,va,.int .i64 ea] 106)) (.cells #[.bool (!s),vb,.int .i64 eb] 106)) (.cells #[.bool false,(.slice none 0 0),.int .i64 0] 106)):=⟨_,rfl⟩
 have hWs:W.heap.size=w.heap.size+3:=by rw [hW];simp
 have A0:W.cell? ⟨w.heap.size,1,none⟩=some va:=by rw [hW];simp [go_sem]
 have A1:W.cell? ⟨w.heap.size+1,1,none⟩=some vb:=by rw [hW];simp [go_sem]
 have A2:W.cell? ⟨w.heap.size,0,none⟩=some (.bool s):=by rw [hW];simp [go_sem]
 have A3:W.cell? ⟨w.heap.size+1,0,none⟩=some (.bool (!s)):=by rw [hW];simp [go_sem]
 have A4:W.cell? ⟨w.heap.size,2,none⟩=some (.int .i64 ea):=by rw [hW];simp [go_sem]
 have A5:W.cell? ⟨w.heap.size+1,2,none⟩=some (.int .i64 eb):=by rw [hW];simp [go_sem]
 have R0:At W (w.heap.size+1+1) 0 (.bool false):=by rw [hW];exact ⟨by simp [go_sem],by simp [go_sem]⟩
 have R1:At W (w.heap.size+1+1) 1 (.slice none 0 0):=by rw [hW];exact ⟨by simp [go_sem],by simp [go_sem]⟩
 have R2:At W (w.heap.size+1+1) 2 (.int .i64 0):=by rw [hW];exact ⟨by simp [go_sem],by simp [go_sem]⟩
 have HH:W.heap[w.heap.size+1+1]? = some (.cells #[.bool false,.slice none 0 0,.int .i64 0] 106):=by rw [hW];exact heap_last3 _ _ _ _
 have hra:Row W va a:=by rw [hW];exact ((hr.alloc _).alloc _).alloc _
 have hrb:Row W vb b:=by rw [hW];exact ((hs.alloc _).alloc _).alloc _
 have S1 : ∀ w,Row w va a→Calls Tryz.prog 132 #[va,.int .i64 0] w fun e w'=>Gives w' e (2^0*num a)∧Below w.heap.size w w':=fun w h=>by
  have:=shift_any va a 0 wa ha (by omega) w h
  rw [Int.natCast_zero] at this
  exact this
 have S2 : ∀ w,Row w vb b→Calls Tryz.prog 132 #[vb,.int .i64 (eb-ea)] w fun e w'=>Gives w' e (2^n*num b)∧Below w.heap.size w w':=fun w h=>by
  have:=shift_any vb b n wb hb (by omega) w h
  rw [hn] at this
  exact this
 have HS1:=Lib.hid S1
 have HS2:=Lib.hid S2
 have HWs:=Lib.hid hWs
 have Hx:=Lib.hid hx
 have Hy:=Lib.hid hy
 have HN:=Lib.hid hN
 clear hN
 have Hk:=Lib.hid hk
 clear hk
 have HW:=Lib.hid hW
 clear S1 S2 hWs hx hy hn
 go_enter Tryz.func108,Tryz.ntmps108
 go_wp2_with fail
 rw [←HW.out]
 refine (HS1.out _ hra).mono ?_
 rintro e w1 ⟨⟨v1,l1,rfl,r1,w1',t1,m1⟩,hB1⟩
 have F0:=RowKit.Below.cells hB1 A0
 have F1:=RowKit.Below.cells hB1 A1
 have F2:=RowKit.Below.cells hB1 A2
 have F3:=RowKit.Below.cells hB1 A3
 have F4:=RowKit.Below.cells hB1 A4
 have F5:=RowKit.Below.cells hB1 A5
 have Hhid:=Lib.hid (And.intro r1 (And.intro w1' (And.intro t1 m1)))
 clear r1 w1' t1 m1
 dsimp only
 go_wp2_with fail
 refine (HS2.out _ (hrb.below hB1)).mono ?_
 rintro e w2 ⟨⟨v2,l2,rfl,r2,w2',t2,m2⟩,hB2⟩
 have G1:=Lib.hid (And.intro (Hhid.out.1.below hB2) Hhid.out.2)
 have G2:=Lib.hid (And.intro r2 (And.intro w2' (And.intro t2 m2)))
 have hB3:=below_step hB1 hB1.size hB2
 clear r2 w2' t2 m2 F0 F1 F2 F3 F4 F5 hB1 hB2 Hhid
 have F0:=RowKit.Below.cells hB3 A0
 have F1:=RowKit.Below.cells hB3 A1
 have F2:=RowKit.Below.cells hB3 A2
 have F3:=RowKit.Below.cells hB3 A3
 have F4:=RowKit.Below.cells hB3 A4
 have F5:=RowKit.Below.cells hB3 A5
 cases s
 all_goals
  go_wp2_with fail
  refine (less_any v1 v2 l1 l2 G1.out.2.1 G2.out.2.1 G1.out.2.2.1 G2.out.2.2.1 _ G1.out.1 G2.out.1).mono ?_
  rintro e w4 ⟨rfl,hB4⟩
  have hd:decide (num l1<num l2)=true:=by rw [G1.out.2.2.2,G2.out.2.2.2];exact decide_eq_true Hk.out
  rw [hd]
  have K1:=Lib.hid (And.intro (G1.out.1.below hB4) G1.out.2)
  have K2:=Lib.hid (And.intro (G2.out.1.below hB4) G2.out.2)
  have hB5:=below_step hB3 hB3.size hB4
  clear hd hB3 hB4 F0 F1 F2 F3 F4 F5 G1 G2
  have hB3:=hB5
  clear hB5
  have F0:=RowKit.Below.cells hB3 A0
  have F1:=RowKit.Below.cells hB3 A1
  have F2:=RowKit.Below.cells hB3 A2
  have F3:=RowKit.Below.cells hB3 A3
  have G1:=K1
  have G2:=K2
  clear K1 K2
  dsimp only
  go_wp2_with fail
  refine (minus_any v2 v1 l2 l1 G2.out.2.1 G1.out.2.1 (Nat.le_trans (len_of G2.out.2.2.1 (by rw [G2.out.2.2.2];exact Hy.out)) (by decide)) (len_le_of G1.out.2.2.1 G2.out.2.1 (by rw [G1.out.2.2.2,G2.out.2.2.2];exact Nat.le_of_lt Hk.out)) (by rw [G1.out.2.2.2,G2.out.2.2.2];exact Nat.le_of_lt Hk.out) _ G2.out.1 G1.out.1).mono ?_
  rintro e w3 ⟨⟨v3,l3,rfl,r3,w3',t3,m3⟩,hB4⟩
  obtain ⟨p3,c3,rfl,_⟩:=r3.len
  have hB5:=below_step hB3 hB3.size hB4
  have R0':=At.below R0 hB5
  have R1':=At.below R1 hB5
  have R2':=At.below R2 hB5
  have hBl:w3.heap[w.heap.size+1+1]? = some (.cells #[.bool false,.slice none 0 0,.int .i64 0] 106):=(hB5.block _ (by rw [HWs.out];omega)).trans HH
  have hbw:Below w.heap.size w w3:=below3 (by rw [←HWs.out,←HW.out];exact hB5)
  have hne:=row_ne r3 hBl (by decide)
  have G3:=Lib.hid (And.intro r3 (And.intro w3' (And.intro t3 (And.intro m3 hne))))
  have Hbw:=Lib.hid hbw
  have Q2:=RowKit.Below.cells hB5 A2
  have Q3:=RowKit.Below.cells hB5 A3
  clear r3 w3' t3 m3 hne hBl hbw hB4 hB3 hB5 F0 F1 F2 F3
  have f0:=R0'.1;have f1:=R1'.1;have f2:=R2'.1;have z0:=R0'.2;have z1:=R1'.2;have z2:=R2'.2
  by_cases hl:l3.length=0
  ·have hl':=Lib.hid hl
   have hl0 : ¬(0:Int)<(l3.length:Int):=by omega
   have hd0:decide (0<l3.length)=false:=decide_eq_false (by omega)
   clear hl
   exfalso
   have hm:=G3.out.2.2.2.1
   have hk:=Hk.out
   have hz:num l3=0:=by rw [List.length_eq_zero_iff.1 hl'.out];rfl
   rw [G1.out.2.2.2,G2.out.2.2.2,hz] at hm
   omega
  ·have hl0:(0:Int)<(l3.length:Int):=by omega
   have hd0:decide (0<l3.length)=true:=decide_eq_true (by omega)
   dsimp only
   go_wp2
   first|(have bs:=big_stored R0' R1' R2' (.bool false) (.slice p3 l3.length c3) (.int .i64 ea);refine bodyPost_ret (v := .agg #[.bool false,.slice p3 l3.length c3,.int .i64 ea]) (by simp [results,Tryz.results108,go_sem,bs]) rfl ?_;exact ⟨⟨false,_,l3,rfl,row_stored3 G3.out.1 G3.out.2.2.2.2 _ _ _,G3.out.2.1,G3.out.2.2.1,by have hm:=G3.out.2.2.2.1;have h1:=G1.out.2.2.2;have h2:=G2.out.2.2.2;have hN:=HN.out;have hk:=Hk.out;generalize 2^0*num a=x0 at h1 h2 hN hk;generalize 2^n*num b=y0 at h1 h2 hN hk;clear G1 G2 G3 HN Hbw;simp at hN ⊢;omega⟩,below_stored3 Hbw.out (by omega) _ _ _⟩)|(have bs:=big_stored R0' R1' R2' (.bool true) (.slice p3 l3.length c3) (.int .i64 ea);refine bodyPost_ret (v := .agg #[.bool true,.slice p3 l3.length c3,.int .i64 ea]) (by simp [results,Tryz.results108,go_sem,bs]) rfl ?_;exact ⟨⟨true,_,l3,rfl,row_stored3 G3.out.1 G3.out.2.2.2.2 _ _ _,G3.out.2.1,G3.out.2.2.1,by have hm:=G3.out.2.2.2.1;have h1:=G1.out.2.2.2;have h2:=G2.out.2.2.2;have hN:=HN.out;have hk:=Hk.out;generalize 2^0*num a=x0 at h1 h2 hN hk;generalize 2^n*num b=y0 at h1 h2 hN hk;clear G1 G2 G3 HN Hbw;simp at hN ⊢;omega⟩,below_stored3 Hbw.out (by omega) _ _ _⟩)
set_option maxRecDepth 8000 in
set_option maxHeartbeats 4000000 in
theorem plus_ge_more (s:Bool) (ea eb:Int) (he1 : -10000≤ea∧ea≤10000) (he2 : -10000≤eb∧eb≤10000) (hord : ¬eb<ea) (n:Nat) (hn:(n:Int)=eb-ea) (va vb:Value) (a b:List Nat) (wa:Words a) (wb:Words b) (ha:a.length≤1000) (hb:b.length≤1000)
  (hx:2^0*num a<BB^1000) (hy:2^n*num b<BB^1000) (hk : ¬2^0*num a<2^n*num b) (N:Int) (hN:N=(if s=true then -((2^0*num a:Nat):Int) else ((2^0*num a:Nat):Int))+(if (!s)=true then -((2^n*num b:Nat):Int) else ((2^n*num b:Nat):Int))) (w:World) (hr:Row w va a) (hs:Row w vb b) :
  Calls Tryz.prog 108 #[.agg #[.bool s,va,.int .i64 ea],.agg #[.bool (!s),vb,.int .i64 eb]] w fun e w'=>GivesBig w' e N ea∧Below w.heap.size w w':=by
 obtain ⟨W,hW⟩ : ∃ W,W=(World.alloc (World.alloc (World.alloc w (.cells #[.bool s,va,.int .i64 ea] 106)) (.cells #[.bool (!s),vb,.int .i64 eb] 106)) (.cells #[.bool false,(.slice none 0 0),.int .i64 0] 106)):=⟨_,rfl⟩
 have hWs:W.heap.size=w.heap.size+3:=by rw [hW];simp
 have A0:W.cell? ⟨w.heap.size,1,none⟩=some va:=by rw [hW];simp [go_sem]
 have A1:W.cell? ⟨w.heap.size+1,1,none⟩=some vb:=by rw [hW];simp [go_sem]
 have A2:W.cell? ⟨w.heap.size,0,none⟩=some (.bool s):=by rw [hW];simp [go_sem]
 have A3:W.cell? ⟨w.heap.size+1,0,none⟩=some (.bool (!s)):=by rw [hW];simp [go_sem]
 have A4:W.cell? ⟨w.heap.size,2,none⟩=some (.int .i64 ea):=by rw [hW];simp [go_sem]
 have A5:W.cell? ⟨w.heap.size+1,2,none⟩=some (.int .i64 eb):=by rw [hW];simp [go_sem]
 have R0:At W (w.heap.size+1+1) 0 (.bool false):=by rw [hW];exact ⟨by simp [go_sem],by simp [go_sem]⟩
 have R1:At W (w.heap.size+1+1) 1 (.slice none 0 0):=by rw [hW];exact ⟨by simp [go_sem],by simp [go_sem]⟩
 have R2:At W (w.heap.size+1+1) 2 (.int .i64 0):=by rw [hW];exact ⟨by simp [go_sem],by simp [go_sem]⟩
 have HH:W.heap[w.heap.size+1+1]? = some (.cells #[.bool false,.slice none 0 0,.int .i64 0] 106):=by rw [hW];exact heap_last3 _ _ _ _
 have hra:Row W va a:=by rw [hW];exact ((hr.alloc _).alloc _).alloc _
 have hrb:Row W vb b:=by rw [hW];exact ((hs.alloc _).alloc _).alloc _
 have S1 : ∀ w,Row w va a→Calls Tryz.prog 132 #[va,.int .i64 0] w fun e w'=>Gives w' e (2^0*num a)∧Below w.heap.size w w':=fun w h=>by
  have:=shift_any va a 0 wa ha (by omega) w h
  rw [Int.natCast_zero] at this
  exact this
 have S2 : ∀ w,Row w vb b→Calls Tryz.prog 132 #[vb,.int .i64 (eb-ea)] w fun e w'=>Gives w' e (2^n*num b)∧Below w.heap.size w w':=fun w h=>by
  have:=shift_any vb b n wb hb (by omega) w h
  rw [hn] at this
  exact this
 have HS1:=Lib.hid S1
 have HS2:=Lib.hid S2
 have HWs:=Lib.hid hWs
 have Hx:=Lib.hid hx
 have Hy:=Lib.hid hy
 have HN:=Lib.hid hN
 clear hN
 have Hk:=Lib.hid hk
 clear hk
 have HW:=Lib.hid hW
 clear S1 S2 hWs hx hy hn
 go_enter Tryz.func108,Tryz.ntmps108
 go_wp2_with fail
 rw [←HW.out]
 refine (HS1.out _ hra).mono ?_
 rintro e w1 ⟨⟨v1,l1,rfl,r1,w1',t1,m1⟩,hB1⟩
 have F0:=RowKit.Below.cells hB1 A0
 have F1:=RowKit.Below.cells hB1 A1
 have F2:=RowKit.Below.cells hB1 A2
 have F3:=RowKit.Below.cells hB1 A3
 have F4:=RowKit.Below.cells hB1 A4
 have F5:=RowKit.Below.cells hB1 A5
 have Hhid:=Lib.hid (And.intro r1 (And.intro w1' (And.intro t1 m1)))
 clear r1 w1' t1 m1
 dsimp only
 go_wp2_with fail
 refine (HS2.out _ (hrb.below hB1)).mono ?_
 rintro e w2 ⟨⟨v2,l2,rfl,r2,w2',t2,m2⟩,hB2⟩
 have G1:=Lib.hid (And.intro (Hhid.out.1.below hB2) Hhid.out.2)
 have G2:=Lib.hid (And.intro r2 (And.intro w2' (And.intro t2 m2)))
 have hB3:=below_step hB1 hB1.size hB2
 clear r2 w2' t2 m2 F0 F1 F2 F3 F4 F5 hB1 hB2 Hhid
 have F0:=RowKit.Below.cells hB3 A0
 have F1:=RowKit.Below.cells hB3 A1
 have F2:=RowKit.Below.cells hB3 A2
 have F3:=RowKit.Below.cells hB3 A3
 have F4:=RowKit.Below.cells hB3 A4
 have F5:=RowKit.Below.cells hB3 A5
 cases s
 all_goals
  go_wp2_with fail
  refine (less_any v1 v2 l1 l2 G1.out.2.1 G2.out.2.1 G1.out.2.2.1 G2.out.2.2.1 _ G1.out.1 G2.out.1).mono ?_
  rintro e w4 ⟨rfl,hB4⟩
  have hd:decide (num l1<num l2)=false:=by rw [G1.out.2.2.2,G2.out.2.2.2];exact decide_eq_false Hk.out
  rw [hd]
  have K1:=Lib.hid (And.intro (G1.out.1.below hB4) G1.out.2)
  have K2:=Lib.hid (And.intro (G2.out.1.below hB4) G2.out.2)
  have hB5:=below_step hB3 hB3.size hB4
  clear hd hB3 hB4 F0 F1 F2 F3 F4 F5 G1 G2
  have hB3:=hB5
  clear hB5
  have F0:=RowKit.Below.cells hB3 A0
  have F1:=RowKit.Below.cells hB3 A1
  have F2:=RowKit.Below.cells hB3 A2
  have F3:=RowKit.Below.cells hB3 A3
  have G1:=K1
  have G2:=K2
  clear K1 K2
  dsimp only
  go_wp2_with fail
  refine (minus_any v1 v2 l1 l2 G1.out.2.1 G2.out.2.1 (Nat.le_trans (len_of G1.out.2.2.1 (by rw [G1.out.2.2.2];exact Hx.out)) (by decide)) (len_le_of G2.out.2.2.1 G1.out.2.1 (by rw [G1.out.2.2.2,G2.out.2.2.2];exact Nat.le_of_not_lt Hk.out)) (by rw [G1.out.2.2.2,G2.out.2.2.2];exact Nat.le_of_not_lt Hk.out) _ G1.out.1 G2.out.1).mono ?_
  rintro e w3 ⟨⟨v3,l3,rfl,r3,w3',t3,m3⟩,hB4⟩
  obtain ⟨p3,c3,rfl,_⟩:=r3.len
  have hB5:=below_step hB3 hB3.size hB4
  have R0':=At.below R0 hB5
  have R1':=At.below R1 hB5
  have R2':=At.below R2 hB5
  have hBl:w3.heap[w.heap.size+1+1]? = some (.cells #[.bool false,.slice none 0 0,.int .i64 0] 106):=(hB5.block _ (by rw [HWs.out];omega)).trans HH
  have hbw:Below w.heap.size w w3:=below3 (by rw [←HWs.out,←HW.out];exact hB5)
  have hne:=row_ne r3 hBl (by decide)
  have G3:=Lib.hid (And.intro r3 (And.intro w3' (And.intro t3 (And.intro m3 hne))))
  have Hbw:=Lib.hid hbw
  have Q2:=RowKit.Below.cells hB5 A2
  have Q3:=RowKit.Below.cells hB5 A3
  clear r3 w3' t3 m3 hne hBl hbw hB4 hB3 hB5 F0 F1 F2 F3
  have f0:=R0'.1;have f1:=R1'.1;have f2:=R2'.1;have z0:=R0'.2;have z1:=R1'.2;have z2:=R2'.2
  by_cases hl:l3.length=0
  ·have hl':=Lib.hid hl
   have hl0 : ¬(0:Int)<(l3.length:Int):=by omega
   have hd0:decide (0<l3.length)=false:=decide_eq_false (by omega)
   clear hl
   dsimp only
   go_wp2
   first|(have bs:=big_stored R0' R1' R2' (.bool false) (.slice p3 l3.length c3) (.int .i64 ea);refine bodyPost_ret (v := .agg #[.bool false,.slice p3 l3.length c3,.int .i64 ea]) (by simp [results,Tryz.results108,go_sem,bs]) rfl ?_;exact ⟨⟨false,_,l3,rfl,row_stored3 G3.out.1 G3.out.2.2.2.2 _ _ _,G3.out.2.1,G3.out.2.2.1,by have hm:=G3.out.2.2.2.1;have h1:=G1.out.2.2.2;have h2:=G2.out.2.2.2;have hN:=HN.out;have hk:=Hk.out;have hz:num l3=0:=(by rw [List.length_eq_zero_iff.1 hl'.out];rfl);generalize 2^0*num a=x0 at h1 h2 hN hk;generalize 2^n*num b=y0 at h1 h2 hN hk;clear G1 G2 G3 HN Hbw;simp at hN ⊢;omega⟩,below_stored3 Hbw.out (by omega) _ _ _⟩)|(have bs:=big_stored R0' R1' R2' (.bool true) (.slice p3 l3.length c3) (.int .i64 ea);refine bodyPost_ret (v := .agg #[.bool true,.slice p3 l3.length c3,.int .i64 ea]) (by simp [results,Tryz.results108,go_sem,bs]) rfl ?_;exact ⟨⟨true,_,l3,rfl,row_stored3 G3.out.1 G3.out.2.2.2.2 _ _ _,G3.out.2.1,G3.out.2.2.1,by have hm:=G3.out.2.2.2.1;have h1:=G1.out.2.2.2;have h2:=G2.out.2.2.2;have hN:=HN.out;have hk:=Hk.out;have hz:num l3=0:=(by rw [List.length_eq_zero_iff.1 hl'.out];rfl);generalize 2^0*num a=x0 at h1 h2 hN hk;generalize 2^n*num b=y0 at h1 h2 hN hk;clear G1 G2 G3 HN Hbw;simp at hN ⊢;omega⟩,below_stored3 Hbw.out (by omega) _ _ _⟩)
  ·have hl0:(0:Int)<(l3.length:Int):=by omega
   have hd0:decide (0<l3.length)=true:=decide_eq_true (by omega)
   dsimp only
   go_wp2
   first|(have bs:=big_stored R0' R1' R2' (.bool false) (.slice p3 l3.length c3) (.int .i64 ea);refine bodyPost_ret (v := .agg #[.bool false,.slice p3 l3.length c3,.int .i64 ea]) (by simp [results,Tryz.results108,go_sem,bs]) rfl ?_;exact ⟨⟨false,_,l3,rfl,row_stored3 G3.out.1 G3.out.2.2.2.2 _ _ _,G3.out.2.1,G3.out.2.2.1,by have hm:=G3.out.2.2.2.1;have h1:=G1.out.2.2.2;have h2:=G2.out.2.2.2;have hN:=HN.out;have hk:=Hk.out;generalize 2^0*num a=x0 at h1 h2 hN hk;generalize 2^n*num b=y0 at h1 h2 hN hk;clear G1 G2 G3 HN Hbw;simp at hN ⊢;omega⟩,below_stored3 Hbw.out (by omega) _ _ _⟩)|(have bs:=big_stored R0' R1' R2' (.bool true) (.slice p3 l3.length c3) (.int .i64 ea);refine bodyPost_ret (v := .agg #[.bool true,.slice p3 l3.length c3,.int .i64 ea]) (by simp [results,Tryz.results108,go_sem,bs]) rfl ?_;exact ⟨⟨true,_,l3,rfl,row_stored3 G3.out.1 G3.out.2.2.2.2 _ _ _,G3.out.2.1,G3.out.2.2.1,by have hm:=G3.out.2.2.2.1;have h1:=G1.out.2.2.2;have h2:=G2.out.2.2.2;have hN:=HN.out;have hk:=Hk.out;generalize 2^0*num a=x0 at h1 h2 hN hk;generalize 2^n*num b=y0 at h1 h2 hN hk;clear G1 G2 G3 HN Hbw;simp at hN ⊢;omega⟩,below_stored3 Hbw.out (by omega) _ _ _⟩)
end Go.Proofs.YteephgpefhodnaaGreat
namespace Go.Proofs.YteephgpefhodnaaGreat
open Go.RowKit Go.Sort Go.Fl
set_option linter.unusedSimpArgs false
set_option linter.unusedVariables false
def sg (s:Bool) (n:Nat):Int:=if s=true then -(n:Int) else (n:Int)
def BigAt (w:World) (val:Value) (p:Nat) (N E:Int):Prop := ∃ s v l,val = .agg #[.bool s,v,.int .i64 E]∧Row w v l∧Words l∧Trim l∧num l<2^p∧N=sg s (num l)
theorem BigAt.below {w w':World} {val:Value} {p:Nat} {N E:Int} (h:BigAt w val p N E) (hb:Below w.heap.size w w'):BigAt w' val p N E:=by
 obtain ⟨s,v,l,h1,h2,h3⟩:=h
 exact ⟨s,v,l,h1,h2.below hb,h3⟩
theorem sg_abs (s:Bool) (n:Nat):(sg s n).natAbs=n:=by unfold sg;cases s<;>simp
theorem BigAt.of {w:World} {e:Ending} {N E:Int} (h:GivesBig w e N E) (p:Nat) (hp:N.natAbs<2^p) : ∃ val,e = .returned val∧BigAt w val p N E:=by
 obtain ⟨s,v,l,rfl,h2,h3,h4,h5⟩:=h
 refine ⟨_,rfl,s,v,l,rfl,h2,h3,h4,?_,h5⟩
 have:N.natAbs=num l:=by rw [h5];exact sg_abs s (num l)
 omega
theorem pow_len {l:List Nat} {p n:Nat} (ht:Trim l) (h:num l<2^p) (hn:p≤32*n):l.length≤n:=by
 refine len_of ht (Nat.lt_of_lt_of_le h ?_)
 have e:BB^n=2^(32*n):=by rw [Nat.pow_mul];rfl
 rw [e]
 exact Nat.pow_le_pow_right (by decide) hn
theorem bigof_any (x:Nat) (hx:fin x) (hw:Wd x) (w:World):Calls Tryz.prog 106 #[.float .f64 x] w fun e w'=>(∃ val N E,e = .returned val∧BigAt w' val 53 N E ∧ -1074≤E∧E≤971∧N*2^(E+1074).toNat=V (key x))∧Below w.heap.size w w':=by
 have hf:=u64_frac x hw
 have h2:=u64_field (x / 2^52) (by unfold Wd at hw;omega)
 have h2':bits BinOp.and IntKind.u64 ((x:Int) / 4503599627370496) 2047=((x / 2^52%2^11:Nat):Int):=by
  rw [←h2];congr 1
 clear h2
 have hs:((x:Int) / 9223372036854775808==1)=neg x:=by
  unfold neg
  unfold Wd at hw
  rw [Bool.eq_iff_iff]
  simp only [beq_iff_eq]
  omega
 obtain ⟨h3,h4⟩:=word_parts x hw
 have hV:V (key x)=(if neg x=true then -1 else 1)*(M (rung x):Int):=key_of_neg
 have hM:=M_eq (rung x)
 have hfin:rung x<INF:=hx
 have hpl:plr (rung x)≤2045:=by
  unfold plr
  have h0:=INF_eq
  omega
 have hmg:mgr (rung x)<2^53:=by
  unfold mgr
  split<;>omega
 have fin_ : ∀ (E:Int),E=(plr (rung x):Int)-1074 → ∀ (e:Ending) (w':World),GivesBig w' e (if neg x=true then -(mgr (rung x):Int) else (mgr (rung x):Int)) E∧Below w.heap.size w w' →
   (∃ val N E,e = .returned val∧BigAt w' val 53 N E ∧ -1074≤E∧E≤971∧N*2^(E+1074).toNat=V (key x))∧Below w.heap.size w w':=by
  rintro E rfl e w' ⟨hg,hb⟩
  obtain ⟨val,e1,e2⟩:=BigAt.of hg 53 (by cases neg x<;>simp<;>exact hmg)
  refine ⟨⟨val,_,_,e1,e2,by omega,by omega,?_⟩,hb⟩
  rw [hV,hM,show ((plr (rung x):Int)-1074+1074).toNat=plr (rung x) by omega,Int.natCast_mul,Int.natCast_pow]
  cases neg x<;>simp [Int.neg_mul]
 by_cases h0:x / 2^52%2^11=0
 ·rw [if_pos h0] at h3 h4
  rw [h0,Int.natCast_zero] at h2'
  have c:=of_z x hw (neg x) hs (x%2^52) (-1074) hf h2' (by omega) rfl w
  refine c.mono fun e w' h=>fin_ (-1074) (by rw [h4];rfl) e w' ?_
  rw [h3];exact h
 ·rw [if_neg h0] at h3 h4
  have hlt:x / 2^52%2^11<2^11:=Nat.mod_lt _ (by omega)
  have c:=of_n x hw (neg x) hs (x%2^52) (x / 2^52%2^11) (2^52+x%2^52) _ hf h2' (u64_or52 (x%2^52) (Nat.mod_lt _ (by omega))) (by omega) (by omega) (by omega) rfl w
  refine c.mono fun e w' h=>fin_ (((x / 2^52%2^11:Nat):Int)-1075) (by rw [h4];omega) e w' ?_
  rw [h3];exact h
theorem bigtimes_any (va vb:Value) (Na Nb ea eb:Int) (he1 : -10000≤ea∧ea≤10000) (he2 : -10000≤eb∧eb≤10000) (w:World) (ha:BigAt w va 53 Na ea) (hb:BigAt w vb 53 Nb eb) :
  Calls Tryz.prog 107 #[va,vb] w fun e w'=>(∃ val,e = .returned val∧BigAt w' val 106 (Na*Nb) (ea+eb))∧Below w.heap.size w w':=by
 obtain ⟨sa,v,a,rfl,r1,r2,r3,r4,rfl⟩:=ha
 obtain ⟨sb,u,b,rfl,s1,s2,s3,s4,rfl⟩:=hb
 refine (times_any sa sb ea eb he1 he2 v u a b r2 s2 (pow_len r3 r4 (by omega)) (pow_len s3 s4 (by omega)) w r1 s1).mono fun e w' h=>⟨?_,h.2⟩
 refine BigAt.of h.1 106 ?_
 rw [Int.natAbs_mul,show (if sa=true then -(num a:Int) else (num a:Int))=sg sa (num a) from rfl,show (if sb=true then -(num b:Int) else (num b:Int))=sg sb (num b) from rfl,sg_abs,sg_abs]
 have:num a*num b<2^53*2^53:=Nat.mul_lt_mul'' r4 s4
 omega
theorem bigsign_any (va:Value) (p:Nat) (N E:Int) (w:World) (ha:BigAt w va p N E) :
  Calls Tryz.prog 109 #[va] w fun e w'=>e = .returned (.int .i64 N.sign)∧Below w.heap.size w w':=by
 obtain ⟨s,v,l,rfl,r1,r2,r3,r4,rfl⟩:=ha
 obtain ⟨p',c,rfl,_⟩:=r1.len
 by_cases h0:l.length=0
 ·have hN:(sg s (num l)).sign=0:=by
   rw [List.length_eq_zero_iff.1 h0];cases s<;>rfl
  rw [hN,h0]
  go_enter Tryz.func109,Tryz.ntmps109
  go_wp2_with fail
  go_ret
  exact ⟨rfl,by go_grown⟩
 ·have hpos:0<num l:=Nat.pos_of_ne_zero (fun e=>h0 (by rw [(num_pos r3).1 e];rfl))
  have hb:((l.length:Int)==0)=false:=by rw [beq_eq_false_iff_ne];omega
  have hN:(sg s (num l)).sign=if s=true then -1 else 1:=by
   cases s
   ·exact Int.sign_eq_one_of_pos (by simp [sg];exact hpos)
   ·exact Int.sign_eq_neg_one_of_neg (by simp [sg];exact hpos)
  rw [hN]
  generalize l.length=n at *
  clear hN r1 r2 r3 r4 hpos
  cases s
  all_goals
   go_enter Tryz.func109,Tryz.ntmps109
   go_wp2_with fail
   go_ret
   exact ⟨rfl,by go_grown⟩
theorem bigminus_any (va:Value) (p:Nat) (N E:Int) (w:World) (ha:BigAt w va p N E) :
  Calls Tryz.prog 110 #[va] w fun e w'=>(∃ val,e = .returned val∧BigAt w' val p (-N) E)∧Below w.heap.size w w':=by
 obtain ⟨s,v,l,rfl,r1,r2,r3,r4,rfl⟩:=ha
 obtain ⟨p',c,rfl,_⟩:=r1.len
 have hrow : ∀ o1 o2,Row ((w.alloc o1).alloc o2) (.slice p' l.length c) l:=fun o1 o2=>(r1.alloc o1).alloc o2
 have G:=Lib.hid (And.intro hrow (And.intro r2 (And.intro r3 r4)))
 clear hrow r1 r2 r3 r4
 by_cases h0:l.length=0
 ·have hl:=List.length_eq_zero_iff.1 h0
  have Hl:=Lib.hid hl
  have hl0 : ¬(0:Int)<(l.length:Int):=by omega
  have hd0:decide (0<l.length)=false:=decide_eq_false (by omega)
  clear h0 hl
  cases s
  all_goals
   go_enter Tryz.func110,Tryz.ntmps110
   go_wp2_with fail
   go_returns
   refine ⟨⟨_,rfl,false,_,l,rfl,G.out.1 _ _,G.out.2.1,G.out.2.2.1,G.out.2.2.2,?_⟩,by go_grown⟩
   rw [Hl.out]
   rfl
 ·have hl0:(0:Int)<(l.length:Int):=by omega
  have hd0:decide (0<l.length)=true:=decide_eq_true (by omega)
  cases s
  ·go_enter Tryz.func110,Tryz.ntmps110
   go_wp2_with fail
   go_returns
   exact ⟨⟨_,rfl,true,_,l,rfl,G.out.1 _ _,G.out.2.1,G.out.2.2.1,G.out.2.2.2,rfl⟩,by go_grown⟩
  ·go_enter Tryz.func110,Tryz.ntmps110
   go_wp2_with fail
   go_returns
   exact ⟨⟨_,rfl,false,_,l,rfl,G.out.1 _ _,G.out.2.1,G.out.2.2.1,G.out.2.2.2,by simp [sg]⟩,by go_grown⟩
theorem bb_pow (n:Nat):BB^n=2^(32*n):=by rw [Nat.pow_mul];rfl
theorem bigplus_any (va vb:Value) (Na Nb ea eb:Int) (p q:Nat) (he1 : -10000≤ea∧ea≤10000) (he2 : -10000≤eb∧eb≤10000) (hq1:ea-eb≤q) (hq2:eb-ea≤q) (hpq:p+q≤30000) (w:World) (ha:BigAt w va p Na ea) (hb:BigAt w vb p Nb eb) :
  Calls Tryz.prog 108 #[va,vb] w fun e w'=>(∃ val N E,e = .returned val∧BigAt w' val (p+q+1) N E∧E=min ea eb ∧ ∀ U:Nat,0≤ea+U→0≤eb+U→N*2^(E+U).toNat=Na*2^(ea+U).toNat+Nb*2^(eb+U).toNat)∧Below w.heap.size w w':=by
 obtain ⟨sa,v,a,rfl,r1,r2,r3,r4,rfl⟩:=ha
 obtain ⟨sb,u,b,rfl,s1,s2,s3,s4,rfl⟩:=hb
 have la:a.length≤1000:=pow_len r3 r4 (by omega)
 have lb:b.length≤1000:=pow_len s3 s4 (by omega)
 have fin_ : ∀ (n1 n2:Nat) (E:Int),E=min ea eb→(n1:Int)=ea-E→(n2:Int)=eb-E→n1≤q→n2≤q →
   ∀ (e:Ending) (w':World),GivesBig w' e (sg sa (2^n1*num a)+sg sb (2^n2*num b)) E∧Below w.heap.size w w' →
   (∃ val N E,e = .returned val∧BigAt w' val (p+q+1) N E∧E=min ea eb ∧ ∀ U:Nat,0≤ea+U→0≤eb+U→N*2^(E+U).toNat=sg sa (num a)*2^(ea+U).toNat+sg sb (num b)*2^(eb+U).toNat)∧Below w.heap.size w w':=by
  rintro n1 n2 E hE h1 h2 h3 h4 e w' ⟨hg,hB⟩
  have x1:2^n1*num a<2^(p+q):=by
   rw [Nat.add_comm p q,Nat.pow_add]
   exact Nat.mul_lt_mul_of_le_of_lt (Nat.pow_le_pow_right (by decide) h3) r4 (Nat.two_pow_pos _)
  have x2:2^n2*num b<2^(p+q):=by
   rw [Nat.add_comm p q,Nat.pow_add]
   exact Nat.mul_lt_mul_of_le_of_lt (Nat.pow_le_pow_right (by decide) h4) s4 (Nat.two_pow_pos _)
  obtain ⟨val,e1,e2⟩:=BigAt.of hg (p+q+1) (by
   have a1:=sg_abs sa (2^n1*num a)
   have a2:=sg_abs sb (2^n2*num b)
   rw [Nat.pow_succ]
   generalize sg sa (2^n1*num a)=z1 at *
   generalize sg sb (2^n2*num b)=z2 at *
   omega)
  refine ⟨⟨val,_,E,e1,e2,hE,fun U u1 u2 => ?_⟩,hB⟩
  have p1:(ea+U).toNat=n1+(E+U).toNat:=by omega
  have p2:(eb+U).toNat=n2+(E+U).toNat:=by omega
  have sm : ∀ (s:Bool) (n m:Nat),sg s (2^n*m)=sg s m*2^n:=by
   intro s n m
   unfold sg
   cases s<;>simp [Int.mul_comm,Int.neg_mul]
  rw [p1,p2,Int.pow_add,Int.pow_add,sm,sm,Int.add_mul,Int.mul_assoc,Int.mul_assoc]
 have bnd0 : ∀ K n m:Nat,p+q≤32*K→n≤q→m<2^p→2^n*m<BB^K:=by
  intro K n m hK hn hm
  rw [bb_pow]
  have:2^n*m<2^q*2^p:=Nat.mul_lt_mul_of_le_of_lt (Nat.pow_le_pow_right (by decide) hn) hm (Nat.two_pow_pos _)
  rw [←Nat.pow_add] at this
  exact Nat.lt_of_lt_of_le this (Nat.pow_le_pow_right (by decide) (by omega))
 have bnd:=fun n m=>bnd0 1000 n m (by omega)
 by_cases hord:eb<ea
 ·obtain ⟨n,hn⟩ : ∃ n:Nat,(n:Int)=ea-eb:=⟨(ea-eb).toNat,by omega⟩
  have go:=fin_ n 0 eb (by omega) hn (by omega) (by omega) (by omega)
  by_cases hs:sb=sa
  ·subst hs
   exact (plus_lt_same sb ea eb he1 he2 hord n hn v u a b r2 s2 la lb (bnd n _ (by omega) r4) (bnd 0 _ (by omega) s4) _ rfl w r1 s1).mono go
  ·have hs':sb = !sa:=by cases sa<;>cases sb<;>simp_all
   subst hs'
   by_cases hk:2^n*num a<2^0*num b
   ·exact (plus_lt_less sa ea eb he1 he2 hord n hn v u a b r2 s2 la lb (bnd n _ (by omega) r4) (bnd 0 _ (by omega) s4) hk _ rfl w r1 s1).mono go
   ·exact (plus_lt_more sa ea eb he1 he2 hord n hn v u a b r2 s2 la lb (bnd n _ (by omega) r4) (bnd 0 _ (by omega) s4) hk _ rfl w r1 s1).mono go
 ·obtain ⟨n,hn⟩ : ∃ n:Nat,(n:Int)=eb-ea:=⟨(eb-ea).toNat,by omega⟩
  have go:=fin_ 0 n ea (by omega) (by omega) hn (by omega) (by omega)
  by_cases hs:sb=sa
  ·subst hs
   exact (plus_ge_same sb ea eb he1 he2 hord n hn v u a b r2 s2 la lb (bnd 0 _ (by omega) r4) (bnd n _ (by omega) s4) _ rfl w r1 s1).mono go
  ·have hs':sb = !sa:=by cases sa<;>cases sb<;>simp_all
   subst hs'
   by_cases hk:2^0*num a<2^n*num b
   ·exact (plus_ge_less sa ea eb he1 he2 hord n hn v u a b r2 s2 la lb (bnd 0 _ (by omega) r4) (bnd n _ (by omega) s4) hk _ rfl w r1 s1).mono go
   ·exact (plus_ge_more sa ea eb he1 he2 hord n hn v u a b r2 s2 la lb (bnd 0 _ (by omega) r4) (bnd n _ (by omega) s4) hk _ rfl w r1 s1).mono go
end Go.Proofs.YteephgpefhodnaaGreat
