/- The steps and the box of Evals: slices of three integers, turned into the program's own. -/
import Derived.Test.YteephgpefhodnaaGreatV2
import Derived.Deep.RegionHeld3
namespace Go.Proofs.YteephgpefhodnaaGreat
open Go.RowKit Go.Sort Go.Fl
set_option linter.unusedSimpArgs false
set_option linter.unusedVariables false
abbrev Raw:=Int × Int × Int
def zeroR:Raw:=(0,0,0)
def cR (k0 k1 k2:IntKind) (x:Raw):List Value:=[.int k0 x.1,.int k1 x.2.1,.int k2 x.2.2]
def toS (x:Raw):St:=(x.1,x.2.1,x.2.2.toNat)
def toD (x:Raw):De:=(x.1.toNat,x.2.1.toNat,x.2.2)
def Arg (c:Raw→List Value) (w:World) (v:Value) (l:List Raw):Prop :=
 ∃ a cap,v = .slice a l.length cap ∧ ∀ j,j<l.length → ∃ b off,a=some ⟨b,off,none⟩∧b<w.heap.size ∧ ∀ k,k<3→w.cell? ⟨b,off+j*3+k,none⟩=(c (l.getD j zeroR))[k]?
theorem Arg.grown {c:Raw→List Value} {w w':World} {v:Value} {l:List Raw} (h:Arg c w v l) (hb:Below w.heap.size w w'):Arg c w' v l:=by
 obtain ⟨a,cap,rfl,h⟩:=h
 refine ⟨a,cap,rfl,fun j hj => ?_⟩
 obtain ⟨b,off,e,hlt,h⟩:=h j hj
 exact ⟨b,off,e,Nat.lt_of_lt_of_le hlt hb.size,fun k hk=>(hb.cell (p:=⟨b,off+j*3+k,none⟩) hlt).trans (h k hk)⟩
theorem take_map_one {α β:Type} (g:α→β) (l:List α) (z:α) (k:Nat) (h:k<l.length):(l.take (k+1)).map g=(l.take k).map g++[g (l.getD k z)]:=by
 rw [List.take_add_one,List.getD_eq_getElem?_getD,List.getElem?_eq_getElem h,List.map_append];rfl
theorem raw_rel {α:Type} {f:α→List Value} {g:Raw→α} {T:TypeId} {w wz w3:World} {l:List Raw} {k:Nat} {x:Raw} {v v':Value} {o:Obj} (hx:x=l.getD k zeroR) (hlt:k<l.length)
  (hown:w3.ownsRow w.heap.size T 3 v' (((l.take k).map g).length+1) (((l.take k).map g).flatMap f++f (g x))) (hg:(wz.alloc o).drew.grownBy w3 v.ownBlock) (hB:Below w.heap.size w wz) (O:Own f T w.heap.size wz v ((l.take k).map g)) :
  Own f T w.heap.size w3 v' ((l.take (k+1)).map g)∧Below w.heap.size w w3:=by
 constructor
 ·rw [take_map_one g l zeroR k hlt,←hx]
  exact own_snoc hown
 ·exact (hB.alloc hB.size o).drew.grown hg (by simp only [World.size_drew,World.size_alloc];have:=hB.size;omega) (fun g e=>(O.lt g e).1)
theorem step_append3 {α:Type} {f:α→List Value} {P:Program} {ops:Array Oper} {o:Oper} {a:Act} {K:Act→World→Prop} {Q:Exit→Act→World→Prop} {E:Prop}
  (hg:o.guard=none) (s x:Operand) (t:TypeId) (hop:o.op=Op.call { callee:=Callee.builtin Builtin.append,args := #[s,x],argTypes := #[t,t] })
  (base:Nat) (e:TypeId) (i:TypeInfo) (z:Value) (h1:P.underlying t=some (.slice e)) (h2:P.info? e=some i) (h3:i.zero=some z) (h4:i.size=3) (h5:i.bytes=24) (h6:z.cells.size=3)
  (v:Value) (l:List α) (W:World) (hown:Own f e base W v l) (hs:a.eval s=v) (hx:a.eval x = .slice (some ⟨W.heap.size,0,none⟩) 1 1) (d:α) (x0 x1 x2:Value) (hd:f d=[x0,x1,x2]) (o0:x0.oneCell'=true) (o1:x1.oneCell'=true) (o2:x2.oneCell'=true)
  (hl:l.length≤65536) (hbase:base≤W.heap.size)
  (hK : ∀ v' w',w'.ownsRow base e 3 v' (l.length+1) (l.flatMap f++f d)→(W.alloc (.cells #[x0,x1,x2] e)).drew.grownBy w' v.ownBlock→K (a.put o.dst v') w') :
  if Region.wanted o (yielded ops a.tmps)=true then Oper.wp P o a (W.alloc (.cells #[x0,x1,x2] e)).drew K Q else E:=by
 refine step_append_own hg s x t hop base e i z 3 24 h1 h2 h3 h4 h5 h6 (by decide) v l.length (l.flatMap f) hs (hown.alloc _).drew ⟨W.heap.size,0,none⟩ 1 1 (f d) hx (by rw [hd];rfl) ?_ ?_ (by unfold maxLen;omega) (by omega) ?_ ?_
 ·intro j u hj
  rw [hd] at hj
  match j,hj with
  | 0,hj=>simp at hj;subst hj;simp [go_sem,Addr.add]
  | 1,hj=>simp at hj;subst hj;simp [go_sem,Addr.add]
  | 2,hj=>simp at hj;subst hj;simp [go_sem,Addr.add]
 ·intro u hu
  rw [hd] at hu
  simp at hu
  rcases hu with rfl|rfl|rfl<;>assumption
 ·simp [go_sem];omega
 ·intro v' w' h h'
  exact hK v' w' h h'
set_option maxRecDepth 4000 in
set_option maxHeartbeats 1000000 in
theorem lawsteps_any (l:List Raw) (v0:Value) (w:World) (hA:Arg (cR .i64 .i64 .u64) w v0 l) (hn:l.length≤65536) :
  Calls Tryz.prog 35 #[v0] w fun e w' => ∃ v',e = .returned v'∧Own cS 61 w.heap.size w' v' (l.map toS)∧Below w.heap.size w w':=by
 obtain ⟨i0,hi,hz0,hz1,hz2⟩:=info_of info_S
 replace hi:=Lib.hid hi;replace hz0:=Lib.hid hz0;replace hz1:=Lib.hid hz1;replace hz2:=Lib.hid hz2
 obtain ⟨a,cap,rfl,hA⟩:=hA
 replace hA:=Lib.hid hA
 have OF:=Lib.hid lawof_any
 go_enter Tryz.func35,Tryz.ntmps35
 go_wp2_with fail
 go_loopw [3,4] (fun vi i wr => ∃ (k:Nat) (v:Value),i = .int .i64 (k:Int)∧v=vi∧k≤l.length∧Own cS 61 w.heap.size wr v ((l.take k).map toS)∧Below w.heap.size w wr) (fun _ i _=>l.length-(intOf i).toNat)
 case atStart=>exact ⟨0,_,rfl,rfl,Nat.zero_le _,own_nil _ _ _ _,Below.refl _ _⟩
 case round =>
  obtain ⟨k,v,rfl,e,hk,ho,hB⟩:=hrel
  subst e
  replace ho:=Lib.hid ho
  by_cases hlt:k<l.length
  ·obtain ⟨g,off,rfl,hg,hc⟩:=hA.out k hlt
   obtain ⟨x,hx⟩ : ∃ x,x=l.getD k zeroR:=⟨_,rfl⟩
   have a0:=(hc 0 (by decide)).trans (by rw [←hx];rfl:_=some (.int .i64 x.1))
   have a1:=(hc 1 (by decide)).trans (by rw [←hx];rfl:_=some (.int .i64 x.2.1))
   have a2:=(hc 2 (by decide)).trans (by rw [←hx];rfl:_=some (.int .u64 x.2.2))
   rw [Nat.add_zero] at a0
   have c0:=(hB.cell (p:=⟨g,off+k*3,none⟩) hg).trans a0
   have c1:=(hB.cell (p:=⟨g,off+k*3+1,none⟩) hg).trans a1
   have c2:=(hB.cell (p:=⟨g,off+k*3+2,none⟩) hg).trans a2
   have hgw:g<wr.heap.size:=Nat.lt_of_lt_of_le hg hB.size
   replace a0:=Lib.hid a0;replace a1:=Lib.hid a1;replace a2:=Lib.hid a2;replace hx:=Lib.hid hx
   clear hc
   have hlk:((l.take k).map toS).length≤65536:=by rw [List.length_map,List.length_take];omega
   replace hlk:=Lib.hid hlk
   have hki:(k:Int)<(l.length:Int):=by omega
   replace hlt:=Lib.hid hlt
   replace hg:=Lib.hid hg
   replace hB:=Lib.hid hB
   go_wp2_with fail
   go_region_held3 (fun w'=>w'.cell? ⟨g,off+k*3,none⟩=some (.int .i64 x.1)∧w'.cell? ⟨g,off+k*3+1,none⟩=some (.int .i64 x.2.1)∧w'.cell? ⟨g,off+k*3+2,none⟩=some (.int .u64 x.2.2)) (first|exact ⟨c0,c1,c2⟩|exact ⟨d0,d1,d2⟩|go_keep) (first|(go_at_call 11;refine (OF.out _ _).mono ?_;rintro e w2 ⟨rfl,rfl⟩)|(refine step_append3 rfl _ _ _ rfl w.heap.size 61 i0 _ Tryz.underlying53 hi.out hz0.out hz1.out hz2.out rfl v ((l.take k).map toS) wr ho.out rfl rfl (toS x) _ _ _ rfl rfl rfl rfl hlk.out hB.out.size ?_;intro v' w3 hown' hgrow;have R:=Lib.hid (raw_rel hx.out hlt.out hown' hgrow hB.out ho.out);clear hown' hgrow;have d0:=(R.out.2.cell (p:=⟨g,off+k*3,none⟩) hg.out).trans a0.out;have d1:=(R.out.2.cell (p:=⟨g,off+k*3+1,none⟩) hg.out).trans a1.out;have d2:=(R.out.2.cell (p:=⟨g,off+k*3+2,none⟩) hg.out).trans a2.out))
   all_goals
    go_wp2_with fail
    go_roundw
    case rel=>exact ⟨k+1,_,by go_num,rfl,hlt.out,R.out.1,R.out.2⟩
    case measure=>have:=hlt.out;simp [intOf];omega
  ·have hkl:l.take k=l:=List.take_of_length_le (by omega)
   rw [hkl] at ho
   go_wp2_with fail
   go_ret
   exact ⟨_,rfl,ho.out,hB⟩
set_option maxRecDepth 4000 in
set_option maxHeartbeats 1000000 in
theorem lawbox_any (l:List Raw) (v0:Value) (w:World) (hA:Arg (cR .u64 .u64 .i64) w v0 l) (hn:l.length≤65536) :
  Calls Tryz.prog 36 #[v0] w fun e w' => ∃ v',e = .returned v'∧Own cD 49 w.heap.size w' v' (l.map toD)∧Below w.heap.size w w':=by
 obtain ⟨i0,hi,hz0,hz1,hz2⟩:=info_of info_D
 replace hi:=Lib.hid hi;replace hz0:=Lib.hid hz0;replace hz1:=Lib.hid hz1;replace hz2:=Lib.hid hz2
 obtain ⟨a,cap,rfl,hA⟩:=hA
 replace hA:=Lib.hid hA
 have OF:=Lib.hid lawof_any
 go_enter Tryz.func36,Tryz.ntmps36
 go_wp2_with fail
 go_loopw [3,4] (fun vi i wr => ∃ (k:Nat) (v:Value),i = .int .i64 (k:Int)∧v=vi∧k≤l.length∧Own cD 49 w.heap.size wr v ((l.take k).map toD)∧Below w.heap.size w wr) (fun _ i _=>l.length-(intOf i).toNat)
 case atStart=>exact ⟨0,_,rfl,rfl,Nat.zero_le _,own_nil _ _ _ _,Below.refl _ _⟩
 case round =>
  obtain ⟨k,v,rfl,e,hk,ho,hB⟩:=hrel
  subst e
  replace ho:=Lib.hid ho
  by_cases hlt:k<l.length
  ·obtain ⟨g,off,rfl,hg,hc⟩:=hA.out k hlt
   obtain ⟨x,hx⟩ : ∃ x,x=l.getD k zeroR:=⟨_,rfl⟩
   have a0:=(hc 0 (by decide)).trans (by rw [←hx];rfl:_=some (.int .u64 x.1))
   have a1:=(hc 1 (by decide)).trans (by rw [←hx];rfl:_=some (.int .u64 x.2.1))
   have a2:=(hc 2 (by decide)).trans (by rw [←hx];rfl:_=some (.int .i64 x.2.2))
   rw [Nat.add_zero] at a0
   have c0:=(hB.cell (p:=⟨g,off+k*3,none⟩) hg).trans a0
   have c1:=(hB.cell (p:=⟨g,off+k*3+1,none⟩) hg).trans a1
   have c2:=(hB.cell (p:=⟨g,off+k*3+2,none⟩) hg).trans a2
   have hgw:g<wr.heap.size:=Nat.lt_of_lt_of_le hg hB.size
   replace a0:=Lib.hid a0;replace a1:=Lib.hid a1;replace a2:=Lib.hid a2;replace hx:=Lib.hid hx
   clear hc
   have hlk:((l.take k).map toD).length≤65536:=by rw [List.length_map,List.length_take];omega
   replace hlk:=Lib.hid hlk
   have hki:(k:Int)<(l.length:Int):=by omega
   replace hlt:=Lib.hid hlt
   replace hg:=Lib.hid hg
   replace hB:=Lib.hid hB
   go_wp2_with fail
   go_region_held3 (fun w'=>w'.cell? ⟨g,off+k*3,none⟩=some (.int .u64 x.1)∧w'.cell? ⟨g,off+k*3+1,none⟩=some (.int .u64 x.2.1)∧w'.cell? ⟨g,off+k*3+2,none⟩=some (.int .i64 x.2.2)) (first|exact ⟨c0,c1,c2⟩|exact ⟨d0,d1,d2⟩|go_keep) (first|(go_at_call 11;refine (OF.out _ _).mono ?_;rintro e w2 ⟨rfl,rfl⟩)|(refine step_append3 rfl _ _ _ rfl w.heap.size 49 i0 _ Tryz.underlying55 hi.out hz0.out hz1.out hz2.out rfl v ((l.take k).map toD) wr ho.out rfl rfl (toD x) _ _ _ rfl rfl rfl rfl hlk.out hB.out.size ?_;intro v' w3 hown' hgrow;have R:=Lib.hid (raw_rel hx.out hlt.out hown' hgrow hB.out ho.out);clear hown' hgrow;have d0:=(R.out.2.cell (p:=⟨g,off+k*3,none⟩) hg.out).trans a0.out;have d1:=(R.out.2.cell (p:=⟨g,off+k*3+1,none⟩) hg.out).trans a1.out;have d2:=(R.out.2.cell (p:=⟨g,off+k*3+2,none⟩) hg.out).trans a2.out))
   all_goals
    go_wp2_with fail
    go_roundw
    case rel=>exact ⟨k+1,_,by go_num,rfl,hlt.out,R.out.1,R.out.2⟩
    case measure=>have:=hlt.out;simp [intOf];omega
  ·have hkl:l.take k=l:=List.take_of_length_le (by omega)
   rw [hkl] at ho
   go_wp2_with fail
   go_ret
   exact ⟨_,rfl,ho.out,hB⟩
end Go.Proofs.YteephgpefhodnaaGreat
