/- Slices whose elements take three cells; a stack of decorated intervals: put, take. -/
import Derived.Test.YteephgpefhodnaaGreatAA
import Derived.LoopTactic
import Derived.Lib.Hide
import Derived.Laws.OwnMore
import Derived.Deep.RegionLaw
namespace Go.Proofs.YteephgpefhodnaaGreat
open Go.RowKit Go.Sort Go.Fl
set_option linter.unusedSimpArgs false
set_option linter.unusedVariables false
abbrev De:=Nat × Nat × Int
abbrev St:=Int × Int × Nat
def zeroD:De:=(0,0,0)
def zeroS:St:=(0,0,0)
def cD (x:De):List Value:=[.float .f64 x.1,.float .f64 x.2.1,.int .i64 x.2.2]
def cS (s:St):List Value:=[.int .i64 s.1,.int .i64 s.2.1,.float .f64 s.2.2]
def Own {α:Type} (f:α→List Value) (T:TypeId) (base:Nat) (w:World) (v:Value) (l:List α):Prop:=w.ownsRow base T 3 v l.length (l.flatMap f)
theorem flat3 {α:Type} {f:α→List Value} (hf : ∀ x,(f x).length=3) (z:α) : ∀ (l:List α) (j k:Nat),j<l.length→k<3→(l.flatMap f)[j*3+k]? = (f (l.getD j z))[k]?
 | [],j,k,hj,hk=>absurd hj (Nat.not_lt_zero _)
 | a::l,0,k,hj,hk=>by
  rw [List.flatMap_cons,List.getElem?_append_left (by rw [hf];omega),Nat.zero_mul,Nat.zero_add];rfl
 | a::l,j+1,k,hj,hk=>by
  rw [List.flatMap_cons,List.getElem?_append_right (by rw [hf];omega),hf,show (j+1)*3+k-3=j*3+k by omega,flat3 hf z l j k (by simpa using hj) hk];rfl
theorem cD_len (x:De):(cD x).length=3:=rfl
theorem cS_len (x:St):(cS x).length=3:=rfl
section
variable {α:Type} {f:α→List Value} {T:TypeId} {base:Nat} {w w':World} {v:Value} {l:List α}
theorem Own.cases (h:Own f T base w v l):(v = .slice none 0 0∧l=[]) ∨ ∃ g cap,v = .slice (some ⟨g,0,none⟩) l.length cap∧l.length≤cap∧cap≤maxLen∧base≤g∧g<w.heap.size:=by
 have hl:=World.ownsRow.lt h
 rcases h.2 with ⟨h1,h2⟩|⟨g,cap,cur,rfl,h2,h3,h4,h5,_,_⟩
 ·exact .inl ⟨h1,List.length_eq_zero_iff.1 h2⟩
 ·exact .inr ⟨g,cap,rfl,h4,h5,h2,(hl g rfl).2⟩
theorem Own.cell {g cap:Nat} (h:Own f T base w (.slice (some ⟨g,0,none⟩) l.length cap) l) (hf : ∀ x,(f x).length=3) (z:α) (j k:Nat) (hj:j<l.length) (hk:k<3):w.cell? ⟨g,j*3+k,none⟩=(f (l.getD j z))[k]? := by
 have:=World.ownsRow.cellAt h (j*3+k) (by omega)
 rw [this,flat3 hf z l j k hj hk]
theorem Own.below (h:Own f T base w v l) {B:Nat} (hb:Below B w w') (hg : ∀ g,v.ownBlock=some g→g<B):Own f T base w' v l:=by
 refine ⟨h.1,?_⟩
 rcases h.2 with h1|⟨g,cap,cur,rfl,h2,h3,rest⟩
 ·exact .inl h1
 ·exact .inr ⟨g,cap,cur,rfl,h2,(hb.block g (hg g rfl)).trans h3,rest⟩
theorem Own.lt (h:Own f T base w v l) : ∀ g,v.ownBlock=some g→base≤g∧g<w.heap.size:=World.ownsRow.lt h
theorem Own.grown (h:Own f T base w v l) (hb:Below w.heap.size w w'):Own f T base w' v l:=h.below hb fun g e=>(h.lt g e).2
theorem Own.low {b:Nat} (h:Own f T base w v l) (hb:b≤base):Own f T b w v l:=by
 refine ⟨h.1,?_⟩
 rcases h.2 with h1|⟨g,cap,cur,rfl,h2,rest⟩
 ·exact .inl h1
 ·exact .inr ⟨g,cap,cur,rfl,by omega,rest⟩
theorem Own.set (h:Own f T base w v l) {p:Addr} (hp:p.block<base) (u:Value):Own f T base (w.setCell p u) v l:=by
 refine ⟨h.1,?_⟩
 rcases h.2 with h1|⟨g,cap,cur,rfl,h2,h3,rest⟩
 ·exact .inl h1
 ·exact .inr ⟨g,cap,cur,rfl,h2,(heap_setCell_other w p g u (by omega)).trans h3,rest⟩
theorem Own.alloc (h:Own f T base w v l) (o:Obj):Own f T base (w.alloc o) v l:=World.ownsRow.alloc h o
theorem Own.drew (h:Own f T base w v l):Own f T base w.drew v l:=h
theorem Own.take {g n cap:Nat} (hf : ∀ x,(f x).length=3) (h:Own f T base w (.slice (some ⟨g,0,none⟩) n cap) l) (k:Nat) (hk:k≤l.length):Own f T base w (.slice (some ⟨g,0,none⟩) k cap) (l.take k):=by
 have hfl : ∀ m:List α,(m.flatMap f).length=m.length*3:=fun m=>by
  induction m with
  | nil=>rfl
  | cons a m ih=>rw [List.flatMap_cons,List.length_append,hf,ih,List.length_cons];omega
 rcases h.2 with ⟨h1,_⟩|⟨g',cap',cur,e,h2,h3,h4,h5,h6,h7⟩
 ·cases h1
 ·cases e
  have hl:(l.take k).length=k:=by rw [List.length_take,Nat.min_eq_left hk]
  refine ⟨hfl _,.inr ⟨g,cap,cur,by rw [hl],h2,h3,by omega,h5,h6,?_⟩⟩
  rw [hl]
  have e1:l.flatMap f=(l.take k).flatMap f++(l.drop k).flatMap f:=by rw [←List.flatMap_append,List.take_append_drop]
  have e2:cur.toList.take (k*3)=(cur.toList.take (l.length*3)).take (k*3):=by rw [List.take_take,Nat.min_eq_left (by omega)]
  rw [e2,h7,e1]
  exact List.take_left' (by rw [hfl,hl])
theorem own_nil (f:α→List Value) (T:TypeId) (base:Nat) (w:World):Own f T base w (.slice none 0 0) []:=World.ownsRow_nil _ _ _ _
end
theorem step_append_own {P:Program} {ops:Array Oper} {o:Oper} {a:Act} {w:World} {K:Act→World→Prop} {Q:Exit→Act→World→Prop} {E:Prop}
  (hg:o.guard=none) (s x:Operand) (t:TypeId) (hop:o.op=Op.call { callee:=Callee.builtin Builtin.append,args := #[s,x],argTypes := #[t,t] })
  (base:Nat) (e:TypeId) (i:TypeInfo) (z:Value) (size bytes:Nat) (h1:P.underlying t=some (.slice e)) (h2:P.info? e=some i) (h3:i.zero=some z) (h4:i.size=size) (h5:i.bytes=bytes) (h6:z.cells.size=size) (h7:0<size)
  (v:Value) (n:Nat) (xs:List Value) (hs:a.eval s=v) (hown:w.ownsRow base e size v n xs)
  (ad:Addr) (m c:Nat) (news:List Value) (hx:a.eval x = .slice (some ad) m c) (hn:news.length=m*size) (hc : ∀ j u,news[j]? = some u→w.cell? (ad.add j)=some u) (h1c : ∀ u∈news,u.oneCell'=true)
  (b1:n+m≤maxLen) (b2:(n+m)*bytes≤140737488355328) (hbase:base≤w.heap.size)
  (hK : ∀ v' w',w'.ownsRow base e size v' (n+m) (xs++news)→w.grownBy w' v.ownBlock→K (a.put o.dst v') w') :
  if Region.wanted o (yielded ops a.tmps)=true then Oper.wp P o a w K Q else E:=by
 have hw:Region.wanted o (yielded ops a.tmps)=true:=by simp [Region.wanted,hg]
 rw [if_pos hw]
 obtain ⟨v',w',hrun,r1,r2,_⟩:=run_append_own (P:=P) w base t o.type e i z size bytes h1 h2 h3 h4 h5 h6 h7 v n xs hown ad m c news hn hc h1c b1 b2 hbase
 unfold Oper.wp
 simp [execOp,hop,resolve,invoke,builtin,hs,hx,hrun,Result.andThen]
 exact hK v' w' r1 r2
theorem own_form {w:World} {base:Nat} {T:TypeId} {v:Value} {n:Nat} {xs:List Value} (h:w.ownsRow base T 3 v (n+1) xs) : ∃ g cap,v = .slice (some ⟨g,0,none⟩) (n+1) cap∧base≤g∧g<w.heap.size:=by
 have hl:=World.ownsRow.lt h
 rcases h.2 with ⟨_,h2⟩|⟨g,cap,cur,rfl,h2,h3,h4,h5,_,_⟩
 ·cases h2
 ·exact ⟨g,cap,rfl,h2,(hl g rfl).2⟩
theorem own_snoc {α:Type} {f:α→List Value} {T:TypeId} {base:Nat} {w:World} {v:Value} {l:List α} {d:α} (h:w.ownsRow base T 3 v (l.length+1) (l.flatMap f++f d)):Own f T base w v (l++[d]):=by
 unfold Own
 rw [List.length_append,List.flatMap_append]
 simpa using h
theorem info_D:(Tryz.prog.info? 49).map (fun i=>(i.zero,i.size,i.bytes))=some (some (.agg #[.float .f64 0,.float .f64 0,.int .i64 0]),3,24):=by kernel_rfl
theorem info_S:(Tryz.prog.info? 61).map (fun i=>(i.zero,i.size,i.bytes))=some (some (.agg #[.int .i64 0,.int .i64 0,.float .f64 0]),3,24):=by kernel_rfl
theorem info_of {P:Program} {T:TypeId} {z:Value} {s b:Nat} (h:(P.info? T).map (fun i=>(i.zero,i.size,i.bytes))=some (some z,s,b)) : ∃ i,P.info? T=some i∧i.zero=some z∧i.size=s∧i.bytes=b:=by
 cases hi:P.info? T with
 | none=>rw [hi] at h;cases h
 | some i=>rw [hi] at h;simp at h;exact ⟨i,rfl,h.1,h.2.1,h.2.2⟩
set_option maxRecDepth 4000 in
set_option maxHeartbeats 2000000 in
theorem put_ok (pb:Nat) (v:Value) (st:List De) (d:De) (w:World) (hp:w.cell? ⟨pb,0,none⟩=some v) (hz:w.frozen? ⟨pb,0,none⟩=false) (ho:Own cD 49 (pb+1) w v st) (hn:st.length<8) :
  Calls Tryz.prog 96 #[.pointer (some ⟨pb,0,none⟩),.agg #[.float .f64 (d.1),.float .f64 (d.2.1),.int .i64 (d.2.2)]] w fun e w'=>e = .returned (.tuple #[]) ∧ ∃ v',w'.cell? ⟨pb,0,none⟩=some v'∧w'.frozen? ⟨pb,0,none⟩=false∧Own cD 49 (pb+1) w' v' (st++[d])∧Below pb w w':=by
 obtain ⟨i0,hi,hz0,hz1,hz2⟩:=info_of info_D
 have hlt:=block_lt_of_cell hp
 have hn8:((st.length:Int)==8)=false:=by rw [beq_eq_false_iff_ne];omega
 have hi':=Lib.hid hi;have hz0':=Lib.hid hz0;have hz1':=Lib.hid hz1;have hz2':=Lib.hid hz2;have ho':=Lib.hid ho
 clear hi hz0 hz1 hz2 ho
 obtain ⟨b,hb⟩ : ∃ b,v = .slice b st.length (match v with | .slice _ _ c=>c|_=>0):=by
  rcases ho'.out.cases with ⟨rfl,rfl⟩|⟨g,cap,rfl,_⟩
  ·exact ⟨_,rfl⟩
  ·exact ⟨_,rfl⟩
 obtain ⟨c,hc⟩ : ∃ c,v = .slice b st.length c:=⟨_,hb⟩
 clear hb
 subst hc
 go_enter Tryz.func96,Tryz.ntmps96
 go_wp2_with fail
 go_region_law (refine step_append_own rfl _ _ _ rfl (pb+1) 49 i0 _ 3 24 Tryz.underlying78 hi'.out hz0'.out hz1'.out hz2'.out rfl (by decide) (.slice b st.length c) st.length (st.flatMap cD) (by simp [Act.eval,Act.put]) (by first|exact (ho'.out.alloc _).alloc _|exact ((ho'.out.alloc _).alloc _).drew|exact ((ho'.out.alloc _).drew).alloc _) ⟨w.heap.size+1,0,none⟩ 1 1 (cD d) (by simp [Act.eval,Act.put]) rfl (by intro j u hj;match j,hj with|0,hj=>(simp [cD] at hj;subst hj;simp [go_sem,Addr.add])|1,hj=>(simp [cD] at hj;subst hj;simp [go_sem,Addr.add])|2,hj=>(simp [cD] at hj;subst hj;simp [go_sem,Addr.add])) (by intro u hu;simp [cD] at hu;rcases hu with rfl|rfl|rfl<;>rfl) (by unfold maxLen;omega) (by omega) (by simp [go_sem];omega) ?_;intro v' w1 hown' hgrow;obtain ⟨g,cap,rfl,hg1,hg2⟩:=own_form hown';have hL:RowKit.Below (pb+1) w w1:=RowKit.Below.grown (RowKit.Below.mono (B:=w.heap.size) (by go_grown) (by omega)) hgrow (by simp [go_sem];omega) (fun k hk=>(ho'.out.lt k hk).1);have hp1:=(hL.cell (p:=⟨pb,0,none⟩) (Nat.lt_succ_self _)).trans hp;have hz1:=(hL.frozen (p:=⟨pb,0,none⟩) (Nat.lt_succ_self _)).trans hz;have hown2:=Lib.hid hown';clear hown' hgrow)
 all_goals
  go_end0
  have A:=At.set_same ⟨hp1,hz1⟩ (.slice (some ⟨g,0,none⟩) (st.length+1) cap)
  exact ⟨rfl,_,A.1,A.2,(own_snoc hown2.out).set (Nat.lt_succ_self _) _,(hL.mono (Nat.le_succ _)).setCell (Nat.le_refl _) _⟩
def stuckE:PanicEntry:={ v := .iface 82 (.agg #[]),recovered:=false }
theorem put_no (pb:Nat) (v:Value) (st:List De) (d:De) (w:World) (hp:w.cell? ⟨pb,0,none⟩=some v) (hz:w.frozen? ⟨pb,0,none⟩=false) (ho:Own cD 49 (pb+1) w v st) (hn:st.length=8) :
  Calls Tryz.prog 96 #[.pointer (some ⟨pb,0,none⟩),.agg #[.float .f64 (d.1),.float .f64 (d.2.1),.int .i64 (d.2.2)]] w fun e w'=>e = .panicked [stuckE]∧RowKit.Below pb w w':=by
 have hlt:=block_lt_of_cell hp
 have ho':=Lib.hid ho
 clear ho
 obtain ⟨b,c,hc⟩ : ∃ b c,v = .slice b 8 c:=by
  rcases ho'.out.cases with ⟨rfl,rfl⟩|⟨g,cap,rfl,_⟩
  ·simp at hn
  ·rw [hn];exact ⟨_,_,rfl⟩
 subst hc
 clear hn
 go_enter Tryz.func96,Tryz.ntmps96
 go_wp2
 refine ⟨rfl,rfl,?_⟩
 exact RowKit.Below.mono (B:=w.heap.size) (by go_grown) (Nat.le_of_lt hlt)
theorem take_no (pb:Nat) (v:Value) (st:List De) (w:World) (hp:w.cell? ⟨pb,0,none⟩=some v) (hz:w.frozen? ⟨pb,0,none⟩=false) (ho:Own cD 49 (pb+1) w v st) (hn:st.length=0) :
  Calls Tryz.prog 69 #[.pointer (some ⟨pb,0,none⟩)] w fun e w'=>e = .panicked [stuckE]∧RowKit.Below pb w w':=by
 have hlt:=block_lt_of_cell hp
 have ho':=Lib.hid ho
 clear ho
 obtain ⟨b,c,hc⟩ : ∃ b c,v = .slice b 0 c:=by
  rcases ho'.out.cases with ⟨rfl,rfl⟩|⟨g,cap,rfl,_⟩
  ·exact ⟨_,_,rfl⟩
  ·rw [hn];exact ⟨_,_,rfl⟩
 subst hc
 clear hn
 go_enter Tryz.func69,Tryz.ntmps69
 go_wp2
 refine ⟨rfl,rfl,?_⟩
 exact RowKit.Below.mono (B:=w.heap.size) (by go_grown) (Nat.le_of_lt hlt)
set_option maxRecDepth 4000 in
set_option maxHeartbeats 2000000 in
theorem take_ok (pb:Nat) (v:Value) (st:List De) (w:World) (hp:w.cell? ⟨pb,0,none⟩=some v) (hz:w.frozen? ⟨pb,0,none⟩=false) (ho:Own cD 49 (pb+1) w v st) (m:Nat) (hn:st.length=m+1) (h8:m≤7) :
  Calls Tryz.prog 69 #[.pointer (some ⟨pb,0,none⟩)] w fun e w'=>e = .returned (.agg #[.float .f64 ((st.getD m zeroD).1),.float .f64 ((st.getD m zeroD).2.1),.int .i64 ((st.getD m zeroD).2.2)]) ∧ ∃ v',w'.cell? ⟨pb,0,none⟩=some v'∧w'.frozen? ⟨pb,0,none⟩=false∧Own cD 49 (pb+1) w' v' (st.take m)∧w.grownBy w' (some pb):=by
 have hlt:=block_lt_of_cell hp
 obtain ⟨g,cap,hv,h1,h2,h3,h4⟩ : ∃ g cap,v = .slice (some ⟨g,0,none⟩) (m+1) cap∧m+1≤cap∧cap≤maxLen∧pb+1≤g∧g<w.heap.size:=by
  rcases ho.cases with ⟨rfl,rfl⟩|⟨g,cap,rfl,h⟩
  ·simp at hn
  ·rw [hn] at *;exact ⟨g,cap,rfl,h⟩
 subst hv
 have ho0:Own cD 49 (pb+1) w (.slice (some ⟨g,0,none⟩) st.length cap) st:=by rw [hn];exact ho
 have c0:=ho0.cell cD_len zeroD m 0 (by omega) (by decide)
 have c1:=ho0.cell cD_len zeroD m 1 (by omega) (by decide)
 have c2:=ho0.cell cD_len zeroD m 2 (by omega) (by decide)
 have hT:=Lib.hid (Own.take cD_len ho m (by omega))
 clear ho0 ho hn
 simp only [cD,List.getElem?_cons_zero,List.getElem?_cons_succ,Nat.add_zero] at c0 c1 c2
 generalize st.getD m zeroD=x at *
 have hmc:m≤cap:=by omega
 go_enter Tryz.func69,Tryz.ntmps69
 go_wp2
 have A:=At.set_same ⟨hp,hz⟩ (.slice (some ⟨g,0,none⟩) m cap)
 refine bodyPost_ret (v := .agg #[.float .f64 (x.1),.float .f64 (x.2.1),.int .i64 (x.2.2)]) (by simp [results,Tryz.results69,go_sem]) rfl ⟨rfl,_,(At.alloc (At.alloc A)).1,(At.alloc (At.alloc A)).2,((hT.out.set (Nat.lt_succ_self _) _).alloc _).alloc _,?_⟩
 refine ⟨rfl,rfl,rfl,(by simp;omega),fun k hk hne => ?_⟩
 have hk':k≠pb:=fun e=>hne (by rw [e])
 rw [Below.heap_alloc _ _ _ (by simp;omega),Below.heap_alloc _ _ _ (by simpa using hk),Below.heap_setCell _ _ _ _ hk']
def Stk (pb:Nat) (w:World) (st:List De):Prop := ∃ v,w.cell? ⟨pb,0,none⟩=some v∧w.frozen? ⟨pb,0,none⟩=false∧Own cD 49 (pb+1) w v st
theorem Stk.lt {pb:Nat} {w:World} {st:List De} (h:Stk pb w st):pb<w.heap.size:=by
 obtain ⟨v,h1,_⟩:=h
 exact block_lt_of_cell h1
theorem Stk.grown {pb:Nat} {w w':World} {st:List De} (h:Stk pb w st) (hb:Below w.heap.size w w'):Stk pb w' st:=by
 have hl:=h.lt
 obtain ⟨v,h1,h2,h3⟩:=h
 exact ⟨v,(hb.cell (p:=⟨pb,0,none⟩) hl).trans h1,(hb.frozen (p:=⟨pb,0,none⟩) hl).trans h2,h3.grown hb⟩
theorem take_k (pb:Nat) (st:List De) (w:World) (h:Stk pb w st) (m:Nat) (hn:st.length=m+1) (h8:m≤7) :
  Calls Tryz.prog 69 #[.pointer (some ⟨pb,0,none⟩)] w fun e w'=>e = .returned (.agg #[.float .f64 ((st.getD m zeroD).1),.float .f64 ((st.getD m zeroD).2.1),.int .i64 ((st.getD m zeroD).2.2)])∧Stk pb w' (st.take m)∧w.grownBy w' (some pb):=by
 obtain ⟨v,h1,h2,h3⟩:=h
 refine (take_ok pb v st w h1 h2 h3 m hn h8).mono ?_
 rintro e w' ⟨he,v',a,b,c,d⟩
 exact ⟨he,⟨v',a,b,c⟩,d⟩
theorem take_nil (pb:Nat) (st:List De) (w:World) (h:Stk pb w st) (hn:st.length=0) :
  Calls Tryz.prog 69 #[.pointer (some ⟨pb,0,none⟩)] w fun e w'=>e = .panicked [stuckE]∧Below pb w w':=by
 obtain ⟨v,h1,h2,h3⟩:=h
 exact take_no pb v st w h1 h2 h3 hn
def putD (st:List De) (d:De):Option (List De):=if st.length=8 then none else some (st++[d])
def Done (pb:Nat) (w:World) (r:Option (List De)) (e:Ending) (w':World):Prop :=
 Below pb w w'∧match r with
  | some st'=>e = .returned (.tuple #[])∧Stk pb w' st'
  | none=>e = .panicked [stuckE]
theorem put_any (pb:Nat) (st:List De) (d:De) (w:World) (h:Stk pb w st) (h8:st.length≤8) :
  Calls Tryz.prog 96 #[.pointer (some ⟨pb,0,none⟩),.agg #[.float .f64 (d.1),.float .f64 (d.2.1),.int .i64 (d.2.2)]] w (Done pb w (putD st d)):=by
 obtain ⟨v,h1,h2,h3⟩:=h
 unfold putD
 by_cases g:st.length=8
 ·rw [if_pos g]
  refine (put_no pb v st d w h1 h2 h3 g).mono ?_
  rintro e w' ⟨he,hb⟩
  exact ⟨hb,he⟩
 ·rw [if_neg g]
  refine (put_ok pb v st d w h1 h2 h3 (by omega)).mono ?_
  rintro e w' ⟨he,v',a,b,c,hb⟩
  exact ⟨hb,he,v',a,b,c⟩
end Go.Proofs.YteephgpefhodnaaGreat
