/- Proved: the statement All: for every input the call returns true: Nexts, Rounds, Builds, Applies, Relates, Decorates and Evals together, twice. Conditions: none. -/
import Derived.Test.YteephgpefhodnaaGreatZA
import Derived.Test.YteephgpefhodnaaGreatZB
import Derived.Test.YteephgpefhodnaaGreatZC
import Derived.Test.YteephgpefhodnaaGreatZD
import Derived.ProofKit
import Derived.OpenShut
namespace Go.Proofs.YteephgpefhodnaaGreat.all
open Go.RowKit Go.Sort Go.Fl Go.ChangeShapes Go.WideShapes Go.ChangeAt Go.Deep
set_option linter.unusedSimpArgs false
set_option linter.unusedVariables false
set_option maxRecDepth 4000 in
theorem walk (a0 a1 a2 a3 a4 a5 a6:Int) (l7:List Raw) (v7:Value) (l8:List Raw) (v8:Value) (w0:(Lit.int .u64 a0).wf=true) (w1:(Lit.int .u64 a1).wf=true) (w2:(Lit.int .u64 a2).wf=true) (w3:(Lit.int .u64 a3).wf=true) (w4:(Lit.int .i64 a4).wf=true) (w5:(Lit.int .i64 a5).wf=true) (w6:(Lit.int .i64 a6).wf=true)
  (w7 : ∀ x∈l7,(Lit.int .i64 x.1).wf=true∧(Lit.int .i64 x.2.1).wf=true∧(Lit.int .u64 x.2.2).wf=true) (w8 : ∀ x∈l8,(Lit.int .u64 x.1).wf=true∧(Lit.int .u64 x.2.1).wf=true∧(Lit.int .i64 x.2.2).wf=true) (w:World)
  (A7:Arg (cR .i64 .i64 .u64) w v7 l7) (A8:Arg (cR .u64 .u64 .i64) w v8 l8) :
  Calls Tryz.prog 3 #[.int .u64 a0,.int .u64 a1,.int .u64 a2,.int .u64 a3,.int .i64 a4,.int .i64 a5,.int .i64 a6,v7,v8] w fun e w'=>e = .returned (.bool true)∧Below w.heap.size w w':=by
 have NE:=Lib.hid (fun w=>nexts.walk a0 w0 w)
 have RO:=Lib.hid (fun w=>rounds.walk a0 a2 a6 w0 w2 w6 w)
 have BU:=Lib.hid (fun w=>builds.walk a0 a1 w0 w1 w)
 have AP:=Lib.hid (fun w=>applies.walk a0 a1 a2 a3 a6 w0 w1 w2 w3 w6 w)
 have RE:=Lib.hid (fun w=>relates.walk a0 a1 a2 a3 a6 w0 w1 w2 w3 w6 w)
 have DE:=Lib.hid (fun w=>decorates.walk a0 a1 a2 a3 a4 a5 a6 w0 w1 w2 w3 w4 w5 w6 w)
 have EV:=Lib.hid (fun wr (hB:Below w.heap.size w wr)=>evals.walk l7 v7 l8 v8 w7 w8 wr (A7.grown hB) (A8.grown hB))
 clear A7 A8 w0 w1 w2 w3 w4 w5 w6 w7 w8
 go_enter Tryz.func3,Tryz.ntmps3
 go_wp2_with fail
 go_loopw [19] (fun k wr => ∃ n:Int,0≤n∧n≤2∧k = .int .i64 n∧Below w.heap.size w wr) (fun k _=>(2-intOf k).toNat)
 case atStart=>exact ⟨0,by omega,by omega,rfl,Below.refl _ _⟩
 case round =>
  obtain ⟨n,hn1,hn2,rfl,B⟩:=hrel
  by_cases hlt:n<2
  ·go_wp2_with (first|(go_at_call 4;refine (NE.out _).mono ?_;rintro e wn ⟨rfl,hbn⟩;replace B:=below_step B B.size hbn;clear hbn)|(go_at_call 5;refine (RO.out _).mono ?_;rintro e wn ⟨rfl,hbn⟩;replace B:=below_step B B.size hbn;clear hbn)|(go_at_call 6;refine (BU.out _).mono ?_;rintro e wn ⟨rfl,hbn⟩;replace B:=below_step B B.size hbn;clear hbn)|(go_at_call 7;refine (AP.out _).mono ?_;rintro e wn ⟨rfl,hbn⟩;replace B:=below_step B B.size hbn;clear hbn)|(go_at_call 8;refine (RE.out _).mono ?_;rintro e wn ⟨rfl,hbn⟩;replace B:=below_step B B.size hbn;clear hbn)|(go_at_call 9;refine (DE.out _).mono ?_;rintro e wn ⟨rfl,hbn⟩;replace B:=below_step B B.size hbn;clear hbn)|(go_at_call 10;refine (EV.out _ B).mono ?_;rintro e wn ⟨rfl,hbn⟩;replace B:=below_step B B.size hbn;clear hbn))
   all_goals
    go_roundw
    case rel=>exact ⟨n+1,by omega,by omega,rfl,B⟩
    case measure=>simp [intOf];omega
  ·go_wp2_with fail
   go_ret
   exact ⟨rfl,B⟩
theorem own:ownKnob Tryz.prog.godebug=none:=by kernel_rfl
theorem laidOut:laidOutB Tryz.prog=true:=by kernel_rfl
theorem cellsp : Tryz.prog.cellsOf 65=3:=by kernel_rfl
theorem cellss : Tryz.prog.cellsOf 63=3:=by kernel_rfl
theorem cellsi : Tryz.prog.cellsOf 3=1:=by kernel_rfl
theorem cellsu : Tryz.prog.cellsOf 22=1:=by kernel_rfl
set_option maxHeartbeats 1600000 in
set_option maxRecDepth 100000 in
theorem lifted (os:Os) (started:os.Started) (H:Type) (enc:TypeId × Value→H) :
  ReturnsInHanded {} Tryz.checked os 3 .any (Rows.allSpec.pre6 enc Tryz.prog Tryz.f3 Rows.allRow.domain false) (Rows.allSpec.post enc Tryz.prog Tryz.f3 false true false false):=by
 refine returnsInHanded_of_change (C := Tryz.checked) own started (by kernel_rfl) Tryz.func3
  (ChangeSpec.witness6 (enc:=enc) (C := Tryz.checked) false ⟨#[],#[.int .u64 0,.int .u64 0,.int .u64 0,.int .u64 0,.int .i64 0,.int .i64 0,.int .i64 0,.slice none 0 0,.slice none 0 0],[]⟩ 8 (by kernel_rfl) (by kernel_rfl) (by kernel_rfl) (by kernel_rfl)) ?_
 intro W base args ds gs before hval0 hW hcnd _
 have hval : ∀ (j:Nat) t v,Tryz.f3.params[j]? = some t→args[j]? = some v→Value.okWide Tryz.prog W .any base t v:=hval0
 have hW':=hW
 obtain ⟨p,q,hA0,hV,rfl,hfz,hnd⟩:=hW
 have hA:DataW.TrodAll enc Tryz.prog W 0 (fun _=>true) true Tryz.f3.params.toList args.toList ds p:=hA0
 rw [Tryz.params3] at hA hval
 obtain ⟨v0,vs0,d0,ds0,p0,q0,hargs,rfl,rfl,h0,r0⟩:=trodAll_cons hA
 obtain ⟨v1,vs1,d1,ds1,p1,q1,rfl,rfl,rfl,h1,r1⟩:=trodAll_cons r0
 obtain ⟨v2,vs2,d2,ds2,p2,q2,rfl,rfl,rfl,h2,r2⟩:=trodAll_cons r1
 obtain ⟨v3,vs3,d3,ds3,p3,q3,rfl,rfl,rfl,h3,r3⟩:=trodAll_cons r2
 obtain ⟨v4,vs4,d4,ds4,p4,q4,rfl,rfl,rfl,h4,r4⟩:=trodAll_cons r3
 obtain ⟨v5,vs5,d5,ds5,p5,q5,rfl,rfl,rfl,h5,r5⟩:=trodAll_cons r4
 obtain ⟨v6,vs6,d6,ds6,p6,q6,rfl,rfl,rfl,h6,r6⟩:=trodAll_cons r5
 obtain ⟨v7,vs7,d7,ds7,p7,q7,rfl,rfl,rfl,h7,r7⟩:=trodAll_cons r6
 obtain ⟨v8,vs8,d8,ds8,p8,q8,rfl,rfl,rfl,h8,r8⟩:=trodAll_cons r7
 obtain ⟨rfl,rfl,rfl⟩:=trodAll_nil r8
 obtain rfl:args = #[v0,v1,v2,v3,v4,v5,v6,v7,v8]:=by cases args;simp_all
 obtain ⟨rfl,rfl⟩:=trodVars_none hV
 clear hA0 hval0
 simp only [List.append_nil] at hW'
 obtain ⟨a0,rfl,rfl,rfl,w0⟩:=open_int Tryz.underlying22 (hval 0 22 v0 rfl rfl) h0
 obtain ⟨a1,rfl,rfl,rfl,w1⟩:=open_int Tryz.underlying22 (hval 1 22 v1 rfl rfl) h1
 obtain ⟨a2,rfl,rfl,rfl,w2⟩:=open_int Tryz.underlying22 (hval 2 22 v2 rfl rfl) h2
 obtain ⟨a3,rfl,rfl,rfl,w3⟩:=open_int Tryz.underlying22 (hval 3 22 v3 rfl rfl) h3
 obtain ⟨a4,rfl,rfl,rfl,w4⟩:=open_int Tryz.underlying3 (hval 4 3 v4 rfl rfl) h4
 obtain ⟨a5,rfl,rfl,rfl,w5⟩:=open_int Tryz.underlying3 (hval 5 3 v5 rfl rfl) h5
 obtain ⟨a6,rfl,rfl,rfl,w6⟩:=open_int Tryz.underlying3 (hval 6 3 v6 rfl rfl) h6
 have g7 : ∀ x∈p7,x.block<W.heap.size:=fun x hx=>hW'.lt x (by simp [hx])
 obtain ⟨l7,A7,w7⟩:=open_rows (k0 := .i64) (k1 := .i64) (k2 := .u64) Tryz.underlying23 Tryz.underlying63 cellss Tryz.underlying3 Tryz.underlying3 Tryz.underlying22 rfl rfl rfl cellsi cellsi cellsu (hval 7 23 v7 rfl rfl) h7
 have g8 : ∀ x∈p8,x.block<W.heap.size:=fun x hx=>hW'.lt x (by simp [hx])
 obtain ⟨l8,A8,w8⟩:=open_rows (k0 := .u64) (k1 := .u64) (k2 := .i64) Tryz.underlying24 Tryz.underlying65 cellsp Tryz.underlying22 Tryz.underlying22 Tryz.underlying3 rfl rfl rfl cellsu cellsu cellsi (hval 8 24 v8 rfl rfl) h8
 refine (walk a0 a1 a2 a3 a4 a5 a6 l7 v7 l8 v8 w0 w1 w2 w3 w4 w5 w6 w7 w8  W A7 A8).mono fun e W' ⟨he,hg⟩ => ?_
 subst he
 exact ⟨_,rfl,_,_,_,[],_,[],hW',(trodAll_cons_mk (shut_bool Tryz.underlying4 _) trodAll_mk0),(trodAll_cons_mk (shut_int Tryz.underlying22 w0) (trodAll_cons_mk (shut_int Tryz.underlying22 w1) (trodAll_cons_mk (shut_int Tryz.underlying22 w2) (trodAll_cons_mk (shut_int Tryz.underlying22 w3) (trodAll_cons_mk (shut_int Tryz.underlying3 w4) (trodAll_cons_mk (shut_int Tryz.underlying3 w5) (trodAll_cons_mk (shut_int Tryz.underlying3 w6) (trodAll_cons_mk (Below.trod laidOut (by kernel_rfl) (of_decide_eq_true (by kernel_rfl)) h7 hg g7) (trodAll_cons_mk (Below.trod laidOut (by kernel_rfl) (of_decide_eq_true (by kernel_rfl)) h8 hg g8) trodAll_mk0))))))))),rfl,hg.frame _,fun h=>by cases h⟩
theorem over:Rows.allRow.holds Tryz.pinned (OpenSpec.ofChange Rows.allSpec) :=
 OpenClaim.holds_of_wide 3 Tryz.f3 rfl rfl rfl rfl rfl rfl rfl ⟨rfl,rfl,rfl,rfl,rfl⟩ rfl rfl rfl rfl rfl (by kernel_rfl) Tryz.func3 (by kernel_rfl)
  (of_decide_eq_true (by kernel_rfl)) (by unfold Func.isWrapper;first|(rw [if_pos (by decide +kernel)];kernel_rfl)|(rw [if_neg (by decide +kernel)];exact ⟨rfl,rfl⟩))
  (fun os started H enc _=>lifted os started H enc)
theorem proved:Rows.AllSaid :=
 over
#print axioms proved
end Go.Proofs.YteephgpefhodnaaGreat.all
