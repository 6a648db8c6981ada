/- Contracts of Meet and Hull, in the program and in the document's answer. -/
import Derived.Test.YteephgpefhodnaaGreatAA
import Derived.Lib.Hide
import Derived.Deep.RegionHeld3
namespace Go.Proofs.YteephgpefhodnaaGreat
open Go.RowKit Go.Sort Go.Fl
set_option linter.unusedSimpArgs false
set_option linter.unusedVariables false
theorem tk_canon {a b:Int} (h:Iv a b):tkLo (ofKey a) (ofKey b)=a∧tkHi (ofKey a) (ofKey b)=b:=by
 obtain ⟨ra,rb,h3⟩:=h
 have hg:good (ofKey a) (ofKey b)=true:=by
  unfold good
  rw [key_ofKey ra,key_ofKey rb]
  exact decide_eq_true ⟨not_nan_ofKey ra,not_nan_ofKey rb,h3⟩
 unfold tkLo tkHi
 rw [if_pos hg,if_pos hg,key_ofKey ra,key_ofKey rb]
 exact ⟨rfl,rfl⟩
def meetLo (a b c d:Int):Int:=if min b d<max a c then PI else max a c
def meetHi (a b c d:Int):Int:=if min b d<max a c then -PI else min b d
theorem meet_iv {a b c d:Int} (h:Iv a b) (h':Iv c d) (hl:max a c≤min b d):Iv (max a c) (min b d):=by
 obtain ⟨ra,rb,h3⟩:=h
 obtain ⟨rc,rd,h4⟩:=h'
 have:=PI_pos
 exact ⟨rg_max ra rc,rg_min rb rd,by omega⟩
theorem hull_iv {a b c d:Int} (h:Iv a b) (h':Iv c d):Iv (min a c) (max b d):=by
 obtain ⟨ra,rb,h3⟩:=h
 obtain ⟨rc,rd,h4⟩:=h'
 have:=PI_pos
 have ra1:=ra.1;have ra2:=ra.2;have rb1:=rb.1;have rb2:=rb.2
 have rc1:=rc.1;have rc2:=rc.2;have rd1:=rd.1;have rd2:=rd.2
 exact ⟨rg_min ra rc,rg_max rb rd,by omega⟩
set_option maxHeartbeats 1000000 in
theorem ivlhull_any (a b c d:Nat) (ha:Wd a) (hb:Wd b) (hc:Wd c) (hd:Wd d) (w:World) :
  Calls Tryz.prog 62 #[.agg #[.float .f64 (a),.float .f64 (b)],.agg #[.float .f64 (c),.float .f64 (d)]] w fun e w'=>e = .returned (.agg #[.float .f64 (ofKey (min (tkLo a b) (tkLo c d))),.float .f64 (ofKey (max (tkHi a b) (tkHi c d)))])∧Below w.heap.size w w':=by
 have rA:=(tk_iv a b).1
 have rB:=(tk_iv a b).2.1
 have rC:=(tk_iv c d).1
 have rD:=(tk_iv c d).2.1
 go_enter Tryz.func62,Tryz.ntmps62
 go_wp2
 have k00:=cell_regrown (w:=(World.alloc (World.alloc (World.alloc w (.cells #[.float .f64 (a),.float .f64 (b)] 39)) (.cells #[.float .f64 (c),.float .f64 (d)] 39)) (.cells #[.float .f64 (0),.float .f64 (0)] 39))) (a:=⟨w.heap.size,0,none⟩) (v := .float .f64 (a)) (by simp [go_sem])
 have k01:=cell_regrown (w:=(World.alloc (World.alloc (World.alloc w (.cells #[.float .f64 (a),.float .f64 (b)] 39)) (.cells #[.float .f64 (c),.float .f64 (d)] 39)) (.cells #[.float .f64 (0),.float .f64 (0)] 39))) (a:=⟨w.heap.size,1,none⟩) (v := .float .f64 (b)) (by simp [go_sem])
 have k10:=cell_regrown (w:=(World.alloc (World.alloc (World.alloc w (.cells #[.float .f64 (a),.float .f64 (b)] 39)) (.cells #[.float .f64 (c),.float .f64 (d)] 39)) (.cells #[.float .f64 (0),.float .f64 (0)] 39))) (a:=⟨w.heap.size+1,0,none⟩) (v := .float .f64 (c)) (by simp [go_sem])
 have k11:=cell_regrown (w:=(World.alloc (World.alloc (World.alloc w (.cells #[.float .f64 (a),.float .f64 (b)] 39)) (.cells #[.float .f64 (c),.float .f64 (d)] 39)) (.cells #[.float .f64 (0),.float .f64 (0)] 39))) (a:=⟨w.heap.size+1,1,none⟩) (v := .float .f64 (d)) (by simp [go_sem])
 refine wp_region_below_tail 4 (by kernel_rfl) (by kernel_rfl) ?_
 simp only [List.take_succ_cons,List.take_zero,List.drop_succ_cons,List.drop_zero]
 repeat (go_big_quiet_step ((exact Calls.regrown_of (ivltake_any _ _ (by assumption) (by assumption) _))))
 refine wpQuiet_nil (fun w2 hbw2 => ?_)
 have f00:=RowKit.Below.cells hbw2 (b:=w.heap.size) (o:=0) (v := .float .f64 (a)) (by first|assumption|simp [go_sem])
 have g00:=RowKit.Below.froz hbw2 (b:=w.heap.size) (o:=0) (v := .float .f64 (a)) (by first|assumption|simp [go_sem]) (by first|assumption|simp [go_sem])
 have f01:=RowKit.Below.cells hbw2 (b:=w.heap.size) (o:=1) (v := .float .f64 (b)) (by first|assumption|simp [go_sem])
 have g01:=RowKit.Below.froz hbw2 (b:=w.heap.size) (o:=1) (v := .float .f64 (b)) (by first|assumption|simp [go_sem]) (by first|assumption|simp [go_sem])
 have f10:=RowKit.Below.cells hbw2 (b:=w.heap.size+1) (o:=0) (v := .float .f64 (c)) (by first|assumption|simp [go_sem])
 have g10:=RowKit.Below.froz hbw2 (b:=w.heap.size+1) (o:=0) (v := .float .f64 (c)) (by first|assumption|simp [go_sem]) (by first|assumption|simp [go_sem])
 have f11:=RowKit.Below.cells hbw2 (b:=w.heap.size+1) (o:=1) (v := .float .f64 (d)) (by first|assumption|simp [go_sem])
 have g11:=RowKit.Below.froz hbw2 (b:=w.heap.size+1) (o:=1) (v := .float .f64 (d)) (by first|assumption|simp [go_sem]) (by first|assumption|simp [go_sem])
 have f20:=RowKit.Below.cells hbw2 (b:=w.heap.size+2) (o:=0) (v := .float .f64 (0)) (by first|assumption|simp [go_sem])
 have g20:=RowKit.Below.froz hbw2 (b:=w.heap.size+2) (o:=0) (v := .float .f64 (0)) (by first|assumption|simp [go_sem]) (by first|assumption|simp [go_sem])
 have f21:=RowKit.Below.cells hbw2 (b:=w.heap.size+2) (o:=1) (v := .float .f64 (0)) (by first|assumption|simp [go_sem])
 have g21:=RowKit.Below.froz hbw2 (b:=w.heap.size+2) (o:=1) (v := .float .f64 (0)) (by first|assumption|simp [go_sem]) (by first|assumption|simp [go_sem])
 have B2:=below_alloc (below_alloc (below_alloc (hbw2)))
 have z2:w.heap.size+2<w2.heap.size:=Nat.lt_of_lt_of_le (by simp only [World.size_alloc];omega) hbw2.size
 clear k00 k01 k10 k11 hbw2
 iterate 6 go_step
 obtain ⟨w3,hw3⟩ : ∃ w3,w3=((((w2.setCell ⟨w.heap.size,0,none⟩ (.float .f64 (ofKey (tkLo a b)))).setCell ⟨w.heap.size,1,none⟩ (.float .f64 (ofKey (tkHi a b)))).setCell ⟨w.heap.size+1,0,none⟩ (.float .f64 (ofKey (tkLo c d)))).setCell ⟨w.heap.size+1,1,none⟩ (.float .f64 (ofKey (tkHi c d)))):=⟨_,rfl⟩
 rw [←hw3]
 have F00:w3.cell? ⟨w.heap.size,0,none⟩=some (.float .f64 (ofKey (tkLo a b))):=by rw [hw3];simp [go_sem,f00,f01,f10,f11,f20,f21]
 have H00:w3.frozen? ⟨w.heap.size,0,none⟩=false:=by rw [hw3];simp [go_sem,g00,g01,g10,g11,g20,g21]
 have F01:w3.cell? ⟨w.heap.size,1,none⟩=some (.float .f64 (ofKey (tkHi a b))):=by rw [hw3];simp [go_sem,f00,f01,f10,f11,f20,f21]
 have H01:w3.frozen? ⟨w.heap.size,1,none⟩=false:=by rw [hw3];simp [go_sem,g00,g01,g10,g11,g20,g21]
 have F10:w3.cell? ⟨w.heap.size+1,0,none⟩=some (.float .f64 (ofKey (tkLo c d))):=by rw [hw3];simp [go_sem,f00,f01,f10,f11,f20,f21]
 have H10:w3.frozen? ⟨w.heap.size+1,0,none⟩=false:=by rw [hw3];simp [go_sem,g00,g01,g10,g11,g20,g21]
 have F11:w3.cell? ⟨w.heap.size+1,1,none⟩=some (.float .f64 (ofKey (tkHi c d))):=by rw [hw3];simp [go_sem,f00,f01,f10,f11,f20,f21]
 have H11:w3.frozen? ⟨w.heap.size+1,1,none⟩=false:=by rw [hw3];simp [go_sem,g00,g01,g10,g11,g20,g21]
 have F20:w3.cell? ⟨w.heap.size+2,0,none⟩=some (.float .f64 0):=by rw [hw3];simp [go_sem,f00,f01,f10,f11,f20,f21]
 have H20:w3.frozen? ⟨w.heap.size+2,0,none⟩=false:=by rw [hw3];simp [go_sem,g00,g01,g10,g11,g20,g21]
 have F21:w3.cell? ⟨w.heap.size+2,1,none⟩=some (.float .f64 0):=by rw [hw3];simp [go_sem,f00,f01,f10,f11,f20,f21]
 have H21:w3.frozen? ⟨w.heap.size+2,1,none⟩=false:=by rw [hw3];simp [go_sem,g00,g01,g10,g11,g20,g21]
 have B3:Below w.heap.size w w3:=by rw [hw3];go_grown
 have z3:w.heap.size+2<w3.heap.size:=by rw [hw3];simpa only [World.size_setCell] using z2
 clear hw3 f00 f01 f10 f11 f20 f21 g00 g01 g10 g11 g20 g21 B2 z2
 go_wp2
 refine bodyPost_ret (v := .agg #[.float .f64 (ofKey (min (tkLo a b) (tkLo c d))),.float .f64 (ofKey (max (tkHi a b) (tkHi c d)))]) (by simp [results,Tryz.results62,go_sem,F20,F21]) rfl ⟨rfl,?_⟩
 go_grown
set_option maxHeartbeats 1000000 in
theorem ivlmeet_any (a b c d:Nat) (ha:Wd a) (hb:Wd b) (hc:Wd c) (hd:Wd d) (w:World) :
  Calls Tryz.prog 60 #[.agg #[.float .f64 (a),.float .f64 (b)],.agg #[.float .f64 (c),.float .f64 (d)]] w fun e w'=>e = .returned (.agg #[.float .f64 (ofKey (meetLo (tkLo a b) (tkHi a b) (tkLo c d) (tkHi c d))),.float .f64 (ofKey (meetHi (tkLo a b) (tkHi a b) (tkLo c d) (tkHi c d)))])∧Below w.heap.size w w':=by
 have rA:=(tk_iv a b).1
 have rB:=(tk_iv a b).2.1
 have rC:=(tk_iv c d).1
 have rD:=(tk_iv c d).2.1
 by_cases hl:min (tkHi a b) (tkHi c d)<max (tkLo a b) (tkLo c d)
 ·rw [show meetLo (tkLo a b) (tkHi a b) (tkLo c d) (tkHi c d)=PI by unfold meetLo;rw [if_pos hl],show meetHi (tkLo a b) (tkHi a b) (tkLo c d) (tkHi c d) = -PI by unfold meetHi;rw [if_pos hl]]
  go_enter Tryz.func60,Tryz.ntmps60
  go_wp2
  have k00:=cell_regrown (w:=(World.alloc (World.alloc (World.alloc w (.cells #[.float .f64 (a),.float .f64 (b)] 39)) (.cells #[.float .f64 (c),.float .f64 (d)] 39)) (.cells #[.float .f64 (0),.float .f64 (0)] 39))) (a:=⟨w.heap.size,0,none⟩) (v := .float .f64 (a)) (by simp [go_sem])
  have k01:=cell_regrown (w:=(World.alloc (World.alloc (World.alloc w (.cells #[.float .f64 (a),.float .f64 (b)] 39)) (.cells #[.float .f64 (c),.float .f64 (d)] 39)) (.cells #[.float .f64 (0),.float .f64 (0)] 39))) (a:=⟨w.heap.size,1,none⟩) (v := .float .f64 (b)) (by simp [go_sem])
  have k10:=cell_regrown (w:=(World.alloc (World.alloc (World.alloc w (.cells #[.float .f64 (a),.float .f64 (b)] 39)) (.cells #[.float .f64 (c),.float .f64 (d)] 39)) (.cells #[.float .f64 (0),.float .f64 (0)] 39))) (a:=⟨w.heap.size+1,0,none⟩) (v := .float .f64 (c)) (by simp [go_sem])
  have k11:=cell_regrown (w:=(World.alloc (World.alloc (World.alloc w (.cells #[.float .f64 (a),.float .f64 (b)] 39)) (.cells #[.float .f64 (c),.float .f64 (d)] 39)) (.cells #[.float .f64 (0),.float .f64 (0)] 39))) (a:=⟨w.heap.size+1,1,none⟩) (v := .float .f64 (d)) (by simp [go_sem])
  refine wp_region_below_tail 4 (by kernel_rfl) (by kernel_rfl) ?_
  simp only [List.take_succ_cons,List.take_zero,List.drop_succ_cons,List.drop_zero]
  repeat (go_big_quiet_step ((exact Calls.regrown_of (ivltake_any _ _ (by assumption) (by assumption) _))))
  refine wpQuiet_nil (fun w2 hbw2 => ?_)
  have f00:=RowKit.Below.cells hbw2 (b:=w.heap.size) (o:=0) (v := .float .f64 (a)) (by first|assumption|simp [go_sem])
  have g00:=RowKit.Below.froz hbw2 (b:=w.heap.size) (o:=0) (v := .float .f64 (a)) (by first|assumption|simp [go_sem]) (by first|assumption|simp [go_sem])
  have f01:=RowKit.Below.cells hbw2 (b:=w.heap.size) (o:=1) (v := .float .f64 (b)) (by first|assumption|simp [go_sem])
  have g01:=RowKit.Below.froz hbw2 (b:=w.heap.size) (o:=1) (v := .float .f64 (b)) (by first|assumption|simp [go_sem]) (by first|assumption|simp [go_sem])
  have f10:=RowKit.Below.cells hbw2 (b:=w.heap.size+1) (o:=0) (v := .float .f64 (c)) (by first|assumption|simp [go_sem])
  have g10:=RowKit.Below.froz hbw2 (b:=w.heap.size+1) (o:=0) (v := .float .f64 (c)) (by first|assumption|simp [go_sem]) (by first|assumption|simp [go_sem])
  have f11:=RowKit.Below.cells hbw2 (b:=w.heap.size+1) (o:=1) (v := .float .f64 (d)) (by first|assumption|simp [go_sem])
  have g11:=RowKit.Below.froz hbw2 (b:=w.heap.size+1) (o:=1) (v := .float .f64 (d)) (by first|assumption|simp [go_sem]) (by first|assumption|simp [go_sem])
  have f20:=RowKit.Below.cells hbw2 (b:=w.heap.size+2) (o:=0) (v := .float .f64 (0)) (by first|assumption|simp [go_sem])
  have g20:=RowKit.Below.froz hbw2 (b:=w.heap.size+2) (o:=0) (v := .float .f64 (0)) (by first|assumption|simp [go_sem]) (by first|assumption|simp [go_sem])
  have f21:=RowKit.Below.cells hbw2 (b:=w.heap.size+2) (o:=1) (v := .float .f64 (0)) (by first|assumption|simp [go_sem])
  have g21:=RowKit.Below.froz hbw2 (b:=w.heap.size+2) (o:=1) (v := .float .f64 (0)) (by first|assumption|simp [go_sem]) (by first|assumption|simp [go_sem])
  have B2:=below_alloc (below_alloc (below_alloc (hbw2)))
  have z2:w.heap.size+2<w2.heap.size:=Nat.lt_of_lt_of_le (by simp only [World.size_alloc];omega) hbw2.size
  clear k00 k01 k10 k11 hbw2
  iterate 6 go_step
  obtain ⟨w3,hw3⟩ : ∃ w3,w3=((((w2.setCell ⟨w.heap.size,0,none⟩ (.float .f64 (ofKey (tkLo a b)))).setCell ⟨w.heap.size,1,none⟩ (.float .f64 (ofKey (tkHi a b)))).setCell ⟨w.heap.size+1,0,none⟩ (.float .f64 (ofKey (tkLo c d)))).setCell ⟨w.heap.size+1,1,none⟩ (.float .f64 (ofKey (tkHi c d)))):=⟨_,rfl⟩
  rw [←hw3]
  have F00:w3.cell? ⟨w.heap.size,0,none⟩=some (.float .f64 (ofKey (tkLo a b))):=by rw [hw3];simp [go_sem,f00,f01,f10,f11,f20,f21]
  have H00:w3.frozen? ⟨w.heap.size,0,none⟩=false:=by rw [hw3];simp [go_sem,g00,g01,g10,g11,g20,g21]
  have F01:w3.cell? ⟨w.heap.size,1,none⟩=some (.float .f64 (ofKey (tkHi a b))):=by rw [hw3];simp [go_sem,f00,f01,f10,f11,f20,f21]
  have H01:w3.frozen? ⟨w.heap.size,1,none⟩=false:=by rw [hw3];simp [go_sem,g00,g01,g10,g11,g20,g21]
  have F10:w3.cell? ⟨w.heap.size+1,0,none⟩=some (.float .f64 (ofKey (tkLo c d))):=by rw [hw3];simp [go_sem,f00,f01,f10,f11,f20,f21]
  have H10:w3.frozen? ⟨w.heap.size+1,0,none⟩=false:=by rw [hw3];simp [go_sem,g00,g01,g10,g11,g20,g21]
  have F11:w3.cell? ⟨w.heap.size+1,1,none⟩=some (.float .f64 (ofKey (tkHi c d))):=by rw [hw3];simp [go_sem,f00,f01,f10,f11,f20,f21]
  have H11:w3.frozen? ⟨w.heap.size+1,1,none⟩=false:=by rw [hw3];simp [go_sem,g00,g01,g10,g11,g20,g21]
  have F20:w3.cell? ⟨w.heap.size+2,0,none⟩=some (.float .f64 0):=by rw [hw3];simp [go_sem,f00,f01,f10,f11,f20,f21]
  have H20:w3.frozen? ⟨w.heap.size+2,0,none⟩=false:=by rw [hw3];simp [go_sem,g00,g01,g10,g11,g20,g21]
  have F21:w3.cell? ⟨w.heap.size+2,1,none⟩=some (.float .f64 0):=by rw [hw3];simp [go_sem,f00,f01,f10,f11,f20,f21]
  have H21:w3.frozen? ⟨w.heap.size+2,1,none⟩=false:=by rw [hw3];simp [go_sem,g00,g01,g10,g11,g20,g21]
  have B3:Below w.heap.size w w3:=by rw [hw3];go_grown
  have z3:w.heap.size+2<w3.heap.size:=by rw [hw3];simpa only [World.size_setCell] using z2
  clear hw3 f00 f01 f10 f11 f20 f21 g00 g01 g10 g11 g20 g21 B2 z2
  have rM:=rg_max rA rC
  have rm:=rg_min rB rD
  go_wp2_with (go_at_call 70;refine (ivlempty_any _).mono ?_;rintro e w4 ⟨rfl,hbw4⟩;have f20:=RowKit.Below.cells hbw4 (b:=w.heap.size+2) (o:=0) (v := .float .f64 0) (by simp [go_sem,F20,z3]);have f21:=RowKit.Below.cells hbw4 (b:=w.heap.size+2) (o:=1) (v := .float .f64 0) (by simp [go_sem,F21,z3]);have g20:=RowKit.Below.froz hbw4 (b:=w.heap.size+2) (o:=0) (v := .float .f64 0) (by simp [go_sem,F20,z3]) (by simp [go_sem,H20,z3]);have g21:=RowKit.Below.froz hbw4 (b:=w.heap.size+2) (o:=1) (v := .float .f64 0) (by simp [go_sem,F21,z3]) (by simp [go_sem,H21,z3]))
  have B4:=below_step B3 B3.size (below_alloc hbw4)
  refine bodyPost_ret (v := .agg #[.float .f64 (ofKey (PI)),.float .f64 (ofKey (-PI))]) (by simp [results,Tryz.results60,go_sem,f20,f21]) rfl ⟨rfl,?_⟩
  go_grown
 ·rw [show meetLo (tkLo a b) (tkHi a b) (tkLo c d) (tkHi c d)=max (tkLo a b) (tkLo c d) by unfold meetLo;rw [if_neg hl],show meetHi (tkLo a b) (tkHi a b) (tkLo c d) (tkHi c d)=min (tkHi a b) (tkHi c d) by unfold meetHi;rw [if_neg hl]]
  go_enter Tryz.func60,Tryz.ntmps60
  go_wp2
  have k00:=cell_regrown (w:=(World.alloc (World.alloc (World.alloc w (.cells #[.float .f64 (a),.float .f64 (b)] 39)) (.cells #[.float .f64 (c),.float .f64 (d)] 39)) (.cells #[.float .f64 (0),.float .f64 (0)] 39))) (a:=⟨w.heap.size,0,none⟩) (v := .float .f64 (a)) (by simp [go_sem])
  have k01:=cell_regrown (w:=(World.alloc (World.alloc (World.alloc w (.cells #[.float .f64 (a),.float .f64 (b)] 39)) (.cells #[.float .f64 (c),.float .f64 (d)] 39)) (.cells #[.float .f64 (0),.float .f64 (0)] 39))) (a:=⟨w.heap.size,1,none⟩) (v := .float .f64 (b)) (by simp [go_sem])
  have k10:=cell_regrown (w:=(World.alloc (World.alloc (World.alloc w (.cells #[.float .f64 (a),.float .f64 (b)] 39)) (.cells #[.float .f64 (c),.float .f64 (d)] 39)) (.cells #[.float .f64 (0),.float .f64 (0)] 39))) (a:=⟨w.heap.size+1,0,none⟩) (v := .float .f64 (c)) (by simp [go_sem])
  have k11:=cell_regrown (w:=(World.alloc (World.alloc (World.alloc w (.cells #[.float .f64 (a),.float .f64 (b)] 39)) (.cells #[.float .f64 (c),.float .f64 (d)] 39)) (.cells #[.float .f64 (0),.float .f64 (0)] 39))) (a:=⟨w.heap.size+1,1,none⟩) (v := .float .f64 (d)) (by simp [go_sem])
  refine wp_region_below_tail 4 (by kernel_rfl) (by kernel_rfl) ?_
  simp only [List.take_succ_cons,List.take_zero,List.drop_succ_cons,List.drop_zero]
  repeat (go_big_quiet_step ((exact Calls.regrown_of (ivltake_any _ _ (by assumption) (by assumption) _))))
  refine wpQuiet_nil (fun w2 hbw2 => ?_)
  have f00:=RowKit.Below.cells hbw2 (b:=w.heap.size) (o:=0) (v := .float .f64 (a)) (by first|assumption|simp [go_sem])
  have g00:=RowKit.Below.froz hbw2 (b:=w.heap.size) (o:=0) (v := .float .f64 (a)) (by first|assumption|simp [go_sem]) (by first|assumption|simp [go_sem])
  have f01:=RowKit.Below.cells hbw2 (b:=w.heap.size) (o:=1) (v := .float .f64 (b)) (by first|assumption|simp [go_sem])
  have g01:=RowKit.Below.froz hbw2 (b:=w.heap.size) (o:=1) (v := .float .f64 (b)) (by first|assumption|simp [go_sem]) (by first|assumption|simp [go_sem])
  have f10:=RowKit.Below.cells hbw2 (b:=w.heap.size+1) (o:=0) (v := .float .f64 (c)) (by first|assumption|simp [go_sem])
  have g10:=RowKit.Below.froz hbw2 (b:=w.heap.size+1) (o:=0) (v := .float .f64 (c)) (by first|assumption|simp [go_sem]) (by first|assumption|simp [go_sem])
  have f11:=RowKit.Below.cells hbw2 (b:=w.heap.size+1) (o:=1) (v := .float .f64 (d)) (by first|assumption|simp [go_sem])
  have g11:=RowKit.Below.froz hbw2 (b:=w.heap.size+1) (o:=1) (v := .float .f64 (d)) (by first|assumption|simp [go_sem]) (by first|assumption|simp [go_sem])
  have f20:=RowKit.Below.cells hbw2 (b:=w.heap.size+2) (o:=0) (v := .float .f64 (0)) (by first|assumption|simp [go_sem])
  have g20:=RowKit.Below.froz hbw2 (b:=w.heap.size+2) (o:=0) (v := .float .f64 (0)) (by first|assumption|simp [go_sem]) (by first|assumption|simp [go_sem])
  have f21:=RowKit.Below.cells hbw2 (b:=w.heap.size+2) (o:=1) (v := .float .f64 (0)) (by first|assumption|simp [go_sem])
  have g21:=RowKit.Below.froz hbw2 (b:=w.heap.size+2) (o:=1) (v := .float .f64 (0)) (by first|assumption|simp [go_sem]) (by first|assumption|simp [go_sem])
  have B2:=below_alloc (below_alloc (below_alloc (hbw2)))
  have z2:w.heap.size+2<w2.heap.size:=Nat.lt_of_lt_of_le (by simp only [World.size_alloc];omega) hbw2.size
  clear k00 k01 k10 k11 hbw2
  iterate 6 go_step
  obtain ⟨w3,hw3⟩ : ∃ w3,w3=((((w2.setCell ⟨w.heap.size,0,none⟩ (.float .f64 (ofKey (tkLo a b)))).setCell ⟨w.heap.size,1,none⟩ (.float .f64 (ofKey (tkHi a b)))).setCell ⟨w.heap.size+1,0,none⟩ (.float .f64 (ofKey (tkLo c d)))).setCell ⟨w.heap.size+1,1,none⟩ (.float .f64 (ofKey (tkHi c d)))):=⟨_,rfl⟩
  rw [←hw3]
  have F00:w3.cell? ⟨w.heap.size,0,none⟩=some (.float .f64 (ofKey (tkLo a b))):=by rw [hw3];simp [go_sem,f00,f01,f10,f11,f20,f21]
  have H00:w3.frozen? ⟨w.heap.size,0,none⟩=false:=by rw [hw3];simp [go_sem,g00,g01,g10,g11,g20,g21]
  have F01:w3.cell? ⟨w.heap.size,1,none⟩=some (.float .f64 (ofKey (tkHi a b))):=by rw [hw3];simp [go_sem,f00,f01,f10,f11,f20,f21]
  have H01:w3.frozen? ⟨w.heap.size,1,none⟩=false:=by rw [hw3];simp [go_sem,g00,g01,g10,g11,g20,g21]
  have F10:w3.cell? ⟨w.heap.size+1,0,none⟩=some (.float .f64 (ofKey (tkLo c d))):=by rw [hw3];simp [go_sem,f00,f01,f10,f11,f20,f21]
  have H10:w3.frozen? ⟨w.heap.size+1,0,none⟩=false:=by rw [hw3];simp [go_sem,g00,g01,g10,g11,g20,g21]
  have F11:w3.cell? ⟨w.heap.size+1,1,none⟩=some (.float .f64 (ofKey (tkHi c d))):=by rw [hw3];simp [go_sem,f00,f01,f10,f11,f20,f21]
  have H11:w3.frozen? ⟨w.heap.size+1,1,none⟩=false:=by rw [hw3];simp [go_sem,g00,g01,g10,g11,g20,g21]
  have F20:w3.cell? ⟨w.heap.size+2,0,none⟩=some (.float .f64 0):=by rw [hw3];simp [go_sem,f00,f01,f10,f11,f20,f21]
  have H20:w3.frozen? ⟨w.heap.size+2,0,none⟩=false:=by rw [hw3];simp [go_sem,g00,g01,g10,g11,g20,g21]
  have F21:w3.cell? ⟨w.heap.size+2,1,none⟩=some (.float .f64 0):=by rw [hw3];simp [go_sem,f00,f01,f10,f11,f20,f21]
  have H21:w3.frozen? ⟨w.heap.size+2,1,none⟩=false:=by rw [hw3];simp [go_sem,g00,g01,g10,g11,g20,g21]
  have B3:Below w.heap.size w w3:=by rw [hw3];go_grown
  have z3:w.heap.size+2<w3.heap.size:=by rw [hw3];simpa only [World.size_setCell] using z2
  clear hw3 f00 f01 f10 f11 f20 f21 g00 g01 g10 g11 g20 g21 B2 z2
  have rM:=rg_max rA rC
  have rm:=rg_min rB rD
  go_wp2
  refine bodyPost_ret (v := .agg #[.float .f64 (ofKey (max (tkLo a b) (tkLo c d))),.float .f64 (ofKey (min (tkHi a b) (tkHi c d)))]) (by simp [results,Tryz.results60,go_sem,F20,F21,z3]) rfl ⟨rfl,?_⟩
  go_grown
theorem least_k (a b:Int) (ha:Rg a) (hb:Rg b) (w:World) :
  Calls Tryz.prog 61 #[.float .f64 (ofKey (a)),.float .f64 (ofKey (b))] w fun e w'=>e = .returned (.float .f64 (ofKey (min a b)))∧w=w':=by
 by_cases h:b<a
 ·rw [Int.min_eq_right (by omega)]
  go_enter Tryz.func61,Tryz.ntmps61
  go_wp2
  go_ret
  exact ⟨rfl,rfl⟩
 ·rw [Int.min_eq_left (by omega)]
  go_enter Tryz.func61,Tryz.ntmps61
  go_wp2
  go_ret
  exact ⟨rfl,rfl⟩
theorem least_nk (a b:Int) (ha:Rg a) (hb:Rg b) (w:World) :
  Calls Tryz.prog 61 #[.float .f64 (Op.negFloat .f64 (ofKey a)),.float .f64 (Op.negFloat .f64 (ofKey b))] w fun e w'=>e = .returned (.float .f64 (Op.negFloat .f64 (ofKey (max a b))))∧w=w':=by
 by_cases h:a<b
 ·rw [Int.max_eq_right (by omega)]
  have h' : -b < -a:=by omega
  go_enter Tryz.func61,Tryz.ntmps61
  go_wp2
  go_ret
  exact ⟨rfl,rfl⟩
 ·rw [Int.max_eq_left (by omega)]
  have h' : ¬ -b < -a:=by omega
  go_enter Tryz.func61,Tryz.ntmps61
  go_wp2
  go_ret
  exact ⟨rfl,rfl⟩
set_option maxHeartbeats 1000000 in
theorem refmeet_any (a b c d:Nat) (ha:Wd a) (hb:Wd b) (hc:Wd c) (hd:Wd d) (w:World) :
  Calls Tryz.prog 27 #[.agg #[.float .f64 (a),.float .f64 (b)],.agg #[.float .f64 (c),.float .f64 (d)]] w fun e w'=>e = .returned (.agg #[.float .f64 (ofKey (meetLo (tkLo a b) (tkHi a b) (tkLo c d) (tkHi c d))),.float .f64 (ofKey (meetHi (tkLo a b) (tkHi a b) (tkLo c d) (tkHi c d)))])∧Below w.heap.size w w':=by
 have rA:=(tk_iv a b).1
 have rB:=(tk_iv a b).2.1
 have rC:=(tk_iv c d).1
 have rD:=(tk_iv c d).2.1
 have rM:=rg_max rA rC
 have rm:=rg_min rB rD
 by_cases hl:min (tkHi a b) (tkHi c d)<max (tkLo a b) (tkLo c d)
 ·rw [show meetLo (tkLo a b) (tkHi a b) (tkLo c d) (tkHi c d)=PI by unfold meetLo;rw [if_pos hl],show meetHi (tkLo a b) (tkHi a b) (tkLo c d) (tkHi c d) = -PI by unfold meetHi;rw [if_pos hl]]
  go_enter Tryz.func27,Tryz.ntmps27
  go_wp2_with fail
  refine (reftaken_any _ _ ha hb _).mono ?_
  rintro e w1 ⟨rfl,hbw1⟩
  have f00x:=RowKit.Below.cells hbw1 (b:=w.heap.size) (o:=0) (v := .float .f64 (a)) (by simp [go_sem])
  have g00x:=RowKit.Below.froz hbw1 (b:=w.heap.size) (o:=0) (v := .float .f64 (a)) (by simp [go_sem]) (by simp [go_sem])
  have f01x:=RowKit.Below.cells hbw1 (b:=w.heap.size) (o:=1) (v := .float .f64 (b)) (by simp [go_sem])
  have g01x:=RowKit.Below.froz hbw1 (b:=w.heap.size) (o:=1) (v := .float .f64 (b)) (by simp [go_sem]) (by simp [go_sem])
  have f10x:=RowKit.Below.cells hbw1 (b:=w.heap.size+1) (o:=0) (v := .float .f64 (c)) (by simp [go_sem])
  have g10x:=RowKit.Below.froz hbw1 (b:=w.heap.size+1) (o:=0) (v := .float .f64 (c)) (by simp [go_sem]) (by simp [go_sem])
  have f11x:=RowKit.Below.cells hbw1 (b:=w.heap.size+1) (o:=1) (v := .float .f64 (d)) (by simp [go_sem])
  have g11x:=RowKit.Below.froz hbw1 (b:=w.heap.size+1) (o:=1) (v := .float .f64 (d)) (by simp [go_sem]) (by simp [go_sem])
  have f20x:=RowKit.Below.cells hbw1 (b:=w.heap.size+2) (o:=0) (v := .float .f64 (0)) (by simp [go_sem])
  have g20x:=RowKit.Below.froz hbw1 (b:=w.heap.size+2) (o:=0) (v := .float .f64 (0)) (by simp [go_sem]) (by simp [go_sem])
  have f21x:=RowKit.Below.cells hbw1 (b:=w.heap.size+2) (o:=1) (v := .float .f64 (0)) (by simp [go_sem])
  have g21x:=RowKit.Below.froz hbw1 (b:=w.heap.size+2) (o:=1) (v := .float .f64 (0)) (by simp [go_sem]) (by simp [go_sem])
  have B1:=below_alloc (below_alloc (below_alloc hbw1))
  have z1:w.heap.size+2<w1.heap.size:=Nat.lt_of_lt_of_le (by simp only [World.size_alloc];omega) hbw1.size
  clear hbw1
  go_wp2_with fail
  refine (reftaken_any _ _ hc hd _).mono ?_
  rintro e w2 ⟨rfl,hbw2⟩
  have f00:=RowKit.Below.cells hbw2 (b:=w.heap.size) (o:=0) (v := .float .f64 (ofKey (tkLo a b))) (by simp [go_sem,f00x,g00x,f01x,g01x,f10x,g10x,f11x,g11x,f20x,g20x,f21x,g21x])
  have g00:=RowKit.Below.froz hbw2 (b:=w.heap.size) (o:=0) (v := .float .f64 (ofKey (tkLo a b))) (by simp [go_sem,f00x,g00x,f01x,g01x,f10x,g10x,f11x,g11x,f20x,g20x,f21x,g21x]) (by simp [go_sem,f00x,g00x,f01x,g01x,f10x,g10x,f11x,g11x,f20x,g20x,f21x,g21x])
  have f01:=RowKit.Below.cells hbw2 (b:=w.heap.size) (o:=1) (v := .float .f64 (ofKey (tkHi a b))) (by simp [go_sem,f00x,g00x,f01x,g01x,f10x,g10x,f11x,g11x,f20x,g20x,f21x,g21x])
  have g01:=RowKit.Below.froz hbw2 (b:=w.heap.size) (o:=1) (v := .float .f64 (ofKey (tkHi a b))) (by simp [go_sem,f00x,g00x,f01x,g01x,f10x,g10x,f11x,g11x,f20x,g20x,f21x,g21x]) (by simp [go_sem,f00x,g00x,f01x,g01x,f10x,g10x,f11x,g11x,f20x,g20x,f21x,g21x])
  have f10:=RowKit.Below.cells hbw2 (b:=w.heap.size+1) (o:=0) (v := .float .f64 (c)) (by simp [go_sem,f00x,g00x,f01x,g01x,f10x,g10x,f11x,g11x,f20x,g20x,f21x,g21x])
  have g10:=RowKit.Below.froz hbw2 (b:=w.heap.size+1) (o:=0) (v := .float .f64 (c)) (by simp [go_sem,f00x,g00x,f01x,g01x,f10x,g10x,f11x,g11x,f20x,g20x,f21x,g21x]) (by simp [go_sem,f00x,g00x,f01x,g01x,f10x,g10x,f11x,g11x,f20x,g20x,f21x,g21x])
  have f11:=RowKit.Below.cells hbw2 (b:=w.heap.size+1) (o:=1) (v := .float .f64 (d)) (by simp [go_sem,f00x,g00x,f01x,g01x,f10x,g10x,f11x,g11x,f20x,g20x,f21x,g21x])
  have g11:=RowKit.Below.froz hbw2 (b:=w.heap.size+1) (o:=1) (v := .float .f64 (d)) (by simp [go_sem,f00x,g00x,f01x,g01x,f10x,g10x,f11x,g11x,f20x,g20x,f21x,g21x]) (by simp [go_sem,f00x,g00x,f01x,g01x,f10x,g10x,f11x,g11x,f20x,g20x,f21x,g21x])
  have f20:=RowKit.Below.cells hbw2 (b:=w.heap.size+2) (o:=0) (v := .float .f64 (0)) (by simp [go_sem,f00x,g00x,f01x,g01x,f10x,g10x,f11x,g11x,f20x,g20x,f21x,g21x])
  have g20:=RowKit.Below.froz hbw2 (b:=w.heap.size+2) (o:=0) (v := .float .f64 (0)) (by simp [go_sem,f00x,g00x,f01x,g01x,f10x,g10x,f11x,g11x,f20x,g20x,f21x,g21x]) (by simp [go_sem,f00x,g00x,f01x,g01x,f10x,g10x,f11x,g11x,f20x,g20x,f21x,g21x])
  have f21:=RowKit.Below.cells hbw2 (b:=w.heap.size+2) (o:=1) (v := .float .f64 (0)) (by simp [go_sem,f00x,g00x,f01x,g01x,f10x,g10x,f11x,g11x,f20x,g20x,f21x,g21x])
  have g21:=RowKit.Below.froz hbw2 (b:=w.heap.size+2) (o:=1) (v := .float .f64 (0)) (by simp [go_sem,f00x,g00x,f01x,g01x,f10x,g10x,f11x,g11x,f20x,g20x,f21x,g21x]) (by simp [go_sem,f00x,g00x,f01x,g01x,f10x,g10x,f11x,g11x,f20x,g20x,f21x,g21x])
  have B2:Below w.heap.size w w2:=below_step (w1:=(w1.setCell ⟨w.heap.size,0,none⟩ (.float .f64 (ofKey (tkLo a b)))).setCell ⟨w.heap.size,1,none⟩ (.float .f64 (ofKey (tkHi a b)))) (by go_grown) (by simp only [World.size_setCell];omega) hbw2
  have z2:w.heap.size+2<w2.heap.size:=Nat.lt_of_lt_of_le (by simp only [World.size_setCell];omega) hbw2.size
  clear hbw2 B1 z1 f00x g00x f01x g01x f10x g10x f11x g11x f20x g20x f21x g21x
  dsimp only
  iterate 4 go_step
  obtain ⟨w3,hw3⟩ : ∃ w3,w3=((w2.setCell ⟨w.heap.size+1,0,none⟩ (.float .f64 (ofKey (tkLo c d)))).setCell ⟨w.heap.size+1,1,none⟩ (.float .f64 (ofKey (tkHi c d)))):=⟨_,rfl⟩
  rw [←hw3]
  have F00:w3.cell? ⟨w.heap.size,0,none⟩=some (.float .f64 (ofKey (tkLo a b))):=by rw [hw3];simp [go_sem,f00,f01,f10,f11,f20,f21]
  have H00:w3.frozen? ⟨w.heap.size,0,none⟩=false:=by rw [hw3];simp [go_sem,g00,g01,g10,g11,g20,g21]
  have F01:w3.cell? ⟨w.heap.size,1,none⟩=some (.float .f64 (ofKey (tkHi a b))):=by rw [hw3];simp [go_sem,f00,f01,f10,f11,f20,f21]
  have H01:w3.frozen? ⟨w.heap.size,1,none⟩=false:=by rw [hw3];simp [go_sem,g00,g01,g10,g11,g20,g21]
  have F10:w3.cell? ⟨w.heap.size+1,0,none⟩=some (.float .f64 (ofKey (tkLo c d))):=by rw [hw3];simp [go_sem,f00,f01,f10,f11,f20,f21]
  have H10:w3.frozen? ⟨w.heap.size+1,0,none⟩=false:=by rw [hw3];simp [go_sem,g00,g01,g10,g11,g20,g21]
  have F11:w3.cell? ⟨w.heap.size+1,1,none⟩=some (.float .f64 (ofKey (tkHi c d))):=by rw [hw3];simp [go_sem,f00,f01,f10,f11,f20,f21]
  have H11:w3.frozen? ⟨w.heap.size+1,1,none⟩=false:=by rw [hw3];simp [go_sem,g00,g01,g10,g11,g20,g21]
  have F20:w3.cell? ⟨w.heap.size+2,0,none⟩=some (.float .f64 0):=by rw [hw3];simp [go_sem,f00,f01,f10,f11,f20,f21]
  have H20:w3.frozen? ⟨w.heap.size+2,0,none⟩=false:=by rw [hw3];simp [go_sem,g00,g01,g10,g11,g20,g21]
  have F21:w3.cell? ⟨w.heap.size+2,1,none⟩=some (.float .f64 0):=by rw [hw3];simp [go_sem,f00,f01,f10,f11,f20,f21]
  have H21:w3.frozen? ⟨w.heap.size+2,1,none⟩=false:=by rw [hw3];simp [go_sem,g00,g01,g10,g11,g20,g21]
  have B3:Below w.heap.size w w3:=by rw [hw3];go_grown
  have z3:w.heap.size+2<w3.heap.size:=by rw [hw3];simpa only [World.size_setCell] using z2
  clear hw3 f00 f01 f10 f11 f20 f21 g00 g01 g10 g11 g20 g21 B2 z2
  go_wp2
  go_region_held3 (fun w'=>w'.cell? ⟨w.heap.size,0,none⟩=some (.float .f64 (ofKey (tkLo a b)))∧w'.cell? ⟨w.heap.size,1,none⟩=some (.float .f64 (ofKey (tkHi a b)))∧w'.cell? ⟨w.heap.size+1,0,none⟩=some (.float .f64 (ofKey (tkLo c d)))∧w'.cell? ⟨w.heap.size+1,1,none⟩=some (.float .f64 (ofKey (tkHi c d)))) (go_keep) (first|(go_at_call 61;(first|(with_reducible refine (least_nk _ _ rA rC _).mono ?_)|(with_reducible refine (least_k _ _ rB rD _).mono ?_));rintro e w' ⟨rfl,rfl⟩))
  all_goals go_wp2_with (go_at_call 55;refine (refempty_any _).mono ?_;rintro e w5 ⟨rfl,hbw5⟩;have p20:=RowKit.Below.cells hbw5 (b:=w.heap.size+2) (o:=0) (v := .float .f64 0) (by simp [go_sem,F20,F21,H20,H21,z3]);have q20:=RowKit.Below.froz hbw5 (b:=w.heap.size+2) (o:=0) (v := .float .f64 0) (by simp [go_sem,F20,F21,H20,H21,z3]) (by simp [go_sem,F20,F21,H20,H21,z3]);have p21:=RowKit.Below.cells hbw5 (b:=w.heap.size+2) (o:=1) (v := .float .f64 0) (by simp [go_sem,F20,F21,H20,H21,z3]);have q21:=RowKit.Below.froz hbw5 (b:=w.heap.size+2) (o:=1) (v := .float .f64 0) (by simp [go_sem,F20,F21,H20,H21,z3]) (by simp [go_sem,F20,F21,H20,H21,z3]))
  all_goals have B5:=below_step B3 B3.size (below_alloc (below_drewn hbw5))
  all_goals refine bodyPost_ret (v := .agg #[.float .f64 (ofKey (PI)),.float .f64 (ofKey (-PI))]) (by simp [results,Tryz.results27,go_sem,p20,p21]) rfl ⟨rfl,?_⟩
  all_goals go_grown
 ·rw [show meetLo (tkLo a b) (tkHi a b) (tkLo c d) (tkHi c d)=max (tkLo a b) (tkLo c d) by unfold meetLo;rw [if_neg hl],show meetHi (tkLo a b) (tkHi a b) (tkLo c d) (tkHi c d)=min (tkHi a b) (tkHi c d) by unfold meetHi;rw [if_neg hl]]
  have hT:=reftaken_any _ _ (ofKey_lt rM) (ofKey_lt rm)
  rw [(tk_canon (meet_iv (tk_iv a b) (tk_iv c d) (Int.not_lt.1 hl))).1,(tk_canon (meet_iv (tk_iv a b) (tk_iv c d) (Int.not_lt.1 hl))).2] at hT
  have HT:=Lib.hid hT
  clear hT
  go_enter Tryz.func27,Tryz.ntmps27
  go_wp2_with fail
  refine (reftaken_any _ _ ha hb _).mono ?_
  rintro e w1 ⟨rfl,hbw1⟩
  have f00x:=RowKit.Below.cells hbw1 (b:=w.heap.size) (o:=0) (v := .float .f64 (a)) (by simp [go_sem])
  have g00x:=RowKit.Below.froz hbw1 (b:=w.heap.size) (o:=0) (v := .float .f64 (a)) (by simp [go_sem]) (by simp [go_sem])
  have f01x:=RowKit.Below.cells hbw1 (b:=w.heap.size) (o:=1) (v := .float .f64 (b)) (by simp [go_sem])
  have g01x:=RowKit.Below.froz hbw1 (b:=w.heap.size) (o:=1) (v := .float .f64 (b)) (by simp [go_sem]) (by simp [go_sem])
  have f10x:=RowKit.Below.cells hbw1 (b:=w.heap.size+1) (o:=0) (v := .float .f64 (c)) (by simp [go_sem])
  have g10x:=RowKit.Below.froz hbw1 (b:=w.heap.size+1) (o:=0) (v := .float .f64 (c)) (by simp [go_sem]) (by simp [go_sem])
  have f11x:=RowKit.Below.cells hbw1 (b:=w.heap.size+1) (o:=1) (v := .float .f64 (d)) (by simp [go_sem])
  have g11x:=RowKit.Below.froz hbw1 (b:=w.heap.size+1) (o:=1) (v := .float .f64 (d)) (by simp [go_sem]) (by simp [go_sem])
  have f20x:=RowKit.Below.cells hbw1 (b:=w.heap.size+2) (o:=0) (v := .float .f64 (0)) (by simp [go_sem])
  have g20x:=RowKit.Below.froz hbw1 (b:=w.heap.size+2) (o:=0) (v := .float .f64 (0)) (by simp [go_sem]) (by simp [go_sem])
  have f21x:=RowKit.Below.cells hbw1 (b:=w.heap.size+2) (o:=1) (v := .float .f64 (0)) (by simp [go_sem])
  have g21x:=RowKit.Below.froz hbw1 (b:=w.heap.size+2) (o:=1) (v := .float .f64 (0)) (by simp [go_sem]) (by simp [go_sem])
  have B1:=below_alloc (below_alloc (below_alloc hbw1))
  have z1:w.heap.size+2<w1.heap.size:=Nat.lt_of_lt_of_le (by simp only [World.size_alloc];omega) hbw1.size
  clear hbw1
  go_wp2_with fail
  refine (reftaken_any _ _ hc hd _).mono ?_
  rintro e w2 ⟨rfl,hbw2⟩
  have f00:=RowKit.Below.cells hbw2 (b:=w.heap.size) (o:=0) (v := .float .f64 (ofKey (tkLo a b))) (by simp [go_sem,f00x,g00x,f01x,g01x,f10x,g10x,f11x,g11x,f20x,g20x,f21x,g21x])
  have g00:=RowKit.Below.froz hbw2 (b:=w.heap.size) (o:=0) (v := .float .f64 (ofKey (tkLo a b))) (by simp [go_sem,f00x,g00x,f01x,g01x,f10x,g10x,f11x,g11x,f20x,g20x,f21x,g21x]) (by simp [go_sem,f00x,g00x,f01x,g01x,f10x,g10x,f11x,g11x,f20x,g20x,f21x,g21x])
  have f01:=RowKit.Below.cells hbw2 (b:=w.heap.size) (o:=1) (v := .float .f64 (ofKey (tkHi a b))) (by simp [go_sem,f00x,g00x,f01x,g01x,f10x,g10x,f11x,g11x,f20x,g20x,f21x,g21x])
  have g01:=RowKit.Below.froz hbw2 (b:=w.heap.size) (o:=1) (v := .float .f64 (ofKey (tkHi a b))) (by simp [go_sem,f00x,g00x,f01x,g01x,f10x,g10x,f11x,g11x,f20x,g20x,f21x,g21x]) (by simp [go_sem,f00x,g00x,f01x,g01x,f10x,g10x,f11x,g11x,f20x,g20x,f21x,g21x])
  have f10:=RowKit.Below.cells hbw2 (b:=w.heap.size+1) (o:=0) (v := .float .f64 (c)) (by simp [go_sem,f00x,g00x,f01x,g01x,f10x,g10x,f11x,g11x,f20x,g20x,f21x,g21x])
  have g10:=RowKit.Below.froz hbw2 (b:=w.heap.size+1) (o:=0) (v := .float .f64 (c)) (by simp [go_sem,f00x,g00x,f01x,g01x,f10x,g10x,f11x,g11x,f20x,g20x,f21x,g21x]) (by simp [go_sem,f00x,g00x,f01x,g01x,f10x,g10x,f11x,g11x,f20x,g20x,f21x,g21x])
  have f11:=RowKit.Below.cells hbw2 (b:=w.heap.size+1) (o:=1) (v := .float .f64 (d)) (by simp [go_sem,f00x,g00x,f01x,g01x,f10x,g10x,f11x,g11x,f20x,g20x,f21x,g21x])
  have g11:=RowKit.Below.froz hbw2 (b:=w.heap.size+1) (o:=1) (v := .float .f64 (d)) (by simp [go_sem,f00x,g00x,f01x,g01x,f10x,g10x,f11x,g11x,f20x,g20x,f21x,g21x]) (by simp [go_sem,f00x,g00x,f01x,g01x,f10x,g10x,f11x,g11x,f20x,g20x,f21x,g21x])
  have f20:=RowKit.Below.cells hbw2 (b:=w.heap.size+2) (o:=0) (v := .float .f64 (0)) (by simp [go_sem,f00x,g00x,f01x,g01x,f10x,g10x,f11x,g11x,f20x,g20x,f21x,g21x])
  have g20:=RowKit.Below.froz hbw2 (b:=w.heap.size+2) (o:=0) (v := .float .f64 (0)) (by simp [go_sem,f00x,g00x,f01x,g01x,f10x,g10x,f11x,g11x,f20x,g20x,f21x,g21x]) (by simp [go_sem,f00x,g00x,f01x,g01x,f10x,g10x,f11x,g11x,f20x,g20x,f21x,g21x])
  have f21:=RowKit.Below.cells hbw2 (b:=w.heap.size+2) (o:=1) (v := .float .f64 (0)) (by simp [go_sem,f00x,g00x,f01x,g01x,f10x,g10x,f11x,g11x,f20x,g20x,f21x,g21x])
  have g21:=RowKit.Below.froz hbw2 (b:=w.heap.size+2) (o:=1) (v := .float .f64 (0)) (by simp [go_sem,f00x,g00x,f01x,g01x,f10x,g10x,f11x,g11x,f20x,g20x,f21x,g21x]) (by simp [go_sem,f00x,g00x,f01x,g01x,f10x,g10x,f11x,g11x,f20x,g20x,f21x,g21x])
  have B2:Below w.heap.size w w2:=below_step (w1:=(w1.setCell ⟨w.heap.size,0,none⟩ (.float .f64 (ofKey (tkLo a b)))).setCell ⟨w.heap.size,1,none⟩ (.float .f64 (ofKey (tkHi a b)))) (by go_grown) (by simp only [World.size_setCell];omega) hbw2
  have z2:w.heap.size+2<w2.heap.size:=Nat.lt_of_lt_of_le (by simp only [World.size_setCell];omega) hbw2.size
  clear hbw2 B1 z1 f00x g00x f01x g01x f10x g10x f11x g11x f20x g20x f21x g21x
  dsimp only
  iterate 4 go_step
  obtain ⟨w3,hw3⟩ : ∃ w3,w3=((w2.setCell ⟨w.heap.size+1,0,none⟩ (.float .f64 (ofKey (tkLo c d)))).setCell ⟨w.heap.size+1,1,none⟩ (.float .f64 (ofKey (tkHi c d)))):=⟨_,rfl⟩
  rw [←hw3]
  have F00:w3.cell? ⟨w.heap.size,0,none⟩=some (.float .f64 (ofKey (tkLo a b))):=by rw [hw3];simp [go_sem,f00,f01,f10,f11,f20,f21]
  have H00:w3.frozen? ⟨w.heap.size,0,none⟩=false:=by rw [hw3];simp [go_sem,g00,g01,g10,g11,g20,g21]
  have F01:w3.cell? ⟨w.heap.size,1,none⟩=some (.float .f64 (ofKey (tkHi a b))):=by rw [hw3];simp [go_sem,f00,f01,f10,f11,f20,f21]
  have H01:w3.frozen? ⟨w.heap.size,1,none⟩=false:=by rw [hw3];simp [go_sem,g00,g01,g10,g11,g20,g21]
  have F10:w3.cell? ⟨w.heap.size+1,0,none⟩=some (.float .f64 (ofKey (tkLo c d))):=by rw [hw3];simp [go_sem,f00,f01,f10,f11,f20,f21]
  have H10:w3.frozen? ⟨w.heap.size+1,0,none⟩=false:=by rw [hw3];simp [go_sem,g00,g01,g10,g11,g20,g21]
  have F11:w3.cell? ⟨w.heap.size+1,1,none⟩=some (.float .f64 (ofKey (tkHi c d))):=by rw [hw3];simp [go_sem,f00,f01,f10,f11,f20,f21]
  have H11:w3.frozen? ⟨w.heap.size+1,1,none⟩=false:=by rw [hw3];simp [go_sem,g00,g01,g10,g11,g20,g21]
  have F20:w3.cell? ⟨w.heap.size+2,0,none⟩=some (.float .f64 0):=by rw [hw3];simp [go_sem,f00,f01,f10,f11,f20,f21]
  have H20:w3.frozen? ⟨w.heap.size+2,0,none⟩=false:=by rw [hw3];simp [go_sem,g00,g01,g10,g11,g20,g21]
  have F21:w3.cell? ⟨w.heap.size+2,1,none⟩=some (.float .f64 0):=by rw [hw3];simp [go_sem,f00,f01,f10,f11,f20,f21]
  have H21:w3.frozen? ⟨w.heap.size+2,1,none⟩=false:=by rw [hw3];simp [go_sem,g00,g01,g10,g11,g20,g21]
  have B3:Below w.heap.size w w3:=by rw [hw3];go_grown
  have z3:w.heap.size+2<w3.heap.size:=by rw [hw3];simpa only [World.size_setCell] using z2
  clear hw3 f00 f01 f10 f11 f20 f21 g00 g01 g10 g11 g20 g21 B2 z2
  go_wp2
  go_region_held3 (fun w'=>w'.cell? ⟨w.heap.size,0,none⟩=some (.float .f64 (ofKey (tkLo a b)))∧w'.cell? ⟨w.heap.size,1,none⟩=some (.float .f64 (ofKey (tkHi a b)))∧w'.cell? ⟨w.heap.size+1,0,none⟩=some (.float .f64 (ofKey (tkLo c d)))∧w'.cell? ⟨w.heap.size+1,1,none⟩=some (.float .f64 (ofKey (tkHi c d)))) (go_keep) (first|(go_at_call 61;(first|(with_reducible refine (least_nk _ _ rA rC _).mono ?_)|(with_reducible refine (least_k _ _ rB rD _).mono ?_));rintro e w' ⟨rfl,rfl⟩))
  all_goals go_wp2_with (go_at_call 53;refine (HT.out _).mono ?_;rintro e w5 ⟨rfl,hbw5⟩;have p20:=RowKit.Below.cells hbw5 (b:=w.heap.size+2) (o:=0) (v := .float .f64 0) (by simp [go_sem,F20,F21,H20,H21,z3]);have q20:=RowKit.Below.froz hbw5 (b:=w.heap.size+2) (o:=0) (v := .float .f64 0) (by simp [go_sem,F20,F21,H20,H21,z3]) (by simp [go_sem,F20,F21,H20,H21,z3]);have p21:=RowKit.Below.cells hbw5 (b:=w.heap.size+2) (o:=1) (v := .float .f64 0) (by simp [go_sem,F20,F21,H20,H21,z3]);have q21:=RowKit.Below.froz hbw5 (b:=w.heap.size+2) (o:=1) (v := .float .f64 0) (by simp [go_sem,F20,F21,H20,H21,z3]) (by simp [go_sem,F20,F21,H20,H21,z3]))
  all_goals have B5:=below_step B3 B3.size (below_alloc (below_drewn hbw5))
  all_goals refine bodyPost_ret (v := .agg #[.float .f64 (ofKey (max (tkLo a b) (tkLo c d))),.float .f64 (ofKey (min (tkHi a b) (tkHi c d)))]) (by simp [results,Tryz.results27,go_sem,p20,p21]) rfl ⟨rfl,?_⟩
  all_goals go_grown
set_option maxHeartbeats 1000000 in
theorem refhull_any (a b c d:Nat) (ha:Wd a) (hb:Wd b) (hc:Wd c) (hd:Wd d) (w:World) :
  Calls Tryz.prog 29 #[.agg #[.float .f64 (a),.float .f64 (b)],.agg #[.float .f64 (c),.float .f64 (d)]] w fun e w'=>e = .returned (.agg #[.float .f64 (ofKey (min (tkLo a b) (tkLo c d))),.float .f64 (ofKey (max (tkHi a b) (tkHi c d)))])∧Below w.heap.size w w':=by
 have rA:=(tk_iv a b).1
 have rB:=(tk_iv a b).2.1
 have rC:=(tk_iv c d).1
 have rD:=(tk_iv c d).2.1
 have rM:=rg_min rA rC
 have rm:=rg_max rB rD
 have hT:=reftaken_any _ _ (ofKey_lt rM) (ofKey_lt rm)
 rw [(tk_canon (hull_iv (tk_iv a b) (tk_iv c d))).1,(tk_canon (hull_iv (tk_iv a b) (tk_iv c d))).2] at hT
 have HT:=Lib.hid hT
 clear hT
 ·go_enter Tryz.func29,Tryz.ntmps29
  go_wp2_with fail
  refine (reftaken_any _ _ ha hb _).mono ?_
  rintro e w1 ⟨rfl,hbw1⟩
  have f00x:=RowKit.Below.cells hbw1 (b:=w.heap.size) (o:=0) (v := .float .f64 (a)) (by simp [go_sem])
  have g00x:=RowKit.Below.froz hbw1 (b:=w.heap.size) (o:=0) (v := .float .f64 (a)) (by simp [go_sem]) (by simp [go_sem])
  have f01x:=RowKit.Below.cells hbw1 (b:=w.heap.size) (o:=1) (v := .float .f64 (b)) (by simp [go_sem])
  have g01x:=RowKit.Below.froz hbw1 (b:=w.heap.size) (o:=1) (v := .float .f64 (b)) (by simp [go_sem]) (by simp [go_sem])
  have f10x:=RowKit.Below.cells hbw1 (b:=w.heap.size+1) (o:=0) (v := .float .f64 (c)) (by simp [go_sem])
  have g10x:=RowKit.Below.froz hbw1 (b:=w.heap.size+1) (o:=0) (v := .float .f64 (c)) (by simp [go_sem]) (by simp [go_sem])
  have f11x:=RowKit.Below.cells hbw1 (b:=w.heap.size+1) (o:=1) (v := .float .f64 (d)) (by simp [go_sem])
  have g11x:=RowKit.Below.froz hbw1 (b:=w.heap.size+1) (o:=1) (v := .float .f64 (d)) (by simp [go_sem]) (by simp [go_sem])
  have f20x:=RowKit.Below.cells hbw1 (b:=w.heap.size+2) (o:=0) (v := .float .f64 (0)) (by simp [go_sem])
  have g20x:=RowKit.Below.froz hbw1 (b:=w.heap.size+2) (o:=0) (v := .float .f64 (0)) (by simp [go_sem]) (by simp [go_sem])
  have f21x:=RowKit.Below.cells hbw1 (b:=w.heap.size+2) (o:=1) (v := .float .f64 (0)) (by simp [go_sem])
  have g21x:=RowKit.Below.froz hbw1 (b:=w.heap.size+2) (o:=1) (v := .float .f64 (0)) (by simp [go_sem]) (by simp [go_sem])
  have B1:=below_alloc (below_alloc (below_alloc hbw1))
  have z1:w.heap.size+2<w1.heap.size:=Nat.lt_of_lt_of_le (by simp only [World.size_alloc];omega) hbw1.size
  clear hbw1
  go_wp2_with fail
  refine (reftaken_any _ _ hc hd _).mono ?_
  rintro e w2 ⟨rfl,hbw2⟩
  have f00:=RowKit.Below.cells hbw2 (b:=w.heap.size) (o:=0) (v := .float .f64 (ofKey (tkLo a b))) (by simp [go_sem,f00x,g00x,f01x,g01x,f10x,g10x,f11x,g11x,f20x,g20x,f21x,g21x])
  have g00:=RowKit.Below.froz hbw2 (b:=w.heap.size) (o:=0) (v := .float .f64 (ofKey (tkLo a b))) (by simp [go_sem,f00x,g00x,f01x,g01x,f10x,g10x,f11x,g11x,f20x,g20x,f21x,g21x]) (by simp [go_sem,f00x,g00x,f01x,g01x,f10x,g10x,f11x,g11x,f20x,g20x,f21x,g21x])
  have f01:=RowKit.Below.cells hbw2 (b:=w.heap.size) (o:=1) (v := .float .f64 (ofKey (tkHi a b))) (by simp [go_sem,f00x,g00x,f01x,g01x,f10x,g10x,f11x,g11x,f20x,g20x,f21x,g21x])
  have g01:=RowKit.Below.froz hbw2 (b:=w.heap.size) (o:=1) (v := .float .f64 (ofKey (tkHi a b))) (by simp [go_sem,f00x,g00x,f01x,g01x,f10x,g10x,f11x,g11x,f20x,g20x,f21x,g21x]) (by simp [go_sem,f00x,g00x,f01x,g01x,f10x,g10x,f11x,g11x,f20x,g20x,f21x,g21x])
  have f10:=RowKit.Below.cells hbw2 (b:=w.heap.size+1) (o:=0) (v := .float .f64 (c)) (by simp [go_sem,f00x,g00x,f01x,g01x,f10x,g10x,f11x,g11x,f20x,g20x,f21x,g21x])
  have g10:=RowKit.Below.froz hbw2 (b:=w.heap.size+1) (o:=0) (v := .float .f64 (c)) (by simp [go_sem,f00x,g00x,f01x,g01x,f10x,g10x,f11x,g11x,f20x,g20x,f21x,g21x]) (by simp [go_sem,f00x,g00x,f01x,g01x,f10x,g10x,f11x,g11x,f20x,g20x,f21x,g21x])
  have f11:=RowKit.Below.cells hbw2 (b:=w.heap.size+1) (o:=1) (v := .float .f64 (d)) (by simp [go_sem,f00x,g00x,f01x,g01x,f10x,g10x,f11x,g11x,f20x,g20x,f21x,g21x])
  have g11:=RowKit.Below.froz hbw2 (b:=w.heap.size+1) (o:=1) (v := .float .f64 (d)) (by simp [go_sem,f00x,g00x,f01x,g01x,f10x,g10x,f11x,g11x,f20x,g20x,f21x,g21x]) (by simp [go_sem,f00x,g00x,f01x,g01x,f10x,g10x,f11x,g11x,f20x,g20x,f21x,g21x])
  have f20:=RowKit.Below.cells hbw2 (b:=w.heap.size+2) (o:=0) (v := .float .f64 (0)) (by simp [go_sem,f00x,g00x,f01x,g01x,f10x,g10x,f11x,g11x,f20x,g20x,f21x,g21x])
  have g20:=RowKit.Below.froz hbw2 (b:=w.heap.size+2) (o:=0) (v := .float .f64 (0)) (by simp [go_sem,f00x,g00x,f01x,g01x,f10x,g10x,f11x,g11x,f20x,g20x,f21x,g21x]) (by simp [go_sem,f00x,g00x,f01x,g01x,f10x,g10x,f11x,g11x,f20x,g20x,f21x,g21x])
  have f21:=RowKit.Below.cells hbw2 (b:=w.heap.size+2) (o:=1) (v := .float .f64 (0)) (by simp [go_sem,f00x,g00x,f01x,g01x,f10x,g10x,f11x,g11x,f20x,g20x,f21x,g21x])
  have g21:=RowKit.Below.froz hbw2 (b:=w.heap.size+2) (o:=1) (v := .float .f64 (0)) (by simp [go_sem,f00x,g00x,f01x,g01x,f10x,g10x,f11x,g11x,f20x,g20x,f21x,g21x]) (by simp [go_sem,f00x,g00x,f01x,g01x,f10x,g10x,f11x,g11x,f20x,g20x,f21x,g21x])
  have B2:Below w.heap.size w w2:=below_step (w1:=(w1.setCell ⟨w.heap.size,0,none⟩ (.float .f64 (ofKey (tkLo a b)))).setCell ⟨w.heap.size,1,none⟩ (.float .f64 (ofKey (tkHi a b)))) (by go_grown) (by simp only [World.size_setCell];omega) hbw2
  have z2:w.heap.size+2<w2.heap.size:=Nat.lt_of_lt_of_le (by simp only [World.size_setCell];omega) hbw2.size
  clear hbw2 B1 z1 f00x g00x f01x g01x f10x g10x f11x g11x f20x g20x f21x g21x
  dsimp only
  iterate 4 go_step
  obtain ⟨w3,hw3⟩ : ∃ w3,w3=((w2.setCell ⟨w.heap.size+1,0,none⟩ (.float .f64 (ofKey (tkLo c d)))).setCell ⟨w.heap.size+1,1,none⟩ (.float .f64 (ofKey (tkHi c d)))):=⟨_,rfl⟩
  rw [←hw3]
  have F00:w3.cell? ⟨w.heap.size,0,none⟩=some (.float .f64 (ofKey (tkLo a b))):=by rw [hw3];simp [go_sem,f00,f01,f10,f11,f20,f21]
  have H00:w3.frozen? ⟨w.heap.size,0,none⟩=false:=by rw [hw3];simp [go_sem,g00,g01,g10,g11,g20,g21]
  have F01:w3.cell? ⟨w.heap.size,1,none⟩=some (.float .f64 (ofKey (tkHi a b))):=by rw [hw3];simp [go_sem,f00,f01,f10,f11,f20,f21]
  have H01:w3.frozen? ⟨w.heap.size,1,none⟩=false:=by rw [hw3];simp [go_sem,g00,g01,g10,g11,g20,g21]
  have F10:w3.cell? ⟨w.heap.size+1,0,none⟩=some (.float .f64 (ofKey (tkLo c d))):=by rw [hw3];simp [go_sem,f00,f01,f10,f11,f20,f21]
  have H10:w3.frozen? ⟨w.heap.size+1,0,none⟩=false:=by rw [hw3];simp [go_sem,g00,g01,g10,g11,g20,g21]
  have F11:w3.cell? ⟨w.heap.size+1,1,none⟩=some (.float .f64 (ofKey (tkHi c d))):=by rw [hw3];simp [go_sem,f00,f01,f10,f11,f20,f21]
  have H11:w3.frozen? ⟨w.heap.size+1,1,none⟩=false:=by rw [hw3];simp [go_sem,g00,g01,g10,g11,g20,g21]
  have F20:w3.cell? ⟨w.heap.size+2,0,none⟩=some (.float .f64 0):=by rw [hw3];simp [go_sem,f00,f01,f10,f11,f20,f21]
  have H20:w3.frozen? ⟨w.heap.size+2,0,none⟩=false:=by rw [hw3];simp [go_sem,g00,g01,g10,g11,g20,g21]
  have F21:w3.cell? ⟨w.heap.size+2,1,none⟩=some (.float .f64 0):=by rw [hw3];simp [go_sem,f00,f01,f10,f11,f20,f21]
  have H21:w3.frozen? ⟨w.heap.size+2,1,none⟩=false:=by rw [hw3];simp [go_sem,g00,g01,g10,g11,g20,g21]
  have B3:Below w.heap.size w w3:=by rw [hw3];go_grown
  have z3:w.heap.size+2<w3.heap.size:=by rw [hw3];simpa only [World.size_setCell] using z2
  clear hw3 f00 f01 f10 f11 f20 f21 g00 g01 g10 g11 g20 g21 B2 z2
  go_wp2
  have k00:=cell_regrown F00
  have k01:=cell_regrown F01
  have k10:=cell_regrown F10
  have k11:=cell_regrown F11
  refine wp_region_below_tail 15 (by kernel_rfl) (by kernel_rfl) ?_
  simp only [List.take_succ_cons,List.take_zero,List.drop_succ_cons,List.drop_zero]
  repeat (go_big_quiet_step ((first|(with_reducible exact Calls.regrown_of (HT.out _))|(with_reducible exact quiet_same (least_nk _ _ rB rD _))|(with_reducible exact quiet_same (least_k _ _ rA rC _)))))
  refine wpQuiet_nil (fun w4 hbw4 => ?_)
  have f20:=RowKit.Below.cells hbw4 (b:=w.heap.size+2) (o:=0) (v := .float .f64 0) (by simp [go_sem,F20,F21,H20,H21]);have g20:=RowKit.Below.froz hbw4 (b:=w.heap.size+2) (o:=0) (v := .float .f64 0) (by simp [go_sem,F20,F21,H20,H21]) (by simp [go_sem,F20,F21,H20,H21]);have f21:=RowKit.Below.cells hbw4 (b:=w.heap.size+2) (o:=1) (v := .float .f64 0) (by simp [go_sem,F20,F21,H20,H21]);have g21:=RowKit.Below.froz hbw4 (b:=w.heap.size+2) (o:=1) (v := .float .f64 0) (by simp [go_sem,F20,F21,H20,H21]) (by simp [go_sem,F20,F21,H20,H21])
  have B4:=below_step B3 B3.size hbw4
  have z4:w.heap.size+2<w4.heap.size:=Nat.lt_of_lt_of_le z3 hbw4.size
  clear k00 k01 k10 k11 F00 F01 F10 F11 H00 H01 H10 H11 F20 F21 H20 H21 hbw4 z3
  go_wp2
  refine bodyPost_ret (v := .agg #[.float .f64 (ofKey (min (tkLo a b) (tkLo c d))),.float .f64 (ofKey (max (tkHi a b) (tkHi c d)))]) (by simp [results,Tryz.results29,go_sem,f20,f21]) rfl ⟨rfl,?_⟩
  go_grown
end Go.Proofs.YteephgpefhodnaaGreat
