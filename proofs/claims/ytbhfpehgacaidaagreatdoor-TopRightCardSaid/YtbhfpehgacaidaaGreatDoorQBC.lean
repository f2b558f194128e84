/- A part of the proof of the given statement TopRight. Conditions: none. -/
import Derived.Shelf.Spec.TrailingZeros
import Derived.Test.YtbhfpehgacaidaaGreatDoorQBB
namespace Go.Proofs.YtbhfpehgacaidaaGreatDoor
set_option linter.unusedVariables false
set_option linter.unusedSimpArgs false
set_option maxRecDepth 100000
set_option maxHeartbeats 8000000
section
open Go.RowKit
def Cp(kd od n:Int):Bool:=if kd=2 then decide (0≤od∧od≤4∧od≤n)else true
theorem nV(kd:Int)(hk:kd=0∨kd=1∨kd=2)(s:Sb)(m:Ad)(n:Int)(w:World):
 Calls Tryz.prog 186 #[.int .i64 kd,io s m,.int .i64 n] w fun e w'=>e= .returned (.bool (Cp kd s.od n))∧Below w.heap.size w w':=by
 obtain⟨wx,e0,e1,e2,e3⟩:=cW w s m
 obtain⟨⟨k0,k1,k2,k3,k4,k5,k6,k7,k8,k9,eu,eP,eO,eN⟩,_⟩:=ai e1
 have E0:=aa e0
 have E2:=aa e2
 have hr:Hid (Cp kd s.od n=if kd=2 then decide (0≤s.od∧s.od≤4∧s.od≤n)else true):=aa rfl
 generalize Cp kd s.od n=R at*
 clear e0 e1 e2 e3 k0 k1 k3 k4 k5 k6 k7 k8 k9 eu eP eO eN
 unfold io
 unfold nE at E0 ⊢
 rcases hk with rfl | rfl | rfl
 ·go_enter Tryz.func186,Tryz.ntmps186
  go_upto_region 1 with fail
  rw[←E0.out]
  go_wp2_with fail
  go_ret
  exact⟨by rw[hr.out];rfl,E2.out⟩
 ·go_enter Tryz.func186,Tryz.ntmps186
  go_upto_region 1 with fail
  rw[←E0.out]
  go_wp2_with fail
  go_ret
  exact⟨by rw[hr.out];rfl,E2.out⟩
 ·rw[if_pos rfl] at hr
  by_cases h1:0≤s.od
  ·by_cases h2:s.od≤4
   ·by_cases h3:s.od≤n
    all_goals go_enter Tryz.func186,Tryz.ntmps186
    all_goals go_upto_region 1 with fail
    all_goals rw[←E0.out]
    all_goals go_wp2_with fail
    all_goals go_ret
    ·exact⟨by rw[hr.out,decide_eq_true ⟨h1,h2,h3⟩];rfl,E2.out⟩
    ·exact⟨by rw[hr.out,decide_eq_false (by omega)];rfl,E2.out⟩
   ·go_enter Tryz.func186,Tryz.ntmps186
    go_upto_region 1 with fail
    rw[←E0.out]
    go_wp2_with fail
    go_ret
    exact⟨by rw[hr.out,decide_eq_false (by omega)];rfl,E2.out⟩
  ·go_enter Tryz.func186,Tryz.ntmps186
   go_upto_region 1 with fail
   rw[←E0.out]
   go_wp2_with fail
   go_ret
   exact⟨by rw[hr.out,decide_eq_false (by omega)];rfl,E2.out⟩
def oq:Ad:=⟨none,0,none,0,none,0⟩
def PJ(kd od:Int):Sb:=⟨kd,0,if kd=2 then od else 0,[],0,[],[]⟩
theorem mB:(Tryz.prog.info? 171).map (·.size)=some 14:=by kernel_rfl
def cE:Array Value:=#[.int .i64 0,.int .i64 0,.int .i64 0,.int .i64 0,.int .i64 0,.slice none 0 0,.int .i64 0,.int .i64 0,.int .i64 0,.slice none 0 0,.slice none 0 0,.int .i64 0,.slice none 0 0,.slice none 0 0]
def wT(k:Int):Array Value:=#[.int .i64 k,.int .i64 0,.int .i64 0,.int .i64 0,.int .i64 0,.slice none 0 0,.int .i64 0,.int .i64 0,.int .i64 0,.slice none 0 0,.slice none 0 0,.int .i64 0,.slice none 0 0,.slice none 0 0]
theorem lp(kd:Int)(hk:kd=0∨kd=1∨kd=2)(s:Sb)(m:Ad)(w:World):
 Calls Tryz.prog 187 #[.int .i64 kd,io s m] w fun e w'=>e= .returned (io (PJ kd s.od) oq)∧Below w.heap.size w w':=by
 obtain⟨wx,e0,e1,e2,e3⟩:=cW w s m
 obtain⟨⟨k0,k1,k2,k3,k4,k5,k6,k7,k8,k9,eu,eP,eO,eN⟩,_⟩:=ai e1
 have E0:=aa e0
 have E2:=aa e2
 have E4:Hid (wx.heap.size=w.heap.size+1):=aa (by rw[e0];simp)
 have hr:Hid (io (PJ kd s.od) oq= .agg #[.int .i64 kd,.int .i64 0,.int .i64 (if kd=2 then s.od else 0),.int .i64 0,.int .i64 0,.slice none 0 0,.int .i64 0,.int .i64 0,.int .i64 0,.slice none 0 0,.slice none 0 0,.int .i64 0,.slice none 0 0,.slice none 0 0]):=aa rfl
 generalize io (PJ kd s.od) oq=R at*
 clear e0 e1 e2 e3 k0 k1 k3 k4 k5 k6 k7 k8 k9 eu eP eO eN
 unfold io
 unfold nE at E0 ⊢
 go_enter Tryz.func187,Tryz.ntmps187
 go_upto_region 2 with fail
 rw[←E0.out]
 have Aa:((wx.alloc (.cells cE 171)).alloc (.cells (wT kd) 171)).heap[w.heap.size+1]? =some (.cells cE 171 (0,0)):=by
  have:=ago wx (.cells cE 171)
  rw[E4.out] at this
  exact(ags _ _ _ (by simp[E4.out])).trans this
 have Ce:((wx.alloc (.cells cE 171)).alloc (.cells (wT kd) 171)).heap[w.heap.size+1+1]? =some (.cells (wT kd) 171 (0,0)):=by
  have:=ago (wx.alloc (.cells cE 171)) (.cells (wT kd) 171)
  simpa [E4.out] using this
 have lz:Below w.heap.size w ((wx.alloc (.cells cE 171)).alloc (.cells (wT kd) 171)):=ak (ak E2.out _) _
 have xk:((wx.alloc (.cells cE 171)).alloc (.cells (wT kd) 171)).cell? ⟨w.heap.size,2,none⟩=some (.int .i64 s.od):=later (ak (ak (ac wx) _) _) k2
 unfold cE wT at xk Aa Ce lz
 obtain⟨wy,mi⟩:∃wy,wy=(wx.alloc (.cells cE 171)).alloc (.cells (wT kd) 171):=⟨_,rfl⟩
 unfold cE wT at mi
 rw[←mi] at xk Aa Ce lz ⊢
 obtain⟨gr,hgr⟩:∃gr,gr=w.heap.size+1:=⟨_,rfl⟩
 rw[←hgr] at Aa Ce ⊢
 have rJ:=aa hgr
 obtain⟨gc,mn⟩:∃gc,gc=gr+1:=⟨_,rfl⟩
 rw[←mn] at Ce ⊢
 have Hgc:=aa mn
 have Hy1:=aa Aa
 have Hy2:=aa Ce
 have BY:=aa lz
 obtain⟨⟨r0,r1,r2,r3,r4,r5,r6,r7,r8,r9,r10,r11,r12,r13⟩,f0,f1,f2,f3,f4,f5,f6,f7,f8,f9,f10,f11,Lg,f13⟩:=ai Aa
 obtain⟨⟨y0,y1,y2,y3,y4,y5,y6,y7,y8,y9,yZ,yY,yX,yV⟩,x0,x1,x2,x3,x4,x5,x6,x7,x8,x9,p9,tJ,uy,uU⟩:=ai Ce
 have hne:gr≠gc:=by omega
 clear Aa Ce lz hgr mn mi k2
 rcases hk with rfl | rfl | rfl
 ·go_wp2_with fail
  refine bodyPost_ret (results_cell_row rfl _ _ gr 171 (wT 0) (0,0) _ rfl (dI Hy1.out (.int .i64 0) (.int .i64 0) (.int .i64 0) (.int .i64 0) (.int .i64 0) (.slice none 0 0) (.int .i64 0) (.int .i64 0) (.int .i64 0) (.slice none 0 0) (.slice none 0 0) (.int .i64 0) (.slice none 0 0) (.slice none 0 0)) Tryz.underlying171 rfl mB) rfl ?_
  exact⟨by rw[hr.out];rfl,cL BY.out (by have:=rJ.out;omega) _ _ _ _ _ _ _ _ _ _ _ _ _ _⟩
 ·go_wp2_with fail
  refine bodyPost_ret (results_cell_row rfl _ _ gr 171 (wT 1) (0,0) _ rfl (dI Hy1.out (.int .i64 1) (.int .i64 0) (.int .i64 0) (.int .i64 0) (.int .i64 0) (.slice none 0 0) (.int .i64 0) (.int .i64 0) (.int .i64 0) (.slice none 0 0) (.slice none 0 0) (.int .i64 0) (.slice none 0 0) (.slice none 0 0)) Tryz.underlying171 rfl mB) rfl ?_
  exact⟨by rw[hr.out];rfl,cL BY.out (by have:=rJ.out;omega) _ _ _ _ _ _ _ _ _ _ _ _ _ _⟩
 ·go_wp2_with fail
  have hz:(wy.setCell ⟨gc,2,none⟩ (.int .i64 s.od)).heap[gr]? =_:=(agr wy ⟨gc,2,none⟩ (.int .i64 s.od) gr (show gr≠gc by have:=Hgc.out;omega)).trans Hy1.out
  refine bodyPost_ret (results_cell_row rfl _ _ gr 171 #[.int .i64 2,.int .i64 0,.int .i64 s.od,.int .i64 0,.int .i64 0,.slice none 0 0,.int .i64 0,.int .i64 0,.int .i64 0,.slice none 0 0,.slice none 0 0,.int .i64 0,.slice none 0 0,.slice none 0 0] (0,0) _ rfl (dI hz (.int .i64 2) (.int .i64 0) (.int .i64 s.od) (.int .i64 0) (.int .i64 0) (.slice none 0 0) (.int .i64 0) (.int .i64 0) (.int .i64 0) (.slice none 0 0) (.slice none 0 0) (.int .i64 0) (.slice none 0 0) (.slice none 0 0)) Tryz.underlying171 rfl mB) rfl ?_
  exact⟨by rw[hr.out];simp,cL (BY.out.setCell (p:=⟨gc,2,none⟩) (by have:=rJ.out;have:=Hgc.out;show w.heap.size≤gc;omega) _) (by have:=rJ.out;omega) _ _ _ _ _ _ _ _ _ _ _ _ _ _⟩
theorem P9(d:Nat)(W:World):(Op.equalIn (d+1+1) 166 (.agg #[.int .i64 0,.int .i64 0,.int .i64 0]) (.agg #[.int .i64 0,.int .i64 0,.int .i64 0])).run Tryz.prog W= .ok true W:=by
 obtain⟨i0,cw,hz0,hz1,hz2⟩:=info_parts gR
 simp[Op.equalIn,run_underlying Tryz.underlying166,run_underlying Tryz.underlying3,sizeOf,typeInfo,cw,hz1,go_sem]
 rw[show List.range' 0 3=[0,1,2] from rfl]
 simp[isAgg,run_underlying Tryz.underlying3,go_sem]
theorem P8(W:World):(Op.equalIn 10000 166 (.agg #[.int .i64 0,.int .i64 0,.int .i64 0]) (.agg #[.int .i64 0,.int .i64 0,.int .i64 0])).run Tryz.prog W= .ok true W:=P9 9998 W
def ya(s:Sb):Bool:=if s.kd=2 then true else decide (s.od=0)
theorem Be(s:Sb)(hk:s.kd=0∨s.kd=1∨s.kd=2)(m:Ad)(w:World):
 Calls Tryz.prog 203 #[io s m] w fun e w'=>e= .returned (.bool (ya s))∧Below w.heap.size w w':=by
 obtain⟨wx,e0,e1,e2,e3⟩:=cW w s m
 obtain⟨⟨k0,k1,k2,k3,k4,k5,k6,k7,k8,k9,eu,eP,eO,eN⟩,_⟩:=ai e1
 have E0:=aa e0
 have E1:=aa e1
 have E2:=aa e2
 have E3:=aa e3
 have hch:=aa (lp s.kd hk s m)
 have hr:Hid (ya s=if s.kd=2 then true else decide (s.od=0)):=aa rfl
 have hcv:Hid (io (PJ s.kd s.od) oq= .agg #[.int .i64 s.kd,.int .i64 0,.int .i64 (if s.kd=2 then s.od else 0),.int .i64 0,.int .i64 0,.slice none 0 0,.int .i64 0,.int .i64 0,.int .i64 0,.slice none 0 0,.slice none 0 0,.int .i64 0,.slice none 0 0,.slice none 0 0]):=aa rfl
 generalize ya s=R at*
 rw[hcv.out] at hch
 obtain⟨oc,hoc⟩:∃oc,oc=if s.kd=2 then s.od else 0:=⟨_,rfl⟩
 rw[←hoc] at hch
 have Hoc:=aa hoc
 have iy:(R=true∧s.od=oc)∨(R=false∧s.od≠oc):=by
  rw[hr.out,hoc]
  by_cases h2:s.kd=2
  ·rw[if_pos h2,if_pos h2];exact .inl ⟨rfl,rfl⟩
  ·rw[if_neg h2,if_neg h2]
   by_cases h0:s.od=0
   ·exact .inl ⟨decide_eq_true h0,h0⟩
   ·exact .inr ⟨decide_eq_false h0,h0⟩
 clear e0 e1 e2 e3 hr hcv hoc
 unfold io at hch ⊢
 unfold nE at E0 E1 hch ⊢
 go_enter Tryz.func203,Tryz.ntmps203
 go_upto_region 1 with fail
 rw[←E0.out]
 go_upto_region 2 with (go_at_call 187;(with_reducible refine(hch.out wx).mono ?_);rintro e w1 ⟨rfl,b1⟩)
 have hy:=ago w1 (.cells #[.int .i64 s.kd,.int .i64 0,.int .i64 oc,.int .i64 0,.int .i64 0,.slice none 0 0,.int .i64 0,.int .i64 0,.int .i64 0,.slice none 0 0,.slice none 0 0,.int .i64 0,.slice none 0 0,.slice none 0 0] 171)
 have b2:Below wx.heap.size wx (w1.alloc (.cells #[.int .i64 s.kd,.int .i64 0,.int .i64 oc,.int .i64 0,.int .i64 0,.slice none 0 0,.int .i64 0,.int .i64 0,.int .i64 0,.slice none 0 0,.slice none 0 0,.int .i64 0,.slice none 0 0,.slice none 0 0] 171)):=ak b1 _
 obtain⟨wy,mi⟩:∃wy,wy=w1.alloc (.cells #[.int .i64 s.kd,.int .i64 0,.int .i64 oc,.int .i64 0,.int .i64 0,.slice none 0 0,.int .i64 0,.int .i64 0,.int .i64 0,.slice none 0 0,.slice none 0 0,.int .i64 0,.slice none 0 0,.slice none 0 0] 171):=⟨_,rfl⟩
 rw[←mi] at hy b2 ⊢
 obtain⟨gc,mn⟩:∃gc,gc=w1.heap.size:=⟨_,rfl⟩
 rw[←mn] at hy ⊢
 have BY:=aa (af E2.out b2)
 obtain⟨⟨y0,y1,y2,y3,y4,y5,y6,y7,y8,y9,yZ,yY,yX,yV⟩,_⟩:=ai hy
 obtain⟨⟨k0,k1,k2,k3,k4,k5,k6,k7,k8,k9,eu,eP,eO,eN⟩,_⟩:=ai ((b2.block _ E3.out).trans E1.out)
 clear hy b2 mi mn b1 k0 k1 eu eP eO eN y0 y1 yZ yY yX yV
 have aeW:∀W,(Op.equalIn 10000 166 (.agg #[.int .i64 0,.int .i64 0,.int .i64 0]) (.agg #[.int .i64 0,.int .i64 0,.int .i64 0])).run Tryz.prog W= .ok true W:=P8
 rcases iy with ⟨hR,he⟩ | ⟨hR,he⟩
 ·have yq:(s.od == oc)=true:=by rw[beq_iff_eq];exact he
  have HR:=aa hR
  clear he hR
  go_wp2_with fail
  go_ret
  exact⟨by rw[HR.out];first | rfl | simp,BY.out⟩
 ·have yq:(s.od == oc)=false:=by rw[beq_eq_false_iff_ne];exact he
  have HR:=aa hR
  clear he hR
  go_wp2_with fail
  go_ret
  exact⟨by rw[HR.out];first | rfl | simp,BY.out⟩
def aK(wa:Int)(l:List Int):Sb:=⟨1,wa,0,l,0,[],[]⟩
def a7(wa:Int)(od:Nat)(l:List Int)(po:Int)(ks rs:List Int):Sb:=⟨2,wa,od,l,po,ks,rs⟩
theorem Bq(wa:Int)(l:List Int)(n:Nat)(hn:n=l.length)(n1:1≤n)(n2:n≤4096)(w1:0≤wa)(w2:wa≤30)(hl:ah l=true)(m:Ad)(B:Nat)(w:World)(hB:B≤w.heap.size)(hm:oC w B (aK wa l) m):
 Calls Tryz.prog 160 #[io (aK wa l) m,.int .i64 (n:Int)] w fun e w'=>e= .returned (.bool true)∧Below w.heap.size w w':=by
 obtain⟨wx,e0,e1,e2,e3⟩:=cW w (aK wa l) m
 have E0:=aa e0
 have E1:=aa e1
 have E2:=aa e2
 have E3:=aa e3
 have hM:=fun W (h:Below w.heap.size w W)=>hm.below (h.mono hB)
 have bQ:=fun W=>nV 1 (by omega) (aK wa l) m n W
 have pN:=fun W=>Be (aK wa l) (by show (1:Int)=0∨(1:Int)=1∨(1:Int)=2;omega) m W
 have mQ:=fun W=>kQ (aK wa l) m n (by show (1:Int)=0∨(1:Int)=1∨(1:Int)=2;omega) W
 rw[show Cp 1 (aK wa l).od n=true from rfl] at bQ
 rw[show ya (aK wa l)=true from rfl] at pN
 rw[show vC (aK wa l) n=(n:Int)from rfl] at mQ
 have Ex:Hid (∀W,Below w.heap.size w W→Calls Tryz.prog 135 #[.slice m.A n m.c] W fun e w'=>e= .returned (.bool true)∧w'=W):=aa (fun W h=>by
  have:=ft l (by omega) m.A B m.c W (hM W h).wm
  rw[hl,←hn] at this;exact this)
 have EC:Hid (∀W,Below w.heap.size w W→Calls Tryz.prog 135 #[.slice m.Ar 0 m.cr] W fun e w'=>e= .returned (.bool true)∧w'=W):=aa (fun W h=>by
  have:=ft [] (by simp) m.Ar B m.cr W (hM W h).rs
  exact this)
 have hres:=aa (fun W=>iX 1 W)
 rw[show jB 1=false from rfl] at hres
 have FW:=aa bQ
 have pY:=aa pN
 have ny:=aa mQ
 have qQ:nE (aK wa l) m=#[.int .i64 1,.int .i64 wa,.int .i64 0,.int .i64 0,.int .i64 0,.slice none 0 0,.int .i64 0,.int .i64 0,.int .i64 0,.slice none 0 0,.slice m.A n m.c,.int .i64 0,.slice m.Ak 0 m.ck,.slice m.Ar 0 m.cr]:=by rw[hn];rfl
 have c1:¬(n:Int)<1:=by omega
 have c2:¬4096<(n:Int):=by omega
 have c3:¬wa<0:=by omega
 have c4:¬30<wa:=by omega
 unfold io at FW pY ny ⊢
 rw[qQ] at E0 E1 FW pY ny ⊢
 have cZ:Hid (∀W,Below wx.heap.size wx W→W.heap[w.heap.size]? =some (.cells #[.int .i64 1,.int .i64 wa,.int .i64 0,.int .i64 0,.int .i64 0,.slice none 0 0,.int .i64 0,.int .i64 0,.int .i64 0,.slice none 0 0,.slice m.A n m.c,.int .i64 0,.slice m.Ak 0 m.ck,.slice m.Ar 0 m.cr] 171 (0,0))):=aa (fun W h=>(h.block _ E3.out).trans E1.out)
 obtain⟨⟨k0,k1,k2,k3,k4,k5,k6,k7,k8,k9,eu,eP,eO,eN⟩,_⟩:=ai E1.out
 clear e0 e1 e2 bQ pN mQ hm hM qQ hn n1 n2 w1 w2
 go_enter Tryz.func160,Tryz.ntmps160
 go_upto_region 1 with fail
 rw[←E0.out]
 go_wp2_with (first
  |(go_at_call 186;(with_reducible refine(FW.out wx).mono ?_);rintro e w1 ⟨rfl,b1⟩;obtain⟨⟨k0,k1,k2,k3,k4,k5,k6,k7,k8,k9,eu,eP,eO,eN⟩,_⟩:=ai (cZ.out _ b1))
  |(go_at_call 203;(with_reducible refine(pY.out w1).mono ?_);rintro e w2 ⟨rfl,b2⟩;have CF:=af b1 b2;obtain⟨⟨k0,k1,k2,k3,k4,k5,k6,k7,k8,k9,eu,eP,eO,eN⟩,_⟩:=ai (cZ.out _ CF))
  |(go_at_call 199;(with_reducible refine(ny.out w2).mono ?_);rintro e w3 ⟨rfl,b3⟩;have oT:=af CF b3;have Y4:=af E2.out oT;obtain⟨⟨k0,k1,k2,k3,k4,k5,k6,k7,k8,k9,eu,eP,eO,eN⟩,_⟩:=ai (cZ.out _ oT))
  |(go_at_call 135;(with_reducible refine(Ex.out w3 Y4).mono ?_);rintro e w4 ⟨rfl,rfl⟩)
  |(go_at_call 135;(with_reducible refine(EC.out _ Y4).mono ?_);rintro e w5 ⟨rfl,rfl⟩)
  |(go_at_call 146;(with_reducible refine(hres.out _).mono ?_);rintro e w6 ⟨rfl,rfl⟩))
 go_ret
 exact⟨rfl,Y4⟩
theorem Br(wa:Int)(od:Nat)(l:List Int)(po:Int)(ks rs:List Int)(n:Nat)(hn:od=l.length)(bE:od≤4)(Gi:od≤n)(n1:1≤n)(n2:n≤4096)(w1:0≤wa)(w2:wa≤30)(hl:ah l=true)(hr:ah rs=true)(xo:rs.length=n-od)(bK:lY po ks n od=true)(jV:ks.length≤9223372036854775807)(m:Ad)(B:Nat)(w:World)(hB:B≤w.heap.size)(hm:oC w B (a7 wa od l po ks rs) m):
 Calls Tryz.prog 160 #[io (a7 wa od l po ks rs) m,.int .i64 (n:Int)] w fun e w'=>e= .returned (.bool true)∧Below w.heap.size w w':=by
 obtain⟨wx,e0,e1,e2,e3⟩:=cW w (a7 wa od l po ks rs) m
 have E0:=aa e0
 have E1:=aa e1
 have E2:=aa e2
 have E3:=aa e3
 obtain⟨rn,Ab⟩:∃rn,rn=rs.length:=⟨_,rfl⟩
 obtain⟨kn,yN⟩:∃kn,kn=ks.length:=⟨_,rfl⟩
 have hM:=fun W (h:Below w.heap.size w W)=>hm.below (h.mono hB)
 have bQ:=fun W=>nV 2 (by omega) (a7 wa od l po ks rs) m n W
 have pN:=fun W=>Be (a7 wa od l po ks rs) (by show (2:Int)=0∨(2:Int)=1∨(2:Int)=2;omega) m W
 have mQ:=fun W=>kQ (a7 wa od l po ks rs) m n (by show (2:Int)=0∨(2:Int)=1∨(2:Int)=2;omega) W
 rw[show Cp 2 (a7 wa od l po ks rs).od n=true from by show (if (2:Int)=2 then decide (0≤(od:Int)∧(od:Int)≤4∧(od:Int)≤(n:Int))else true)=true;rw[if_pos rfl];exact decide_eq_true (by omega)] at bQ
 rw[show ya (a7 wa od l po ks rs)=true from rfl] at pN
 rw[show vC (a7 wa od l po ks rs) n=(od:Int)from rfl] at mQ
 have Ex:Hid (∀W,Below w.heap.size w W→Calls Tryz.prog 135 #[.slice m.A od m.c] W fun e w'=>e= .returned (.bool true)∧w'=W):=aa (fun W h=>by
  have:=ft l (by omega) m.A B m.c W (hM W h).wm
  rw[hl,←hn] at this;exact this)
 have EC:Hid (∀W,Below w.heap.size w W→Calls Tryz.prog 135 #[.slice m.Ar rn m.cr] W fun e w'=>e= .returned (.bool true)∧w'=W):=aa (fun W h=>by
  have:=ft rs (by omega) m.Ar B m.cr W (hM W h).rs
  rw[hr,←Ab] at this;exact this)
 have hpm:Hid (∀W,Below w.heap.size w W→Calls Tryz.prog 204 #[.agg #[.int .i64 po,.slice m.Ak kn m.ck],.int .i64 (n:Int),.int .i64 (od:Int)] W fun e w'=>e= .returned (.bool true)∧Below W.heap.size W w'):=aa (fun W h=>by
  have:=DL po ks n od n1 n2 Gi m.Ak B m.ck W (agm hB h.size) jV (hM W h).ks
  rw[bK,←yN] at this;exact this)
 have hres:=aa (fun W=>iX 2 W)
 rw[show jB 2=true from rfl] at hres
 have FW:=aa bQ
 have pY:=aa pN
 have ny:=aa mQ
 have qQ:nE (a7 wa od l po ks rs) m=#[.int .i64 2,.int .i64 wa,.int .i64 (od:Int),.int .i64 0,.int .i64 0,.slice none 0 0,.int .i64 0,.int .i64 0,.int .i64 0,.slice none 0 0,.slice m.A od m.c,.int .i64 po,.slice m.Ak kn m.ck,.slice m.Ar rn m.cr]:=by rw[hn,yN,Ab];rfl
 have c1:¬(n:Int)<1:=by omega
 have c2:¬4096<(n:Int):=by omega
 have c3:¬wa<0:=by omega
 have c4:¬30<wa:=by omega
 unfold io at FW pY ny ⊢
 rw[qQ] at E0 E1 FW pY ny ⊢
 have cZ:Hid (∀W,Below wx.heap.size wx W→W.heap[w.heap.size]? =some (.cells #[.int .i64 2,.int .i64 wa,.int .i64 (od:Int),.int .i64 0,.int .i64 0,.slice none 0 0,.int .i64 0,.int .i64 0,.int .i64 0,.slice none 0 0,.slice m.A od m.c,.int .i64 po,.slice m.Ak kn m.ck,.slice m.Ar rn m.cr] 171 (0,0))):=aa (fun W h=>(h.block _ E3.out).trans E1.out)
 obtain⟨⟨k0,k1,k2,k3,k4,k5,k6,k7,k8,k9,eu,eP,eO,eN⟩,_⟩:=ai E1.out
 have d1:(rn:Int)=(n:Int)-(od:Int):=by omega
 have d2:=agp ((n:Int)-(od:Int)) (by omega)
 have d3:((rn:Int) == (n:Int)-(od:Int))=true:=by rw[beq_iff_eq];exact d1
 clear d1 Ab yN xo bK hr hl bE Gi jV
 clear e0 e1 e2 bQ pN mQ hm hM qQ hn n1 n2 w1 w2
 go_enter Tryz.func160,Tryz.ntmps160
 go_upto_region 1 with fail
 rw[←E0.out]
 go_wp2_with (first
  |(go_at_call 186;(with_reducible refine(FW.out wx).mono ?_);rintro e w1 ⟨rfl,b1⟩;obtain⟨⟨k0,k1,k2,k3,k4,k5,k6,k7,k8,k9,eu,eP,eO,eN⟩,_⟩:=ai (cZ.out _ b1))
  |(go_at_call 203;(with_reducible refine(pY.out w1).mono ?_);rintro e w2 ⟨rfl,b2⟩;have CF:=af b1 b2;obtain⟨⟨k0,k1,k2,k3,k4,k5,k6,k7,k8,k9,eu,eP,eO,eN⟩,_⟩:=ai (cZ.out _ CF))
  |(go_at_call 199;(with_reducible refine(ny.out w2).mono ?_);rintro e w3 ⟨rfl,b3⟩;have oT:=af CF b3;have Y4:=af E2.out oT;obtain⟨⟨k0,k1,k2,k3,k4,k5,k6,k7,k8,k9,eu,eP,eO,eN⟩,_⟩:=ai (cZ.out _ oT))
  |(go_at_call 135;(with_reducible refine(Ex.out w3 Y4).mono ?_);rintro e w4 ⟨rfl,rfl⟩)
  |(go_at_call 135;(with_reducible refine(EC.out _ Y4).mono ?_);rintro e w5 ⟨rfl,rfl⟩)
  |(go_at_call 146;(with_reducible refine(hres.out _).mono ?_);rintro e w6 ⟨rfl,rfl⟩)
  |(go_at_call 204;(with_reducible refine(hpm.out _ Y4).mono ?_);rintro e w7 ⟨rfl,b7⟩))
 go_ret
 exact⟨rfl,af Y4 b7⟩
def TD(x:Int)(i:Nat):Int:=x/2 ^ (8*i)%256
def tS(x:Int):Nat→List Int
 |0=>[]
 |s+1=>tS x s++[TD x s]
def iB(s:Nat):List Int→List Int
 |[]=>[]
 |x :: l=>tS x s++iB s l
def mJ(s:Nat)(l:List Int)(k:Nat):List Int:=iB s (l.take k)
theorem ME(x:Int)(s:Nat):(tS x s).length=s:=by
 induction s with
 |zero=>rfl
 |succ s ih=>simp[tS,ih]
theorem BD(s:Nat)(a b:List Int):iB s (a++b)=iB s a++iB s b:=by
 induction a with
 |nil=>rfl
 |cons x a ih=>simp[iB,ih]
theorem MF(s:Nat)(l:List Int):(iB s l).length=l.length*s:=by
 induction l with
 |nil=>simp[iB]
 |cons x l ih=>simp only[iB,List.length_append,ME,ih,List.length_cons,Nat.add_mul];omega
theorem DT{s:Nat}{l:List Int}{k:Nat}(h:k<l.length):mJ s l (k+1)=mJ s l k++tS (ix l k) s:=by
 unfold mJ
 rw[List.take_add_one,List.getElem?_eq_getElem h,←dQ h,BD]
 simp[iB]
def Qo(b:Int):Nat:=((b+7)/8).toNat
def pW(l:List Int)(b:Int):Bool:=l.all fun x=>dS x b
def Fw(b:Int):Bool:=decide (4≤b) && decide (b≤24)
theorem xT{b:Int}:Fw b=true↔4≤b∧b≤24:=by simp[Fw]
theorem Fv{b:Int}(h:¬(4≤b∧b≤24)):Fw b=false:=by
 cases e:Fw b with
 |false=>rfl
 |true=>exact absurd (xT.1 e) h
def mK(l:List Int)(b:Int):List Int×Int:=if Fw b=true then(if pW l b=true then(iB (Qo b) l,0)else([],6))else([],1)
def tD(r:List Int×Int)(w:World)(e:Ending)(w':World):Prop:=∃A c,e= .returned (.tuple #[.slice A r.1.length c,.int .i64 r.2])∧aq w' w.heap.size A r.1.length c r.1∧Below w.heap.size w w'
theorem lr{x:Int}{w w':World}(h:Below w.heap.size w w'):tD ([],x) w (.returned (.tuple #[.slice none 0 0,.int .i64 x])) w':=⟨none,0,rfl,aq.nil _ _,h⟩
theorem abd(n:Int):bits .and .i64 n 255=n%256:=RG n 8 (by omega) 255 (by decide)
theorem Fo{l:List Int}{b:Int}{k:Nat}(hk:k<l.length)(h:dS (ix l k) b=false):pW l b=false:=by
 cases e:pW l b with
 |false=>rfl
 |true=>
  have:=List.all_eq_true.1 e (ix l k) (by rw[dQ hk];exact agt _)
  rw[h] at this;cases this
theorem MG(l:List Int)(n:Nat)(hn:n=l.length)(hm:n≤20000)(b:Int)(A:Option Addr)(c:Nat)(w:World)(ha:ag .i64 w w.heap.size A l):
 Calls Tryz.prog 150 #[.slice A n c,.int .i64 b] w (tD (mK l b) w):=by
 by_cases h1:b<4
 ·have hn:=aa (show mK l b=([],1)by rw[mK,Fv (by omega)];rfl)
  go_enter Tryz.func150,Tryz.ntmps150
  go_wp2
  go_ret2
  rw[hn.out]
  exact lr (ac w)
 by_cases h2:24<b
 ·have hn:=aa (show mK l b=([],1)by rw[mK,Fv (by omega)];rfl)
  go_enter Tryz.func150,Tryz.ntmps150
  go_wp2
  go_ret2
  rw[hn.out]
  exact lr (ac w)
 obtain⟨s,hs⟩:∃s:Nat,(b+7)/8=(s:Int):=⟨((b+7)/8).toNat,by omega⟩
 have s1:(1:Int)≤(s:Int):=by omega
 have s3:(s:Int)≤3:=by omega
 have hd:Hid (mK l b=if pW l b=true then(iB s l,0)else([],6)):=by
  show _=_
  rw[mK,if_pos (xT.2 ⟨by omega,by omega⟩),show Qo b=s by unfold Qo;omega]
 have Hn:=aa hn
 clear hn
 go_enter Tryz.func150,Tryz.ntmps150
 go_wp2
 clear hs
 go_loopw [7,22] (fun v i wr=>(∃(k:Nat) (A':Option Addr) (c':Nat),k≤n∧i= .int .i64 k∧v= .slice A' (k*s) c'∧aq wr w.heap.size A' (k*s) c' (mJ s l k)∧∀j,j<k→dS (ix l j) b=true)∧Below w.heap.size w wr) (fun _ i _=>n-(intOf i).toNat)
 case atStart=>exact⟨⟨0,none,0,agw _,rfl,by simp,by simpa [mJ,iB] using aq.nil _ _,fun j h=>absurd h (by omega)⟩,ac w⟩
 case round=>
  obtain⟨⟨k,A2,c2,hk,rfl,rfl,ho,hj⟩,hb⟩:=hrel
  obtain⟨wo,rfl⟩:∃wo:World,wo=wr:=⟨_,rfl⟩
  have ua:=aa ho
  have hb':=aa hb
  have Hj:=aa hj
  clear ho hb hj
  by_cases hlt:k<n
  ·have jV:k<l.length:=by have:=Hn.out;omega
   obtain⟨b1,o1,rfl,hc1⟩:=(ha.below hb'.out).at_ jV
   cases hf:dS (ix l k) b with
   |false=>
    have hr:Hid (mK l b=([],6)):=by show _=_;rw[hd.out,Fo jV hf];rfl
    go_wp2_with ((with_reducible refine(dJ _ _ _).mono ?_);rintro e w' ⟨rfl,rfl⟩)
    go_ret2
    rw[hr.out]
    exact lr hb'.out
   |true=>
    go_wp2_with ((with_reducible refine(dJ _ _ _).mono ?_);rintro e w' ⟨rfl,rfl⟩)
    have Hf:=aa hf
    have Hf0:=aa hf
    clear hf hc1
    obtain⟨x,hx⟩:∃x,x=ix l k:=⟨_,rfl⟩
    rw[←hx]
    have hst:=aa (DT (s:=s) jV)
    rw[←hx] at hst Hf
    clear hx
    have hks:k*s≤60000:=by
     have:k*s≤20000*3:=Nat.mul_le_mul (by omega) (by omega)
     omega
    obtain⟨m0,Sr⟩:∃m,m=k*s:=⟨_,rfl⟩
    have Hm0:=aa Sr
    rw[←Sr] at ua hks ⊢
    clear Sr
    obtain⟨X,hX⟩:∃X,X=mJ s l k:=⟨_,rfl⟩
    have HX:=aa hX
    rw[←hX] at ua hst
    clear hX
    go_loopw [7,31] (fun v i wr=>(∃(j:Nat) (A':Option Addr) (c':Nat),j≤s∧i= .int .i64 j∧v= .slice A' (m0+j) c'∧aq wr w.heap.size A' (m0+j) c' (X++tS x j))∧Below w.heap.size w wr) (fun _ i _=>s-(intOf i).toNat)
    case atStart=>exact⟨⟨0,A2,c2,agw _,rfl,rfl,by simpa [tS] using ua.out⟩,hb'.out⟩
    case round=>
     obtain⟨⟨j,A3,c3,hj,rfl,rfl,bF⟩,hb3⟩:=hrel
     obtain⟨wp,rfl⟩:∃wp:World,wp=wr:=⟨_,rfl⟩
     have Sk:=aa bF
     have SP:=aa hb3
     clear bF hb3
     by_cases hjs:j<s
     ·obtain⟨q,hq⟩:∃q,q=8*j:=⟨_,rfl⟩
      have h8:(8:Int)*(j:Int)=(q:Int):=by omega
      have Js:=abd (x/2 ^ q)
      have hv:Hid (TD x j=x/2 ^ q%256):=by show _=_;rw[TD,hq]
      clear hq
      go_wp2_with (at_builtin;refine cF _ rfl (.tmp 34) (.tmp 41) rfl w _ _ _ _ rfl (Sk.out.alloc _) _ _ 1 1 [x/2 ^ q%256] rfl rfl (dN _ _ _) (by omega) (ak SP.out _) ?_;intro A4 c4 w4 bE hb4)
      have mS:=aa bE
      have sR:=aa hb4
      clear bE hb4
      go_roundw
      case rel=>
       refine⟨⟨j+1,A4,c4,by omega,by go_num,rfl, ?_⟩,sR.out⟩
       rw[tS,hv.out,←List.append_assoc]
       exact mS.out
      case measure=>simp[intOf];omega
     ·have e:j=s:=by omega
      subst e
      have e2:m0+j=(k+1)*j:=by rw[Hm0.out,Nat.add_mul];omega
      have E2:=aa e2
      clear e2
      go_wp2_with fail
      constructor
      ·refine⟨⟨k+1,A3,c3,by omega,by go_num,by rw[E2.out], ?_,fun i hi=> ?_⟩,SP.out⟩
       ·rw[hst.out,←E2.out];exact Sk.out
       ·by_cases e:i=k
        ·subst e;exact Hf0.out
        ·exact Hj.out i (by omega)
      ·simp[intOf];omega
  ·have e:k=n:=by omega
   subst e
   have hr:Hid (mK l b=(iB s l,0)):=by
    show _=_
    rw[hd.out,if_pos]
    refine List.all_eq_true.2 fun x hx=> ?_
    obtain⟨i,hi,rfl⟩:=kZ hx
    exact Hj.out i (by have:=Hn.out;omega)
   have hL:Hid ((iB s l).length=k*s∧mJ s l k=iB s l):=by
    show _∧_
    rw[MF,mJ,Hn.out,List.take_length]
    exact⟨rfl,rfl⟩
   go_wp2_with fail
   go_ret2
   rw[hr.out]
   refine⟨A2,c2, ?_, ?_,hb'.out⟩
   ·rw[hL.out.1];rfl
   ·have:=ua.out
    rw[hL.out.2] at this
    rw[hL.out.1];exact this
def C0(w:World):Prop:=∀j,j<Lib.deBruijn64tab.length→w.cell? ⟨0,j,none⟩=some (.int .u8 (Lib.deBruijn64tab.getD j 0))
theorem C0.pos{w:World}(h:C0 w):0<w.heap.size:=block_lt_of_cell (h 0 (by decide))
theorem C0.below{w w':World}(h:C0 w)(hb:Below w.heap.size w w'):C0 w':=fun j hj=>(hb.cell (p:=⟨0,j,none⟩) h.pos).trans (h j hj)
theorem C0.drewN{w:World}(h:C0 w)(n:Nat):C0 (w.drewN n):=h
theorem Vq(x k idx:Nat)(w:World)(hx0:((x:Int) == 0)=false)
 (key:IntKind.u64.wrap (bits BinOp.and IntKind.u64 (x:Int) (IntKind.u64.wrap (-(x:Int)))*285870213051353865)/288230376151711744=(idx:Int))
 (hi:idx<64) (hk:k<64) (hcell:w.cell? ⟨0,idx,none⟩=some (.int .u8 k)):
 Calls Tryz.prog 181 #[.int .u64 x] w fun e w'=>e= .returned (.int .i64 k)∧w'=w:=by
 go_enter Tryz.func181,Tryz.ntmps181
 go_wp2_with (simp only[key])
 go_ret
 exact⟨rfl,rfl⟩
theorem Zv(x:Nat)(hx:x<18446744073709551616)(hx0:x≠0)(w:World)(hT:C0 w):
 Calls Tryz.prog 181 #[.int .u64 x] w fun e w'=>e= .returned (.int .i64 (Lib.ctz 64 x))∧w'=w:=by
 obtain⟨ad0,hk⟩:=Lib.lowest_bit 64 x hx0 hx
 obtain⟨hi,adE⟩:=Lib.deBruijn64_at _ hk
 have hcell:=hT _ hi
 rw[adE] at hcell
 exact Vq x _ _ w (by simp;omega) (tz64_key x _ hx hx0 ad0) hi hk hcell
def pF(l:List Int):Int:=l.foldl (fun a x=>bits .or .i64 a x) 0
theorem V8{l:List Int}{k:Nat}(h:k<l.length):pF (l.take (k+1))=bits .or .i64 (pF (l.take k)) (ix l k):=by
 rw[List.take_add_one,List.getElem?_eq_getElem h,←dQ h]
 simp[pF]
theorem adA(a x:Int): -9223372036854775808≤bits .or .i64 a x∧bits .or .i64 a x<9223372036854775808:=by
 show _≤IntKind.i64.wrap _∧IntKind.i64.wrap _<_
 simp[IntKind.wrap,IntKind.signed,IntKind.bits]
 omega
theorem QS(l:List Int): -9223372036854775808≤pF l∧pF l<9223372036854775808:=by
 rcases List.eq_nil_or_concat l with rfl | ⟨l',x,rfl⟩
 ·simp[pF]
 ·have:pF (l'.concat x)=bits .or .i64 (pF l') x:=by simp[pF]
  rw[this]
  exact adA _ _
def uN(x:Int):Nat:=(x%18446744073709551616).toNat
def mz(a:Int):Int:=if a=0 then 0 else if (30:Int)<(Lib.ctz 64 (uN a):Int)then 30 else(Lib.ctz 64 (uN a):Int)
theorem my(l:List Int)(n:Nat)(hn:n=l.length)(hm:n≤140737488355328)(A:Option Addr)(b c:Nat)(w:World)(hT:C0 w)(ha:ag .i64 w b A l):
 Calls Tryz.prog 137 #[.slice A n c] w fun e w'=>e= .returned (.int .i64 (mz (pF l)))∧w'=w:=by
 subst hn
 have HT:=aa hT
 clear hT
 go_enter Tryz.func137,Tryz.ntmps137
 go_wp2
 go_loopw [3,8] (fun v i wr=>(∃k:Nat,k≤l.length∧i= .int .i64 k∧v= .int .i64 (pF (l.take k)))∧wr=w) (fun _ i _=>l.length-(intOf i).toNat)
 case atStart=>exact⟨⟨0,agw _,rfl,rfl⟩,rfl⟩
 case round=>
  obtain⟨⟨k,hk,rfl,rfl⟩,rfl⟩:=hrel
  by_cases hlt:k<l.length
  ·obtain⟨b1,o1,rfl,hc1⟩:=ha.at_ hlt
   have hst:=aa (V8 hlt)
   go_wp2_with fail
   go_roundw
   case rel=>exact⟨⟨k+1,by omega,by go_num,by rw[hst.out]⟩,trivial⟩
   case measure=>simp[intOf];omega
  ·have e:k=l.length:=by omega
   subst e
   rw[List.take_length]
   have hrg:=QS l
   obtain⟨a,haa⟩:∃a,a=pF l:=⟨_,rfl⟩
   rw[←haa] at hrg ⊢
   have Haa:=aa haa
   clear haa
   by_cases h0:a=0
   ·have h0b:(a == 0)=true:=by simp[h0]
    have hr:Hid (mz a=0):=by show _=_;rw[mz,if_pos h0]
    clear h0
    go_wp2_with fail
    go_ret
    exact⟨by rw[←Haa.out,hr.out];rfl,rfl⟩
   ·have h0b:(a == 0)=false:=by simp[h0]
    obtain⟨X,hX⟩:∃X,X=uN a:=⟨_,rfl⟩
    have hr:Hid (mz a=if (30:Int)<(Lib.ctz 64 X:Int)then 30 else(Lib.ctz 64 X:Int)):=by show _=_;rw[mz,if_neg h0,hX]
    have hw:IntKind.u64.wrap a=(X:Int):=by rw[IntKind.wrap_u64,hX,uN];omega
    have hX1:X<18446744073709551616:=by rw[hX,uN];omega
    have hX0:Hid (X≠0):=by
     show X≠0
     rw[hX,uN]
     omega
    have FY:=aa hX1
    clear h0 hX hX1 hrg
    go_wp2_with ((with_reducible refine(Zv _ FY.out hX0.out _ HT.out).mono ?_);rintro e w' ⟨rfl,rfl⟩)
    all_goals
     go_ret
     refine⟨?_,rfl⟩
     rw[←Haa.out,hr.out]
     first
      |(rw[if_neg (by omega)];rfl)
      |(rw[if_pos (by omega)];rfl)
      |(show Ending.returned (.int .i64 (min (Lib.ctz 64 X:Int) 30))=_
        refine congrArg Ending.returned (congrArg (Value.int .i64) ?_)
        split <;> omega)
set_option maxRecDepth 100000
theorem p2(q:Nat):(2:Int) ^ q=((2 ^ q:Nat):Int):=by simp
theorem p8(i:Nat):(2:Int) ^ (8*(i+1))=256*2 ^ (8*i):=by rw[show 8*(i+1)=8*i+8 by omega,Int.pow_add];omega
def jt(r:List Int×Int)(w:World)(e:Ending)(w':World):Prop:=∃A c,e= .returned (.tuple #[.slice A r.1.length c,.int .i64 r.2])∧ax w' w.heap.size A r.1.length c r.1∧Below w.heap.size w w'
theorem dx{x:Int}{w w':World}(h:Below w.heap.size w w'):jt ([],x) w (.returned (.tuple #[.slice none 0 0,.int .i64 x])) w':=⟨none,0,rfl,ax.nil _ _,h⟩
set_option maxRecDepth 100000
theorem iL(x:Int)(w:World):Calls Tryz.prog 180 #[.int .i64 x] w fun e w'=>e= .returned (.bool (aX x))∧w'=w:=by
 by_cases h: -1073741824≤x
 ·have hd:Hid (aX x=decide (x<1073741824)):=by show _=_;simp[aX,h]
  go_enter Tryz.func180,Tryz.ntmps180
  go_wp2
  go_ret
  exact⟨by rw[hd.out];rfl,rfl⟩
 ·have hd:Hid (aX x=false):=by show _=_;simp[aX];omega
  go_enter Tryz.func180,Tryz.ntmps180
  go_wp2
  go_ret
  exact⟨by rw[hd.out];rfl,rfl⟩
def Yh(k:Nat)(x:Int):Bool:=aX x && aX (x*2 ^ k)
def Kh(l:List Int)(n:Int):List Int×Int:=if 0≤n∧n≤30 then(if l.all (Yh n.toNat)=true then(l.map (· *2 ^ n.toNat),0)else([],6))else([],1)
theorem TZ{f:Int→Bool}{l:List Int}{k:Nat}(hk:k<l.length)(h:f (ix l k)=false):l.all f=false:=by
 cases e:l.all f with
 |false=>rfl
 |true=>
  have:=List.all_eq_true.1 e (ix l k) (by rw[dQ hk];exact agt _)
  rw[h] at this;cases this
theorem Ls{f:Int→Bool}{l:List Int}(h:∀j,j<l.length→f (ix l j)=true):l.all f=true:=List.all_eq_true.2 fun x hx=>by
 obtain⟨i,hi,rfl⟩:=kZ hx
 exact h i hi
theorem D3{f:Int→Int}{l:List Int}{k:Nat}(h:k<l.length):(l.take (k+1)).map f=(l.take k).map f++[f (ix l k)]:=by
 rw[List.take_add_one,List.getElem?_eq_getElem h,←dQ h];simp
theorem GJ{x:Int}{k:Nat}(hk:k≤30)(hx:aX x=true): -9223372036854775808≤x*2 ^ k∧x*2 ^ k≤9223372036854775807:=by
 have h:=cX.1 hx
 have hp:=p30 (k:=k) (by omega)
 have h1:x*2 ^ k≤1073741824*2 ^ k:=Int.mul_le_mul_of_nonneg_right (by omega) (by omega)
 have h2: -1073741824*2 ^ k≤x*2 ^ k:=Int.mul_le_mul_of_nonneg_right (by omega) (by omega)
 omega
theorem Ki(l:List Int)(m:Nat)(hn:m=l.length)(hm:m≤1000)(n:Int)(A:Option Addr)(c:Nat)(w:World)(ha:ag .i64 w w.heap.size A l):
 Calls Tryz.prog 209 #[.slice A m c,.int .i64 n] w (jt (Kh l n) w):=by
 by_cases h1:n<0
 ·have hr:=aa (show Kh l n=([],1)from if_neg (by omega))
  go_enter Tryz.func209,Tryz.ntmps209
  go_wp2
  go_ret2
  rw[hr.out]
  exact dx (ac w)
 by_cases h2:30<n
 ·have hr:=aa (show Kh l n=([],1)from if_neg (by omega))
  go_enter Tryz.func209,Tryz.ntmps209
  go_wp2
  go_ret2
  rw[hr.out]
  exact dx (ac w)
 obtain⟨s,rfl⟩:=Int.eq_ofNat_of_zero_le (show 0≤n by omega)
 have s30:s≤30:=by omega
 have abN:(s:Int)≤30:=by omega
 have hd:Hid (Kh l (s:Int)=if l.all (Yh s)=true then(l.map (· *2 ^ s),0)else([],6)):=by show _=_;rw[Kh,if_pos ⟨by omega,by omega⟩,Int.toNat_natCast]
 have Hn:=aa hn
 clear hn h1 h2
 go_enter Tryz.func209,Tryz.ntmps209
 go_wp2
 go_loopw [6,17] (fun v i wr=>(∃(k:Nat) (A':Option Addr) (c':Nat),k≤m∧i= .int .i64 k∧v= .slice A' k c'∧ax wr w.heap.size A' k c' ((l.take k).map (· *2 ^ s))∧∀j,j<k→Yh s (ix l j)=true)∧Below w.heap.size w wr) (fun _ i _=>m-(intOf i).toNat)
 case atStart=>exact⟨⟨0,none,0,agw _,rfl,rfl,by simpa using ax.nil _ _,fun j h=>absurd h (by omega)⟩,ac w⟩
 case round=>
  obtain⟨⟨k,A2,c2,hk,rfl,rfl,ho,hj⟩,hb⟩:=hrel
  obtain⟨wo,rfl⟩:∃wo:World,wo=wr:=⟨_,rfl⟩
  have ua:=aa ho
  have hb':=aa hb
  have Hj:=aa hj
  clear ho hb hj
  by_cases hlt:k<m
  ·have jV:k<l.length:=by have:=Hn.out;omega
   obtain⟨b1,o1,rfl,hc1⟩:=(ha.below hb'.out).at_ jV
   have hst:=aa (D3 (f:=(· *2 ^ s)) jV)
   have Lz:Hid (Yh s (ix l k)=false→Kh l (s:Int)=([],6)):=fun h=>by rw[hd.out,TZ jV h];rfl
   obtain⟨x,hx⟩:∃x,x=ix l k:=⟨_,rfl⟩
   have Hx:=aa hx
   rw[←hx] at hst hc1 Lz
   clear hx
   cases hf:aX x with
   |false=>
    have hr:=aa (Lz.out (by simp[Yh,hf]))
    go_wp2_with ((with_reducible refine(iL _ _).mono ?_);rintro e w' ⟨rfl,rfl⟩)
    go_ret2
    rw[hr.out]
    exact dx hb'.out
   |true=>
    have hw:=IntWalk.wrap64_in (x*2 ^ s) (GJ s30 hf)
    obtain⟨y,hy⟩:∃y,x*2 ^ s=y:=⟨_,rfl⟩
    cases hg:aX y with
    |false=>
     have hr:=aa (Lz.out (by simp[Yh,hy,hg]))
     rw[hy] at hw
     go_wp2_with ((with_reducible refine(iL _ _).mono ?_);rintro e w' ⟨rfl,rfl⟩)
     go_ret2
     rw[hr.out]
     exact dx hb'.out
    |true=>
     have Z9:Hid (Yh s (ix l k)=true):=by show _=_;rw[←Hx.out];simp[Yh,hf,hy,hg]
     have Hy:=aa hy
     rw[hy] at hw
     go_wp2_with (first | (at_builtin;refine Lq _ rfl (.tmp 31) (.tmp 35) rfl w _ _ _ _ rfl (ua.out.alloc _) _ _ 1 1 [y] rfl rfl (dN _ _ _) (by omega) (ak hb'.out _) ?_;intro A4 c4 w4 bE hb4) | ((with_reducible refine(iL _ _).mono ?_);rintro e w' ⟨rfl,rfl⟩))
     have mS:=aa bE
     have sR:=aa hb4
     clear bE hb4
     go_roundw
     case rel=>
      refine⟨⟨k+1,A4,c4,by omega,by go_num,rfl, ?_,fun i hi=> ?_⟩,sR.out⟩
      ·rw[hst.out,Hy.out];exact mS.out
      ·by_cases e:i=k
       ·subst e;exact Z9.out
       ·exact Hj.out i (by omega)
     case measure=>simp[intOf];omega
  ·have e:k=m:=by omega
   subst e
   have hr:Hid (Kh l (s:Int)=(l.map (· *2 ^ s),0)):=by show _=_;rw[hd.out,if_pos (Ls fun j hj=>Hj.out j (by have:=Hn.out;omega))]
   have hL:Hid ((l.take k).map (· *2 ^ s)=l.map (· *2 ^ s)∧(l.map (· *2 ^ s)).length=k):=by show _∧_;rw[Hn.out,List.take_length];exact⟨rfl,by simp⟩
   go_wp2_with fail
   go_ret2
   rw[hr.out]
   refine⟨A2,c2, ?_, ?_,hb'.out⟩
   ·rw[hL.out.2];rfl
   ·rw[hL.out.2];have:=ua.out;rw[hL.out.1] at this;exact this
def zB(l:List Int):List Int:=(List.range (l.length-1)).map fun i=>wrap64 (ix l (i+1)-ix l i)
theorem zA(l:List Int):(zB l).length=l.length-1:=by simp[zB]
theorem Qy{l:List Int}{i:Nat}(h:i<l.length-1):ix (zB l) i=wrap64 (ix l (i+1)-ix l i):=by
 unfold zB;rw[eF _ _ _ h]
def ni(l:List Int):Nat→List Int
 |0=>l
 |k+1=>zB (ni l k)
theorem Oq(l:List Int)(k:Nat):(ni l k).length=l.length-k:=by
 induction k with
 |zero=>rfl
 |succ k ih=>rw[ni,zA,ih];omega
def yH(l:List Int)(k:Nat):List Int:=(List.range l.length).map fun j=>if j<k then wrap64 (ix l (j+1)-ix l j)else ix l j
theorem jk(l:List Int)(k:Nat):(yH l k).length=l.length:=by simp[yH]
theorem nP{l:List Int}{k j:Nat}(h:j<l.length):ix (yH l k) j=if j<k then wrap64 (ix l (j+1)-ix l j)else ix l j:=by
 unfold yH;rw[eF _ _ _ h]
theorem Nz(l:List Int):yH l 0=l:=jO _ _ (jk ..) fun j hj=>by rw[nP (by rwa[jk] at hj),if_neg (by omega)]
theorem RF{l:List Int}{k:Nat}(h:k+1<l.length):(yH l k).set k (wrap64 (ix l (k+1)-ix l k))=yH l (k+1):=by
 refine jO _ _ (by simp[jk]) fun j hj=> ?_
 have hj':j<l.length:=by simpa [jk] using hj
 rw[sJ _ _ _ _ (by rw[jk];omega),nP hj',nP hj']
 by_cases e:j=k
 ·subst e;simp
 ·rw[if_neg e]
  by_cases h':j<k
  ·rw[if_pos h',if_pos (by omega)]
  ·rw[if_neg h',if_neg (by omega)]
theorem NA(l:List Int):(yH l (l.length-1)).take (l.length-1)=zB l:=by
 refine jO _ _ (by rw[List.length_take,jk,zA];omega) fun j hj=> ?_
 have hj':j<l.length-1:=by rw[List.length_take,jk] at hj;omega
 rw[qJ hj',nP (by omega),if_pos hj',Qy hj']
def iH(l:List Int)(o:Int):Bool:=decide (0≤o) && decide (o≤4) && decide (o≤l.length)
theorem kX{l:List Int}{o:Int}:iH l o=true↔0≤o∧o≤4∧o≤l.length:=by simp[iH,and_assoc]
def a8(l:List Int)(o:Int):List Int×Int:=
 if iH l o=false then([],1)else if ah l=false then([],6)else if ah (ni l o.toNat)=false then([],6)else(ni l o.toNat,0)
theorem Mm{l:List Int}{o:Int}(h:iH l o=false):a8 l o=([],1):=by unfold a8;rw[if_pos h]
theorem Ml{l:List Int}{o:Int}(h:iH l o=true)(h2:ah l=false):a8 l o=([],6):=by unfold a8;rw[if_neg (by rw[h];simp),if_pos h2]
theorem Mi{l:List Int}{o:Int}(h:iH l o=true)(h2:ah l=true)(h3:ah (ni l o.toNat)=false):a8 l o=([],6):=by
 unfold a8;rw[if_neg (by rw[h];simp),if_neg (by rw[h2];simp),if_pos h3]
theorem GG{l:List Int}{o:Int}(h:iH l o=true)(h2:ah l=true)(h3:ah (ni l o.toNat)=true):a8 l o=(ni l o.toNat,0):=by
 unfold a8;rw[if_neg (by rw[h];simp),if_neg (by rw[h2];simp),if_neg (by rw[h3];simp)]
def pk(xs:List Int)(k:Nat):Int:=ix xs (xs.length-k)
def eQ(xs:List Int)(o:Nat):Int:=
 match o with
 |1=>pk xs 1
 |2=>2*pk xs 1-pk xs 2
 |3=>3*pk xs 1-3*pk xs 2+pk xs 3
 |4=>4*pk xs 1-6*pk xs 2+4*pk xs 3-pk xs 4
 |_=>0
theorem cH{xs:List Int}(h:ah xs=true){k:Nat}(h1:1≤k)(h2:k≤xs.length): -1073741824≤pk xs k∧pk xs k<1073741824:=
 cX.1 (aZ.1 h _ (by omega))
def jT(o:Nat)(out:List Int):List Int→Option (List Int)
 |[]=>some out
 |x :: r=>if aX (x+eQ out o)=true then jT o (out++[x+eQ out o]) r else none
def jN(warm:List Int)(o:Int):Bool:=decide (0≤o) && decide (o≤4) && decide ((warm.length:Int)=o)
theorem mL{warm:List Int}{o:Int}:jN warm o=true↔0≤o∧o≤4∧(warm.length:Int)=o:=by simp[jN,and_assoc]
def iD(warm rest:List Int)(o:Int):List Int×Int:=
 if jN warm o=false then([],1)else if ah warm=false then([],6)else if ah rest=false then([],6)else
 match jT o.toNat warm rest with
 |none=>([],6)
 |some l=>(l,0)
theorem OJ{warm rest:List Int}{o:Int}(h:jN warm o=false):iD warm rest o=([],1):=by unfold iD;rw[if_pos h]
theorem TK{warm rest:List Int}{o:Int}(h:jN warm o=true)(h2:ah warm=false):iD warm rest o=([],6):=by unfold iD;rw[if_neg (by rw[h];simp),if_pos h2]
theorem TJ{warm rest:List Int}{o:Int}(h:jN warm o=true)(h2:ah warm=true)(h3:ah rest=false):iD warm rest o=([],6):=by
 unfold iD;rw[if_neg (by rw[h];simp),if_neg (by rw[h2];simp),if_pos h3]
theorem JX{warm rest:List Int}{o:Int}(h:jN warm o=true)(h2:ah warm=true)(h3:ah rest=true)(h4:jT o.toNat warm rest=none):iD warm rest o=([],6):=by
 unfold iD;rw[if_neg (by rw[h];simp),if_neg (by rw[h2];simp),if_neg (by rw[h3];simp),h4]
theorem JW{warm rest l:List Int}{o:Int}(h:jN warm o=true)(h2:ah warm=true)(h3:ah rest=true)(h4:jT o.toNat warm rest=some l):iD warm rest o=(l,0):=by
 unfold iD;rw[if_neg (by rw[h];simp),if_neg (by rw[h2];simp),if_neg (by rw[h3];simp),h4]
theorem XD{xs:List Int}{k:Nat}(h:k<xs.length):xs.drop k=ix xs k :: xs.drop (k+1):=by
 rw[List.drop_eq_getElem_cons h,dQ h]
theorem CH{xs:List Int}{x:Int}(h:ah xs=true)(hx:aX x=true):ah (xs++[x])=true:=by
 simp[ah] at h ⊢
 exact⟨h,hx⟩
theorem Tc{xs:List Int}{o:Nat}(ho:o≤4)(hl:o≤xs.length)(h:ah xs=true): -21474836480≤eQ xs o∧eQ xs o≤21474836480:=by
 rcases o with _ | _ | _ | _ | _ | o
 ·simp[eQ]
 ·have:=cH h (k:=1) (by omega) (by omega);simp only[eQ];omega
 ·have:=cH h (k:=1) (by omega) (by omega);have:=cH h (k:=2) (by omega) (by omega);simp only[eQ];omega
 ·have:=cH h (k:=1) (by omega) (by omega);have:=cH h (k:=2) (by omega) (by omega);have:=cH h (k:=3) (by omega) (by omega);simp only[eQ];omega
 ·have:=cH h (k:=1) (by omega) (by omega);have:=cH h (k:=2) (by omega) (by omega);have:=cH h (k:=3) (by omega) (by omega);have:=cH h (k:=4) (by omega) (by omega);simp only[eQ];omega
 ·omega
def XO(x:Int):Int:=if x<wrap64 (-x)then wrap64 (-x)else x
def uA(r:List Int)(o:Int):Nat→Int
 |0=>0
 |k+1=>if 4≤(k:Int)+o then wrap64 (uA r o k+XO (ix r k))else uA r o k
theorem Vo{r:List Int}{o:Int}{k:Nat}(h:4≤(k:Int)+o):uA r o (k+1)=wrap64 (uA r o k+XO (ix r k)):=by rw[uA,if_pos h]
theorem PV{r:List Int}{o:Int}{k:Nat}(h:¬4≤(k:Int)+o):uA r o (k+1)=uA r o k:=by rw[uA,if_neg h]
def iF(l:List Int)(o:Int):Int:=if (a8 l o).2=0 then uA (a8 l o).1 o (a8 l o).1.length else 0
theorem Mj{l:List Int}{o:Int}:(a8 l o).1.length≤l.length:=by
 unfold a8
 (repeat' split) <;> simp[Oq]
def tz(l:List Int)(s:Int×Int)(o:Nat):Int×Int:=
 if (a8 l o).2=0 then(if s.2<0 then(↑o,iF l o)else if iF l o<s.2 then(↑o,iF l o)else s)else s
def iK(l:List Int):Nat→Int×Int
 |0=>(0, -1)
 |k+1=>tz l (iK l k) k
end
end Go.Proofs.YtbhfpehgacaidaaGreatDoor
