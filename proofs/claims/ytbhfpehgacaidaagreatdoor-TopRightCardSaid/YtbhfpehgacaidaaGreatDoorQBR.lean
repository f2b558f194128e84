/- A part of the proof of the given statement TopRight. Conditions: none. -/
import Derived.Test.YtbhfpehgacaidaaGreatDoorRows
import Derived.ProofKit
import Derived.OpenShut
import Derived.ShutString
import Derived.ChangeOld
import Derived.Lib.SmallJoins
import Derived.Deep.SlicePairs
import Derived.Deep.Matrix
import Derived.LaidMore
import Derived.Stop.Joined
import Derived.Test.YtbhfpehgacaidaaGreatDoorQBQ
namespace Go.Proofs.YtbhfpehgacaidaaGreatDoor
set_option linter.unusedVariables false
set_option linter.unusedSimpArgs false
set_option maxRecDepth 100000
set_option maxHeartbeats 8000000
section
open Go.RowKit
theorem Nq(w:World)(hT:C0 w):Calls Tryz.prog 4 #[] w fun e w'=>e= .returned (.bool true)∧Below w.heap.size w w':=by
 have hen:=aa (fun ga W (hW:Below w.heap.size w W) ha=>by
  have:=Fq ga W (hT.below hW) ha
  unfold J3 at this
  rw[show Pq.length=39 from rfl] at this
  exact this)
 have hot:=aa (fun A B c hc cK W hB ha=>by
  have:=BH A B c hc cK W hB ha
  unfold OtQ at this
  exact this)
 have hwr:=aa (fun A1 B c1 W hB ha A c Ap cp A2 c2 hr=>by
  have:=xJ [yF] 1 rfl (by omega) (by omega) (fun i hi=>by rw[List.mem_singleton] at hi;subst hi;decide) A1 B c1 W hB ha [([(zX,A,c)],Ap,cp)] rfl
   (fun t ht=>by rw[List.mem_singleton] at ht;subst ht;exact⟨by simp,fun e he=>by rw[List.mem_singleton] at he;subst he;exact(show zX.data.length≤60000 by decide)⟩) A2 c2 hr [zX] k1 (by simp)
   (fun p hp=>by rw[List.mem_singleton] at hp;subst hp;decide) [Ns] k2 (by simp) eO [Ns,kGd] k3 (by simp) eN k8
  rw[k4] at this
  unfold dF at this
  dsimp only at this
  rw[eu] at this
  exact this)
 have kx:=aa (fun A B c hc cK W hB ha=>by
  have:=AE knB 137 eu (by omega) eP A B c hc cK W hB ha [yF] 18 k5 (by omega) (by simp) [Ns] [] k6 [zX] k7 k9 (by simp)
  unfold Kd at this
  rw[show ([yF]:List eC).length=1 from rfl,show ([]:List Hl).length=0 from rfl] at this
  exact this)
 have ml:=aa (fun Ap A cp c hc cK W hp=>by
  have:=Jl Ap A cp c hc cK W hp
  unfold adi yF ku at this
  dsimp only at this
  exact this)
 have hsr:=aa (fun A A2 RA Lv RC Lu B B2 c c2 W h1 h2=>Bv (fun _=>[5, -5]) 1 (by omega) (fun _ _=>by decide) RA Lv RC Lu A A2 B B2 c c2 W h1 h2)
 clear hT
 go_enter Tryz.func4,Tryz.ntmps4
 go_upto_region 2 with fail
 generalize hwx:World.alloc w _=wx
 obtain⟨hx,bx,zx⟩:=oU hwx
 have BX:=aa bx
 have hI:=aa (dH wx .i64 [5, -5] #[.int .i64 5,.int .i64 (-5)] 3 rfl)
 have hS:Hid ((wx.alloc (.cells #[.int .i64 5,.int .i64 (-5)] 3)).heap.size=wx.heap.size+1):=aa (by simp)
 have BY:=aa (ak (ac wx) (.cells #[.int .i64 5,.int .i64 (-5)] 3))
 obtain⟨⟨m0,m1,m2⟩,_⟩:=eJ hx
 clear hwx hx bx zx
 go_upto_region 3 with (go_at_call 10;(with_reducible refine(hen.out wx.heap.size _ (af BX.out BY.out) (by rw[hS.out];exact hI.out)).mono ?_);rintro e w1 ⟨A1,c1,rfl,cM,b1⟩)
 obtain⟨p1,p2⟩:=bJ cM
 have HO1:=aa cM
 have B1:=aa (af (af BX.out BY.out) b1)
 clear m0 m1 m2 hI hS BY BX cM b1 hen
 go_upto_region 4 with (go_at_call 11;(with_reducible refine(hot.out A1 w1.heap.size c1 p1 (agm p2 (by decide)) w1 (agl _) HO1.out.ints).mono ?_);rintro e w2 ⟨Ap,cp,A,c,rfl,cD,b2⟩)
 generalize hw3:World.alloc w2 _=w3
 obtain⟨h3,b3,z3⟩:=oU hw3
 have B3:=aa (af (af B1.out b2) b3)
 obtain⟨e1,e2,e3⟩:=XN (w:=w3) (a1:=#[.int .i64 1,.int .i64 1,.int .i64 3,.int .i64 8000,.int .i64 1,.int .i64 8,.int .i64 0,.int .i64 0,.int .i64 0,.int .i64 0]) (a2:=#[.slice Ap 1 cp]) (t1:=43) (t2:=44) rfl
 have hRD:=((aV.rd cD).below (b3.trans (e3.mono b3.size))).more (agm b3.size e3.size)
 have HW:Hid (Rd ((w3.alloc (.cells #[.int .i64 1,.int .i64 1,.int .i64 3,.int .i64 8000,.int .i64 1,.int .i64 8,.int .i64 0,.int .i64 0,.int .i64 0,.int .i64 0] 43)).alloc (.cells #[.slice Ap 1 cp] 44)) ((w3.alloc (.cells #[.int .i64 1,.int .i64 1,.int .i64 3,.int .i64 8000,.int .i64 1,.int .i64 8,.int .i64 0,.int .i64 0,.int .i64 0,.int .i64 0] 43)).alloc (.cells #[.slice Ap 1 cp] 44)).heap.size (some ⟨w3.heap.size,0,none⟩) (ew [yF])∧
  OW ((w3.alloc (.cells #[.int .i64 1,.int .i64 1,.int .i64 3,.int .i64 8000,.int .i64 1,.int .i64 8,.int .i64 0,.int .i64 0,.int .i64 0,.int .i64 0] 43)).alloc (.cells #[.slice Ap 1 cp] 44)) ((w3.alloc (.cells #[.int .i64 1,.int .i64 1,.int .i64 3,.int .i64 8000,.int .i64 1,.int .i64 8,.int .i64 0,.int .i64 0,.int .i64 0,.int .i64 0] 43)).alloc (.cells #[.slice Ap 1 cp] 44)).heap.size (some ⟨w3.heap.size+1,0,none⟩) [([(zX,A,c)],Ap,cp)]):=
  aa ⟨Im e1 (agn.1 e1).1,Im e2 (agn.1 e2).1,fun t ht=>by rw[List.mem_singleton] at ht;subst ht;exact hRD⟩
 have BW:=aa e3
 obtain⟨k0,k1,k2,k3,k4,k5,k6,k7,k8,k9⟩:=aQ h3
 clear hw3 h3 b3 z3 e1 e2 e3 hRD cD b2 HO1 p1 p2 hot B1
 go_upto_region 5 with (go_at_call 8;(with_reducible refine(hwr.out _ _ 1 _ (agl _) HW.out.1 A c Ap cp _ 1 HW.out.2).mono ?_);rintro e w6 ⟨A6,c6,rfl,dC,b6⟩)
 obtain⟨p1,p2⟩:=bJ dC
 have GA:=aa dC
 have B6:=aa (af (af B3.out BW.out) b6)
 clear k0 k1 k2 k3 k4 k5 k6 k7 k8 k9 HW BW dC b6 hwr B3
 go_upto_region 6 with (go_at_call 7;(with_reducible refine(kx.out A6 w6.heap.size c6 p1 (agm p2 (by decide)) w6 (agl _) GA.out.ints).mono ?_);rintro e w7 ⟨A7,c7,g,T,A8,c8,rfl,fQ,Ch,hH7,b7,NW⟩)
 obtain⟨Ad,cd,Aq,cq,rfl⟩:=aam hH7
 obtain⟨p3,p4⟩:=NW _ (List.mem_singleton.2 rfl) _ (List.mem_singleton.2 rfl)
 obtain⟨bi,oi,rfl,hbi,y0,y1,y2,y3,y4,y5,y6,y7,y8,y9⟩:=xh (i:=0) fQ.rd (show 0<1 by omega)
 obtain⟨b0,o0,eg,hbg,r0⟩:=H7 (i:=0) Ch (show 0<1 by omega)
 cases eg
 have hRS:=Ch.2 _ (List.mem_singleton.2 rfl)
 obtain⟨bp,op,ep,SL,x0,x1,x2,x3,x4,x5⟩:=kh (i:=0) hRS (show 0<1 by omega)
 dsimp only at ep
 subst ep
 have B7:=aa (af B6.out b7)
 have HRS:Hid (iE iA w7.drew w7.drew.heap.size (some ⟨bp,op,none⟩) [(zX,Ad,cd)]):=aa hRS
 have P3:Hid (16≤cd):=aa p3
 have P4:=aa (agm p4 (show maxLen≤9223372036854775807 by decide))
 have X2:Hid (w7.cell? ⟨bp,op+2,none⟩=some (.int .i64 6)):=aa x2
 replace r0:w7.cell? ⟨g,0,none⟩=some (.slice (some ⟨bp,op,none⟩) 1 cq):=r0
 replace y0:w7.cell? ⟨bi,oi,none⟩=some (.int .i64 1):=y0
 replace y1:w7.cell? ⟨bi,oi+1,none⟩=some (.int .i64 1):=y1
 replace y2:w7.cell? ⟨bi,oi+2,none⟩=some (.int .i64 3):=y2
 replace y3:w7.cell? ⟨bi,oi+3,none⟩=some (.int .i64 8000):=y3
 replace y4:w7.cell? ⟨bi,oi+4,none⟩=some (.int .i64 1):=y4
 replace y5:w7.cell? ⟨bi,oi+5,none⟩=some (.int .i64 8):=y5
 replace y6:w7.cell? ⟨bi,oi+6,none⟩=some (.int .i64 0):=y6
 replace y7:w7.cell? ⟨bi,oi+7,none⟩=some (.int .i64 0):=y7
 replace y8:w7.cell? ⟨bi,oi+8,none⟩=some (.int .i64 0):=y8
 replace y9:w7.cell? ⟨bi,oi+9,none⟩=some (.int .i64 0):=y9
 have HG:Hid (g<w7.heap.size∧bp<w7.heap.size):=aa ⟨hbg,SL⟩
 clear fQ Ch hH7 b7 NW p3 p4 hRS x0 x1 x2 x3 x4 x5 hbi hbg SL GA p1 p2 kx
 go_wp2_with fail
 go_region_held3 (fun w'=>w'.cell? ⟨bi,oi,none⟩=some (.int .i64 1)∧w'.cell? ⟨bi,oi+1,none⟩=some (.int .i64 1)∧w'.cell? ⟨bi,oi+2,none⟩=some (.int .i64 3)∧w'.cell? ⟨bi,oi+3,none⟩=some (.int .i64 8000)∧w'.cell? ⟨bi,oi+4,none⟩=some (.int .i64 1)∧w'.cell? ⟨bi,oi+5,none⟩=some (.int .i64 8)∧w'.cell? ⟨bi,oi+6,none⟩=some (.int .i64 0)∧w'.cell? ⟨bi,oi+7,none⟩=some (.int .i64 0)∧w'.cell? ⟨bi,oi+8,none⟩=some (.int .i64 0)∧w'.cell? ⟨bi,oi+9,none⟩=some (.int .i64 0)∧w'.cell? ⟨g,0,none⟩=some (.slice (some ⟨bp,op,none⟩) 1 cq)) (first | (go_keep;done) | exact⟨later B9 y0,later B9 y1,later B9 y2,later B9 y3,later B9 y4,later B9 y5,later B9 y6,later B9 y7,later B9 y8,later B9 y9,later B9 r0⟩)
  (first | (go_at_call 12;(with_reducible refine(ml.out (some ⟨bp,op,none⟩) Ad cq cd P3.out P4.out w7.drew HRS.out).mono ?_);rintro e w9 ⟨A9,c9,RA9,RC9,rfl,yI,b9⟩;have B9:Below w7.heap.size w7 w9:=af (ac w7).drew b9))
 obtain⟨e1,e2,e3⟩:=XN (w:=w9) (a1:=#[.int .i64 5,.int .i64 (-5)]) (a2:=#[.slice (some ⟨w9.heap.size,0,none⟩) 2 2]) (t1:=3) (t2:=39) rfl
 have HRa:=aa ((yI.below e3).more e3.size)
 have HRb:Hid (Rw ((w9.alloc (.cells #[.int .i64 5,.int .i64 (-5)] 3)).alloc (.cells #[.slice (some ⟨w9.heap.size,0,none⟩) 2 2] 39)) ((w9.alloc (.cells #[.int .i64 5,.int .i64 (-5)] 3)).alloc (.cells #[.slice (some ⟨w9.heap.size,0,none⟩) 2 2] 39)).heap.size (some ⟨w9.heap.size+1,0,none⟩) 1 (fun _=>some ⟨w9.heap.size,0,none⟩) (fun _=>2) (fun _=>[5, -5])):=
  aa ⟨fun _=>⟨_,0,rfl,(agn.1 e2).1,fun i hi=>by
   obtain rfl:i=0:=by omega
   exact(qZ e2).1⟩,fun i hi=>Im e1 (agn.1 e1).1,fun i hi=>by decide,fun i hi=>by decide⟩
 have E3:=aa e3
 have C9:=aa B9
 have R0:=aa r0
 clear e1 e2 e3 yI b9 B9 r0 y0 y1 y2 y3 y4 y5 y6 y7 y8 y9 HRS P3 P4 ml
 go_wp2_with (go_at_call 13;(with_reducible refine(hsr.out A9 _ RA9 _ RC9 _ _ _ c9 1 _ HRa.out HRb.out).mono ?_);rintro e F9 ⟨rfl,uv⟩;have Pp:=aa (af C9.out (af E3.out uv));have r10:=later Pp.out R0.out;have p9:=later Pp.out X2.out)
 go_ret
 exact⟨rfl,af B7.out Pp.out⟩
end
section
open Go.ChangeAt Go.ChangeShapes Go.Joins Go.RowKit Go.WideShapes
theorem own_knob:ownKnob Tryz.prog.godebug=none:=by kernel_rfl
theorem laid_out:laidOutB Tryz.prog=true:=by kernel_rfl
def abk(k:IntKind)(l:List Int):Prop:=∀x∈l,(Lit.int k x).wf=true
theorem open_rowc{H:Type}{enc:TypeId×Value→H}{P:Program}{W:World}{T E:TypeId}{k:IntKind}{base:Nat}{v:Value}{d:DataW H}{p:List MemPlace}
 (ht:P.underlying T=some (.slice E)) (he:P.underlying E=some (.int k)) (hc:P.cellsOf E=1)
 (hv:Value.okWide P W .any base T v) (h:DataW.Trod enc P W 0 (fun _=>true) true T v d p):
 ∃(A:Option Addr) (c:Nat) (l:List Int),v= .slice A l.length c∧l.length≤9223372036854775807∧l.length≤c∧c≤9223372036854775807∧ag k W W.heap.size A l∧abk k l:=by
 obtain⟨a0,Z0,ac5,rfl⟩:=okWide_slice ht hv
 obtain⟨fuel,hf⟩:=h
 rcases open_ints ht he hc hf with ⟨hcs,_⟩ | ⟨x,l,c,zs,hcs,_,hl,hm,hz,_,hcell,oK⟩
 ·simp[Value.cells] at hcs
  obtain⟨rfl,rfl,rfl⟩:=hcs
  exact⟨none,0,[],rfl,by simp,by simp,by omega,Rd.nil,fun x hx=>by simp at hx⟩
 ·simp[Value.cells] at hcs
  obtain⟨rfl,rfl,rfl⟩:=hcs
  have hz':zs.length=ac5:=by simpa using hz
  have hlen:(zs.take Z0).length=Z0:=by rw[List.length_take];omega
  refine⟨some x,ac5,zs.take Z0,by rw[hlen],by rw[hlen];simp only[maxLen] at hm;omega,by rw[hlen];exact hl,by simp only[maxLen] at hm;omega,fun hn=> ?_,fun y hy=>oK y (List.mem_of_mem_take hy)⟩
  rw[List.length_map,hlen] at hn
  obtain⟨b,off,spot⟩:=x
  have c0:=hcell 0 (by omega)
  have hspot:spot=none:=by simpa [Addr.add] using World.cell?_spot c0
  subst hspot
  refine⟨b,off,rfl, ?_,fun i u hu=> ?_⟩
  ·have:=block_lt_of_cell c0;simpa [Addr.add] using this
  ·rw[List.map_take,List.getElem?_take] at hu
   split at hu
   ·rename_i hi
    have hi':i<zs.length:=by omega
    rw[List.getElem?_map,List.getElem?_eq_getElem hi'] at hu
    simp at hu
    subst hu
    have:=hcell i hi'
    rw[List.getD_eq_getElem?_getD,List.getElem?_eq_getElem hi',Option.getD_some] at this
    simp only[Addr.add] at this
    split at this
    ·rename_i h0;subst h0;exact this
    ·exact this
   ·cases hu
def laidT:List (String×DataW Unit):=[("math/bits.deBruijn64tab",Rows.laid_math_bits_deBruijn64tab)]
theorem ac4:Tryz.prog.globalNamed "math/bits.deBruijn64tab" =some 0:=by kernel_rfl
theorem ady:(Tryz.prog.globals[0]?).map (·.type)=some 314:=by kernel_rfl
theorem door_met(os:Os)(args:Array Value):laidMetH Tryz.prog laidT ((World.doorLaid Tryz.prog 400 os).forCall (fun _ _=>0) ⟨#[],args,[]⟩).memory:=
 laidMetH_of_parts3 (fuel:=8) (laidMet_of_run' 8 (by kernel_rfl) (by kernel_rfl)) (by kernel_rfl) (by kernel_rfl)
theorem Wp:(Rows.laid_math_bits_deBruijn64tab:DataW Unit)= .agg (Lib.deBruijn64tab.map fun (n:Nat)=>.lit (.int .u8 (n:Int))):=by kernel_rfl
theorem tab_of_laid{W:World}(h:laidMetH Tryz.prog laidT W):C0 W:=by
 rw[MakeChecks.laidMetH_plain _ _ _ (by kernel_rfl)] at h
 obtain⟨ps,⟨g0,t0,cs0,f0,p0,q0,hg0,ht0,hv0,SK,_⟩,_⟩:=h
 obtain rfl:=Option.some.inj (ac4.symm.trans hg0)
 obtain rfl:=Option.some.inj (ady.symm.trans ht0)
 obtain⟨xs,m1,rfl,hx1,hlen,hn3,hel⟩:=DataW.trod_array Tryz.underlying314 SK
 have c5:Tryz.prog.cellsOf 5=1:=by kernel_rfl
 intro j hj
 have ad2:j<64:=hj
 have h0:=hel j ad2
 rw[c5,Nat.mul_one,List.getElem?_eq_getElem (by omega)] at h0
 have hx:=congrArg Prod.fst hx1
 simp only at hx
 rw[Wp] at hx
 have hx2:(Lib.deBruijn64tab.map fun (n:Nat)=>(DataW.lit (.int .u8 (n:Int)):DataW Unit))=xs.map (·.1):=by injection hx
 have hx3:(xs[j]'(by omega)).1=DataW.lit (.int .u8 ((Lib.deBruijn64tab.getD j 0:Nat):Int)):=by
  have:=congrArg (fun l=>l[j]?) hx2
  simp only[List.getElem?_map,List.getElem?_eq_getElem hj,List.getElem?_eq_getElem (show j<xs.length by omega),Option.map_some,Option.some.injEq] at this
  rw[←this]
  simp[List.getD,List.getElem?_eq_getElem hj]
 obtain⟨k,e1,e2,_⟩:=DataW.trod_int Tryz.underlying5 h0
 have hk:k=((Lib.deBruijn64tab.getD j 0:Nat):Int):=by
  have:=congrArg Prod.fst e2
  rw[hx3] at this
  simpa using this.symm
 subst hk
 have hc:=World.var?_cell ac4 hv0 j
 rw[hc]
 have e3:cs0.toList[j]? =some (.int .u8 ((Lib.deBruijn64tab.getD j 0:Nat):Int)):=by
  have:=congrArg (fun l=>l[0]?) e1
  simpa using this
 simpa using e3
theorem XI{l:List Int}(h:abk .u8 l):aH l:=fun x hx=>by
 have m3:IntKind.u8.min=0:=by decide
 have m4:IntKind.u8.max=255:=by decide
 have:=h x hx
 simp[Lit.wf,m3,m4] at this
 omega
theorem topRight_any(l:List Int)(m:l.length≤9223372036854775807)(A:Option Addr)(c:Nat)(mc:l.length≤c)(md:c≤9223372036854775807)(W:World)(hT:C0 W)(x:ag .u8 W W.heap.size A l)(f:abk .u8 l):
 Calls Tryz.prog 3 #[.slice A l.length c] W fun e w'=>e= .returned (.bool true)∧Below W.heap.size W w':=
 Dh l l.length rfl (XI f) m A W.heap.size c mc md W (Nq W hT) (agl _) x
end
end Go.Proofs.YtbhfpehgacaidaaGreatDoor
