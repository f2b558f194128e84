/- A part of the proof of the given statement TopRight. Conditions: none. -/
import Derived.Test.YtbhfpehgacaidaaGreatDoorQBK
namespace Go.Proofs.YtbhfpehgacaidaaGreatDoor
set_option linter.unusedVariables false
set_option linter.unusedSimpArgs false
set_option maxRecDepth 100000
set_option maxHeartbeats 8000000
section
open Go.RowKit
def adt(l:List Int)(g:Nat)(w:World)(e:Ending)(w':World):Prop:=∃m:Ad,e= .returned (.tuple #[.agg #[.int .i64 1,.int .i64 0,.int .i64 0,.int .i64 0,.int .i64 0,.slice none 0 0,.int .i64 0,.int .i64 0,.int .i64 0,.slice none 0 0,.slice m.A 2 m.c,.int .i64 0,.slice m.Ak 0 m.ck,.slice m.Ar 0 m.cr],.int .i64 0])∧oC w' w'.heap.size (aK 0 [5, -5]) m∧cG w' g l 21 0∧Kg g w w'∧∀q,aj m.A=some q∨aj m.Ak=some q∨aj m.Ar=some q→w.heap.size≤q
theorem MW(A2:Option Addr)(c2:Nat)(B:Nat)(w:World)(hB:B≤w.heap.size)(hm:oC w B (aK 0 [5, -5]) ⟨A2,c2,none,0,none,0⟩):
 Calls Tryz.prog 141 #[.agg #[.int .i64 1,.int .i64 0,.int .i64 0,.int .i64 0,.int .i64 0,.slice none 0 0,.int .i64 0,.int .i64 0,.int .i64 0,.slice none 0 0,.slice A2 2 c2,.int .i64 0,.slice none 0 0,.slice none 0 0],.int .i64 2] w fun e w'=>e= .returned (.bool true)∧Below w.heap.size w w':=
 vN (aK 0 [5, -5]) ⟨A2,c2,none,0,none,0⟩ 2 B [5, -5] (pu 0 [5, -5] [5, -5] 2 rfl (by omega) (by omega) (by omega) (by omega) (by decide) (by decide) _ B) w hB hm
theorem Ma(l:List Int)(hby:aH l)(hl:l.length=3)(h1:eG l 0 3=1)(h2:eG l 3 5=0)(h3:eG l 8 5=4)(h4:eG l 13 4=5)(h5:eG l 17 4=11)(g:Nat)(w:World)(h:cG w g l 0 0):
 Calls Tryz.prog 156 #[.pointer (some ⟨g,0,none⟩),.int .i64 2] w (adt l g w):=by
 have hlt:=h.lt
 have ml:=aa (fun W h=>G9 l hby (by omega) (by omega) h1 h2 h3 g W h)
 have hs1:=aa (fun W h=>Kj l hby (by omega) 13 5 5 (by omega) h4 (.inl ⟨rfl,rfl⟩) g W h)
 have hs2:=aa (fun W h=>Kj l hby (by omega) 17 11 (-5) (by omega) h5 (.inr ⟨rfl,rfl⟩) g W h)
 unfold ShQ at ml
 unfold SgQ at hs1 hs2
 have hcv:io (PJ 1 0) oq= .agg #[.int .i64 1,.int .i64 0,.int .i64 0,.int .i64 0,.int .i64 0,.slice none 0 0,.int .i64 0,.int .i64 0,.int .i64 0,.slice none 0 0,.slice none 0 0,.int .i64 0,.slice none 0 0,.slice none 0 0]:=rfl
 have bQ:=aa (fun W=>by
  have:=nV 1 (by omega) (PJ 1 0) oq 2 W
  rw[hcv,show Cp 1 (PJ 1 0).od 2=true from rfl] at this;exact this)
 have WF:=aa (fun W=>by
  have:=kQ (PJ 1 0) oq 2 (by right;left;rfl) W
  rw[hcv,show vC (PJ 1 0) 2=2 from rfl] at this;exact this)
 have NF:=aa (fun W=>by
  have:=iX 1 W
  rw[show jB 1=false from rfl] at this;exact this)
 have S0:Hid (cG (w.alloc (.cells cE 171)) g l 0 0∧(w.alloc (.cells cE 171)).heap[w.heap.size]? =some (.cells cE 171 (0,0))∧Kg g w (w.alloc (.cells cE 171))∧(w.alloc (.cells cE 171)).heap.size=w.heap.size+1):=
  aa ⟨h.below (ak (ac w) _) (agl _),ago w _,Kg.of_below (ak (ac w) _) hlt,by simp⟩
 clear h h1 h2 h3 h4 h5 hcv hl
 unfold cE at S0
 go_enter Tryz.func156,Tryz.ntmps156
 go_upto_region 1 with fail
 obtain⟨wx,hwx⟩:∃wx,wx=w.alloc (.cells #[.int .i64 0,.int .i64 0,.int .i64 0,.int .i64 0,.int .i64 0,.slice none 0 0,.int .i64 0,.int .i64 0,.int .i64 0,.slice none 0 0,.slice none 0 0,.int .i64 0,.slice none 0 0,.slice none 0 0] 171):=⟨_,rfl⟩
 rw[←hwx] at S0 ⊢
 obtain⟨gr,hgr⟩:∃gr,gr=w.heap.size:=⟨_,rfl⟩
 have Y6:=S0.out
 rw[←hgr] at Y6 ⊢
 have rJ:=aa hgr
 have S1:=aa Y6
 have her:=aa (jI l 0 0 g wx Y6.1)
 clear S0 Y6 hwx hgr
 go_upto_region 7 with (first
  |(go_at_call 159;(with_reducible refine her.out.mono ?_);rintro e w1 ⟨rfl,rfl⟩)
  |(go_at_call 198;(with_reducible refine(ml.out _ S1.out.1).mono ?_);rintro e w2 ⟨rfl,o2,k2⟩))
 have G2:J9 w (w2.alloc (.cells #[.int .i64 1,.int .i64 0,.int .i64 0,.int .i64 0,.int .i64 0,.slice none 0 0,.int .i64 0,.int .i64 0,.int .i64 0,.slice none 0 0,.slice none 0 0,.int .i64 0,.slice none 0 0,.slice none 0 0] 171)) g gr w2.heap.size l 13 #[.int .i64 1,.int .i64 0,.int .i64 0,.int .i64 0,.int .i64 0,.slice none 0 0,.int .i64 0,.int .i64 0,.int .i64 0,.slice none 0 0,.slice none 0 0,.int .i64 0,.slice none 0 0,.slice none 0 0]:=by
  have q0:=rJ.out
  have q1:=k2.k.size
  have q2:=S1.out.2.2.2
  exact⟨o2.below (ak (ac w2) _) (agl _),(ags _ _ _ (by omega)).trans ((k2.k.block gr (by omega) (by omega)).trans S1.out.2.1),ago w2 _,S1.out.2.2.1.trans (k2.trans (Kg.of_below (ak (ac w2) _) (by omega))),hlt,by omega,by omega⟩
 obtain⟨wv,tY⟩:∃wv,wv=w2.alloc (.cells #[.int .i64 1,.int .i64 0,.int .i64 0,.int .i64 0,.int .i64 0,.slice none 0 0,.int .i64 0,.int .i64 0,.int .i64 0,.slice none 0 0,.slice none 0 0,.int .i64 0,.slice none 0 0,.slice none 0 0] 171):=⟨_,rfl⟩
 rw[←tY] at G2 ⊢
 obtain⟨gc,mn⟩:∃gc,gc=w2.heap.size:=⟨_,rfl⟩
 rw[←mn] at G2 ⊢
 have HG:=aa G2
 have acO:=aa (jI l 13 0 g wv G2.oc)
 obtain⟨⟨y0,y1,y2,y3,y4,y5,y6,y7,y8,y9,yZ,yY,yX,yV⟩,z0,z1,z2,z3,z4,z5,z6,z7,z8,z9,z10,z11,z12,z13⟩:=ai G2.c
 clear G2 tY mn o2 k2 her ml S1
 go_upto_region 10 with (go_at_call 159;(with_reducible refine acO.out.mono ?_);rintro e w3 ⟨rfl,rfl⟩)
 obtain⟨wv,rfl⟩:∃wv:World,wv=w3:=⟨_,rfl⟩
 clear acO
 go_upto_region 12 with (go_at_call 186;(with_reducible refine(bQ.out wv).mono ?_);rintro e w4 ⟨rfl,b4⟩)
 have G4:=HG.out.below b4 HG.out.lt
 have HG4:=aa G4
 clear y0 y1 y2 y3 y4 y5 y6 y7 y8 y9 yZ yY yX yV z0 z1 z2 z3 z4 z5 z6 z7 z8 z9 z10 z11 z12 z13
 obtain⟨⟨y0,y1,y2,y3,y4,y5,y6,y7,y8,y9,yZ,yY,yX,yV⟩,z0,z1,z2,z3,z4,z5,z6,z7,z8,z9,z10,z11,z12,z13⟩:=ai G4.c
 clear HG G4 b4 bQ
 go_wp2_with (go_at_call 199;(with_reducible refine(WF.out w4).mono ?_);rintro e w5 ⟨rfl,b5⟩)
 have UB:=aa (HG4.out.below b5 HG4.out.lt)
 obtain⟨B0,PH⟩:∃B0,B0=w5.heap.size:=⟨_,rfl⟩
 have HB:Hid (gc<B0∧gr<gc∧g<gr∧w.heap.size≤gr):=aa ⟨by have:=UB.out.lt;omega,UB.out.ne,by have:=UB.out.gl;have:=UB.out.lo;omega,UB.out.lo⟩
 have vx:Hid (B0≤w5.heap.size):=aa (by omega)
 clear y0 y1 y2 y3 y4 y5 y6 y7 y8 y9 yZ yY yX yV z0 z1 z2 z3 z4 z5 z6 z7 z8 z9 z10 z11 z12 z13 b5 HG4 WF PH
 go_loopw [48] (fun iv wr=>B0≤wr.heap.size∧((iv= .int .i64 0∧J9 w wr g gr gc l 13 #[.int .i64 1,.int .i64 0,.int .i64 0,.int .i64 0,.int .i64 0,.slice none 0 0,.int .i64 0,.int .i64 0,.int .i64 0,.slice none 0 0,.slice none 0 0,.int .i64 0,.slice none 0 0,.slice none 0 0])∨
  (iv= .int .i64 1∧∃A1 c1,J9 w wr g gr gc l 17 #[.int .i64 1,.int .i64 0,.int .i64 0,.int .i64 0,.int .i64 0,.slice none 0 0,.int .i64 0,.int .i64 0,.int .i64 0,.slice none 0 0,.slice A1 1 c1,.int .i64 0,.slice none 0 0,.slice none 0 0]∧ax wr B0 A1 1 c1 [5])∨
  (iv= .int .i64 2∧∃A2 c2,J9 w wr g gr gc l 21 #[.int .i64 1,.int .i64 0,.int .i64 0,.int .i64 0,.int .i64 0,.slice none 0 0,.int .i64 0,.int .i64 0,.int .i64 0,.slice none 0 0,.slice A2 2 c2,.int .i64 0,.slice none 0 0,.slice none 0 0]∧ax wr B0 A2 2 c2 [5, -5]))) (fun iv _=>2-(intOf iv).toNat)
 case atStart=>exact⟨vx.out,.inl ⟨rfl,UB.out⟩⟩
 case round=>
  obtain⟨r0,⟨rfl,r1⟩ | ⟨rfl,A1,c1,r1,r2⟩ | ⟨rfl,A2,c2,r1,r2⟩⟩:=hrel
  ·obtain⟨wo,rfl⟩:∃wo:World,wo=wr:=⟨_,rfl⟩
   have R0:=aa r0
   have R1:=aa r1
   obtain⟨⟨y0,y1,y2,y3,y4,y5,y6,y7,y8,y9,yZ,yY,yX,yV⟩,z0,z1,z2,z3,z4,z5,z6,z7,z8,z9,z10,z11,z12,z13⟩:=ai r1.c
   clear r0 r1 UB vx
   have RD:=aa (R1.out.below (ac wo).drew R1.out.lt)
   go_upto_region 14 with fail
   go_region_law (first
    |((refine nC _ (by rfl) _ _ (by go_simp) (hs1.out wo.drew RD.out.oc) ?_;rintro e w6 ⟨rfl,o6,k6⟩;refine⟨_,rfl, ?_⟩;have S6:=RD.out.kp o6 k6;obtain⟨⟨x0,x1,x2,x3,x4,x5,x6,x7,x8,x9,p9,tJ,uy,uU⟩,f0,f1,f2,f3,f4,f5,f6,f7,f8,f9,f10,f11,Lg,f13⟩:=ai S6.c;have a10:=fun o=>later (ak (ac w6) o) p9))
    |((refine mC _ (by rfl) Tryz.underlying39 gR (by omega) (.tmp 51) (.tmp 55) (by rfl) B0 none 0 0 [] (by rfl) (ax.nil _ _) _ (some ⟨w6.heap.size,0,none⟩) 1 1 [5] (by rfl) rfl (dH w6 .i64 [5] _ _ rfl) (by omega) (agm (agm R0.out k6.k.size) (ak (ac w6) _).size) ?_;intro A7 c7 w7 fQ b7';have b7:=((ak (ac w6) _).mono (agm R0.out k6.k.size)).trans b7';have S7:=S6.below b7 HB.out.1;obtain⟨⟨x0,x1,x2,x3,x4,x5,x6,x7,x8,x9,p9,tJ,uy,uU⟩,f0,f1,f2,f3,f4,f5,f6,f7,f8,f9,f10,f11,Lg,f13⟩:=ai S7.c)))
   all_goals go_wp2_with fail
   all_goals (
    have mn:=HB.out.1
    have hs7:=agm (agm R0.out k6.k.size) b7.size
    exact⟨⟨by rw[jY];exact hs7,.inr (.inl ⟨rfl,A7,c7,S7.set 10 _ rfl,ap fQ fun q hq=>agr _ _ _ _ (by have:=(agB fQ q hq).1;show q≠gc;omega)⟩)⟩,by simp[intOf]⟩)
  ·obtain⟨wo,rfl⟩:∃wo:World,wo=wr:=⟨_,rfl⟩
   have R0:=aa r0
   have R1:=aa r1
   have R2:=aa r2
   obtain⟨⟨y0,y1,y2,y3,y4,y5,y6,y7,y8,y9,yZ,yY,yX,yV⟩,z0,z1,z2,z3,z4,z5,z6,z7,z8,z9,z10,z11,z12,z13⟩:=ai r1.c
   clear r0 r1 r2 UB vx
   have RD:=aa (R1.out.below (ac wo).drew R1.out.lt)
   go_upto_region 14 with fail
   go_region_law (first
    |((refine nC _ (by rfl) _ _ (by go_simp) (hs2.out wo.drew RD.out.oc) ?_;rintro e w6 ⟨rfl,o6,k6⟩;refine⟨_,rfl, ?_⟩;have S6:=RD.out.kp o6 k6;have O6:ax w6 B0 A1 1 c1 [5]:=ap R2.out (fun q hq=>k6.k.block q (agB R2.out q hq).2 (fun e=>by have:=(agB R2.out q hq).1;have:=HB.out;omega));obtain⟨⟨x0,x1,x2,x3,x4,x5,x6,x7,x8,x9,p9,tJ,uy,uU⟩,f0,f1,f2,f3,f4,f5,f6,f7,f8,f9,f10,f11,Lg,f13⟩:=ai S6.c;have a10:=fun o=>later (ak (ac w6) o) p9))
    |((refine mC _ (by rfl) Tryz.underlying39 gR (by omega) (.tmp 51) (.tmp 55) (by rfl) B0 A1 1 c1 [5] (by rfl) (ax.alloc O6 _) _ (some ⟨w6.heap.size,0,none⟩) 1 1 [-5] (by rfl) rfl (dH w6 .i64 [-5] _ _ rfl) (by omega) (agm (agm R0.out k6.k.size) (ak (ac w6) _).size) ?_;intro A7 c7 w7 fQ b7';have b7:=((ak (ac w6) _).mono (agm R0.out k6.k.size)).trans b7';have S7:=S6.below b7 HB.out.1;obtain⟨⟨x0,x1,x2,x3,x4,x5,x6,x7,x8,x9,p9,tJ,uy,uU⟩,f0,f1,f2,f3,f4,f5,f6,f7,f8,f9,f10,f11,Lg,f13⟩:=ai S7.c)))
   all_goals go_wp2_with fail
   all_goals (
    have mn:=HB.out.1
    have hs7:=agm (agm R0.out k6.k.size) b7.size
    exact⟨⟨by rw[jY];exact hs7,.inr (.inr ⟨rfl,A7,c7,S7.set 10 _ rfl,ap fQ fun q hq=>agr _ _ _ _ (by have:=(agB fQ q hq).1;show q≠gc;omega)⟩)⟩,by simp[intOf]⟩)
  ·obtain⟨wo,rfl⟩:∃wo:World,wo=wr:=⟨_,rfl⟩
   have R0:=aa r0
   have R1:=aa r1
   have R2:=aa r2
   obtain⟨⟨y0,y1,y2,y3,y4,y5,y6,y7,y8,y9,yZ,yY,yX,yV⟩,z0,z1,z2,z3,z4,z5,z6,z7,z8,z9,z10,z11,z12,z13⟩:=ai r1.c
   have aec:=aa (jI l 21 0 g wo r1.oc)
   have hwd:=aa (by have:=iR [5, -5] 2 rfl (by omega) A2 wo.heap.size c2 wo (bR r2);rw[show aA [5, -5]=4 from by decide] at this;exact this)
   have hsm:∀W,Below wo.heap.size wo W→oC W wo.heap.size (aK 0 [5, -5]) ⟨A2,c2,none,0,none,0⟩:=fun W hW=>oC.below ⟨bR r2,ag.nil,ag.nil,je r2,⟨agl _,agw _⟩,⟨agl _,agw _⟩,fun q hq=>nK r2 hq,fun q hq=>(by cases hq),fun q hq=>(by cases hq)⟩ hW
   have bK:=aa (fun W (hW:Below wo.heap.size wo W)=>MW A2 c2 wo.heap.size W hW.size (hsm W hW))
   have hr0:=r1.r
   clear r0 r1 r2 UB vx hsm
   go_upto_region 16 with fail
   go_upto_region 24 with (first
    |(go_at_call 159;(with_reducible refine aec.out.mono ?_);rintro e w6 ⟨rfl,rfl⟩)
    |(go_at_call 146;(with_reducible refine(NF.out _).mono ?_);rintro e w7 ⟨rfl,rfl⟩))
   go_wp2_with (first
    |(go_at_call 142;(with_reducible refine hwd.out.mono ?_);rintro e w8 ⟨rfl,q8,rfl⟩)
    |(go_at_call 141;(with_reducible refine(bK.out _ (below_drewN (ac _) q8)).mono ?_);rintro e w9 ⟨rfl,b9⟩;have B9:=af (below_drewN (ac w7) q8) b9;have S9:=R1.out.below B9 R1.out.lt;have yI:=S9.r;unfold cE at yI;have FZ:=aa yI;obtain⟨⟨y0,y1,y2,y3,y4,y5,y6,y7,y8,y9,yZ,yY,yX,yV⟩,_⟩:=ai S9.c;obtain⟨⟨x0,x1,x2,x3,x4,x5,x6,x7,x8,x9,p9,tJ,uy,uU⟩,f0,f1,f2,f3,f4,f5,f6,f7,f8,f9,f10,f11,Lg,f13⟩:=ai yI))
   refine bodyPost_ret (gW rfl _ _ #[.int .i64 1,.int .i64 0,.int .i64 0,.int .i64 0,.int .i64 0,.slice none 0 0,.int .i64 0,.int .i64 0,.int .i64 0,.slice none 0 0,.slice A2 2 c2,.int .i64 0,.slice none 0 0,.slice none 0 0] rfl (dI FZ.out _ _ _ _ _ _ _ _ _ _ _ _ _ _) rfl) rfl ?_
   obtain⟨q1,q2,q3,q4⟩:=HB.out
   have hO:=aD R2.out B9 (agl _)
   have xH:ax (fu w9 gr (.int .i64 1) (.int .i64 0) (.int .i64 0) (.int .i64 0) (.int .i64 0) (.slice none 0 0) (.int .i64 0) (.int .i64 0) (.int .i64 0) (.slice none 0 0) (.slice A2 2 c2) (.int .i64 0) (.slice none 0 0) (.slice none 0 0)) B0 A2 2 c2 [5, -5]:=ap hO fun q hq=>dZ (by have:=(agB hO q hq).1;omega) _ _ _ _ _ _ _ _ _ _ _ _ _ _
   have hb:=cL (B:=w.heap.size) (g:=gr) ((ac w9).mono S9.k.k.size) q4 (.int .i64 1) (.int .i64 0) (.int .i64 0) (.int .i64 0) (.int .i64 0) (.slice none 0 0) (.int .i64 0) (.int .i64 0) (.int .i64 0) (.slice none 0 0) (.slice A2 2 c2) (.int .i64 0) (.slice none 0 0) (.slice none 0 0)
   exact⟨⟨A2,c2,none,0,none,0⟩,rfl,⟨bR xH,ag.nil,ag.nil,je xH,⟨agl _,agw _⟩,⟨agl _,agw _⟩,fun q hq=>nK xH hq,fun q hq=>(by cases hq),fun q hq=>(by cases hq)⟩,
    S9.oc.keep fun q hq=>dZ (by omega) _ _ _ _ _ _ _ _ _ _ _ _ _ _,
    ⟨⟨hb.os.trans S9.k.k.os,hb.tape.trans S9.k.k.tape,hb.output.trans S9.k.k.output,agm S9.k.k.size hb.size,fun q hq hs=>(hb.block q hq).trans (S9.k.k.block q hq hs)⟩,(hb.cell (p:=⟨g,0,none⟩) hlt).trans S9.k.z⟩,fun q hq=>by
    rcases hq with hq | hq | hq
    ·have:=qB xH hq;omega
    ·cases hq
    ·cases hq⟩
theorem Io(l:List Int)(hby:aH l)(hl:l.length=3)(hz:∀k,21≤k→k<24→FH l k=0)(g:Nat)(w:World)(h:cG w g l 21 0):
 Calls Tryz.prog 158 #[.pointer (some ⟨g,0,none⟩)] w fun e w'=>e= .returned (.tuple #[])∧cG w' g l 24 0∧Kg g w w':=by
 have H:=aa h
 have PO:=aa (fun k (h1:21≤k) (h2:k<24) W ho=>by
  have:=D6 l 21 0 g k hby (by omega) (by omega) W ho
  rw[hz k h1 h2,show ((0:Nat):Int)=0 from rfl] at this;exact this)
 obtain⟨A,c,h0,h1,h2,h3,h4,h5,h6,h7⟩:=h
 rw[show ((21:Nat):Int)=21 from rfl] at h1
 clear hz h0 h3 h4 h5 h6 h7 hl
 go_enter Tryz.func158,Tryz.ntmps158
 go_wp2_with fail
 clear h1 h2
 go_loopw [3] (fun iv wr=>∃k:Nat,21≤k∧k≤24∧iv= .int .i64 (k:Int)∧cG wr g l 21 0∧Kg g w wr) (fun iv _=>24-(intOf iv).toNat)
 case atStart=>exact⟨21,by omega,by omega,rfl,H.out,Kg.refl _ _⟩
 case round=>
  obtain⟨k,jx,hk2,rfl,hO,hK⟩:=hrel
  obtain⟨wo,rfl⟩:∃wo:World,wo=wr:=⟨_,rfl⟩
  have HO:=aa hO
  have HK:=aa hK
  clear hO hK H
  by_cases hlt:k<24
  ·have hi:(k:Int)<24:=by omega
   have zw:=agp ((k:Int)+1) (by omega)
   have Hl:=aa (PO.out k jx hlt wo HO.out)
   clear PO
   go_wp2_with (go_at_call 202;(with_reducible refine Hl.out.mono ?_);rintro e w2 ⟨rfl,q2,rfl⟩)
   exact⟨⟨k+1,by omega,by omega,by go_num,HO.out.drewN q2,HK.out.drewN q2⟩,by simp[intOf];omega⟩
  ·obtain rfl:k=24:=by omega
   rw[show ((24:Nat):Int)=24 from rfl]
   obtain⟨A,c,h0,h1,h2,h3,h4,h5,h6,h7⟩:=HO.out
   clear h0 h5 h6 h7 PO
   go_wp2_with fail
   go_end0
   exact⟨rfl,HO.out.setP 24,HK.out.set1 _⟩
def yj:List Int:=[245,75,0,2,192,62,1,8,0,3,141,32,34,216,112,108]
theorem Rn:JA yj=(⟨0,2,8000,1,8,[]⟩,11,3,0):=by kernel_rfl
theorem Wu:(um (yj.take 14)).toNat=28780:=by kernel_rfl
theorem KG:aH yj:=by
 intro x hx
 have:∀x∈yj,0≤x∧x<256:=by decide
 exact this x hx
structure Kc (w W:World) (gr gf:Nat) (cs:Array Value):Prop where
 r:W.heap[gr]? =some (.cells #[.int .i64 0,.int .i64 0,.int .i64 0,.int .i64 0,.int .i64 0,.slice none 0 0,.slice none 0 0] 95 (0,0))
 c:W.heap[gf]? =some (.cells cs 95 (0,0))
 b:Below w.heap.size w W
 lo:w.heap.size≤gr
 ne:gr<gf
theorem Kc.lt{w W:World}{gr gf:Nat}{cs:Array Value}(h:Kc w W gr gf cs):gf<W.heap.size:=(agn.1 h.c).1
theorem Kc.below{w W W':World}{gr gf B0:Nat}{cs:Array Value}(h:Kc w W gr gf cs)(hb:Below B0 W W')(hB:gf<B0):Kc w W' gr gf cs:=by
 have h1:=h.ne
 have h2:=h.lo
 exact⟨(hb.block gr (by omega)).trans h.r,(hb.block gf hB).trans h.c,h.b.trans (hb.mono (by omega)),h.lo,h.ne⟩
theorem Kc.kp{w W W':World}{gr gf g:Nat}{cs:Array Value}(h:Kc w W gr gf cs)(hk:Kg g W W')(hg:gf<g):Kc w W' gr gf cs:=by
 have h1:=h.ne
 have h2:=h.lo
 have h3:=h.lt
 exact⟨(hk.k.block gr (by omega) (by omega)).trans h.r,(hk.k.block gf (by omega) (by omega)).trans h.c,lf h.b hk.k (by omega),h.lo,h.ne⟩
theorem Kc.set{w W:World}{gr gf:Nat}{cs cs':Array Value}(h:Kc w W gr gf cs)(j:Nat)(v:Value)(e:cs.setIfInBounds j v=cs'):Kc w (W.setCell ⟨gf,j,none⟩ v) gr gf cs':=by
 have h1:=h.ne
 have h2:=h.lo
 exact⟨(agr _ _ _ _ (show gr≠gf by omega)).trans h.r,by rw[agA _ gf j _ _ _ h.c,e],h.b.setCell (p:=⟨gf,j,none⟩) (show w.heap.size≤gf by omega) v,h.lo,h.ne⟩
theorem Dy{fn:Func}(h:fn.results=#[.cell 2 95,.tmp 3,.tmp 4])(tmps:Array Value)(w:World){g:Nat}{v0 v1 v2 v3 v4 v5 v6:Value}(ht:tmps.getD 2 undef= .pointer (some ⟨g,0,none⟩))(hr:w.heap[g]? =some (.cells #[v0,v1,v2,v3,v4,v5,v6] 95 (0,0))):
 (results fn tmps).run Tryz.prog w= .ok (.tuple #[.agg #[v0,v1,v2,v3,v4,v5,v6],tmps.getD 3 undef,tmps.getD 4 undef]) w:=by
 obtain⟨⟨c0,c1,c2,c3,c4,c5,c6⟩,_⟩:=aw hr
 have key:(results fn tmps).run Tryz.prog w=((asAddr (tmps.getD 2 undef)).run Tryz.prog w).andThen fun a w₁=>((loadVar 95 a).run Tryz.prog w₁).andThen fun x w₂=>.ok (.tuple #[x,tmps.getD 3 undef,tmps.getD 4 undef]) w₂:=by
  simp only[results,h]
  simp[Sem.run_bind,Result.andThen]
 rw[key,ht]
 simp[go_sem,c0,c1,c2,c3,c4,c5,c6]
theorem CA(l:List Int)(n:Nat)(hn:l.length=n)(hm:n≤50000)(A:Option Addr)(B c:Nat)(w:World)(ha:ag .u8 w B A l):Calls Tryz.prog 155 #[.slice A n c] w (Uk l w):=by
 go_enter Tryz.func155,Tryz.ntmps155
 go_wp2_with (at_builtin;refine jU _ rfl (.const (.slice none 0 0)) (.tmp 3) rfl w none 0 rfl (aq.nil _ _) B A n c l rfl hn ha (by omega) (ac _) ?_;intro A' c' w' ho b)
 obtain⟨k1,k2⟩:=bJ ho
 subst hn
 go_ret
 have h:=ago w' (.cells #[.slice A' l.length c',.int .i64 0,.int .i64 0] 294)
 exact⟨_,rfl,b.size,uq ho.ints k1 (agm k2 (by decide)),ak b _,A',c',(agu _ _ _ _ _ _ h).trans rfl,fun q hq=>(agB ho q (by rw[ae];exact hq)).1⟩
structure OX (W:World) (g:Nat) (l:List Int) (p gf:Nat):Prop where
 o:cG W g l p 0
 d:∃A c,W.cell? ⟨g,0,none⟩=some (.slice A l.length c)∧aj A≠some gf
 ne:g≠gf
section
variable {W W' : World} {g p p' gf B0 : Nat} {l : List Int}
theorem OX.kg(h:OX W g l p gf)(ho:cG W' g l p' 0)(hk:Kg g W W'):OX W' g l p' gf:=⟨ho,by rw[hk.z];exact h.d,h.ne⟩
theorem OX.below(h:OX W g l p gf)(hb:Below B0 W W')(hg:g<B0):OX W' g l p gf:=⟨h.o.keep fun q hq=>hb.block q (by omega),by rw[agy (a:=⟨g,0,none⟩) (hb.block g hg)];exact h.d,h.ne⟩
theorem OX.set(h:OX W g l p gf)(j:Nat)(v:Value):OX (W.setCell ⟨gf,j,none⟩ v) g l p gf:=by
 have hne:=h.ne
 obtain⟨A,c,h0,h1,h2,h3,h4,h5,h6,h7⟩:=h.o
 obtain⟨A9,c9,g0,g1⟩:=h.d
 rw[h0] at g0
 injection g0 with g0
 injection g0 with gA _ _
 subst gA
 have hk:∀q,q≠gf→(W.setCell ⟨gf,j,none⟩ v).heap[q]? =W.heap[q]? :=fun q hq=>agr _ _ _ _ hq
 have hg:=hk g hne
 have e0:=(agy (a:=⟨g,0,none⟩) hg).trans h0
 exact⟨⟨A,c,e0,(agy (a:=⟨g,1,none⟩) hg).trans h1,(agy (a:=⟨g,2,none⟩) hg).trans h2,(World.frozen?_of_block (a:=⟨g,1,none⟩) hg).trans h3,(World.frozen?_of_block (a:=⟨g,2,none⟩) hg).trans h4,wZ h5 g1 hk,h6,h7⟩,⟨A,c,e0,g1⟩,h.ne⟩
end
def oJ:Sb:=aK 0 [5, -5]
def BS:F1:=⟨0,2,8000,8⟩
theorem IW:Yc BS oJ [5, -5]:=by
 exact⟨by decide,by decide,by decide,rfl,by decide,by decide,fun m B=>pu 0 [5, -5] [5, -5] 2 rfl (by omega) (by omega) (by omega) (by omega) (by decide) (by decide) m B⟩
def CN(w:World)(e:Ending)(w':World):Prop:=
 ∃gs cs m,e= .returned (.tuple #[AO BS gs 0 cs,.int .i64 16,.int .i64 0])∧gU w' w'.heap.size gs 0 oJ m∧Below w.heap.size w w'∧∀q,q=gs∨aj m.A=some q∨aj m.Ak=some q∨aj m.Ar=some q→w.heap.size≤q
theorem xL(A:Option Addr)(B c:Nat)(hc:16≤c)(cK:c≤9223372036854775807)(w:World)(hB:B≤w.heap.size)(ha:ag .u8 w B A yj):
 Calls Tryz.prog 107 #[.slice A 16 c] w (CN w):=by
 obtain⟨ba,oa,rfl,xF,hce⟩:=ha.lt (by decide)
 have ml:=aa (fun W (hW:Below w.heap.size w W)=>by
  have:=uh yj 16 rfl (by omega) KG (some ⟨ba,oa,none⟩) B c hc cK W (agm hB hW.size) (ha.below (hW.mono hB))
  unfold abx at this
  rw[Rn] at this;exact this)
 have h16:=aa (fun W (hW:Below w.heap.size w W)=>by
  have hi:ag .u8 W B (some ⟨ba,oa,none⟩) (yj.take 14):=by
   have h9:=bZ (p:=0) (s:=14) (ha.below (hW.mono hB)) (by decide)
   simpa using h9
  have:=qq (yj.take 14) (eZ KG 14) 14 (by decide) (by omega) (some ⟨ba,oa,none⟩) B c W hi
  rw[Wu,show ((28780:Nat):Int)=28780 from rfl] at this;exact this)
 have YQ:ba<w.heap.size:=agz xF hB
 have aaG:=aa (fun W (hW:Below w.heap.size w W)=>(hW.cell (p:=⟨ba,oa+14,none⟩) YQ).trans (hce 14 (by decide)))
 have aaF:=aa (fun W (hW:Below w.heap.size w W)=>(hW.cell (p:=⟨ba,oa+15,none⟩) YQ).trans (hce 15 (by decide)))
 rw[show ix yj 14=112 from rfl] at aaG
 rw[show ix yj 15=108 from rfl] at aaF
 have Sm:=aa (fun W (hW:Below w.heap.size w W)=>by
  have h9:ag .u8 W B (some ⟨ba,oa+11,none⟩) [32,34,216]:=by
   have:=bZ (p:=11) (s:=3) (ha.below (hW.mono hB)) (by decide)
   simpa [yj] using this
  have h8:=CA [32,34,216] 3 rfl (by omega) (some ⟨ba,oa+11,none⟩) B (c-11) W h9
  unfold Uk at h8
  exact h8)
 have CX:¬c-11=0:=by omega
 have afW:14≤c:=by omega
 obtain⟨bd,lW⟩:∃bd:List Int,bd=[32,34,216]:=⟨_,rfl⟩
 simp only[←lW] at Sm
 have hby:aH bd:=by
  have:∀x∈([32,34,216]:List Int),0≤x∧x<256:=by decide
  rw[lW];exact fun x hx=>this x hx
 have Py:bd.length=3:=by rw[lW];rfl
 have Jk:=aa (fun g W h=>Ma bd hby Py (by rw[lW];rfl) (by rw[lW];rfl) (by rw[lW];rfl) (by rw[lW];rfl) (by rw[lW];rfl) g W h)
 have hz3:∀k,21≤k→k<24→FH bd k=0:=fun k h1 h2=>by
  rw[lW]
  have:k=21∨k=22∨k=23:=by omega
  rcases this with rfl | rfl | rfl <;> rfl
 have Xn:=aa (fun g W h=>Io bd hby Py hz3 g W h)
 have EJ:=aa (fun g W h=>by
  have:=rq bd 21 0 g W h (by omega) (by omega)
  rw[Py,show 8*((3:Nat):Int)-((21:Nat):Int)=3 from rfl] at this;exact this)
 have acN:=aa (fun g W h=>jI bd 24 0 g W h)
 have bK:=aa (fun gs cs m W (hm:gU W W.heap.size gs 0 oJ m)=>by
  have:=AG BS oJ [5, -5] IW gs 0 cs m W.heap.size W (agl _) hm
  unfold AO vt BS at this
  dsimp only at this
  rw[show ((2:Nat):Int)=2 from rfl] at this
  exact this)
 have M0:Hid ((w.alloc (.cells #[.int .i64 0,.int .i64 0,.int .i64 0,.int .i64 0,.int .i64 0,.slice none 0 0,.slice none 0 0] 95)).heap[w.heap.size]? =some (.cells #[.int .i64 0,.int .i64 0,.int .i64 0,.int .i64 0,.int .i64 0,.slice none 0 0,.slice none 0 0] 95 (0,0))):=aa (ago w _)
 have K0:Hid (Below w.heap.size w (w.alloc (.cells #[.int .i64 0,.int .i64 0,.int .i64 0,.int .i64 0,.int .i64 0,.slice none 0 0,.slice none 0 0] 95))):=aa (ak (ac w) _)
 clear ha hce lW
 go_enter Tryz.func107,Tryz.ntmps107
 go_upto_region 1 with fail
 obtain⟨wx,hwx⟩:∃wx,wx=w.alloc (.cells #[.int .i64 0,.int .i64 0,.int .i64 0,.int .i64 0,.int .i64 0,.slice none 0 0,.slice none 0 0] 95):=⟨_,rfl⟩
 rw[←hwx] at M0 K0 ⊢
 obtain⟨gr,hgr⟩:∃gr,gr=w.heap.size:=⟨_,rfl⟩
 have M0':=M0.out
 rw[←hgr] at M0' ⊢
 have rJ:=aa hgr
 have M1:=aa M0'
 clear M0 M0' hwx hgr
 go_upto_region 2 with (go_at_call 154;(with_reducible refine(ml.out wx K0.out).mono ?_);rintro e w1 ⟨A1,k1,rfl,CP,b1,hz1⟩;obtain⟨rfl,rfl⟩:=hz1 rfl;unfold fhV;dsimp only)
 have FB:Kc w (w1.alloc (.cells #[.int .i64 0,.int .i64 2,.int .i64 8000,.int .i64 1,.int .i64 8,.slice none 0 0,.slice none 0 0] 95)) gr w1.heap.size #[.int .i64 0,.int .i64 2,.int .i64 8000,.int .i64 1,.int .i64 8,.slice none 0 0,.slice none 0 0]:=by
  have q0:=rJ.out
  have q1:=(agn.1 M1.out).1
  have q2:=b1.size
  exact⟨(ags _ _ _ (by omega)).trans ((b1.block gr q1).trans M1.out),ago w1 _,ak (af K0.out b1) _,by omega,by omega⟩
 obtain⟨wv,tY⟩:∃wv,wv=w1.alloc (.cells #[.int .i64 0,.int .i64 2,.int .i64 8000,.int .i64 1,.int .i64 8,.slice none 0 0,.slice none 0 0] 95):=⟨_,rfl⟩
 rw[←tY] at FB ⊢
 obtain⟨gf,hgf⟩:∃gf,gf=w1.heap.size:=⟨_,rfl⟩
 rw[←hgf] at FB ⊢
 have HF:=aa FB
 obtain⟨⟨y0,y1,y2,y3,y4,y5,y6⟩,yz⟩:=aw FB.c
 have q14:=aaG.out wv FB.b
 have q15:=aaF.out wv FB.b
 have H16:Hid (∀q8,Calls Tryz.prog 99 #[.slice (some ⟨ba,oa,none⟩) 14 c] (wv.drewN q8) fun e w'=>e= .returned (.int .u16 28780)∧w'=wv.drewN q8):=aa fun q8=>(h16.out _ (below_drewN HF.out.b q8)).mono fun _ _ h=>⟨h.1,h.2.symm⟩
 clear FB tY hgf b1 CP yz h16 ml hz1
 go_upto_region 7 with fail
 go_quiet ((go_at_call 99;exact Calls.quiet_of_same (H16.out _)))
 have Pj:=aa (HF.out.below (below_drewN (ac _) nq) HF.out.lt)
 obtain⟨wz,oK⟩:∃wz,wz=wv.drewN nq:=⟨_,rfl⟩
 rw[←oK] at Pj ⊢
 clear oK q14 q15 y0 y1 y2 y3 y4 y5 y6 H16 HF aaG aaF
 obtain⟨⟨y0,y1,y2,y3,y4,y5,y6⟩,yz⟩:=aw Pj.out.c
 clear yz
 go_upto_region 10 with (go_at_call 155;(with_reducible refine(Sm.out wz Pj.out.b).mono ?_);rintro e w5 ⟨g,rfl,hg,ho,b5,A5,c5,qf,Az⟩)
 have acG:=Pj.out.lt
 have HF5:=aa (Pj.out.below b5 acG)
 have Uy:Hid (OX w5 g bd 0 gf):=aa ⟨ho,⟨A5,c5,qf,fun e=>by have:=Az _ e;omega⟩,by omega⟩
 obtain⟨B0,PH⟩:∃B0,B0=w5.heap.size:=⟨_,rfl⟩
 have HB:Hid (gf<g∧g<B0∧gr<gf∧w.heap.size≤gr):=aa ⟨by omega,by have:=ho.lt;omega,HF5.out.ne,HF5.out.lo⟩
 have vx:Hid (B0≤w5.heap.size):=aa (by omega)
 clear y0 y1 y2 y3 y4 y5 y6
 obtain⟨⟨y0,y1,y2,y3,y4,y5,y6⟩,yz⟩:=aw HF5.out.c
 clear yz ho b5 qf Az PH Sm Pj hg acG
 go_wp2_with fail
 go_loopw [60] (fun iv wr=>B0≤wr.heap.size∧((iv= .int .i64 0∧Kc w wr gr gf #[.int .i64 0,.int .i64 2,.int .i64 8000,.int .i64 1,.int .i64 8,.slice none 0 0,.slice none 0 0]∧OX wr g bd 0 gf)∨
  (iv= .int .i64 1∧∃gs cs m,Kc w wr gr gf #[.int .i64 0,.int .i64 2,.int .i64 8000,.int .i64 1,.int .i64 8,.slice none 0 0,.slice (some ⟨gs,0,none⟩) 1 cs]∧OX wr g bd 21 gf∧gU wr wr.heap.size gs 0 oJ m∧∀q,q=gs∨aj m.A=some q∨aj m.Ak=some q∨aj m.Ar=some q→B0≤q))) (fun iv _=>1-(intOf iv).toNat)
 case atStart=>exact⟨vx.out,.inl ⟨rfl,HF5.out,Uy.out⟩⟩
 case round=>
  obtain⟨r0,⟨rfl,r1,r2⟩ | ⟨rfl,gs,cs,m,r1,r2,r3,r4⟩⟩:=hrel
  ·obtain⟨wo,rfl⟩:∃wo:World,wo=wr:=⟨_,rfl⟩
   have R0:=aa r0
   have R1:=aa r1
   have R2:=aa r2
   obtain⟨⟨y0,y1,y2,y3,y4,y5,y6⟩,yz⟩:=aw r1.c
   clear r0 r1 r2 HF5 Uy vx yz
   go_upto_region 13 with (go_at_call 156;(with_reducible refine(Jk.out g wo R2.out.o).mono ?_);rintro e w6 ⟨m,rfl,m6,o6,k6,l6⟩)
   have hq:=ago w6 (.cells #[.int .i64 1,.int .i64 0,.int .i64 0,.int .i64 0,.int .i64 0,.slice none 0 0,.int .i64 0,.int .i64 0,.int .i64 0,.slice none 0 0,.slice m.A 2 m.c,.int .i64 0,.slice m.Ak 0 m.ck,.slice m.Ar 0 m.cr] 171)
   have bq:=ak (ac w6) (.cells #[.int .i64 1,.int .i64 0,.int .i64 0,.int .i64 0,.int .i64 0,.slice none 0 0,.int .i64 0,.int .i64 0,.int .i64 0,.slice none 0 0,.slice m.A 2 m.c,.int .i64 0,.slice m.Ak 0 m.ck,.slice m.Ar 0 m.cr] 171)
   obtain⟨wq,jl⟩:∃wq,wq=w6.alloc (.cells #[.int .i64 1,.int .i64 0,.int .i64 0,.int .i64 0,.int .i64 0,.slice none 0 0,.int .i64 0,.int .i64 0,.int .i64 0,.slice none 0 0,.slice m.A 2 m.c,.int .i64 0,.slice m.Ak 0 m.ck,.slice m.Ar 0 m.cr] 171):=⟨_,rfl⟩
   rw[←jl] at hq bq ⊢
   obtain⟨gq,xy⟩:∃gq,gq=w6.heap.size:=⟨_,rfl⟩
   have hs6:=k6.k.size
   have F6:=R1.out.kp k6 HB.out.1
   have HFq:=aa (F6.below bq F6.lt)
   have HOq:=aa ((R2.out.kg o6 k6).below bq (by have:=o6.lt;omega))
   have HM:=aa ((m6.below bq).more bq.size)
   have HL:=aa l6
   have HS:Hid (B0≤wq.heap.size∧wo.heap.size≤wq.heap.size):=aa ⟨by have:=R0.out;have:=bq.size;omega,by have:=bq.size;omega⟩
   rw[←xy] at hq ⊢
   obtain⟨⟨x0,x1,x2,x3,x4,x5,x6,x7,x8,x9,p9,tJ,uy,uU⟩,_⟩:=ai hq
   clear y0 y1 y2 y3 y4 y5 y6
   obtain⟨⟨y0,y1,y2,y3,y4,y5,y6⟩,yz⟩:=aw HFq.out.c
   clear jl xy hq bq m6 o6 k6 l6 F6 hs6 yz
   go_wp2_with (at_builtin;refine eK wq rfl (.tmp 73) (.tmp 75) 93 171 rfl Tryz.underlying93 vG rfl (by omega) rfl #[.int .i64 1,.int .i64 0,.int .i64 0,.int .i64 0,.int .i64 0,.slice none 0 0,.int .i64 0,.int .i64 0,.int .i64 0,.slice none 0 0,.slice m.A 2 m.c,.int .i64 0,.slice m.Ak 0 m.ck,.slice m.Ar 0 m.cr] _ rfl rfl (by simp[Value.oneCell']) (by omega) ?_;intro gs c7 w7 ad4 aaw mn q7 r7 B7;have S7:=HFq.out.below B7 HFq.out.lt;obtain⟨⟨v0,v1,v2,v3,v4,v5,v6⟩,vz⟩:=aw S7.c;have vz6:=vz 6)
   replace mn:∀k v,(nE (aK 0 [5, -5]) m)[k]? =some v→w7.cell? ⟨gs,k,none⟩=some v:=mn
   have M7:=(HM.out.below B7).more B7.size
   obtain⟨p1,p2,p3,p4⟩:=HB.out
   obtain⟨p5,p6⟩:=HS.out
   have p7:=B7.size
   have p8:=R0.out
   have O7:=HOq.out.below B7 (by omega)
   refine⟨⟨by rw[jY];omega,.inr ⟨rfl,gs,c7,m,S7.set 6 _ rfl,O7.set 6 _,⟨by rw[jY];exact aaw,fun k v hk=>(agy (a:=⟨gs,0+k,none⟩) (agr _ _ _ _ (show gs≠gf by omega))).trans (by rw[Nat.zero_add];exact mn k v hk), ?_⟩, ?_⟩⟩,by simp[intOf]⟩
   ·rw[jY]
    exact M7.oth fun q hq=>agr _ _ _ _ (by have:=HL.out q hq;show q≠gf;omega)
   ·intro q hq
    rcases hq with rfl | hq
    ·omega
    ·have:=HL.out q hq;omega
  ·obtain⟨wo,rfl⟩:∃wo:World,wo=wr:=⟨_,rfl⟩
   have R0:=aa r0
   have R1:=aa r1
   have R2:=aa r2
   have R3:=aa r3
   have R4:=aa r4
   obtain⟨⟨y0,y1,y2,y3,y4,y5,y6⟩,yz⟩:=aw r1.c
   have Vd:=aa (EJ.out g wo r2.o)
   clear r0 r1 r2 r3 r4 HF5 Uy vx yz
   go_upto_region 19 with (go_at_call 157;(with_reducible refine Vd.out.mono ?_);rintro e w6 ⟨rfl,q6,rfl⟩)
   have O6:=aa (R2.out.o.drewN q6)
   have H6:Hid (Kc w (wo.drewN q6) gr gf #[.int .i64 0,.int .i64 2,.int .i64 8000,.int .i64 1,.int .i64 8,.slice none 0 0,.slice (some ⟨gs,0,none⟩) 1 cs]∧gU (wo.drewN q6) wo.heap.size gs 0 oJ m∧OX (wo.drewN q6) g bd 21 gf):=aa ⟨R1.out.below (below_drewN (ac _) q6) R1.out.lt,R3.out.below (below_drewN (ac _) q6),R2.out.below (below_drewN (ac _) q6) R2.out.o.lt⟩
   obtain⟨w7,Cg⟩:∃w7,w7=wo.drewN q6:=⟨_,rfl⟩
   have HS7:Hid (w7.heap.size=wo.heap.size):=aa (by rw[Cg];rfl)
   rw[←Cg] at O6 H6 ⊢
   clear Cg Vd EJ
   go_upto_region 20 with (go_at_call 158;(with_reducible refine(Xn.out g w7 O6.out).mono ?_);rintro e w8 ⟨rfl,o8,k8⟩)
   obtain⟨p1,p2,p3,p4⟩:=HB.out
   have p5:=R0.out
   have p6:=HS7.out
   have p7:=k8.k.size
   have F8:=aa (H6.out.1.kp k8 p1)
   have M8:Hid (gU w8 w8.heap.size gs 0 oJ m):=aa ((H6.out.2.1.oth fun q hq=>k8.k.block q (by
    have h9:=R3.out
    rcases hq with rfl | hq | hq | hq
    ·have:=h9.lt;omega
    ·have:=h9.sm.l1 q hq;omega
    ·have:=h9.sm.l2 q hq;omega
    ·have:=h9.sm.l3 q hq;omega) (by have:=R4.out q hq;omega)).more (by omega))
   have Ur:=aa (acN.out g w8 o8)
   have Hmy:=aa (bK.out gs cs m w8 M8.out)
   clear y0 y1 y2 y3 y4 y5 y6
   obtain⟨⟨y0,y1,y2,y3,y4,y5,y6⟩,yz⟩:=aw F8.out.c
   clear yz o8 k8 H6 O6 bK acN Xn p5 p6 p7
   go_wp2_with (first
    |(go_at_call 159;(with_reducible refine Ur.out.mono ?_);rintro e w9 ⟨rfl,rfl⟩)
    |(go_at_call 94;(with_reducible refine Hmy.out.mono ?_);rintro e F9 ⟨rfl,uv⟩;have yv:=F8.out.below uv F8.out.lt;have abu:=aa yv;obtain⟨⟨v0,v1,v2,v3,v4,v5,v6⟩,_⟩:=aw yv.c;obtain⟨⟨u0,u1,u2,u3,u4,u5,u6⟩,uz⟩:=aw yv.r;have uz0:=uz 0;have uz1:=uz 1;have uz2:=uz 2;have uz3:=uz 3;have uz4:=uz 4;have uz5:=uz 5;have uz6:=uz 6;clear uz yv))
   refine bodyPost_ret (Dy rfl _ _ rfl (dG abu.out.r (.int .i64 0) (.int .i64 2) (.int .i64 8000) (.int .i64 1) (.int .i64 8) (.slice none 0 0) (.slice (some ⟨gs,0,none⟩) 1 cs))) rfl ?_
   have hz:=bC (B:=gr) ((ac F9).mono (by have:=abu.out.lt;omega)) (agl _) (.int .i64 0) (.int .i64 2) (.int .i64 8000) (.int .i64 1) (.int .i64 8) (.slice none 0 0) (.slice (some ⟨gs,0,none⟩) 1 cs)
   refine⟨gs,cs,m,rfl, ?_,bC abu.out.b p4 _ _ _ _ _ _ _,fun q hq=>by have:=R4.out q hq;omega⟩
   exact((M8.out.below uv).more (agm uv.size hz.size)).oth fun q hq=>dY (by have:=R4.out q hq;omega) _ _ _ _ _ _ _
end
end Go.Proofs.YtbhfpehgacaidaaGreatDoor
