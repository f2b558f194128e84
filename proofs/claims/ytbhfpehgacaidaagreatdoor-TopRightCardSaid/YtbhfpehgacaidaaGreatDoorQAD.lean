/- A part of the proof of the given statement TopRight. Conditions: none. -/
import Derived.Deep.LoopGhost
import Derived.Deep.DeepCutAuto
import Derived.Deep.CutBlock
import Derived.Laws.ResultCell
import Derived.Test.YtbhfpehgacaidaaGreatDoorQAC
namespace Go.Proofs.YtbhfpehgacaidaaGreatDoor
set_option linter.unusedVariables false
set_option linter.unusedSimpArgs false
set_option maxRecDepth 100000
set_option maxHeartbeats 8000000
section
open Go.RowKit
def yi:Pg:=⟨0,false,false,false,[]⟩
def Fm(d:List Int):Nat:=(ix d 2).toNat
def UL(d:List Int):Nat:=df ((d.drop 3).take 4)
def qa(d:List Int):Nat:=(ix d 7).toNat
def lB(v:Nat)(k:Int):Bool:=bits .and .u64 (v:Int) k != 0
def bL(d:List Int):Pg×Nat×Int:=
 if d.length<2 then(yi,0,3)
 else if ix d 0≠75∨ix d 1≠80 then(yi,0,2)
 else if d.length<8 then(yi,0,3)
 else if 7<Fm d∨2147483647<UL d∨qa d<1∨fy (lB (Fm d) 4)<qa d then(yi,0,2)
 else if d.length<8+qa d+4 then(yi,0,3)
 else if df ((d.drop (8+qa d)).take 4)≠(fC (d.take (8+qa d))).toNat then(yi,0,5)
 else(⟨UL d,lB (Fm d) 1,lB (Fm d) 2,lB (Fm d) 4,(d.take (8+qa d)).drop 8⟩,8+qa d+4,0)
def Uj(r:Pg×Nat×Int)(w:World)(e:Ending)(w':World):Prop:=
 ∃A c,e= .returned (.tuple #[ju r.1 A c,.int .i64 (r.2.1:Int),.int .i64 r.2.2])∧aq w' w.heap.size A r.1.body.length c r.1.body∧Below w.heap.size w w'
section
variable {W : World} {g : Nat} {v0 v1 v2 v3 v4 : Value}
theorem ay(h:W.heap[g]? =some (.cells #[v0,v1,v2,v3,v4] 124 (0,0))):
 (W.cell? ⟨g,0,none⟩=some v0∧W.cell? ⟨g,1,none⟩=some v1∧W.cell? ⟨g,2,none⟩=some v2∧W.cell? ⟨g,3,none⟩=some v3∧W.cell? ⟨g,4,none⟩=some v4)∧
 W.frozen? ⟨g,0,none⟩=false∧W.frozen? ⟨g,1,none⟩=false∧W.frozen? ⟨g,2,none⟩=false∧W.frozen? ⟨g,3,none⟩=false∧W.frozen? ⟨g,4,none⟩=false:=
 ⟨⟨(agu _ _ _ _ _ _ h).trans rfl,(agu _ _ _ _ _ _ h).trans rfl,(agu _ _ _ _ _ _ h).trans rfl,(agu _ _ _ _ _ _ h).trans rfl,(agu _ _ _ _ _ _ h).trans rfl⟩,
  agv W g 0 _ _ h,agv W g 1 _ _ h,agv W g 2 _ _ h,agv W g 3 _ _ h,agv W g 4 _ _ h⟩
def pj(W:World)(g:Nat)(x0 x1 x2 x3 x4:Value):World:=((((W.setCell ⟨g,0,none⟩ x0).setCell ⟨g,1,none⟩ x1).setCell ⟨g,2,none⟩ x2).setCell ⟨g,3,none⟩ x3).setCell ⟨g,4,none⟩ x4
theorem aM(h:W.cell? ⟨g,0,none⟩=some v0∧W.cell? ⟨g,1,none⟩=some v1∧W.cell? ⟨g,2,none⟩=some v2∧W.cell? ⟨g,3,none⟩=some v3∧W.cell? ⟨g,4,none⟩=some v4)(x0 x1 x2 x3 x4:Value):
 (pj W g x0 x1 x2 x3 x4).cell? ⟨g,0,none⟩=some x0∧(pj W g x0 x1 x2 x3 x4).cell? ⟨g,1,none⟩=some x1∧(pj W g x0 x1 x2 x3 x4).cell? ⟨g,2,none⟩=some x2∧(pj W g x0 x1 x2 x3 x4).cell? ⟨g,3,none⟩=some x3∧(pj W g x0 x1 x2 x3 x4).cell? ⟨g,4,none⟩=some x4:=by
 obtain⟨h0,h1,h2,h3,h4⟩:=h
 unfold pj
 refine⟨?_, ?_, ?_, ?_, ?_⟩ <;> simp[go_sem,h0,h1,h2,h3,h4]
theorem cO{B:Nat}{w:World}(h:Below B w W)(hg:B≤g)(x0 x1 x2 x3 x4:Value):Below B w (pj W g x0 x1 x2 x3 x4):=
 ((((h.setCell (p:=⟨g,0,none⟩) hg _).setCell (p:=⟨g,1,none⟩) hg _).setCell (p:=⟨g,2,none⟩) hg _).setCell (p:=⟨g,3,none⟩) hg _).setCell (p:=⟨g,4,none⟩) hg _
theorem fk{q:Nat}(hq:q≠g)(x0 x1 x2 x3 x4:Value):(pj W g x0 x1 x2 x3 x4).heap[q]? =W.heap[q]? :=by
 unfold pj
 rw[agr _ _ _ _ hq,agr _ _ _ _ hq,agr _ _ _ _ hq,agr _ _ _ _ hq,agr _ _ _ _ hq]
end
theorem gC{c:Int}{w w':World}(h:Below w.heap.size w w'):Uj (yi,0,c) w (.returned (.tuple #[.agg #[.int .i64 0,.bool false,.bool false,.bool false,.slice none 0 0],.int .i64 0,.int .i64 c])) w':=
 ⟨none,0,rfl,aq.nil _ _,h⟩
theorem bZ{k:IntKind}{w:World}{B b o:Nat}{d:List Int}{p s:Nat}(h:ag k w B (some ⟨b,o,none⟩) d)(Pw:p+s≤d.length):ag k w B (some ⟨b,o+p,none⟩) ((d.drop p).take s):=fun h0=>by
 have Ew:((d.drop p).take s).length=s:=by simp;omega
 rw[List.length_map,Ew] at h0
 obtain⟨b',o',e,hb,hc⟩:=h.lt (by omega)
 injection e with e;injection e with e1 e2;subst e1;subst e2
 refine⟨b,o+p,rfl,hb,fun i u hu=> ?_⟩
 have hi:i<s:=by have:=(List.getElem?_eq_some_iff.1 hu).1;rw[List.length_map,Ew] at this;exact this
 rw[eH (by rw[Ew];exact hi),qJ hi,jF] at hu
 rw[←Option.some.inj hu,Nat.add_assoc]
 exact hc (p+i) (by omega)
def LG(v:Nat)(l:List Int)(q g:Nat)(w:World)(e:Ending)(w':World):Prop:=e= .returned (.int .u64 (v:Int))∧cG w' g l q 0∧Kp (fun q=>q=g) w w'
theorem CD(l:List Int)(hm:l.length≤50000)(hby:aH l)(p s:Nat)(hs1:1≤s)(hs:s≤8)(Pw:p+s≤l.length)(g:Nat)(w:World)(h:cG w g l p 0):
 Calls Tryz.prog 57 #[.pointer (some ⟨g,0,none⟩),.int .i64 (s:Int)] w (LG (df ((l.drop p).take s)) l (p+s) g w):=by
 refine(FI l hm hby p (by omega) 0 s hs1 hs g w h).mono fun e w' ⟨h1,h2,h3⟩=> ?_
 have e1:takeL l p 0 s=(l.drop p).take s:=by unfold takeL;rw[if_neg (by simp),if_neg (by omega)]
 have e2:lF l p 0 s=p+s:=by unfold lF;rw[if_neg (by simp),if_neg (by omega)]
 have e3:lG l p 0 s=0:=by unfold lG;rw[if_neg (by simp),if_neg (by omega)]
 rw[e1] at h1
 rw[e2,e3] at h2
 exact⟨h1,h2,h3⟩
theorem Lp(l:List Int)(hm:l.length≤50000)(hby:aH l)(p v:Nat)(Pw:p+1≤l.length)(hv:df ((l.drop p).take 1)=v)(g:Nat)(w:World)(h:cG w g l p 0):
 Calls Tryz.prog 57 #[.pointer (some ⟨g,0,none⟩),.int .i64 1] w (LG v l (p+1) g w):=by
 rw[←hv];exact CD l hm hby p 1 (by omega) (by omega) Pw g w h
theorem TI(l:List Int)(hm:l.length≤50000)(hby:aH l)(p v:Nat)(Pw:p+4≤l.length)(hv:df ((l.drop p).take 4)=v)(g:Nat)(w:World)(h:cG w g l p 0):
 Calls Tryz.prog 57 #[.pointer (some ⟨g,0,none⟩),.int .i64 4] w (LG v l (p+4) g w):=by
 rw[←hv];exact CD l hm hby p 4 (by omega) (by omega) Pw g w h
theorem qp{l:List Int}{p:Nat}(h:p<l.length):(l.drop p).take 1=[ix l p]:=by
 rw[List.drop_eq_getElem_cons h,List.take_succ_cons,List.take_zero,dQ h]
theorem Ln(x:Int):df [x]=x.toNat:=by simp[df]
theorem Mu(l:List Int)(n:Nat)(hn:l.length=n)(hm:n≤50000)(hby:aH l)(a:Nat)(hat:a<n)(A:Option Addr)(B c:Nat)(hc:n≤c)(cK:c≤9223372036854775807)(w:World)(hB:B≤w.heap.size)(ha:ag .u8 w B A l):
 Calls Tryz.prog 58 #[.slice A n c,.int .i64 (a:Int)] w (Uj (bL (l.drop a)) w):=by
 have a0:¬(a:Int)<0:=by omega
 have a1:¬(a:Int) > (n:Int):=by omega
 have a1':¬(n:Int)<(a:Int):=by omega
 have a2:¬c=a:=by omega
 have dp:=gi (p:=a) ha (by omega) (c:=c) (by omega)
 rw[if_neg a2] at dp
 obtain⟨b,off,rfl,sQ,_⟩:=ha.lt (by omega)
 have aav:ag .u8 w B (some ⟨b,off+a,none⟩) (l.drop a):=by
  by_cases h0:a=0
  ·subst h0;simpa [Addr.add] using dp
  ·simpa [Addr.add,h0] using dp
 obtain⟨d,hd⟩:∃d,d=l.drop a:=⟨_,rfl⟩
 have rN:n-a=d.length:=by rw[hd,List.length_drop,hn]
 have hdb:aH d:=by rw[hd];exact hby.drop a
 rw[←hd] at aav ⊢
 have FU:=aa aav
 obtain⟨c',hc'⟩:∃c',c-a=c':=⟨_,rfl⟩
 have hdc:d.length≤c':=by omega
 have ae1:c'≤9223372036854775807:=by omega
 have hdm:d.length≤50000:=by omega
 have M:=aa (ago w (.cells #[.int .i64 0,.bool false,.bool false,.bool false,.slice none 0 0] 124))
 have B1:=aa (ak (ac w) (.cells #[.int .i64 0,.bool false,.bool false,.bool false,.slice none 0 0] 124))
 have EK:=aa (FU.out.below (B1.out.mono hB))
 have qP:∀i,i<d.length→(w.alloc (.cells #[.int .i64 0,.bool false,.bool false,.bool false,.slice none 0 0] 124)).cell? ⟨b,off+a+i,none⟩=some (.int .u8 (ix d i)):=by
  intro i hi
  obtain⟨b',wL,e,h⟩:=EK.out.at_ hi
  injection e with e;injection e with e1 e2;subst e1;subst e2
  exact h
 have Hcl:=aa qP
 clear ha dp hd aav qP hn
 by_cases Az:d.length<2
 ·have hr:Hid (bL d=(yi,0,3)):=by show _=_;unfold bL;rw[if_pos Az]
  have hI:(d.length:Int)<2:=by omega
  go_enter Tryz.func58,Tryz.ntmps58
  go_wp2_with fail
  obtain⟨⟨k0,k1,k2,k3,k4⟩,_⟩:=ay M.out
  refine bodyPost_ret (ed rfl _ _ rfl k0 k1 k2 k3 k4) rfl ?_
  rw[hr.out]
  exact gC B1.out
 ·have ES:¬(d.length:Int)<2:=by omega
  have x0:=Hcl.out 0 (by omega)
  have x1:=Hcl.out 1 (by omega)
  rw[Nat.add_zero] at x0
  by_cases h75:ix d 0=75
  ·rw[h75] at x0
   by_cases h80:ix d 1=80
   ·rw[h80] at x1
    by_cases hd8:d.length<8
    ·have hr:Hid (bL d=(yi,0,3)):=by show _=_;unfold bL;rw[if_neg Az,if_neg (by omega),if_pos hd8]
     have hI:(d.length:Int)<8:=by omega
     go_enter Tryz.func58,Tryz.ntmps58
     go_wp2_with fail
     obtain⟨⟨k0,k1,k2,k3,k4⟩,_⟩:=ay M.out
     refine bodyPost_ret (ed rfl _ _ rfl k0 k1 k2 k3 k4) rfl ?_
     rw[hr.out]
     exact gC B1.out
    ·have hI8:¬(d.length:Int)<8:=by omega
     go_enter Tryz.func58,Tryz.ntmps58
     go_wp2_with fail
     obtain⟨w1,bj⟩:∃w1,w1=w.alloc (.cells #[.int .i64 0,.bool false,.bool false,.bool false,.slice none 0 0] 124):=⟨_,rfl⟩
     have hz1:w1.heap.size=w.heap.size+1:=by rw[bj];simp
     rw[←bj] at M B1 EK ⊢
     clear bj Hcl x0 x1
     have UZ:B≤w1.heap.size:=by omega
     have HR:Hid (bL d=(if 7<Fm d∨2147483647<UL d∨qa d<1∨fy (lB (Fm d) 4)<qa d then(yi,0,2)
      else if d.length<8+qa d+4 then(yi,0,3)
      else if df ((d.drop (8+qa d)).take 4)≠(fC (d.take (8+qa d))).toNat then(yi,0,5)
      else(⟨UL d,lB (Fm d) 1,lB (Fm d) 2,lB (Fm d) 4,(d.take (8+qa d)).drop 8⟩,8+qa d+4,0))):=by
      show _=_;unfold bL;rw[if_neg Az,if_neg (by omega),if_neg hd8]
     clear h75 h80
     have h6l:((d.drop 2).take 6).length=6:=by simp;omega
     have Xh:aH ((d.drop 2).take 6):=eZ (hdb.drop 2) 6
     have v1:df ((((d.drop 2).take 6).drop 0).take 1)=Fm d:=by
      rw[qp (by omega),Ln,qJ (by omega),jF];rfl
     have v2:df ((((d.drop 2).take 6).drop 1).take 4)=UL d:=by
      unfold UL
      rw[List.drop_take,List.drop_drop,List.take_take]
      rfl
     have v3:df ((((d.drop 2).take 6).drop 5).take 1)=qa d:=by
      rw[qp (by omega),Ln,qJ (by omega),jF];rfl
     have Cl:=aa (bZ (p:=2) (s:=6) EK.out (by omega))
     have V1:=aa v1
     have V2:=aa v2
     have V3:=aa v3
     have hz:=hdb.ix_ (show 7<d.length by omega)
     have hsz:qa d<256:=by unfold qa;omega
     have li:=hdb.ix_ (show 2<d.length by omega)
     have afR:Fm d<256:=by unfold Fm;omega
     generalize (d.drop 2).take 6=h6 at*
     clear v1 v2 v3
     (with_reducible refine(gD h6 6 h6l (by omega) _ B _ _ Cl.out).mono ?_);rintro e w2 ⟨g,rfl,hg,hO,b2⟩
     have c2:Hid (Below w1.heap.size w1 w2):=aa b2
     have HO:=aa hO
     clear b2 hO
     go_wp2_with fail
     (with_reducible refine(Lp h6 (by omega) Xh 0 (Fm d) (by omega) V1.out g _ HO.out).mono ?_);rintro e w3 ⟨rfl,ER,hk3⟩
     have oD:=aa ER
     have HK3:=aa hk3
     clear ER hk3
     go_wp2_with fail
     (with_reducible refine(TI h6 (by omega) Xh (0+1) (UL d) (by omega) V2.out g _ oD.out).mono ?_);rintro e w4 ⟨rfl,hO4,hk4⟩
     have X8:=aa hO4
     have HK4:=aa hk4
     clear hO4 hk4
     go_wp2_with fail
     (with_reducible refine(Lp h6 (by omega) Xh (0+1+4) (qa d) (by omega) V3.out g _ X8.out).mono ?_);rintro e w5 ⟨rfl,UY,qN⟩
     have vx:Hid (Below w1.heap.size w1 w5):=by
      have k:=(HK3.out.trans HK4.out).trans qN
      exact c2.out.trans (k.below (fun q hq=>by rw[hq];exact hg) c2.out.size)
     clear UY qN HO oD X8 HK3 HK4 V1 V2 V3 Cl h6l Xh
     clear c2 hg
     generalize Fm d=F at*
     generalize qa d=S at*
     generalize UL d=Q at*
     obtain⟨gB,SF⟩:∃gB,lB F 4=gB:=⟨_,rfl⟩
     rw[SF] at HR
     have afQ:(bits .and .u64 (F:Int) 4 != 0)=gB:=SF
     have uS:=agp (S:Int) (by omega)
     obtain⟨m,hm⟩:∃m,m=fy gB:=⟨_,rfl⟩
     have hmo:∀W,Calls Tryz.prog 113 #[.bool gB] W fun e w'=>e= .returned (.int .i64 (m:Int))∧W=w':=fun W=>by rw[hm];exact(wN gB W).mono fun e w' ⟨h1,h2⟩=>⟨h1,h2.symm⟩
     rw[←hm] at HR
     have Zd:=aa hmo
     have M5:=(vx.out.block w.heap.size (by omega)).trans M.out
     obtain⟨K,f0,f1,f2,f3,f4⟩:=ay M5
     have HK:=aa K
     obtain⟨k0,k1,k2,k3,k4⟩:=K
     have af7:(8:Int)≤(d.length:Int):=by omega
     clear SF hm hmo M5
     by_cases aW:7<F∨2147483647<Q∨S<1∨m<S
     ·have hr:=HR
      rw[if_pos aW] at hr
      have h4:7<F∨(¬7<F∧2147483647<Q)∨(¬7<F∧¬2147483647<Q∧S<1)∨(¬7<F∧¬2147483647<Q∧¬S<1∧m<S):=by omega
      clear HR aW
      have B5:=B1.out.trans (vx.out.mono (Nat.le_of_lt (by omega:w.heap.size<w1.heap.size)))
      have aeT:=aa B5
      clear B5
      rcases h4 with h | ⟨h1,h⟩ | ⟨h1,h2,h⟩ | ⟨h1,h2,h3,h⟩
      all_goals have g0:(7:Int)<(F:Int)∨¬(7:Int)<(F:Int):=by omega
      all_goals rcases g0 with g0 | g0
      all_goals first | (exfalso;omega) | skip
      all_goals have g1:(2147483647:Int)<(Q:Int)∨¬(2147483647:Int)<(Q:Int):=by omega
      all_goals rcases g1 with g1 | g1
      all_goals first | (exfalso;omega) | skip
      all_goals have g2:(S:Int)<1∨¬(S:Int)<1:=by omega
      all_goals rcases g2 with g2 | g2
      all_goals first | (exfalso;omega) | skip
      all_goals have g3:(m:Int)<(S:Int)∨¬(m:Int)<(S:Int):=by omega
      all_goals rcases g3 with g3 | g3
      all_goals first | (exfalso;omega) | skip
      all_goals go_wp2_with (go_at_call 113;(with_reducible refine(Zd.out _).mono ?_);rintro e w6 ⟨rfl,rfl⟩)
      all_goals refine bodyPost_ret (ed rfl _ _ rfl (aM HK.out _ _ _ _ _).1 (aM HK.out _ _ _ _ _).2.1 (aM HK.out _ _ _ _ _).2.2.1 (aM HK.out _ _ _ _ _).2.2.2.1 (aM HK.out _ _ _ _ _).2.2.2.2) rfl ?_
      all_goals rw[hr.out]
      all_goals exact gC (cO aeT.out (agl _) _ _ _ _ _)
     ·have hr:=HR
      rw[if_neg aW] at hr
      have g0:¬(7:Int)<(F:Int):=by omega
      have g1:¬(2147483647:Int)<(Q:Int):=by omega
      have g2:¬(S:Int)<1:=by omega
      have g3:¬(m:Int)<(S:Int):=by omega
      obtain⟨E,hE⟩:∃E,E=8+S:=⟨_,rfl⟩
      have eE:(8:Int)+(S:Int)=(E:Int):=by omega
      have uE:=agp (E:Int) (by omega)
      obtain⟨T,hT⟩:∃T,T=E+4:=⟨_,rfl⟩
      have eT:(E:Int)+4=(T:Int):=by omega
      have uT:=agp (T:Int) (by omega)
      rw[←hE,←hT] at hr
      have B5:=aa (B1.out.trans (vx.out.mono (Nat.le_of_lt (by omega:w.heap.size<w1.heap.size))))
      by_cases hsh:d.length<T
      ·rw[if_pos hsh] at hr
       have hI:(d.length:Int)<(T:Int):=by omega
       clear hE hT HR
       go_wp2_with (go_at_call 113;(with_reducible refine(Zd.out _).mono ?_);rintro e w6 ⟨rfl,rfl⟩)
       refine bodyPost_ret (ed rfl _ _ rfl (aM HK.out _ _ _ _ _).1 (aM HK.out _ _ _ _ _).2.1 (aM HK.out _ _ _ _ _).2.2.1 (aM HK.out _ _ _ _ _).2.2.2.1 (aM HK.out _ _ _ _ _).2.2.2.2) rfl ?_
       rw[hr.out]
       exact gC (cO B5.out (agl _) _ _ _ _ _)
      ·rw[if_neg hsh] at hr
       have hI:¬(d.length:Int)<(T:Int):=by omega
       have hET:(E:Int)≤(T:Int):=by omega
       have hTd:(T:Int)≤(c':Int):=by omega
       have hEc:¬c'=E:=by omega
       have hEd:(E:Int)≤(d.length:Int):=by omega
       have af8:(E:Int)≤(c':Int):=by omega
       have hTE:T-E=4:=by omega
       have s4l:((d.drop E).take 4).length=4:=by simp;omega
       have s4b:aH ((d.drop E).take 4):=eZ (hdb.drop E) 4
       have seb:aH (d.take E):=eZ hdb E
       have sel:E=(d.take E).length:=by simp;omega
       have WT:=EK.out.below (vx.out.mono UZ)
       have Gg:=aa (bZ (p:=E) (s:=4) WT (by omega))
       have hse:ag .u8 w5 B (some ⟨b,off+a,none⟩) (d.take E):=by
        have:=bZ (p:=0) (s:=E) WT (by omega)
        simpa using this
       have Hse:=aa hse
       have mW:(fC (d.take E)).toNat<4294967296:=BitVec.isLt _
       obtain⟨cr,aaC⟩:∃cr,cr=(fC (d.take E)).toNat:=⟨_,rfl⟩
       have hcon:∀(A':Option Addr) (b' c':Nat) (W:World),ag .u8 W b' A' (d.take E)→Calls Tryz.prog 55 #[.slice A' E c'] W fun e w'=>e= .returned (.int .u32 (cr:Int))∧W=w':=
        fun A' b' c' W hi'=>by rw[aaC];exact dW (d.take E) seb E sel (by omega) A' b' c' W hi'
       rw[←aaC] at hr mW
       have cC:=aa hcon
       obtain⟨v,hv⟩:∃v,v=df ((d.drop E).take 4):=⟨_,rfl⟩
       have hv0:df ((((d.drop E).take 4).drop 0).take 4)=v:=by rw[hv];simp[List.take_take]
       have Hv0:=aa hv0
       rw[←hv] at hr
       have hB5:B≤w5.heap.size:=agm UZ vx.out.size
       have ucr:=agq (cr:Int) (by omega)
       have uQ:=agp (Q:Int) (by omega)
       obtain⟨t1,CP⟩:∃t,lB F 1=t:=⟨_,rfl⟩
       have adG:(bits .and .u64 (F:Int) 1 != 0)=t1:=CP
       obtain⟨t2,Gf⟩:∃t,lB F 2=t:=⟨_,rfl⟩
       have adF:(bits .and .u64 (F:Int) 2 != 0)=t2:=Gf
       rw[CP,Gf] at hr
       have hE8:E-8=S:=by omega
       have h8E:(8:Int)≤(E:Int):=by omega
       have h8c:¬c'=8:=by omega
       have aga:(8:Int)≤(c':Int):=by omega
       have acW:(d.take E).drop 8=(d.drop 8).take S:=by rw[List.drop_take,hE8]
       have hib:=bZ (p:=8) (s:=S) WT (by omega)
       obtain⟨bd,lW⟩:∃bd,bd=(d.drop 8).take S:=⟨_,rfl⟩
       have hbl:S=bd.length:=by rw[lW];simp;omega
       rw[acW,←lW] at hr
       rw[←lW] at hib
       have Hib:=aa hib
       have qg:=aa hbl
       clear CP Gf acW lW hib hbl
       clear hcon aaC hse WT hv hv0 sel seb
       clear hE hT HR
       obtain⟨s4,ace⟩:∃s4,s4=(d.drop E).take 4:=⟨_,rfl⟩
       rw[←ace] at s4l s4b Gg Hv0
       clear ace
       go_wp2_with (go_at_call 113;(with_reducible refine(Zd.out _).mono ?_);rintro e w6 ⟨rfl,rfl⟩)
       go_region_held3 (fun w'=>w'.cell? ⟨w.heap.size,0,none⟩=some (.int .i64 0)) (first | (go_keep;done) | exact later B7 k0 | exact later B6 k0)
        (first
          |(go_at_call 49;(first | (with_reducible refine(gD s4 4 s4l (by omega) _ B _ _ Gg.out).mono ?_) | (with_reducible refine(gD s4 4 s4l (by omega) _ B _ _ Gg.out.drew).mono ?_));rintro e w6 ⟨g6,rfl,hg6,hO6,b6⟩;(have B6:Below w5.heap.size w5 w6:=⟨b6.os,b6.tape,b6.output,b6.size,b6.block⟩))
          |(go_at_call 57;(with_reducible refine(TI s4 (by omega) s4b 0 v (by omega) Hv0.out g6 _ hO6).mono ?_);rintro e w7 ⟨rfl,NZ,Gn⟩;have B7:Below w5.heap.size w5 w7:=B6.trans (Gn.below (fun q hq=>by rw[hq];exact hg6) B6.size))
          |(go_at_call 55;(with_reducible refine(cC.out _ _ _ _ (Hse.out.below (B7.mono hB5))).mono ?_);rintro e w8 ⟨rfl,rfl⟩))
       have B77:=aa B7
       have M7:=(B5.out.trans (B7.mono B5.out.size))
       have MM:=aa M7
       have mm:=(B7.block w.heap.size (by have:=vx.out.size;omega)).trans ((vx.out.block w.heap.size (by omega)).trans M.out)
       obtain⟨K7,q0,q1,q2,q3,q4⟩:=ay mm
       have HK7:=aa K7
       obtain⟨p0,p1,p2,p3,p4⟩:=K7
       clear k0 k1 k2 k3 k4 f0 f1 f2 f3 f4 mm M7 B7 B6 NZ Gn hO6 b6 hg6
       by_cases hvc:v=cr
       ·rw[if_neg (by omega)] at hr
        have hb:((v:Int) != (cr:Int))=false:=by rw[hvc];simp
        have ad3:=aa (Hib.out.below (B77.out.mono hB5))
        have hB7:B≤w7.heap.size:=agm hB5 B77.out.size
        go_wp2_with (go_at_call 73;(with_reducible refine(nW bd S qg.out (by omega) _ B _ _ hB7 ad3.out (fun h=>by cases h)).mono ?_);rintro e w9 ⟨A9,c9,rfl,lh,b9⟩;obtain⟨K9,q0,q1,q2,q3,q4⟩:=ay ((b9.block w.heap.size (by have:=MM.out.size;have:=B77.out.size;have:=vx.out.size;omega)).trans ((B77.out.block w.heap.size (by have:=vx.out.size;omega)).trans ((vx.out.block w.heap.size (by omega)).trans M.out)));have LA:=aa K9;obtain⟨p0,p1,p2,p3,p4⟩:=K9)
        refine bodyPost_ret (ed rfl _ _ rfl (aM LA.out _ _ _ _ _).1 (aM LA.out _ _ _ _ _).2.1 (aM LA.out _ _ _ _ _).2.2.1 (aM LA.out _ _ _ _ _).2.2.2.1 (aM LA.out _ _ _ _ _).2.2.2.2) rfl ?_
        rw[hr.out]
        have Cg:w.heap.size<w7.heap.size:=by have:=B77.out.size;have:=vx.out.size;omega
        refine⟨A9,c9, ?_, ?_,cO (MM.out.trans (b9.mono MM.out.size)) (agl _) _ _ _ _ _⟩
        ·show _=Ending.returned (.tuple #[.agg #[.int .i64 (Q:Int),.bool t1,.bool t2,.bool gB,.slice A9 bd.length c9],.int .i64 (T:Int),.int .i64 0])
         rw[←qg.out]
         rfl
        ·show aq _ _ A9 bd.length c9 bd
         rw[←qg.out]
         exact aq.of_other (aq.base lh MM.out.size) fun q hq=>fk (by have:=(agB lh q hq).1;omega) _ _ _ _ _
       ·rw[if_pos hvc] at hr
        have hb:((v:Int) != (cr:Int))=true:=by rw[bne_iff_ne];omega
        go_wp2_with fail
        refine bodyPost_ret (ed rfl _ _ rfl (aM HK7.out _ _ _ _ _).1 (aM HK7.out _ _ _ _ _).2.1 (aM HK7.out _ _ _ _ _).2.2.1 (aM HK7.out _ _ _ _ _).2.2.2.1 (aM HK7.out _ _ _ _ _).2.2.2.2) rfl ?_
        rw[hr.out]
        exact gC (cO MM.out (agl _) _ _ _ _ _)
   ·have hr:Hid (bL d=(yi,0,2)):=by show _=_;unfold bL;rw[if_neg Az,if_pos (by omega)]
    have hb:(ix d 1 != 80)=true:=bne_iff_ne.2 h80
    go_enter Tryz.func58,Tryz.ntmps58
    go_wp2_with fail
    obtain⟨⟨k0,k1,k2,k3,k4⟩,_⟩:=ay M.out
    refine bodyPost_ret (ed rfl _ _ rfl k0 k1 k2 k3 k4) rfl ?_
    rw[hr.out]
    exact gC B1.out
  ·have hr:Hid (bL d=(yi,0,2)):=by show _=_;unfold bL;rw[if_neg Az,if_pos (by omega)]
   have hb:(ix d 0 != 75)=true:=bne_iff_ne.2 h75
   go_enter Tryz.func58,Tryz.ntmps58
   go_wp2_with fail
   obtain⟨⟨k0,k1,k2,k3,k4⟩,_⟩:=ay M.out
   refine bodyPost_ret (ed rfl _ _ rfl k0 k1 k2 k3 k4) rfl ?_
   rw[hr.out]
   exact gC B1.out
structure Pk where
 stream:Int
 pat:Int
 plen:Int
 key:Bool
 hid:Bool
 data:List Int
def Ga(p:Pk)(A:Option Addr)(c:Nat):Value:=.agg #[.int .i64 p.stream,.int .i64 p.pat,.int .i64 p.plen,.bool p.key,.bool p.hid,.slice A p.data.length c]
def zV(p:Pk):Bool:=decide (0≤p.stream∧p.stream<4∧0≤p.pat∧p.pat≤1125899906842624∧0≤p.plen∧p.plen≤1125899906842624)
def DN(p:Pk):Int:=jq p.key 1+jq p.hid 2
def lc(p:Pk):List Int:=[p.stream,DN p]++bM p.pat.toNat 8++bM p.plen.toNat 8++p.data
def iq(p:Pk):List Int×Int:=if zV p=false then([],1)else if 65536<p.data.length then([],4)else(lc p,0)
theorem ZL(p:Pk):bits .or .u8 (jq p.key 1) (jq p.hid 2)=DN p:=by
 obtain⟨s,a,l,k,h,d⟩:=p
 cases k <;> cases h <;> (show bits .or .u8 _ _=_;simp only[jq,DN,if_true,if_false,Bool.false_eq_true];first | decide | kernel_rfl)
theorem QK(p:Pk):0≤DN p∧DN p<4:=by
 obtain⟨s,a,l,k,h,d⟩:=p
 simp only[DN]
 cases k <;> cases h <;> decide
def UG(l:List Int)(w:World)(e:Ending)(w':World):Prop:=∃A' c',e= .returned (.slice A' 8 c')∧aq w' w.heap.size A' 8 c' l∧Below w.heap.size w w'
theorem xW(N:Nat)(hN:N<18446744073709551616)(w:World):Calls Tryz.prog 69 #[.int .u64 (N:Int),.int .i64 8] w (UG (bM N 8) w):=
 (CB N 8 hN (by omega) (by omega) w).mono fun e w' ⟨A',c',h1,h2,h3⟩=>⟨A',c',by rw[h1,aS],by rw[aS] at h2;exact h2,h3⟩
section
variable {W : World} {g : Nat} {v0 v1 v2 v3 v4 v5 : Value}
theorem bH(h:W.heap[g]? =some (.cells #[v0,v1,v2,v3,v4,v5] 52 (0,0))):
 (W.cell? ⟨g,0,none⟩=some v0∧W.cell? ⟨g,1,none⟩=some v1∧W.cell? ⟨g,2,none⟩=some v2∧W.cell? ⟨g,3,none⟩=some v3∧W.cell? ⟨g,4,none⟩=some v4∧W.cell? ⟨g,5,none⟩=some v5)∧
 W.frozen? ⟨g,0,none⟩=false∧W.frozen? ⟨g,1,none⟩=false∧W.frozen? ⟨g,2,none⟩=false∧W.frozen? ⟨g,3,none⟩=false∧W.frozen? ⟨g,4,none⟩=false∧W.frozen? ⟨g,5,none⟩=false:=
 ⟨⟨(agu _ _ _ _ _ _ h).trans rfl,(agu _ _ _ _ _ _ h).trans rfl,(agu _ _ _ _ _ _ h).trans rfl,(agu _ _ _ _ _ _ h).trans rfl,(agu _ _ _ _ _ _ h).trans rfl,(agu _ _ _ _ _ _ h).trans rfl⟩,
  agv W g 0 _ _ h,agv W g 1 _ _ h,agv W g 2 _ _ h,agv W g 3 _ _ h,agv W g 4 _ _ h,agv W g 5 _ _ h⟩
end
theorem KD(p:Pk)(A:Option Addr)(B c:Nat)(w:World)(hB:B≤w.heap.size)(ha:ag .u8 w B A p.data)(hl:p.data.length≤80000):
 Calls Tryz.prog 72 #[Ga p A c] w (dF (iq p) w):=by
 have hr:Hid (iq p=if zV p=false then([],1)else if 65536<p.data.length then([],4)else(lc p,0)):=aa rfl
 have dU:Hid (zV p=decide (0≤p.stream∧p.stream<4∧0≤p.pat∧p.pat≤1125899906842624∧0≤p.plen∧p.plen≤1125899906842624)):=aa rfl
 have Su:Hid (lc p=[p.stream,DN p]++bM p.pat.toNat 8++bM p.plen.toNat 8++p.data):=aa rfl
 have li:=ZL p
 have acM:=QK p
 obtain⟨R,hR⟩:∃R,R=iq p:=⟨_,rfl⟩
 rw[←hR] at hr ⊢
 clear hR
 unfold Ga
 generalize lc p=LB at*
 generalize zV p=OK at*
 generalize DN p=F at*
 obtain⟨st,dV,ln,ky,hd,d⟩:=p
 dsimp only at*
 have M:=aa (ago w (.cells #[.int .i64 st,.int .i64 dV,.int .i64 ln,.bool ky,.bool hd,.slice A d.length c] 52))
 have B1:=aa (ak (ac w) (.cells #[.int .i64 st,.int .i64 dV,.int .i64 ln,.bool ky,.bool hd,.slice A d.length c] 52))
 have Ha:=aa ((ha.below (B1.out.mono hB)).more (agm hB B1.out.size))
 obtain⟨w1,bj⟩:∃w1,w1=w.alloc (.cells #[.int .i64 st,.int .i64 dV,.int .i64 ln,.bool ky,.bool hd,.slice A d.length c] 52):=⟨_,rfl⟩
 have hz1:Hid (w1.heap.size=w.heap.size+1):=by show _=_;rw[bj];simp
 rw[←bj] at M B1 Ha
 obtain⟨⟨k0,k1,k2,k3,k4,k5⟩,_⟩:=bH M.out
 clear ha
 go_enter Tryz.func72,Tryz.ntmps72
 go_upto_region 1 with fail
 rw[←bj]
 clear bj
 have h7:st<0∨(¬st<0∧4≤st)∨(¬st<0∧¬4≤st∧dV<0)∨(¬st<0∧¬4≤st∧¬dV<0∧1125899906842624<dV)∨(¬st<0∧¬4≤st∧¬dV<0∧¬1125899906842624<dV∧ln<0)∨
  (¬st<0∧¬4≤st∧¬dV<0∧¬1125899906842624<dV∧¬ln<0∧1125899906842624<ln)∨(¬st<0∧¬4≤st∧¬dV<0∧¬1125899906842624<dV∧¬ln<0∧¬1125899906842624<ln):=by omega
 by_cases aW:OK=false
 ·have hr2:=hr.out
  rw[if_pos aW] at hr2
  have Hr:=aa hr2
  have hn:=dU.out
  rw[aW] at hn
  have NL:=of_decide_eq_false hn.symm
  clear hr2 hr dU aW hn Su
  rcases h7 with h | ⟨h1,h⟩ | ⟨h1,h2,h⟩ | ⟨h1,h2,h3,h⟩ | ⟨h1,h2,h3,h4,h⟩ | ⟨h1,h2,h3,h4,h5,h⟩ | ⟨h1,h2,h3,h4,h5,h6⟩
  all_goals first | (exfalso;omega) | skip
  all_goals clear NL
  all_goals go_wp2_with fail
  all_goals go_ret2
  all_goals rw[Hr.out]
  all_goals exact⟨none,0,rfl,aq.nil _ _,B1.out⟩
 ·have hr2:=hr.out
  rw[if_neg aW] at hr2
  have hn:OK=true:=by simpa using aW
  rw[dU.out] at hn
  have NL:=of_decide_eq_true hn
  obtain⟨h1,h2,h3,h4,h5,h6⟩:¬st<0∧¬4≤st∧¬dV<0∧¬1125899906842624<dV∧¬ln<0∧¬1125899906842624<ln:=by omega
  clear hn NL h7 aW
  by_cases hlong:65536<d.length
  ·rw[if_pos hlong] at hr2
   have Hr:=aa hr2
   clear hr2 hr dU Su
   have hI:(d.length:Int) > 65536:=by omega
   go_wp2_with fail
   go_ret2
   rw[Hr.out]
   exact⟨none,0,rfl,aq.nil _ _,B1.out⟩
  ·rw[if_neg hlong] at hr2
   have Hr:=aa hr2
   have hI:¬(65536:Int)<(d.length:Int):=by omega
   clear hr2 hr dU
   obtain⟨s,rfl⟩:=Int.eq_ofNat_of_zero_le (show 0≤st by omega)
   obtain⟨a,rfl⟩:=Int.eq_ofNat_of_zero_le (show 0≤dV by omega)
   obtain⟨n,rfl⟩:=Int.eq_ofNat_of_zero_le (show 0≤ln by omega)
   rw[Int.toNat_natCast,Int.toNat_natCast] at Su
   have u0:=IntWalk.u8_in (s:Int) (by omega)
   have u1:=agq (a:Int) (by omega)
   have u2:=agq (n:Int) (by omega)
   go_wp2_with fail
   go_region_held3 (fun w'=>w'.cell? ⟨w.heap.size,0,none⟩=some (.int .i64 (s:Int))∧w'.cell? ⟨w.heap.size,3,none⟩=some (.bool ky)∧w'.cell? ⟨w.heap.size,4,none⟩=some (.bool hd)) (first | (go_keep;done) | exact⟨k0,k3,k4⟩ | exact⟨later (ak (ac w1) _) k0,later (ak (ac w1) _) k3,later (ak (ac w1) _) k4⟩ | exact⟨later (ak (ac w1) _).drew k0,later (ak (ac w1) _).drew k3,later (ak (ac w1) _).drew k4⟩)
    (first | (go_at_call 123;(with_reducible refine(Fl _ _ _).mono ?_);rintro e w2 ⟨rfl,rfl⟩))
   obtain⟨w2,hw2⟩:∃w2,w2=(w1.alloc (.cells #[.int .u8 (s:Int),.int .u8 F] 5)).drew:=⟨_,rfl⟩
   have b2:Below w1.heap.size w1 w2:=by rw[hw2];exact(ak (ac w1) _).drew
   have O2:aq w2 w1.heap.size (some ⟨w1.heap.size,0,none⟩) 2 2 [(s:Int),F]:=by
    rw[hw2];exact World.ownsRow.drew (World.ownsRow_lit w1 #[.int .u8 (s:Int),.int .u8 F] 2 (by simp) (by simp[maxLen]) (by simp))
   rw[←hw2]
   clear hw2
   have c1:=later b2 k1
   have Hl:=aa (show (LB=[(s:Int),F]++bM a 8++bM n 8++d)from Su.out)
   have ZB:=aa b2
   clear Su li k0 k1 k3 k4
   go_wp2_with (first
    |(go_at_call 69;(with_reducible refine(xW a (by omega) _).mono ?_);rintro e w5 ⟨A5,c5,rfl,bT,b5⟩;have B5:Below w1.heap.size w1 w5:=kK b2 b5;have O5:=O2.below b5 (agl _))
    |(at_builtin;refine cF _ rfl (.tmp 48) (.tmp 52) rfl w1 _ 2 2 [(s:Int),F] rfl O5 _ A5 8 c5 (bM a 8) rfl (aS _ _) bT.ints (by omega) B5 ?_;intro A6 c6 w6 dC b6;have c2:=later b6 k2)
    |(go_at_call 69;(with_reducible refine(xW n (by omega) _).mono ?_);rintro e w7 ⟨A7,c7,rfl,fQ,b7⟩;have B7:Below w1.heap.size w1 w7:=kK b6 b7;have O7:=dC.below b7 (agl _))
    |(at_builtin;refine cF _ rfl (.tmp 54) (.tmp 58) rfl w1 _ _ _ _ rfl O7 _ A7 8 c7 (bM n 8) rfl (aS _ _) fQ.ints (by omega) B7 ?_;intro A8 c8 w8 mj b8;have c5:=later b8 k5)
    |(at_builtin;refine cF _ rfl (.tmp 60) (.tmp 62) rfl w1 _ _ _ _ rfl mj _ A d.length c d rfl rfl (Ha.out.below b8) (by omega) b8 ?_;intro A9 c9 w9 lh b9))
   all_goals go_ret2
   all_goals have iu:LB.length=18+d.length:=by rw[Hl.out];simp[aS];omega
   all_goals rw[Hr.out]
   all_goals refine⟨A9,c9, ?_, ?_,B1.out.trans (b9.mono B1.out.size)⟩
   all_goals (show _;simp only[iu])
   all_goals first | rfl | (rw[Hl.out];exact lh.base B1.out.size)
def UI:Pk:=⟨0,0,0,false,false,[]⟩
def o8(b:List Int)(p:Nat):Nat:=df ((b.drop p).take 8)
def dO(b:List Int):Pk×Int:=
 if b.length<18 then(UI,3)else if 65554<b.length then(UI,4)
 else if 4≤(ix b 0).toNat∨3<(ix b 1).toNat∨1125899906842624<o8 b 2∨1125899906842624<o8 b 10 then(UI,2)
 else(⟨((ix b 0).toNat:Int),(o8 b 2:Int),(o8 b 10:Int),lB (ix b 1).toNat 1,lB (ix b 1).toNat 2,b.drop 18⟩,0)
def CK(r:Pk×Int)(w:World)(e:Ending)(w':World):Prop:=
 ∃A c,e= .returned (.tuple #[Ga r.1 A c,.int .i64 r.2])∧aq w' w.heap.size A r.1.data.length c r.1.data∧Below w.heap.size w w'
section
variable {W : World} {g : Nat} {v0 v1 v2 v3 v4 v5 : Value}
def yy(W:World)(g:Nat)(x0 x1 x2 x3 x4 x5:Value):World:=(pj W g x0 x1 x2 x3 x4).setCell ⟨g,5,none⟩ x5
theorem rW(h:W.cell? ⟨g,0,none⟩=some v0∧W.cell? ⟨g,1,none⟩=some v1∧W.cell? ⟨g,2,none⟩=some v2∧W.cell? ⟨g,3,none⟩=some v3∧W.cell? ⟨g,4,none⟩=some v4∧W.cell? ⟨g,5,none⟩=some v5)(x0 x1 x2 x3 x4 x5:Value):
 (yy W g x0 x1 x2 x3 x4 x5).cell? ⟨g,0,none⟩=some x0∧(yy W g x0 x1 x2 x3 x4 x5).cell? ⟨g,1,none⟩=some x1∧(yy W g x0 x1 x2 x3 x4 x5).cell? ⟨g,2,none⟩=some x2∧(yy W g x0 x1 x2 x3 x4 x5).cell? ⟨g,3,none⟩=some x3∧(yy W g x0 x1 x2 x3 x4 x5).cell? ⟨g,4,none⟩=some x4∧(yy W g x0 x1 x2 x3 x4 x5).cell? ⟨g,5,none⟩=some x5:=by
 obtain⟨h0,h1,h2,h3,h4,h5⟩:=h
 unfold yy pj
 refine⟨?_, ?_, ?_, ?_, ?_, ?_⟩ <;> simp[go_sem,h0,h1,h2,h3,h4,h5]
theorem oZ{B:Nat}{w:World}(h:Below B w W)(hg:B≤g)(x0 x1 x2 x3 x4 x5:Value):Below B w (yy W g x0 x1 x2 x3 x4 x5):=
 (cO h hg _ _ _ _ _).setCell (p:=⟨g,5,none⟩) hg _
theorem vP{q:Nat}(hq:q≠g)(x0 x1 x2 x3 x4 x5:Value):(yy W g x0 x1 x2 x3 x4 x5).heap[q]? =W.heap[q]? :=by
 unfold yy
 rw[agr _ _ _ _ hq,fk hq]
end
theorem pz{fn:Func}(h:fn.results=#[.cell 2 52,.tmp 3])(tmps:Array Value)(w:World){g:Nat}{v0 v1 v2 v3 v4 v5:Value}(ht:tmps.getD 2 undef= .pointer (some ⟨g,0,none⟩))
 (hc:w.cell? ⟨g,0,none⟩=some v0∧w.cell? ⟨g,1,none⟩=some v1∧w.cell? ⟨g,2,none⟩=some v2∧w.cell? ⟨g,3,none⟩=some v3∧w.cell? ⟨g,4,none⟩=some v4∧w.cell? ⟨g,5,none⟩=some v5):
 (results fn tmps).run Tryz.prog w= .ok (.tuple #[.agg #[v0,v1,v2,v3,v4,v5],tmps.getD 3 undef]) w:=by
 obtain⟨c0,c1,c2,c3,c4,c5⟩:=hc
 rw[results_cell_tmp h,ht]
 simp[go_sem,c0,c1,c2,c3,c4,c5]
theorem zG{c:Int}{w w':World}(h:Below w.heap.size w w'):CK (UI,c) w (.returned (.tuple #[.agg #[.int .i64 0,.int .i64 0,.int .i64 0,.bool false,.bool false,.slice none 0 0],.int .i64 c])) w':=
 ⟨none,0,rfl,aq.nil _ _,h⟩
theorem Y3(l:List Int)(hm:l.length≤50000)(hby:aH l)(p v:Nat)(Pw:p+8≤l.length)(hv:df ((l.drop p).take 8)=v)(g:Nat)(w:World)(h:cG w g l p 0):
 Calls Tryz.prog 57 #[.pointer (some ⟨g,0,none⟩),.int .i64 8] w (LG v l (p+8) g w):=by
 rw[←hv];exact CD l hm hby p 8 (by omega) (by omega) Pw g w h
theorem zH(l:List Int)(n:Nat)(hn:l.length=n)(hm:n≤50000)(hby:aH l)(A:Option Addr)(B c:Nat)(hc:n≤c)(cK:c≤9223372036854775807)(w:World)(hB:B≤w.heap.size)(ha:ag .u8 w B A l):
 Calls Tryz.prog 120 #[.slice A n c] w (CK (dO l) w):=by
 have M:=aa (ago w (.cells #[.int .i64 0,.int .i64 0,.int .i64 0,.bool false,.bool false,.slice none 0 0] 52))
 have B1:=aa (ak (ac w) (.cells #[.int .i64 0,.int .i64 0,.int .i64 0,.bool false,.bool false,.slice none 0 0] 52))
 have Ha:=aa (ha.below (B1.out.mono hB))
 have hl2:¬(65554:Int)<(n:Int):=by omega
 by_cases h18:n<18
 ·have hr:Hid (dO l=(UI,3)):=by show _=_;unfold dO;rw[if_pos (by omega)]
  have hI:(n:Int)<18:=by omega
  clear ha hn
  go_enter Tryz.func120,Tryz.ntmps120
  go_wp2_with fail
  refine bodyPost_ret (pz rfl _ _ rfl (bH M.out).1) rfl ?_
  rw[hr.out]
  exact zG B1.out
 ·have hI:¬(n:Int)<18:=by omega
  have HR:Hid (dO l=if 4≤(ix l 0).toNat∨3<(ix l 1).toNat∨1125899906842624<o8 l 2∨1125899906842624<o8 l 10 then(UI,2)
   else(⟨((ix l 0).toNat:Int),(o8 l 2:Int),(o8 l 10:Int),lB (ix l 1).toNat 1,lB (ix l 1).toNat 2,l.drop 18⟩,0)):=by
   show _=_;unfold dO;rw[if_neg (by omega),if_neg (by omega)]
  have v0:df ((l.drop 0).take 1)=(ix l 0).toNat:=by rw[qp (by omega),Ln]
  have v1:df ((l.drop (0+1)).take 1)=(ix l 1).toNat:=by rw[qp (by omega),Ln]
  have v2:df ((l.drop (0+1+1)).take 8)=o8 l 2:=rfl
  have v3:df ((l.drop (0+1+1+8)).take 8)=o8 l 10:=rfl
  have hx0:=hby.ix_ (show 0<l.length by omega)
  have hx1:=hby.ix_ (show 1<l.length by omega)
  have q0:(ix l 0).toNat<256:=by omega
  have q1:(ix l 1).toNat<256:=by omega
  have V0:=aa v0
  have V1:=aa v1
  have V2:=aa v2
  have V3:=aa v3
  have Hn:=aa hn
  have NM:l.length≤50000:=by omega
  have h0:0+1+1+8+8≤l.length:=by omega
  clear v0 v1 v2 v3 hx0 hx1
  generalize (ix l 0).toNat=S at*
  generalize (ix l 1).toNat=F at*
  generalize o8 l 2=T at*
  generalize o8 l 10=L at*
  have dp:ag .u8 w B (if c=18 then A else Option.map (fun x=>x.add 18) A) (l.drop 18):=gi ha (by omega) (by omega)
  obtain⟨b,off,rfl,_⟩:=ha.lt (by omega)
  obtain⟨w1,bj⟩:∃w1,w1=w.alloc (.cells #[.int .i64 0,.int .i64 0,.int .i64 0,.bool false,.bool false,.slice none 0 0] 52):=⟨_,rfl⟩
  have hz1:Hid (w1.heap.size=w.heap.size+1):=by show _=_;rw[bj];simp
  rw[←bj] at M B1 Ha
  clear ha hn
  go_enter Tryz.func120,Tryz.ntmps120
  go_wp2_with fail
  rw[←bj]
  clear bj
  (with_reducible refine(gD l n Hn.out hm _ B _ _ Ha.out).mono ?_);rintro e w2 ⟨g,rfl,hg,hO,b2⟩
  have HO:=aa hO
  clear hO
  go_wp2_with fail
  (with_reducible refine(Lp l NM hby 0 S (by omega) V0.out g _ HO.out).mono ?_);rintro e w3 ⟨rfl,ER,hk3⟩
  have oD:=aa ER
  have HK3:=aa hk3
  clear ER hk3
  go_wp2_with fail
  (with_reducible refine(Lp l NM hby (0+1) F (by omega) V1.out g _ oD.out).mono ?_);rintro e w4 ⟨rfl,hO4,hk4⟩
  have X8:=aa hO4
  have HK4:=aa hk4
  clear hO4 hk4
  go_wp2_with fail
  (with_reducible refine(Y3 l NM hby (0+1+1) T (by omega) V2.out g _ X8.out).mono ?_);rintro e w5 ⟨rfl,UY,qN⟩
  have Uy:=aa UY
  have HK5:=aa qN
  clear UY qN
  go_wp2_with fail
  (with_reducible refine(Y3 l NM hby (0+1+1+8) L (by omega) V3.out g _ Uy.out).mono ?_);rintro e w6 ⟨rfl,hO6,xw⟩
  have UD:Hid (Below w1.heap.size w1 w6):=by
   have k:=((HK3.out.trans HK4.out).trans HK5.out).trans xw
   exact b2.trans (k.below (fun q hq=>by rw[hq];exact hg) b2.size)
  clear hO6 xw HO oD X8 Uy HK3 HK4 HK5 V0 V1 V2 V3 b2 hg h0
  have M6:=aa ((UD.out.block w.heap.size (by have:=hz1.out;omega)).trans M.out)
  have B6:=aa (B1.out.trans (UD.out.mono B1.out.size))
  obtain⟨⟨k0,k1,k2,k3,k4,k5⟩,f0,f1,f2,f3,f4,f5⟩:=bH M6.out
  have HK:=aa (bH M6.out).1
  have h5:(4:Int)≤(S:Int)∨(¬(4:Int)≤(S:Int)∧(3:Int)<(F:Int))∨(¬(4:Int)≤(S:Int)∧¬(3:Int)<(F:Int)∧(1125899906842624:Int)<(T:Int))∨
   (¬(4:Int)≤(S:Int)∧¬(3:Int)<(F:Int)∧¬(1125899906842624:Int)<(T:Int)∧(1125899906842624:Int)<(L:Int))∨(¬(4:Int)≤(S:Int)∧¬(3:Int)<(F:Int)∧¬(1125899906842624:Int)<(T:Int)∧¬(1125899906842624:Int)<(L:Int)):=by omega
  by_cases aW:4≤S∨3<F∨1125899906842624<T∨1125899906842624<L
  ·have hr:=HR
   rw[if_pos aW] at hr
   clear HR
   rcases h5 with h | ⟨h1,h⟩ | ⟨h1,h2,h⟩ | ⟨h1,h2,h3,h⟩ | ⟨h1,h2,h3,h4⟩
   all_goals first | (exfalso;omega) | skip
   all_goals clear aW
   all_goals go_wp2_with fail
   all_goals refine bodyPost_ret (pz rfl _ _ rfl (rW HK.out _ _ _ _ _ _)) rfl ?_
   all_goals rw[hr.out]
   all_goals exact zG (oZ B6.out (agl _) _ _ _ _ _ _)
  ·have hr:=HR
   rw[if_neg aW] at hr
   clear HR
   obtain⟨h1,h2,h3,h4⟩:¬(4:Int)≤(S:Int)∧¬(3:Int)<(F:Int)∧¬(1125899906842624:Int)<(T:Int)∧¬(1125899906842624:Int)<(L:Int):=by omega
   clear h5
   have uS:=agp (S:Int) (by omega)
   have uT:=agp (T:Int) (by omega)
   have uL:=agp (L:Int) (by omega)
   obtain⟨t1,CP⟩:∃t,lB F 1=t:=⟨_,rfl⟩
   have adG:(bits .and .u64 (F:Int) 1 != 0)=t1:=CP
   obtain⟨t2,Gf⟩:∃t,lB F 2=t:=⟨_,rfl⟩
   have adF:(bits .and .u64 (F:Int) 2 != 0)=t2:=Gf
   rw[CP,Gf] at hr
   have agb:(18:Int)≤(n:Int):=by omega
   have agc:(18:Int)≤(c:Int):=by omega
   obtain⟨bd,lW⟩:∃bd,bd=l.drop 18:=⟨_,rfl⟩
   have hbl:n-18=bd.length:=by have:=Hn.out;rw[lW];simp;omega
   rw[←lW] at hr dp
   have qg:=aa hbl
   have Cl:ag .u8 w6 B (if c=18 then some (⟨b,off,none⟩:Addr)else Option.map (fun x:Addr=>x.add 18) (some (⟨b,off,none⟩:Addr))) bd:=dp.below (B6.out.mono hB)
   have hB6:B≤w6.heap.size:=agm hB B6.out.size
   clear CP Gf lW dp hbl aW
   by_cases aaI:c=18
   all_goals first | rw[if_pos aaI] at Cl | (rw[if_neg aaI] at Cl;replace Cl:ag .u8 w6 B (some ⟨b,off+18,none⟩) bd:=by simpa [Addr.add] using Cl)
   all_goals have aeJ:=aa Cl
   all_goals clear Cl
   all_goals go_wp2_with (go_at_call 73;(with_reducible refine(nW bd _ qg.out (by omega) _ B _ _ hB6 aeJ.out (fun h=>by cases h)).mono ?_);rintro e w9 ⟨A9,c9,rfl,lh,b9⟩;obtain⟨K9,q0,q1,q2,q3,q4,q5⟩:=bH ((b9.block w.heap.size (by have:=UD.out.size;have:=hz1.out;omega)).trans M6.out);have LA:=aa K9;obtain⟨p0,p1,p2,p3,p4,p5⟩:=K9)
   all_goals refine bodyPost_ret (pz rfl _ _ rfl (rW LA.out _ _ _ _ _ _)) rfl ?_
   all_goals rw[hr.out]
   all_goals have lZ:w.heap.size<w6.heap.size:=by have:=UD.out.size;have:=hz1.out;omega
   all_goals refine⟨A9,c9, ?_, ?_,oZ (B6.out.trans (b9.mono B6.out.size)) (agl _) _ _ _ _ _ _⟩
   all_goals first
    |(show aq _ _ A9 bd.length c9 bd
      rw[←qg.out]
      exact aq.of_other (aq.base lh B6.out.size) fun q hq=>vP (by have:=(agB lh q hq).1;omega) _ _ _ _ _ _)
    |(show _=Ending.returned (.tuple #[.agg #[.int .i64 (S:Int),.int .i64 (T:Int),.int .i64 (L:Int),.bool t1,.bool t2,.slice A9 bd.length c9],.int .i64 0])
      rw[←qg.out]
      rfl)
end
end Go.Proofs.YtbhfpehgacaidaaGreatDoor
