/- A part of the proof of the given statement TopRight. Conditions: none. -/
import Derived.Shelf.SlSortCmp.WholeK
import Derived.Shelf.SlGeneric
import Derived.Shelf.SlSortCmp.NoneTotal
import Derived.Test.YtbhfpehgacaidaaGreatDoorQAG
namespace Go.Proofs.YtbhfpehgacaidaaGreatDoor
set_option linter.unusedVariables false
set_option linter.unusedSimpArgs false
set_option maxRecDepth 100000
set_option maxHeartbeats 8000000
section
open Go.RowKit
def fJ(g:Pg)(P:List Pg):Int:=P.foldl (fun a p=>bits .xor .u8 a (wQ p)) (ix g.body 1)
def eV(g:Pg)(P:List Pg):Int:=P.foldl (fun a p=>bits .xor .u8 a (p.body.length:Int)) (ix g.body 2)
def j8(g:Pg)(P:List Pg):List Int:=P.foldl (fun s p=>Bc s p.body) (g.body.drop 3)
def iY(g:Pg)(P:List Pg)(sq:Int):Pg×Bool:=
 if 3<fJ g P∨eV g P<1∨252<eV g P∨((j8 g P).length:Int)<eV g P then(yi,false)
 else if ((j8 g P).drop (eV g P).toNat).any (fun c=>decide (c≠0))then(yi,false)
 else(⟨sq,bits .and .u8 (fJ g P) 1 != 0,bits .and .u8 (fJ g P) 2 != 0,false,(j8 g P).take (eV g P).toNat⟩,cR ⟨sq,bits .and .u8 (fJ g P) 1 != 0,bits .and .u8 (fJ g P) 2 != 0,false,(j8 g P).take (eV g P).toNat⟩)
theorem Iq{g:Pg}{P:List Pg}{k:Nat}(h:k<P.length):fJ g (P.take (k+1))=bits .xor .u8 (fJ g (P.take k)) (wQ P[k]):=by
 rw[agx h,fJ,List.foldl_append];rfl
theorem Ip{g:Pg}{P:List Pg}{k:Nat}(h:k<P.length):eV g (P.take (k+1))=bits .xor .u8 (eV g (P.take k)) (P[k].body.length:Int):=by
 rw[agx h,eV,List.foldl_append];rfl
theorem zC{g:Pg}{P:List Pg}{k:Nat}(h:k<P.length):j8 g (P.take (k+1))=Bc (j8 g (P.take k)) P[k].body:=by
 rw[agx h,j8,List.foldl_append];rfl
theorem DB{g:Pg}{P:List Pg}(hg:g.body.length≤255)(h:∀p∈P,p.body.length≤255):∀k,k≤P.length→(j8 g (P.take k)).length≤255
 |0,_=>by simp[j8];omega
 |k+1,hk=>by
  rw[zC (by omega),Cz]
  have:=DB hg h k (by omega)
  have:=h P[k] (agt (by omega))
  omega
theorem Dd(x y:Int):0≤bits .xor .u8 x y∧bits .xor .u8 x y<256:=by
 have:=BitVec.isLt (BitVec.ofInt 8 x ^^^ BitVec.ofInt 8 y)
 have h2:bits .xor .u8 x y=IntKind.u8.wrap ((BitVec.ofInt 8 x ^^^ BitVec.ofInt 8 y).toNat:Int):=rfl
 rw[h2,IntWalk.u8_in _ (by omega)]
 omega
theorem qV(f:Pg→Int):∀(P:List Pg) (a:Int),0≤a∧a<256→0≤P.foldl (fun a p=>bits .xor .u8 a (f p)) a∧P.foldl (fun a p=>bits .xor .u8 a (f p)) a<256
 |[],a,h=>h
 |p :: P,a,_=>qV f P _ (Dd _ _)
theorem Lk{l f:List Int}(hl:aH l)(hf:aH f):aH (Bc l f):=by
 intro x hx
 obtain⟨i,hi,rfl⟩:=List.mem_map.1 hx
 split
 ·exact Dd _ _
 ·have Jj:=List.mem_range.1 hi
  have hp:aH (pD l f.length):=by
   intro y hy
   simp only[pD,agC,List.mem_replicate] at hy
   rcases hy with hy | ⟨_,rfl⟩
   ·exact hl y hy
   ·omega
  exact hp.ix_ Jj
theorem DC{g:Pg}:∀{P:List Pg},aH (g.body.drop 3)→(∀p∈P,aH p.body)→aH (j8 g P):=by
 intro P hg hP
 unfold j8
 generalize g.body.drop 3=s at hg
 induction P generalizing s with
 |nil=>exact hg
 |cons p P ih=>exact ih (fun q hq=>hP q (by simp[hq])) _ (Lk hg (hP p (by simp)))
theorem kt{w:World}{B b off:Nat}{l:List Int}{k:IntKind}(h:ag k w B (some ⟨b,off,none⟩) l)(p:Nat):ag k w B (some ⟨b,off+p,none⟩) (l.drop p):=fun h0=>by
 rw[List.length_map,List.length_drop] at h0
 obtain⟨b',wL,e,hb,hcell⟩:=h.lt (by omega)
 injection e with e;injection e with e1 e2;subst e1;subst e2
 refine⟨b,off+p,rfl,hb,fun i u hu=> ?_⟩
 have hi:i<l.length-p:=by have:=(List.getElem?_eq_some_iff.1 hu).1;rw[List.length_map,List.length_drop] at this;exact this
 rw[eH (by rw[List.length_drop];exact hi),jF] at hu
 rw[←Option.some.inj hu,Nat.add_assoc]
 exact hcell (p+i) (by omega)
def Uh(r:Pg×Bool)(w:World)(e:Ending)(w':World):Prop:=∃A c,e= .returned (.tuple #[ju r.1 A c,.bool r.2])∧aq w' w.heap.size A r.1.body.length c r.1.body∧Below w.heap.size w w'
theorem iG{fn:Func}(h:fn.results=#[.cell 6 124,.tmp 7])(tmps:Array Value)(w:World){g:Nat}{v0 v1 v2 v3 v4:Value}(ht:tmps.getD 6 undef= .pointer (some ⟨g,0,none⟩))
 (hc:w.cell? ⟨g,0,none⟩=some v0∧w.cell? ⟨g,1,none⟩=some v1∧w.cell? ⟨g,2,none⟩=some v2∧w.cell? ⟨g,3,none⟩=some v3∧w.cell? ⟨g,4,none⟩=some v4):
 (results fn tmps).run Tryz.prog w= .ok (.tuple #[.agg #[v0,v1,v2,v3,v4],tmps.getD 7 undef]) w:=by
 obtain⟨c0,c1,c2,c3,c4⟩:=hc
 rw[results_cell_tmp h,ht]
 simp[go_sem,c0,c1,c2,c3,c4]
theorem Dz{w w':World}(h:Below w.heap.size w w'):Uh (yi,false) w (.returned (.tuple #[.agg #[.int .i64 0,.bool false,.bool false,.bool false,.slice none 0 0],.bool false])) w':=⟨none,0,rfl,aq.nil _ _,h⟩
theorem Qw(g:Pg)(E:List (El Pg))(n:Nat)(hn:n=E.length)(hm:n≤8)(hs:dM E)(A:Option Addr)(B c:Nat)(w:World)(hB:B≤w.heap.size)(ha:iE gY w B A E)
 (Ag:Option Addr) (cg:Nat) (hg:ag .u8 w B Ag g.body) (hg3:3<g.body.length) (acJ:g.body.length≤255) (hgb:aH g.body) (mn:g.body.length≤cg) (sq:Int):
 Calls Tryz.prog 63 #[ju g Ag cg,.slice A n c,.int .i64 sq] w (Uh (iY g (E.map (·.1)) sq) w):=by
 obtain⟨P,hP⟩:∃P,P=E.map (·.1):=⟨_,rfl⟩
 have nS:P.length=n:=by simp[hn,hP]
 have hPs:∀p∈P,aH p.body∧p.body.length≤255:=fun p hp=>by
  rw[hP] at hp
  obtain⟨t,ht,rfl⟩:=List.mem_map.1 hp
  exact hs t ht
 have Hsl:=aa (DB (g:=g) acJ fun p hp=>(hPs p hp).2)
 have hb1:=hgb.ix_ (show 1<g.body.length by omega)
 have hb2:=hgb.ix_ (show 2<g.body.length by omega)
 have HbB:Hid (∀k,0≤fJ g (P.take k)∧fJ g (P.take k)<256):=fun k=>qV wQ _ _ hb1
 have HbS:Hid (∀k,0≤eV g (P.take k)∧eV g (P.take k)<256):=fun k=>qV (fun p=>(p.body.length:Int)) _ _ hb2
 have HbY:Hid (aH (j8 g P)):=DC (hgb.drop 3) fun p hp=>(hPs p hp).1
 rw[←hP]
 have HP:=aa hP
 have pZ:=aa nS
 have Hn:=aa hn
 have Zf:=aa hgb
 clear hP nS hn hPs hgb
 unfold ju
 have Hr:Hid (iY g P sq=if 3<fJ g P∨eV g P<1∨252<eV g P∨((j8 g P).length:Int)<eV g P then(yi,false)
  else if ((j8 g P).drop (eV g P).toNat).any (fun c=>decide (c≠0))then(yi,false)
  else(⟨sq,bits .and .u8 (fJ g P) 1 != 0,bits .and .u8 (fJ g P) 2 != 0,false,(j8 g P).take (eV g P).toNat⟩,cR ⟨sq,bits .and .u8 (fJ g P) 1 != 0,bits .and .u8 (fJ g P) 2 != 0,false,(j8 g P).take (eV g P).toNat⟩)):=aa rfl
 obtain⟨R,hR⟩:∃R,R=iY g P sq:=⟨_,rfl⟩
 rw[←hR] at Hr ⊢
 clear hR
 have z1:Hid (fJ g (P.take 0)=ix g.body 1):=rfl
 have z2:Hid (eV g (P.take 0)=ix g.body 2):=rfl
 have z3:Hid (j8 g (P.take 0)=g.body.drop 3):=rfl
 have fG:Hid (∀(k:Nat) (h:k<P.length),fJ g (P.take (k+1))=bits .xor .u8 (fJ g (P.take k)) (wQ P[k])∧eV g (P.take (k+1))=bits .xor .u8 (eV g (P.take k)) (P[k].body.length:Int)∧j8 g (P.take (k+1))=Bc (j8 g (P.take k)) P[k].body):=fun k h=>⟨Iq h,Ip h,zC h⟩
 have Pd:Hid (P.take n=P):=by show _=_;exact List.take_of_length_le (by rw[pZ.out];exact agl _)
 generalize fJ g=fB at*
 generalize eV g=fS at*
 generalize j8 g=fM at*
 obtain⟨gs,gf,gl,gg,gb⟩:=g
 dsimp only at*
 obtain⟨w1,bj⟩:∃w1,w1=(w.alloc (.cells #[.int .i64 gs,.bool gf,.bool gl,.bool gg,.slice Ag gb.length cg] 124)).alloc (.cells #[.int .i64 0,.bool false,.bool false,.bool false,.slice none 0 0] 124):=⟨_,rfl⟩
 have hz1:Hid (w1.heap.size=w.heap.size+2):=by show _=_;rw[bj];simp
 have M2:Hid (w1.heap[w.heap.size+1]? =some (.cells #[.int .i64 0,.bool false,.bool false,.bool false,.slice none 0 0] 124 (0,0))):=by
  show _=_
  have:=ago (w.alloc (.cells #[.int .i64 gs,.bool gf,.bool gl,.bool gg,.slice Ag gb.length cg] 124)) (.cells #[.int .i64 0,.bool false,.bool false,.bool false,.slice none 0 0] 124)
  rw[World.size_alloc] at this
  rw[bj];exact this
 have M1:Hid (w1.heap[w.heap.size]? =some (.cells #[.int .i64 gs,.bool gf,.bool gl,.bool gg,.slice Ag gb.length cg] 124 (0,0))):=by
  show _=_;rw[bj,ags _ _ _ (by simp)];exact ago w _
 have B1:Hid (Below w.heap.size w w1):=by rw[bj];exact aa (ak (ak (ac w) _) _)
 have UZ:B≤w1.heap.size:=agm hB B1.out.size
 have Ha1:=aa (ha.below (B1.out.mono hB))
 have PQ:=aa (hg.below (B1.out.mono hB))
 obtain⟨⟨k0,k1,k2,k3,k4⟩,_⟩:=ay M1.out
 obtain⟨bg,og,rfl,_,nR⟩:=hg.lt (by omega)
 obtain⟨b',wL,e,y1⟩:=PQ.out.at_ (i:=1) (by omega)
 injection e with e;injection e with e1 e2;subst e1;subst e2
 obtain⟨b',wL,e,y2⟩:=PQ.out.at_ (i:=2) (by omega)
 injection e with e;injection e with e1 e2;subst e1;subst e2
 have g1:(1:Int)<(gb.length:Int):=by omega
 have g2:(2:Int)<(gb.length:Int):=by omega
 have g1':1<gb.length:=by omega
 have g2':2<gb.length:=by omega
 rw[←z1.out] at y1
 rw[←z2.out] at y2
 clear ha hg nR hb1 hb2 z1 z2
 go_enter Tryz.func63,Tryz.ntmps63
 go_upto_region 1 with fail
 rw[←bj]
 clear bj
 go_quiet (fail)
 obtain⟨w2,hw2⟩:∃w2,w2=w1.drewN nq:=⟨_,rfl⟩
 have B2:Hid (Below w1.heap.size w1 w2):=by rw[hw2];exact aa (below_drewN (ac w1) _)
 have Hg2:=aa (PQ.out.below (B2.out.mono UZ))
 have k4':=later B2.out k4
 rw[←hw2]
 clear hw2 k0 k1 k2 k3 k4 y1 y2
 go_wp2_with (at_builtin;refine jU _ rfl (.const (.slice none 0 0)) (.tmp 27) rfl w1 none 0 rfl (aq.nil _ _) _ (some ⟨bg,og+3,none⟩) (gb.length-3) (cg-3) (gb.drop 3) rfl (by rw[List.length_drop]) (kt Hg2.out 3) (by omega) B2.out ?_;intro A3 c3 w3 bF b3)
 obtain⟨k3,Py⟩:∃k3,k3=gb.length-3:=⟨_,rfl⟩
 rw[←Py] at bF ⊢
 have oD:Hid (aq w3 w1.heap.size A3 k3 c3 (fM (P.take 0))):=by show _;rw[z3.out];exact bF
 have Hk3:Hid (k3=(fM (P.take 0)).length):=by show _=_;rw[z3.out,List.length_drop,Py]
 have kL:=aa b3
 clear bF Py z3 b3
 go_loopw [8,9,10,12,31] (fun bv sv mv _ iv wr=>(∃(i k:Nat) (A':Option Addr) (c':Nat),i≤n∧bv= .int .u8 (fB (P.take i))∧sv= .int .u8 (fS (P.take i))∧mv= .slice A' k c'∧iv= .int .i64 i∧k=(fM (P.take i)).length∧aq wr w1.heap.size A' k c' (fM (P.take i)))∧Below w1.heap.size w1 wr) (fun _ _ _ _ iv _=>n-(intOf iv).toNat)
 case atStart=>exact⟨⟨0,_,A3,c3,agw _,rfl,rfl,rfl,rfl,Hk3.out,oD.out⟩,kL.out⟩
 case round=>
  obtain⟨⟨i,k,A2,c2,hi,rfl,rfl,rfl,rfl,hk,hO⟩,hb⟩:=hrel
  obtain⟨wo,rfl⟩:∃wo:World,wo=wr:=⟨_,rfl⟩
  have HO:=aa hO
  have HB:=aa hb
  have Hk:=aa hk
  have acw:k≤255:=by rw[hk];exact Hsl.out i (by rw[pZ.out];exact hi)
  clear hO hb hk oD kL
  by_cases hlt:i<n
  ·have dv:i<E.length:=by have:=Hn.out;omega
   have ha2:=Ha1.out.below (HB.out.mono UZ)
   obtain⟨b,off,rfl,sQ,x0,x1,x2,x3,x4⟩:=jb ha2 dv
   have hsm:=hs _ (agt dv)
   have iC:=Ha1.out.2 _ (agt dv)
   obtain⟨g1,g2,g3⟩:=fG.out i (by rw[pZ.out];exact hlt)
   have qd:P[i]'(by rw[pZ.out];exact hlt)=E[i].1:=by simp[HP.out]
   rw[qd] at g1 g2 g3
   have G1:=aa g1
   have G2:=aa g2
   have G3:=aa g3
   clear g1 g2 g3 qd
   generalize E[i]=t at*
   obtain⟨p,Ad,cd⟩:=t
   dsimp only at*
   have SG:ag .u8 w1 w1.heap.size Ad p.body:=(show ag .u8 w1 B Ad p.body from iC).more UZ
   have C6:=aa SG
   have li:∀W,Calls Tryz.prog 114 #[.agg #[.int .i64 p.seq,.bool p.first,.bool p.last,.bool p.guard,.slice Ad p.body.length cd]] W fun e w'=>e= .returned (.int .u8 (wQ p))∧Below W.heap.size W w':=fun W=>wP p Ad cd W
   have Uq:=aa li
   have hI:(i:Int)<(n:Int):=by omega
   have u8:=IntWalk.u8_in (p.body.length:Int) (by have:=hsm.2;omega)
   have ac3:=hsm.2
   have Mo:=aa (ago wo (.cells #[.int .i64 p.seq,.bool p.first,.bool p.last,.bool p.guard,.slice Ad p.body.length cd] 124))
   clear iC SG li hsm ha2
   generalize fB (P.take i)=xb at*
   generalize fS (P.take i)=xs at*
   generalize fM (P.take i)=xm at*
   go_wp2_with (first
    |(go_at_call 114;(with_reducible refine(Uq.out _).mono ?_);rintro e w2 ⟨rfl,b2⟩;have B2:=af (ak (ac wo) _) b2;have c4:=((ay ((b2.block wo.heap.size (by simp)).trans Mo.out)).1).2.2.2.2;have O2:=HO.out.below B2 (agl _))
    |(go_at_call 115;(with_reducible refine(AZ xm p.body k p.body.length Hk.out.symm rfl (by omega) (by omega) A2 Ad c2 cd w1 _ (af HB.out B2) O2 C6.out).mono ?_);rintro e w3 ⟨A3,c3,rfl,bF,b3⟩))
   all_goals refine⟨⟨⟨i+1,(Bc xm p.body).length,A3,c3,by omega,by rw[G1.out],by rw[G2.out],rfl,by go_num,by rw[G3.out],by rw[G3.out];exact bF⟩,b3⟩, ?_⟩
   all_goals (simp[intOf];omega)
  ·obtain rfl:i=n:=by omega
   have hI:¬((i:Int)<(i:Int)):=by omega
   rw[Pd.out] at HO Hk ⊢
   have hB':=HbB.out i
   have hS':=HbS.out i
   rw[Pd.out] at hB' hS'
   have HY:=aa HbY.out
   have HPf:Hid (fM P=fM P):=rfl
   generalize fB P=xb at*
   generalize fS P=xs at*
   generalize fM P=xm at*
   have abZ:=hz1.out
   obtain⟨K,f0,f1,f2,f3,f4⟩:=ay ((HB.out.block (w.heap.size+1) (by omega)).trans M2.out)
   have HK:=aa K
   have Hz:=aa abZ
   clear hlt hi fG Hsl HbB HbS HbY K abZ
   obtain⟨m,rfl⟩:=Int.eq_ofNat_of_zero_le hS'.1
   have i1:=agp (m:Int) (by omega)
   by_cases aW:3<xb∨(m:Int)<1∨252<(m:Int)∨(xm.length:Int)<(m:Int)
   ·have hr:=Hr.out
    rw[if_pos aW] at hr
    have Hr2:=aa hr
    have h4:xb > 3∨(¬xb > 3∧(m:Int)<1)∨(¬xb > 3∧¬(m:Int)<1∧(m:Int) > 252)∨(¬xb > 3∧¬(m:Int)<1∧¬(m:Int) > 252∧(m:Int) > (k:Int)):=by have:=Hk.out;omega
    clear hr Hr aW
    obtain⟨k0,k1,k2,k3,k4⟩:=HK.out
    rcases h4 with h | ⟨h1,h⟩ | ⟨h1,h2,h⟩ | ⟨h1,h2,h3,h⟩
    all_goals go_wp2_with fail
    all_goals refine bodyPost_ret (iG rfl _ _ rfl (aM HK.out _ _ _ _ _)) rfl ?_
    all_goals rw[Hr2.out]
    all_goals exact Dz (cO (B1.out.trans (HB.out.mono B1.out.size)) (by omega) _ _ _ _ _)
   ·have hr:=Hr.out
    rw[if_neg aW] at hr
    have Hr2:=aa hr
    obtain⟨h1,h2,h3,h4⟩:¬xb > 3∧¬(m:Int)<1∧¬(m:Int) > 252∧¬(m:Int) > (k:Int):=by have:=Hk.out;omega
    clear hr Hr aW
    obtain⟨ga,rfl,NQ,NP⟩:=nL HO.out (by omega)
    have EO:=bJ HO.out
    have lT:m≤k:=by omega
    have hmc:m≤c2:=by omega
    obtain⟨kk,Gm⟩:∃kk,kk=k-m:=⟨_,rfl⟩
    have Ve:=aa Gm
    clear Gm
    have hkm:∀q,q<kk→m+q<k:=fun q hq=>by have:=Ve.out;omega
    have Hkm:=aa hkm
    obtain⟨f1,hf1⟩:∃f1,(bits .and .u8 xb 1 != 0)=f1:=⟨_,rfl⟩
    obtain⟨f2,hf2⟩:∃f2,(bits .and .u8 xb 2 != 0)=f2:=⟨_,rfl⟩
    rw[hf1,hf2] at Hr2
    clear hkm
    go_wp2_with fail
    all_goals first | rw[show k-m=kk from Ve.out.symm] | skip
    all_goals
     go_loop [15,73] (fun _ jv=>∃j:Nat,j≤kk∧jv= .int .i64 j∧∀q,q<j→ix xm (m+q)=0) (fun _ jv=>kk-(intOf jv).toNat)
     case atStart=>exact⟨0,agw _,rfl,fun q hq=>absurd hq (by omega)⟩
     case round=>
      obtain⟨j,hj,rfl,hz⟩:=hrel
      have Hz0:=aa hz
      clear hz
      by_cases hjk:j<kk
      ·have jR:=Hkm.out j hjk
       have d1:=kj HO.out (i:=m+j) (by have:=Hk.out;omega)
       have ES:(j:Int)<(kk:Int):=by omega
       first
        |(exfalso;have:=Ve.out;omega)
        |(by_cases hy:ix xm (m+j)=0
          ·rw[hy] at d1
           have Hy:=aa hy
           clear hy
           go_wp2_with fail
           refine⟨⟨j+1,by omega,by go_num,fun q hq=> ?_⟩,by simp[intOf];omega⟩
           by_cases e:q=j
           ·rw[e];exact Hy.out
           ·exact Hz0.out q (by omega)
          ·have Ce:(ix xm (m+j) != 0)=true:=bne_iff_ne.2 hy
           have J8:Hid ((xm.drop m).any (fun c=>decide (c≠0))=true):=by
            show _=_
            rw[List.any_eq_true]
            refine⟨ix xm (m+j), ?_,decide_eq_true hy⟩
            rw[←jF]
            exact lg (by rw[List.length_drop];have:=Hk.out;omega)
           have hr:=Hr2.out
           rw[Int.toNat_natCast,if_pos J8.out] at hr
           have Vc:=aa hr
           obtain⟨q0,q1,q2,q3,q4⟩:=HK.out
           generalize ix xm (m+j)=y at*
           clear hy hr J8 Hr2
           go_wp2_with fail
           all_goals refine bodyPost_ret (iG rfl _ _ rfl (aM HK.out _ _ _ _ _)) rfl ?_
           all_goals rw[Vc.out]
           all_goals exact Dz (cO (B1.out.trans (HB.out.mono B1.out.size)) (by omega) _ _ _ _ _))
      ·obtain rfl:j=kk:=by omega
       have ES:¬((j:Int)<(j:Int)):=by omega
       have J8:Hid ((xm.drop m).any (fun c=>decide (c≠0))=false):=by
        show _=_
        rw[List.any_eq_false]
        intro x hx
        obtain⟨q,hq,rfl⟩:=kZ hx
        rw[jF,Hz0.out q (by rw[List.length_drop] at hq;have:=Hk.out;have:=Ve.out;omega)]
        decide
       have hr:=Hr2.out
       rw[Int.toNat_natCast,J8.out,if_neg (by decide)] at hr
       obtain⟨bd,lW⟩:∃bd,bd=xm.take m:=⟨_,rfl⟩
       have hbl:bd.length=m:=by rw[lW,List.length_take];have:=Hk.out;omega
       have hbi:ag .u8 wo wo.heap.size (some ⟨ga,0,none⟩) bd:=by
        have:=bZ (p:=0) (s:=m) HO.out.ints (by have:=Hk.out;omega)
        rw[lW];simpa using this
       have hby:aH bd:=fun x hx=>HY.out x (by rw[lW] at hx;exact List.mem_of_mem_take hx)
       rw[←lW] at hr
       have Vc:=aa hr
       have qg:=aa hbl
       have Hbi:=aa hbi
       have Hby:=aa hby
       clear hr J8 Hr2 lW hbl hbi hby Hz0
       go_upto_region 20 with (at_builtin;refine jU _ rfl (.const (.slice none 0 0)) (.tmp 90) rfl wo none 0 rfl (aq.nil _ _) _ (some ⟨ga,0,none⟩) m _ bd rfl qg.out Hbi.out (by omega) (ac _) ?_;intro A5 c5 w5 bT b5)
       obtain⟨w6,lZ⟩:∃w6,w6=w5.alloc (.cells #[.int .i64 sq,.bool f1,.bool f2,.bool false,.slice A5 m c5] 124):=⟨_,rfl⟩
       have h5z:=b5.size
       have M5:Hid (w6.heap[w5.heap.size]? =some (.cells #[.int .i64 sq,.bool f1,.bool f2,.bool false,.slice A5 m c5] 124 (0,0))):=by show _=_;rw[lZ];exact ago w5 _
       have B6:Hid (Below wo.heap.size wo w6):=by show _;rw[lZ];exact ak b5 _
       have hoz:w.heap.size+2≤wo.heap.size:=by have:=HB.out.size;have:=Hz.out;omega
       have M6:Hid (w6.heap[w.heap.size+1]? =some (.cells #[.int .i64 0,.bool false,.bool false,.bool false,.slice none 0 0] 124 (0,0))):=by
        show _=_
        rw[B6.out.block _ (by omega),HB.out.block _ (by have:=Hz.out;omega)];exact M2.out
       have O6:Hid (aq w6 wo.heap.size A5 m c5 bd):=by show _;rw[lZ];exact bT.alloc _
       have h6z:w5.heap.size<w6.heap.size:=by rw[lZ];simp
       have hcon:=fun W (hs:w6.heap.size≤W.heap.size) (hk:∀q,q≠w.heap.size+1→q<w6.heap.size→W.heap[q]? =w6.heap[q]?)=>lC ⟨sq,f1,f2,false,bd⟩ A5 w6.heap.size c5 W hs (show bd.length≤50000 by rw[qg.out];omega) (by
        have h1:ag .u8 w6 w6.heap.size A5 bd:=O6.out.ints
        intro h0
        obtain⟨b,off,e,hb,hc⟩:=h1 h0
        refine⟨b,off,e,hb,fun i u hu=> ?_⟩
        have h3:=agB O6.out b (by rw[e];rfl)
        exact(agy (hk b (by omega) hb)).trans (hc i u hu)) Hby.out
       unfold ju at hcon
       dsimp only at hcon
       rw[qg.out] at hcon
       obtain⟨ok,dU⟩:∃ok,ok=cR ⟨sq,f1,f2,false,bd⟩:=⟨_,rfl⟩
       rw[←dU] at hcon Vc
       have Hc1:=aa (hcon w6.drew (agl _) (fun q _ _=>rfl))
       have Uv:=aa (hcon (pj w6.drew (w.heap.size+1) (.int .i64 sq) (.bool f1) (.bool f2) (.bool false) (.slice A5 m c5)) (by simp[pj,World.setCell]) (fun q h1 _=>(fk h1 _ _ _ _ _).trans rfl))
       unfold pj at Uv
       obtain⟨⟨k0,k1,k2,k3',k4⟩,_⟩:=ay M5.out
       obtain⟨⟨q0,q1,q2,q3,q4⟩,p0,p1,p2,p3,p4⟩:=ay M6.out
       have HS:=aa (aM (W:=w6.drew) (g:=w.heap.size+1) ⟨q0,q1,q2,q3,q4⟩ (.int .i64 sq) (.bool f1) (.bool f2) (.bool false) (.slice A5 m c5))
       unfold pj at HS
       have hne:w5.heap.size≠w.heap.size+1:=by omega
       have hz6:w6.drew.heap.size=w6.heap.size:=rfl
       have HZ6:=aa hz6
       rw[←lZ]
       clear hcon dU lZ bT b5 hz6
       go_region_with (first
        |(go_at_call 59;(with_reducible refine Hc1.out.mono ?_);rintro e w7 ⟨rfl,b7⟩;obtain⟨⟨m0,m1,m2,m3,m4⟩,_⟩:=ay ((b7.block w5.heap.size (by rw[HZ6.out];omega)).trans M5.out);obtain⟨⟨n0,n1,n2,n3,n4⟩,r0,r1,r2,r3,r4⟩:=ay ((b7.block (w.heap.size+1) (by rw[HZ6.out];omega)).trans M6.out))
        |(go_at_call 59;(with_reducible refine Uv.out.mono ?_);rintro e w7 ⟨rfl,b7⟩;obtain⟨n0,n1,n2,n3,n4⟩:=HS.out;have n0:=later b7 n0;have n1:=later b7 n1;have n2:=later b7 n2;have n3:=later b7 n3;have n4:=later b7 n4))
       all_goals go_wp2_with fail
       all_goals first
        |(refine bodyPost_ret (iG rfl _ _ rfl (aM ⟨n0,n1,n2,n3,n4⟩ _ _ _ _ _)) rfl ?_
          rw[Vc.out]
          refine⟨A5,c5,by rw[←qg.out];rfl, ?_, ?_⟩
          ·show aq _ _ A5 bd.length c5 bd
           rw[qg.out]
           exact aq.of_other ((World.ownsRow.drew O6.out |> fun h=>aq.below h b7 (agl _)).base (by omega)) fun q hq=>fk (by
            have:=(agB O6.out q hq).1
            omega) _ _ _ _ _
          ·exact cO ((B1.out.trans (HB.out.mono B1.out.size)).trans ((B6.out.mono (by omega)).drew.trans (b7.mono (by rw[HZ6.out];omega)))) (by omega) _ _ _ _ _)
        |(refine bodyPost_ret (iG rfl _ _ rfl ⟨n0,n1,n2,n3,n4⟩) rfl ?_
          rw[Vc.out]
          refine⟨A5,c5,by rw[←qg.out];rfl, ?_, ?_⟩
          ·show aq _ _ A5 bd.length c5 bd
           rw[qg.out]
           exact aq.below ((aq.of_other (World.ownsRow.drew O6.out) fun q hq=>fk (W:=w6.drew) (g:=w.heap.size+1) (by
            have:=(agB O6.out q hq).1
            omega) _ _ _ _ _).base (by omega)) b7 (agl _)
          ·exact(cO ((B1.out.trans (HB.out.mono B1.out.size)).trans ((B6.out.mono (by omega)).drew)) (by omega) _ _ _ _ _).trans (b7.mono (by simp[World.setCell];omega)))
end
section
open Go.Shelf
def G8:Go.Shelf.Ren:=⟨fun | 6=>64 | 15=>117 | 14=>116 | 28=>171 | 29=>172 | 20=>163 | 21=>164 | 22=>165 | 23=>166 | 24=>167 | 25=>168 | 26=>169 | 27=>170 | 46=>211 | 47=>212 | 48=>213 | 49=>214 | 50=>215 | 57=>258 | n=>n,fun | 22=>57 | 24=>124 | 25=>135 | 3=>3 | 39=>140 | 0=>0 | 53=>120 | 55=>83 | 4=>4 | 46=>260 | 45=>259 | 50=>264 | 5=>5 | 9=>9 | 66=>308 | 70=>312 | 76=>342 | 77=>343 | n=>n,fun | n=>n⟩
theorem Ql:Go.Proofs.SlLaysF0.n6 Tryz.prog G8:={
 mixed:=by kernel_rfl
 f6:=⟨Tryz.f64.name,by decide,Tryz.func64.trans (congrArg some (by kernel_rfl))⟩
 f14:=⟨Tryz.f116.name,by decide,Tryz.func116.trans (congrArg some (by kernel_rfl))⟩
 f15:=Tryz.func117.trans (congrArg some (by kernel_rfl))
 f20:=⟨Tryz.f163.name,by decide,Tryz.func163.trans (congrArg some (by kernel_rfl))⟩
 f21:=⟨Tryz.f164.name,by decide,Tryz.func164.trans (congrArg some (by kernel_rfl))⟩
 f22:=⟨Tryz.f165.name,by decide,Tryz.func165.trans (congrArg some (by kernel_rfl))⟩
 f23:=⟨Tryz.f166.name,by decide,Tryz.func166.trans (congrArg some (by kernel_rfl))⟩
 f24:=⟨Tryz.f167.name,by decide,Tryz.func167.trans (congrArg some (by kernel_rfl))⟩
 f25:=⟨Tryz.f168.name,by decide,Tryz.func168.trans (congrArg some (by kernel_rfl))⟩
 f26:=⟨Tryz.f169.name,by decide,Tryz.func169.trans (congrArg some (by kernel_rfl))⟩
 f27:=⟨Tryz.f170.name,by decide,Tryz.func170.trans (congrArg some (by kernel_rfl))⟩
 f28:=Tryz.func171.trans (congrArg some (by kernel_rfl))
 f29:=Tryz.func172.trans (congrArg some (by kernel_rfl))
 f46:=⟨Tryz.f211.name,by decide,Tryz.func211.trans (congrArg some (by kernel_rfl))⟩
 f47:=Tryz.func212.trans (congrArg some (by kernel_rfl))
 f48:=Tryz.func213.trans (congrArg some (by kernel_rfl))
 f49:=⟨Tryz.f214.name,by decide,Tryz.func214.trans (congrArg some (by kernel_rfl))⟩
 f50:=⟨Tryz.f215.name,by decide,Tryz.func215.trans (congrArg some (by kernel_rfl))⟩
 f57:=⟨Tryz.f258.name,by decide,Tryz.func258.trans (congrArg some (by kernel_rfl))⟩
 t0:=Tryz.underlying0
 a0:=Tryz.isAgg0
 z0:=Tryz.sizeOf0
 v0:=Tryz.zeroValue0
 t3:=Tryz.underlying3
 a3:=Tryz.isAgg3
 z3:=Tryz.sizeOf3
 v3:=Tryz.zeroValue3
 t4:=Tryz.underlying4
 a4:=Tryz.isAgg4
 z4:=Tryz.sizeOf4
 v4:=Tryz.zeroValue4
 t5:=Tryz.underlying5
 a5:=Tryz.isAgg5
 z5:=Tryz.sizeOf5
 v5:=Tryz.zeroValue5
 t9:=Tryz.underlying9
 a9:=Tryz.isAgg9
 z9:=Tryz.sizeOf9
 v9:=Tryz.zeroValue9
 t22:=Tryz.underlying57
 a22:=Tryz.isAgg57
 z22:=Tryz.sizeOf57
 v22:=Tryz.zeroValue57
 t25:=Tryz.underlying135
 a25:=Tryz.isAgg135
 z25:=Tryz.sizeOf135
 v25:=Tryz.zeroValue135
 t39:=Tryz.underlying140
 a39:=Tryz.isAgg140
 z39:=Tryz.sizeOf140
 v39:=Tryz.zeroValue140
 t45:=Tryz.underlying259
 a45:=Tryz.isAgg259
 z45:=Tryz.sizeOf259
 v45:=Tryz.zeroValue259
 t46:=Tryz.underlying260
 a46:=Tryz.isAgg260
 z46:=Tryz.sizeOf260
 v46:=Tryz.zeroValue260
 t50:=Tryz.underlying264
 a50:=Tryz.isAgg264
 z50:=Tryz.sizeOf264
 v50:=Tryz.zeroValue264
 t53:=Tryz.underlying120
 a53:=Tryz.isAgg120
 z53:=Tryz.sizeOf120
 v53:=Tryz.zeroValue120
 t55:=Tryz.underlying83
 a55:=Tryz.isAgg83
 z55:=Tryz.sizeOf83
 v55:=Tryz.zeroValue83
 t66:=Tryz.underlying308
 a66:=Tryz.isAgg308
 z66:=Tryz.sizeOf308
 v66:=Tryz.zeroValue308
 t70:=Tryz.underlying312
 a70:=Tryz.isAgg312
 z70:=Tryz.sizeOf312
 v70:=Tryz.zeroValue312
 t76:=Tryz.underlying342
 a76:=Tryz.isAgg342
 z76:=Tryz.sizeOf342
 v76:=Tryz.zeroValue342
 t77:=Tryz.underlying343
 a77:=Tryz.isAgg343
 z77:=Tryz.sizeOf343
 v77:=Tryz.zeroValue343}
end
section
open Go.RowKit
theorem DF{w:World}{g:Nat}{c:Array Value}{e:TypeId}{fr:Nat×Nat}(h:w.heap[g]? =some (.cells c e fr))(m off:Nat)(F:Array Value)(os:Array Obj):
 (Go.Sort.grow (Go.Sort.putRow id (Go.Sort.ahead w m) g off F) os).heap[g]? =some (.cells (Go.Sort.putCells id off F c) e fr):=by
 have hlt:g<w.heap.size:=(agn.1 h).1
 rw[Go.Sort.heap_grow_old _ _ (by simp[Go.Sort.putRow,Go.Sort.mapBlock,Go.Sort.ahead];exact hlt)]
 simp[Go.Sort.putRow,Go.Sort.mapBlock,Go.Sort.ahead,Array.getElem?_modify,h,Go.Sort.onCells]
theorem kV(w:World)(g m off q:Nat)(F:Array Value)(os:Array Obj)(hq:q<w.heap.size)(hne:q≠g):(Go.Sort.grow (Go.Sort.putRow id (Go.Sort.ahead w m) g off F) os).heap[q]? =w.heap[q]? :=by
 rw[Go.Sort.heap_grow_old _ _ (by simp[Go.Sort.putRow,Go.Sort.mapBlock,Go.Sort.ahead];exact hq)]
 simp[Go.Sort.putRow,Go.Sort.mapBlock,Go.Sort.ahead,Array.getElem?_modify,Ne.symm hne]
theorem yA(F c:Array Value)(h:F.size≤c.size):(Go.Sort.putCells id 0 F c).toList.take F.size=F.toList:=by
 apply List.ext_getElem
 ·simp[Go.Sort.putCells];omega
 ·intro i h1 h2
  have hi:i<F.size:=by simpa using h2
  simp[Go.Sort.putCells,hi]
theorem Kv{w:World}{B:Nat}{e:TypeId}{k g n c:Nat}{xs:List Value}(h:w.ownsRow B e k (.slice (some ⟨g,0,none⟩) n c) n xs)(m:Nat)(F:Array Value)(hF:F.size=n*k)(os:Array Obj):
 (Go.Sort.grow (Go.Sort.putRow id (Go.Sort.ahead w m) g 0 F) os).ownsRow B e k (.slice (some ⟨g,0,none⟩) n c) n F.toList:=by
 refine⟨by simpa using hF, ?_⟩
 rcases h.2 with ⟨hv,_⟩ | ⟨g',cap,cur,hv,hB,hg,UT,hcm,hcs,ht⟩
 ·cases hv
 ·injection hv with h1 h2 h3
  injection h1 with h1
  injection h1 with h1
  subst h1;subst h3
  refine .inr ⟨g,c,_,rfl,hB,DF hg m 0 F os,UT,hcm,by simp[Go.Sort.putCells,hcs], ?_⟩
  rw[←hF]
  refine yA F cur ?_
  rw[hF,hcs]
  exact Nat.mul_le_mul_right _ UT
theorem wC(w:World)(g m off:Nat)(F:Array Value)(os:Array Obj):w.heap.size≤(Go.Sort.grow (Go.Sort.putRow id (Go.Sort.ahead w m) g off F) os).heap.size:=by
 simp[Go.Sort.grow,Go.Sort.putRow,Go.Sort.mapBlock,Go.Sort.ahead]
theorem put_below{w:World}{B g:Nat}(hg:B≤g)(hB:B≤w.heap.size)(m off:Nat)(F:Array Value)(os:Array Obj):Below B w (Go.Sort.grow (Go.Sort.putRow id (Go.Sort.ahead w m) g off F) os):=
 ⟨rfl,rfl,rfl,wC _ _ _ _ _ _,fun k hk=>kV w g m off k F os (by omega) (by omega)⟩
theorem aV.perm{α:Type}{K:rG α}{ty:TypeId}{w w':World}{B n c:Nat}{A:Option Addr}{E E':List (El α)}(h:aV K ty w B A n c E)(hp:E'.Perm E)(hr:w'.ownsRow B ty K.k (.slice A n c) n (aN K E'))(hs:w.heap.size≤w'.heap.size)
 (hk:∀q,q<w.heap.size→aj A≠some q→w'.heap[q]? =w.heap[q]?):aV K ty w' B A n c E':=by
 refine⟨hr,by rw[hp.length_eq];exact h.len, ?_,fun t ht q hq=> ?_,fun t ht=>h.cap t (hp.mem_iff.1 ht)⟩
 ·have h1:kH K w' w'.heap.size E:=h.inn.keep (fun t ht q hq=>hk q (h.sep t ht q hq).2.1 (h.sep t ht q hq).2.2) hs
  exact fun t ht=>h1 t (hp.mem_iff.1 ht)
 ·have:=h.sep t (hp.mem_iff.1 ht) q hq
  exact⟨this.1,by omega,this.2.2⟩
abbrev XS:={t:El Pg//0≤t.1.seq∧t.1.seq≤2147483647}
instance : Inhabited XS := ⟨⟨(⟨0, false, false, false, []⟩, none, 0), by decide⟩⟩
def nd(x:XS):List Value:=gY.enc x.1.1 x.1.2.1 x.1.2.2
def cfR(x y:XS):Int:=x.1.1.seq-y.1.1.seq
theorem ltR(x y:XS):Go.Proofs.ltOf cfR x y=decide (x.1.1.seq<y.1.1.seq):=by
 unfold Go.Proofs.ltOf cfR
 by_cases h:x.1.1.seq<y.1.1.seq
 ·rw[decide_eq_true h,decide_eq_true (by omega)]
 ·rw[decide_eq_false h,decide_eq_false (by omega)]
theorem adz:Go.Sort.SWO (Go.Proofs.ltOf cfR) where
 irrefl x:=by rw[ltR];simp
 trans x y z h1 h2:=by rw[ltR] at*;simp at*;omega
 ntrans x y z h1 h2:=by rw[ltR] at*;simp at*;omega
theorem TA(x y:XS)(W:World):Calls Tryz.prog 65 #[.agg (nd x).toArray,.agg (nd y).toArray] W fun e w'=>e= .returned (.int .i64 (cfR x y))∧∃q os',w'=Go.Sort.grow (W.drewN q) os':=by
 obtain⟨⟨⟨s1,f1,l1,g1,b1⟩,A1,c1⟩,h1⟩:=x
 obtain⟨⟨⟨s2,f2,l2,g2,b2⟩,A2,c2⟩,h2⟩:=y
 show Calls Tryz.prog 65 #[.agg #[.int .i64 s1,.bool f1,.bool l1,.bool g1,.slice A1 b1.length c1],.agg #[.int .i64 s2,.bool f2,.bool l2,.bool g2,.slice A2 b2.length c2]] W fun e w'=>e= .returned (.int .i64 (s1-s2))∧∃q os',w'=Go.Sort.grow (W.drewN q) os'
 have hw:=agp (s1-s2) (by dsimp only at h1 h2;omega)
 go_enter Tryz.func65,Tryz.ntmps65
 go_wp2_with fail
 go_ret
 exact⟨rfl,0,_,by rw[Go.Sort.alloc_eq_grow,Go.Sort.alloc_eq_grow,Go.Sort.grow_grow];rfl⟩
def iU(P:List Pg):List Pg:=P.mergeSort fun a b=>decide (a.seq≤b.seq)
theorem Do{α:Type}(key:α→Int):∀(l1 l2:List α),l1.Perm l2→l1.Pairwise (fun a b=>key a≤key b)→l2.Pairwise (fun a b=>key a≤key b)→(l1.map key).Nodup→l1=l2
 |[],l2,h,_,_,_=>by rw[List.nil_perm.1 h]
 |a :: t1,[],h,_,_,_=>by have:=h.length_eq;simp at this
 |a :: t1,b :: t2,h,h1,h2,hn=>by
  obtain⟨a1,a2⟩:=List.pairwise_cons.1 h1
  obtain⟨b1,b2⟩:=List.pairwise_cons.1 h2
  have hb:b∈a :: t1:=h.mem_iff.2 (by simp)
  have ha:a∈b :: t2:=h.mem_iff.1 (by simp)
  rw[List.map_cons,List.nodup_cons] at hn
  have e:a=b:=by
   rcases List.mem_cons.1 hb with e | hb
   ·exact e.symm
   ·rcases List.mem_cons.1 ha with e | ha
    ·exact e
    ·have k1:=a1 b hb
     have k2:=b1 a ha
     exact absurd (List.mem_map.2 ⟨b,hb,show key b=key a by omega⟩) hn.1
  subst e
  rw[Do key t1 t2 (List.perm_cons a |>.1 h) a2 b2 hn.2]
theorem Qm{P Q:List Pg}(hp:Q.Perm P)(hs:Q.Pairwise (fun a b=>a.seq≤b.seq))(hn:(P.map (·.seq)).Nodup):Q=iU P:=by
 have h1:(iU P).Perm P:=List.mergeSort_perm _ _
 have h2:(iU P).Pairwise (fun a b=>a.seq≤b.seq):=by
  have:=List.pairwise_mergeSort (le:=fun a b:Pg=>decide (a.seq≤b.seq)) (fun a b c h1 h2=>by simp at*;omega) (fun a b=>by simp;omega) P
  exact this.imp fun h=>by simpa using h
 exact Do (·.seq) Q (iU P) (hp.trans h1.symm) hs h2 ((hp.map (·.seq)).nodup_iff.2 hn)
theorem ui(d:Array XS):(Go.Sort.flatK nd 5 d).toList=aN gY (d.toList.map (·.1)):=by
 have hl:(aN gY (d.toList.map (·.1))).length=d.size*5:=by rw[cA];simp[gY]
 apply List.ext_getElem
 ·rw[hl];simp
 ·intro t h1 h2
  have ht:t<d.size*5:=by rw[hl] at h2;exact h2
  have hi:t/5<d.size:=by omega
  have e1:(Go.Sort.flatK nd 5 d).toList[t]=(nd d[t/5]!)[t%5]! :=by
   have:=Go.Sort.get_flatK nd 5 d t ht
   rw[getElem!_pos (Go.Sort.flatK nd 5 d) t (by simpa using ht)] at this
   simpa using this
  have e2:=nU gY (d.toList.map (·.1)) (t/5) (t%5) (by simpa using hi) (show t%5<5 by omega)
  have e3:t/5*gY.k+t%5=t:=by show t/5*5+t%5=t;omega
  rw[e3,List.getElem?_eq_getElem h2] at e2
  rw[e1]
  apply Option.some.inj
  rw[e2]
  have e4:(d.toList.map (·.1))[t/5]'(by simpa using hi)=(d[t/5]!).1:=by simp[hi]
  rw[e4]
  have e5:t%5<(nd d[t/5]!).length:=by show t%5<(gY.enc _ _ _).length;rw[gY.len];show _<5;omega
  rw[getElem!_pos (nd d[t/5]!) (t%5) e5]
  exact(List.getElem?_eq_getElem e5).symm
theorem abe:∀w,(isAgg 124).run Tryz.prog w= .ok true w:=fun w=>by first | exact Tryz.isAgg124 w
theorem Vy:∀w,(Go.sizeOf 124).run Tryz.prog w= .ok 5 w:=fun w=>by first | exact Tryz.sizeOf124 w
def adc(E:List (El Pg))(n c B:Nat)(A:Option Addr)(w:World)(e:Ending)(w':World):Prop:=
 e= .returned (.tuple #[])∧∃E',E'.Perm E∧E'.map (·.1)=iU (E.map (·.1))∧ik w' B A n c E'∧Below B w w'
theorem Qk(E:List (El Pg))(n c B:Nat)(A:Option Addr)(w:World)(hB:B≤w.heap.size)(ho:ik w B A n c E)(hm:n≤1000)(hs:∀t∈E,0≤t.1.seq∧t.1.seq≤2147483647)(hn:(E.map (·.1.seq)).Nodup):
 Calls Tryz.prog 64 #[.slice A n c,.func (.func 65) #[] #[]] w (adc E n c B A w):=by
 have hlen:=ho.len
 by_cases h0:n=0
 ·subst h0
  obtain rfl:E=[]:=List.eq_nil_of_length_eq_zero hlen
  refine(Go.Proofs.AnyF.slices_SortFunc_none Ql A c (.func (.func 65) #[] #[]) w).mono ?_
  rintro e w' ⟨rfl,rfl⟩
  exact⟨rfl,[],List.Perm.refl _,by simp[iU],ho,Below.refl _ _⟩
 ·obtain⟨g,rfl,SF,CU⟩:=eW ho.row (by omega)
  let d:Array XS:=(E.attach.map fun t=>(⟨t.1,hs t.1 t.2⟩:XS)).toArray
  have hd:d.toList.map (·.1)=E:=by
   show (E.attach.map fun t=>(⟨t.1,hs t.1 t.2⟩:XS)).map (·.1)=E
   rw[List.map_map]
   exact List.attach_map_subtype_val E
  have yr:d.size=n:=by simp[d,hlen]
  have eg:∀args w,(callFunc 65 args).run Tryz.prog w= .ok (.enter 65 args) w:=enters_of Tryz.func65 (by kernel_rfl) rfl
  have qN:∀x,(nd x).length=5:=fun x=>gY.len _ _ _
  have hH:Go.Sort.HoldsK nd 5 w g 0 d:=by
   intro j hj
   have hj':j<n*5:=by rw[Go.Sort.size_flatK,yr] at hj;exact hj
   have kx:=World.ownsRow.cellAt ho.row j (by show j<n*5;exact hj')
   have li:(Go.Sort.flatK nd 5 d)[j]! =(aN gY E)[j]'(by rw[cA,hlen];exact hj'):=by
    have:=ui d
    rw[hd] at this
    rw[getElem!_pos (Go.Sort.flatK nd 5 d) j hj]
    have h3:(Go.Sort.flatK nd 5 d)[j]=(Go.Sort.flatK nd 5 d).toList[j]'(by simpa using hj):=by simp
    rw[h3]
    simp only[this]
   refine⟨?_, ?_⟩
   ·rw[Nat.zero_add,li,kx]
    exact List.getElem?_eq_getElem _
   ·rw[Nat.zero_add]
    exact World.ownsRow.frozenAt ho.row j
  have hcon:=Go.Proofs.AnyQ.slices_SortFunc Ql 5 abe Vy nd qN (fun x v hv=>gY.one _ _ _ v hv) cfR adz 65 #[] g 0 c d w eg (fun _ _ _ _ x y=>TA x y _) hH CU (by omega)
  rw[yr] at hcon
  refine(show Calls Tryz.prog 64 _ _ _ from hcon).mono ?_
  rintro e w' ⟨rfl,d',m,os,hp,EB,rfl⟩
  have hsz:d'.size=n:=by rw[hp.1,yr]
  have CQ:d'.toList.Perm d.toList:=by
   have:=hp.2.2
   rw[Array.extract_eq_self_of_le (by rw[hsz];exact agl _),Array.extract_eq_self_of_le (by rw[yr];exact agl _)] at this
   exact this
  refine⟨rfl,d'.toList.map (·.1),by rw[←hd];exact CQ.map _, ?_, ?_, ?_⟩
  ·refine Qm ?_ ?_ (by rw[List.map_map];exact hn)
   ·have:=(CQ.map (·.1)).map (·.1)
    rw[hd] at this
    exact this
   ·rw[List.pairwise_map,List.pairwise_map,List.pairwise_iff_getElem]
    intro i j hi hj uM
    have:=EB i j (agw _) uM (by simpa [hsz] using hj)
    rw[ltR] at this
    have h7:=of_decide_eq_false this
    have hj2:j<d'.size:=by simpa using hj
    have Jj:i<d'.size:=by simpa using hi
    rw[getElem!_pos d' j hj2,getElem!_pos d' i Jj] at h7
    simp only[Array.getElem_toList]
    omega
  ·refine aV.perm ho (by rw[←hd];exact CQ.map _) ?_ (wC _ _ _ _ _ _) fun q hq hne=>kV w g m 0 q _ os hq (fun e=>hne (by rw[e];rfl))
   have:=Kv ho.row m (Go.Sort.flatK nd 5 d') (by rw[Go.Sort.size_flatK,hsz];rfl) os
   rw[ui] at this
   exact this
  ·exact put_below SF hB m 0 _ os
end
end Go.Proofs.YtbhfpehgacaidaaGreatDoor
