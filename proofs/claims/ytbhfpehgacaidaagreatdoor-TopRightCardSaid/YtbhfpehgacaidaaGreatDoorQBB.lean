/- A part of the proof of the given statement TopRight. Conditions: none. -/
import Derived.Test.YtbhfpehgacaidaaGreatDoorQBA
namespace Go.Proofs.YtbhfpehgacaidaaGreatDoor
set_option linter.unusedVariables false
set_option linter.unusedSimpArgs false
set_option maxRecDepth 100000
set_option maxHeartbeats 8000000
section
open Go.RowKit
def gK(sz l:List Int)(j:Nat):List Int:=(List.range j).map fun i=>lq (aY sz l i)
theorem fN(sz l:List Int)(j:Nat):(gK sz l j).length=j:=by simp[gK]
theorem Np(sz l:List Int)(j:Nat):gK sz l (j+1)=gK sz l j++[lq (aY sz l j)]:=by simp[gK,List.range_succ]
def fq(n warm:Nat)(l:List Int):Nat→(Int×List Int)×Nat
 |0=>((0,[]),0)
 |o+1=>
  if (aJ (o:Int) n warm).length=0 then fq n warm l o else
  if (fq n warm l o).2=0∨fR (o:Int) (gK (aJ (o:Int) n warm) l (aJ (o:Int) n warm).length) n warm l<(fq n warm l o).2 then
   (((o:Int),gK (aJ (o:Int) n warm) l (aJ (o:Int) n warm).length),fR (o:Int) (gK (aJ (o:Int) n warm) l (aJ (o:Int) n warm).length) n warm l)
  else fq n warm l o
theorem vS{W:World}{g:Nat}{v0 v1:Value}{ty:TypeId}(h:W.heap[g]? =some (.cells #[v0,v1] ty (0,0)))(x0 x1:Value):((W.setCell ⟨g,0,none⟩ x0).setCell ⟨g,1,none⟩ x1).heap[g]? =some (.cells #[x0,x1] ty (0,0)):=
 (agA _ g 1 _ _ _ ((agA W g 0 _ _ _ h).trans rfl)).trans rfl
theorem kT{W:World}{g q:Nat}(hq:q≠g)(x0 x1:Value):((W.setCell ⟨g,0,none⟩ x0).setCell ⟨g,1,none⟩ x1).heap[q]? =W.heap[q]? :=by
 rw[agr _ _ _ _ hq,agr _ _ _ _ hq]
theorem pp{B g:Nat}{w W:World}(h:Below B w W)(hg:B≤g)(x0 x1:Value):Below B w ((W.setCell ⟨g,0,none⟩ x0).setCell ⟨g,1,none⟩ x1):=
 (h.setCell (p:=⟨g,0,none⟩) hg _).setCell (p:=⟨g,1,none⟩) hg _
def Ui(w:World)(g B:Nat)(p:Int×List Int):Prop:=∃A c,w.heap[g]? =some (.cells #[.int .i64 p.1,.slice A p.2.length c] 169 (0,0))∧ax w B A p.2.length c p.2
theorem Ui.below{w w':World}{g B:Nat}{p:Int×List Int}(h:Ui w g B p)(hb:Below w.heap.size w w'):Ui w' g B p:=by
 obtain⟨A,c,h1,h2⟩:=h
 exact⟨A,c,(hb.block g (agn.1 h1).1).trans h1,h2.below hb (agl _)⟩
theorem Ui.same{w w':World}{g B:Nat}{p:Int×List Int}(h:Ui w g B p)(hs:∀q,q<w.heap.size→w'.heap[q]? =w.heap[q]?):Ui w' g B p:=by
 obtain⟨A,c,h1,h2⟩:=h
 exact⟨A,c,(hs g (agn.1 h1).1).trans h1,ap h2 fun q hq=>hs q (agB h2 q hq).2⟩
def PtQ(p:Int×List Int)(w:World)(e:Ending)(w':World):Prop:=∃A c,e= .returned (.tuple #[.agg #[.int .i64 p.1,.slice A p.2.length c],.int .i64 0])∧ax w' w.heap.size A p.2.length c p.2∧Below w.heap.size w w'
theorem Ig{fn:Func}(h:fn.results=#[.cell 8 169,.tmp 9])(tmps:Array Value)(w:World){g:Nat}{v0 v1:Value}(ht:tmps.getD 8 undef= .pointer (some ⟨g,0,none⟩))
 (hc:w.heap[g]? =some (.cells #[v0,v1] 169 (0,0))):(results fn tmps).run Tryz.prog w= .ok (.tuple #[.agg #[v0,v1],tmps.getD 9 undef]) w:=by
 obtain⟨⟨c0,c1⟩,_⟩:=aB hc
 rw[results_cell_tmp h,ht]
 simp[go_sem,c0,c1]
theorem MA(n warm most:Nat)(M:Int)(hM:M=(most:Int))(Sp:most≤8)(h1:1≤n)(h2:n≤4096)(hw:warm≤n)(l:List Int)(hl:ah l=true)(CR:l.length=n-warm)(A2:Option Addr)(B c2:Nat)(hc2:l.length≤c2)(hc3:c2≤9223372036854775807)(w:World)(hB:B≤w.heap.size)(ha2:ag .i64 w B A2 l):
 Calls Tryz.prog 189 #[.int .i64 (n:Int),.int .i64 (warm:Int),.int .i64 M,.slice A2 l.length c2] w (PtQ (fq n warm l (most+1)).1 w):=by
 have NH:=aa (fun W (hb:Below w.heap.size w W)=>wH n warm h1 h2 hw l hl CR A2 B c2 W (ha2.below (hb.mono hB)))
 have X4:=aa ha2
 obtain⟨m,hm⟩:∃m,m=l.length:=⟨_,rfl⟩
 have HM:=aa hm
 rw[←hm] at NH hc2 ⊢
 have q1:¬M<0:=by omega
 have q2:¬8<M:=by omega
 have q3:min (most:Int) 8=(most:Int):=by omega
 clear ha2 hm
 go_enter Tryz.func189,Tryz.ntmps189
 go_wp2_with (go_at_call 232;(with_reducible refine(NH.out _ (ak (ac w) _)).mono ?_);rintro e w1 ⟨rfl,rfl⟩)
 have hz0:((w.alloc (.cells #[.int .i64 0,.slice none 0 0] 169)).alloc (.cells #[.int .i64 0,.slice none 0 0] 169)).heap[w.heap.size]? =some (.cells #[.int .i64 0,.slice none 0 0] 169 (0,0)):=(ags _ _ _ (by simp)).trans (ago w _)
 have hz1:((w.alloc (.cells #[.int .i64 0,.slice none 0 0] 169)).alloc (.cells #[.int .i64 0,.slice none 0 0] 169)).heap[w.heap.size+1]? =some (.cells #[.int .i64 0,.slice none 0 0] 169 (0,0)):=by
  have:=ago (w.alloc (.cells #[.int .i64 0,.slice none 0 0] 169)) (.cells #[.int .i64 0,.slice none 0 0] 169)
  simpa using this
 have bz:Below w.heap.size w ((w.alloc (.cells #[.int .i64 0,.slice none 0 0] 169)).alloc (.cells #[.int .i64 0,.slice none 0 0] 169)):=ak (ak (ac w) _) _
 obtain⟨wz,oK⟩:∃wz,wz=(w.alloc (.cells #[.int .i64 0,.slice none 0 0] 169)).alloc (.cells #[.int .i64 0,.slice none 0 0] 169):=⟨_,rfl⟩
 rw[←oK] at hz0 hz1 bz ⊢
 obtain⟨gb,hgb⟩:∃gb,gb=w.heap.size+1:=⟨_,rfl⟩
 rw[←hgb] at hz1 ⊢
 have Hz0:=aa hz0
 have Hz1:=aa hz1
 have BZ:=aa bz
 have Zf:=aa hgb
 clear oK hz0 hz1 bz hgb
 go_loopw [11,12] (fun lv ov wr=>∃k:Nat,k≤most+1∧ov= .int .i64 (k:Int)∧lv= .int .i64 ((fq n warm l k).2:Int)∧Ui wr gb (gb+1) (fq n warm l k).1∧wr.heap[w.heap.size]? =some (.cells #[.int .i64 0,.slice none 0 0] 169 (0,0))∧Below w.heap.size w wr) (fun _ ov _=>most+1-(intOf ov).toNat)
 case atStart=>exact⟨0,agw _,rfl,rfl,⟨none,0,Hz1.out,ax.nil _ _⟩,Hz0.out,BZ.out⟩
 case round=>
  obtain⟨k,hk,rfl,rfl,hP,hR,hBl⟩:=hrel
  obtain⟨wo,rfl⟩:∃wo:World,wo=wr:=⟨_,rfl⟩
  have HP:=aa hP
  have HR:=aa hR
  have HBl:=aa hBl
  clear hP hR hBl
  by_cases hlt:k≤most
  ·have hkI:(k:Int)≤(most:Int):=by omega
   have i1:=agp ((k:Int)+1) (by omega)
   have hsz:=aa (nD (k:Int) n warm h1 h2 hw)
   have hstep:Hid (fq n warm l (k+1)=if (aJ (k:Int) n warm).length=0 then fq n warm l k else
    if (fq n warm l k).2=0∨fR (k:Int) (gK (aJ (k:Int) n warm) l (aJ (k:Int) n warm).length) n warm l<(fq n warm l k).2 then
     (((k:Int),gK (aJ (k:Int) n warm) l (aJ (k:Int) n warm).length),fR (k:Int) (gK (aJ (k:Int) n warm) l (aJ (k:Int) n warm).length) n warm l)
    else fq n warm l k):=aa rfl
   have xl:=kS (k:Int) n warm
   have EA:=fun h=>oY (o:=(k:Int)) (n:=n) (warm:=warm) h
   generalize fq n warm l k=st at*
   obtain⟨sz,WH⟩:∃sz,sz=aJ (k:Int) n warm:=⟨_,rfl⟩
   rw[←WH] at hsz hstep xl EA
   have adg:=aa WH
   obtain⟨ns,ud⟩:∃ns,ns=sz.length:=⟨_,rfl⟩
   rw[←ud] at hstep xl
   have Gx:=aa ud
   have ND:Hid (∀w,Calls Tryz.prog 192 #[.int .i64 (k:Int),.int .i64 (n:Int),.int .i64 (warm:Int)] w fun e w'=>∃A c,e= .returned (.slice A ns c)∧ax w' w.heap.size A ns c sz∧Below w.heap.size w w'):=aa (fun w=>by have:=hsz.out w;rw[Gx.out];exact this)
   by_cases hz:ns=0
   ·have hzI:((ns:Int) == 0)=true:=by rw[beq_iff_eq];omega
    rw[if_pos hz] at hstep
    clear EA hz ud WH
    go_wp2_with (go_at_call 192;(with_reducible refine(ND.out _).mono ?_);rintro e w1 ⟨A1,c1,rfl,cM,b1⟩)
    refine⟨⟨k+1,by omega,by go_num, ?_, ?_,(b1.block _ (agn.1 HR.out).1).trans HR.out,af HBl.out b1⟩,by simp[intOf];omega⟩
    ·rw[hstep.out]
    ·rw[hstep.out];exact HP.out.below b1
   ·have hzI:((ns:Int) == 0)=false:=by rw[beq_eq_false_iff_ne];omega
    have hzN:(ns == 0)=false:=by rw[beq_eq_false_iff_ne];exact hz
    rw[if_neg hz] at hstep
    obtain⟨hs1,_,hs2⟩:=EA (fun e=>hz (by rw[ud,e];rfl))
    have Ut:Hid (∀i,dL sz i≤l.length):=aa (fun i=>by
     have e1:=Ct (sz:=sz) i
     have e2:=nA sz fun x hx=>(hs2 x hx).1
     rw[hs1] at e2
     omega)
    have Hs2:=aa hs2
    clear EA hz ud WH hs1 hs2
    go_wp2_with (go_at_call 192;(with_reducible refine(ND.out _).mono ?_);rintro e w1 ⟨A1,c1,rfl,cM,b1⟩)
    have hp:=ago w1 (.cells #[.int .i64 (k:Int),.slice none 0 0] 169)
    have bp:=ak (ac w1) (.cells #[.int .i64 (k:Int),.slice none 0 0] 169)
    have sp:w1.heap.size<(w1.alloc (.cells #[.int .i64 (k:Int),.slice none 0 0] 169)).heap.size:=by simp
    obtain⟨wp,hwp⟩:∃wp,wp=w1.alloc (.cells #[.int .i64 (k:Int),.slice none 0 0] 169):=⟨_,rfl⟩
    rw[←hwp] at hp bp sp ⊢
    obtain⟨gp,Pz⟩:∃gp,gp=w1.heap.size:=⟨_,rfl⟩
    rw[←Pz] at hp bp sp ⊢
    have b1s:=b1.size
    have HB1:=aa b1
    have Bwp:=aa (af (af HBl.out b1) (by rw[←Pz];exact bp))
    have HSZ:=aa (cM.ints.below (by rw[←Pz];exact bp))
    have HLp:=aa (X4.out.below (Bwp.out.mono hB))
    have HRp:=aa ((bp.block _ (by have:=(agn.1 HR.out).1;omega)).trans ((b1.block _ (agn.1 HR.out).1).trans HR.out))
    have HPp:Hid (Ui wp gb (gb+1) st.1):=aa ((HP.out.below b1).below (by rw[←Pz];exact bp))
    have HPk:Hid (∀W,Below gp wp W→Ui W gb (gb+1) st.1):=aa (fun W hW=>HP.out.same fun q hq=>(hW.block q (by omega)).trans ((bp.block q (by omega)).trans (b1.block q hq)))
    have Hp:=aa hp
    have Vb:=aa sp
    have HBp:Hid (B≤gp):=aa (by have:=HBl.out.size;omega)
    rw[←Pz] at HSZ
    have J7:Hid (gb<gp):=aa (by
     obtain⟨_,_,h3,_⟩:=HP.out
     have:=(agn.1 h3).1
     omega)
    clear hp bp sp hwp Pz b1 cM b1s
    go_loopw [15,44] (fun sv jv wr=>∃(j:Nat) (Ar:Option Addr) (cr:Nat),j≤ns∧jv= .int .i64 (j:Int)∧sv= .slice Ar (m-dL sz j) cr∧m-dL sz j≤cr∧cr≤9223372036854775807∧ag .i64 wp B Ar (l.drop (dL sz j))∧Ui wr gp (gp+1) ((k:Int),gK sz l j)∧Below gp wp wr) (fun _ jv _=>ns-(intOf jv).toNat)
    case atStart=>exact⟨0,A2,c2,agw _,rfl,rfl,by show m-0≤c2;omega,hc3,HLp.out,⟨none,0,Hp.out,ax.nil _ _⟩,Below.refl _ _⟩
    case round=>
     obtain⟨j,Ar,cr,hj,rfl,rfl,mW,Xe,dp,hPt,hbl⟩:=hrel
     obtain⟨wi,rfl⟩:∃wi:World,wi=wr:=⟨_,rfl⟩
     have FU:=aa dp
     have qg:=aa hbl
     obtain⟨Ak,ck,Xq,hOk⟩:=hPt
     have hsp:=Vb.out
     have PF:=hbl.size
     have aat:=dp.below (hbl.mono HBp.out)
     have aae:=HSZ.out.below hbl
     by_cases hlt:j<ns
     ·have Gl:j<sz.length:=by rw[←Gx.out];exact hlt
      have yl:=sY Gl
      have KY:=Ut.out (j+1)
      have hs2:=Hs2.out (ix sz j) (lg Gl)
      have hcs:Hid (gK sz l (j+1)=gK sz l j++[lq (aY sz l j)]):=aa (Np _ _ _)
      have tZ:Hid (aY sz l j=(l.drop (dL sz j)).take (ix sz j).toNat):=aa rfl
      have hpl:(aY sz l j).length=(ix sz j).toNat:=by rw[tZ.out,List.length_take,List.length_drop];omega
      have hpw:ah (aY sz l j)=true:=by rw[tZ.out];exact rR hl _ _
      obtain⟨b4,o4,e4,PC⟩:=aae.at_ Gl
      subst e4
      obtain⟨s,hs⟩:∃s:Nat,ix sz j=(s:Int):=⟨(ix sz j).toNat,by omega⟩
      rw[hs] at PC hs2 yl tZ hpl
      rw[Int.toNat_natCast] at yl tZ hpl
      have Ph:=HM.out
      rw[←Ph] at KY
      have Gg:s≤4096:=by omega
      have rN:(l.drop (dL sz j)).length=m-dL sz j:=by rw[List.length_drop,Ph]
      have aes:Hid (ag .i64 wi B Ar (aY sz l j)):=aa (by rw[tZ.out];exact nO aat)
      generalize aY sz l j=p at*
      have hch:Hid (∀W,ag .i64 W B Ar p→∀cx,Calls Tryz.prog 233 #[.slice Ar s cx] W fun e w'=>e= .returned (.int .i64 (lq p))∧∃q,w'=W.drewN q):=aa (fun W h cx=>by
       have:=JM p hpw (by rw[hpl];omega) Ar B cx W h
       rw[hpl] at this;exact this)
      generalize lq p=kv at*
      obtain⟨a,Xo⟩:∃a,dL sz j=a:=⟨_,rfl⟩
      obtain⟨a1,xG⟩:∃a1,dL sz (j+1)=a1:=⟨_,rfl⟩
      rw[Xo] at mW yl rN FU ⊢
      rw[xG] at KY yl
      have nz:=aa xG
      obtain⟨Ax,PI⟩:∃Ax,Ax=if cr=s then Ar else Ar.map fun x=>x.add s:=⟨_,rfl⟩
      have YM:∀W,(Instr.slice 39 (.slice Ar (m-a) cr) (some (.int .i64 (s:Int))) none none).run Tryz.prog W= .ok (.slice Ax (m-a-s) (cr-s)) W:=fun W=>by rw[PI];exact vX W Ar (m-a) cr s (by omega) mW
      have ye:Hid (ag .i64 wp B Ax (l.drop a1)):=by
       have:=gi (p:=s) FU.out (by rw[rN];omega) (c:=cr) (by rw[rN];omega)
       rw[←PI,List.drop_drop,show a+s=a1 by omega] at this
       exact aa this
      have Hm1:Hid (m-a-s=m-a1):=aa (by omega)
      have PN:Hid (m-a1≤cr-s∧cr-s≤9223372036854775807):=aa (by omega)
      have s1:(s:Int)≤(cr:Int):=by omega
      have s2:(0:Int)≤(s:Int):=by omega
      have s3:(j:Int)<(ns:Int):=by omega
      have i2:=agp ((j:Int)+1) (by omega)
      have Hjj:Hid (j+1≤ns):=aa hlt
      rw[fN] at Xq hOk
      have HMk:=aa Xq
      have HOk:=aa hOk
      have HAk:Hid (aj Ak≠some gp):=aa (fun e=>by have:=(hOk.lt gp (by rw[ae];exact e)).1;omega)
      have Hgp:Hid (gp<wi.heap.size):=aa (by omega)
      obtain⟨⟨k0,k1⟩,z0,z1⟩:=aB Xq
      obtain⟨i0,cw,hz0,hz1,hz2⟩:=info_parts gR
      have hj9:j≤256:=by omega
      clear PI rN Xo xG yl KY Ph Gl hpl hs hs2 mW hlt tZ aat aae Xq hOk dp hsp PF hbl
      go_upto_region 15 with fail
      refine fH 9 (fun w'=>w'.cell? ⟨gp,1,none⟩=some (.slice Ak j ck)) (by kernel_rfl) (by kernel_rfl) (k1) (fun hHeld=> ?_)
      simp only[List.pop_toArray,List.dropLast_cons_cons,List.dropLast_singleton]
      refine wpAnyH_take (i:=0) (oi:= ?o0) (v:= ?v0) ?cw (by kernel_rfl) (by kernel_rfl) (by kernel_rfl) ?Pu (Or.inl ⟨?hw0, ?xk⟩) (by assumption) ?rest0
      case cw=>(simp only[List.getElem?_toArray,List.getElem?_cons_zero,List.getElem?_cons_succ];exact rfl)
      case hw0=>rfl
      case Pu=>exact fun _ _ _ h=>h
      case xk=>(intro wv hSw;(try dsimp only at hSw);go_simp;try with_reducible rfl)
      try simp only[Act.put,List.setIfInBounds_toArray,List.set_cons_zero,List.set_cons_succ]
      refine wpAnyH_take (i:=1) (oi:= ?o1) (v:= ?v1) ?yo (by kernel_rfl) (by kernel_rfl) (by kernel_rfl) ?Jf (Or.inl ⟨?bj, ?Aa⟩) (by assumption) ?rest1
      case yo=>(simp only[List.getElem?_toArray,List.getElem?_cons_zero,List.getElem?_cons_succ];exact rfl)
      case bj=>rfl
      case Jf=>exact fun _ _ _ h=>h
      case Aa=>(intro wv hSw;(try dsimp only at hSw);go_simp;try with_reducible rfl)
      try simp only[Act.put,List.setIfInBounds_toArray,List.set_cons_zero,List.set_cons_succ]
      refine wpAnyH_take (i:=2) (oi:= ?o2) (v:= ?v2) ?Jj (by kernel_rfl) (by kernel_rfl) (by kernel_rfl) ?yJ (Or.inl ⟨?hw2, ?Ce⟩) (by assumption) ?rest2
      case Jj=>(simp only[List.getElem?_toArray,List.getElem?_cons_zero,List.getElem?_cons_succ];exact rfl)
      case hw2=>rfl
      case yJ=>exact fun _ _ _ h=>h
      case Ce=>(intro wv hSw;(try dsimp only at hSw);go_simp;try with_reducible rfl)
      try simp only[Act.put,List.setIfInBounds_toArray,List.set_cons_zero,List.set_cons_succ]
      refine wpAnyH_take (i:=3) (oi:= ?o3) (v:= ?v3) ?WV (by kernel_rfl) (by kernel_rfl) (by kernel_rfl) ?hq3 (Or.inl ⟨?hw3, ?hy3⟩) (by assumption) ?rest3
      case WV=>(simp only[List.getElem?_toArray,List.getElem?_cons_zero,List.getElem?_cons_succ];exact rfl)
      case hw3=>rfl
      case hq3=>exact fun _ _ _ h=>h
      case hy3=>(intro wv hSw;(try dsimp only at hSw);go_simp;try with_reducible rfl)
      try simp only[Act.put,List.setIfInBounds_toArray,List.set_cons_zero,List.set_cons_succ]
      refine wpAnyH_take (i:=4) (oi:= ?o4) (v:= ?v4) ?xx (by kernel_rfl) (by kernel_rfl) (by kernel_rfl) ?hq4 (Or.inl ⟨?hw4, ?hy4⟩) (by assumption) ?rest4
      case xx=>(simp only[List.getElem?_toArray,List.getElem?_cons_zero,List.getElem?_cons_succ];exact rfl)
      case hw4=>rfl
      case hq4=>exact fun _ _ _ h=>h
      case hy4=>(intro wv hSw;(try dsimp only at hSw);go_simp;try with_reducible rfl)
      try simp only[Act.put,List.setIfInBounds_toArray,List.set_cons_zero,List.set_cons_succ]
      refine wpAnyH_ready (rs:=[5]) (by kernel_rfl) (by simp) ?_
      refine AllReadyH.cons (o:= ?o5) ?hi5 (fun K hK=> ?rest5) AllReadyH.nil
      case hi5=>(simp only[List.getElem?_toArray,List.getElem?_cons_zero,List.getElem?_cons_succ];exact rfl)
      go_simp
      (with_reducible refine(hch.out _ aes.out.drew _).mono ?_)
      rintro e w5 ⟨rfl,d5,rfl⟩
      obtain⟨w5,qb⟩:∃w5,w5=wi.drew.drewN d5:=⟨_,rfl⟩
      rw[←qb]
      have O5:Hid (ax w5 (gp+1) Ak j ck (gK sz l j)):=aa (by rw[qb];exact HOk.out)
      have M5:Hid (w5.heap[gp]? =wi.heap[gp]?):=aa (by rw[qb];rfl)
      have S5:Hid (gp<w5.heap.size):=aa (by rw[qb];exact Hgp.out)
      have B5:Hid (Below wi.heap.size wi w5):=aa (by rw[qb];exact⟨rfl,rfl,rfl,agl _,fun _ _=>rfl⟩)
      have c5:w5.cell? ⟨gp,1,none⟩=some (.slice Ak j ck):=by rw[qb];exact k1
      clear qb
      refine hK.out _ _ (c5) (fun hHeld=> ?_)
      clear hK K
      try simp only[Act.put,List.setIfInBounds_toArray,List.set_cons_zero,List.set_cons_succ]
      refine wpAnyH_ready (rs:=[6]) (by kernel_rfl) (by simp) ?_
      refine AllReadyH.cons (o:= ?o6) ?hi6 (fun K hK=> ?rest6) AllReadyH.nil
      case hi6=>(simp only[List.getElem?_toArray,List.getElem?_cons_zero,List.getElem?_cons_succ];exact rfl)
      go_simp
      refine hK.out _ _ (later (ak (ac w5) _) c5) (fun hHeld=> ?_)
      clear hK K
      try simp only[Act.put,List.setIfInBounds_toArray,List.set_cons_zero,List.set_cons_succ]
      refine wpAnyH_ready (rs:=[7]) (by kernel_rfl) (by simp) ?_
      refine AllReadyH.cons (o:= ?o7) ?hi7 (fun K hK=> ?rest7) AllReadyH.nil
      case hi7=>(simp only[List.getElem?_toArray,List.getElem?_cons_zero,List.getElem?_cons_succ];exact rfl)
      refine mD _ rfl (.tmp 49) (.tmp 54) 39 rfl (gp+1) 3 i0 _ 1 8 Tryz.underlying39 cw hz0 hz1 hz2 rfl (by omega) (.slice Ak j ck) j _ rfl (World.ownsRow.alloc O5.out _) _ _ 1 1 [.int .i64 kv] rfl rfl (dN _ _ _) (by simp[Value.oneCell']) (by simp only[maxLen];omega) (by omega) (by have:=S5.out;show gp+1≤_;simp;omega) ?_
      intro A7 c7 w7 fQ Gq Xk
      rw[ae] at Gq Xk
      rw[ae] at Xk
      have kp7:=dl.lit (A:=Ak) (n:=j) (c:=ck) (by rw[ae];exact Gq)
      have M7:=((kp7.1 gp S5.out HAk.out).trans M5.out).trans HMk.out
      obtain⟨⟨m0,m1⟩,m2,m3⟩:=aB M7
      refine hK.out _ _ (m1) (fun hHeld=> ?_)
      clear hK K
      try simp only[Act.put,List.setIfInBounds_toArray,List.set_cons_zero,List.set_cons_succ]
      refine wpAnyH_take (i:=8) (oi:= ?o8) (v:= ?v8) ?hi8 (by kernel_rfl) (by kernel_rfl) (by kernel_rfl) ?YC (Or.inl ⟨?NC, ?hy8⟩) (by assumption) ?rest8
      case hi8=>(simp only[List.getElem?_toArray,List.getElem?_cons_zero,List.getElem?_cons_succ];exact rfl)
      case NC=>rfl
      case YC=>exact fun _ _ _ h=>h
      case hy8=>(intro wv hSw;(try dsimp only at hSw);go_simp;try with_reducible rfl)
      try simp only[Act.put,List.setIfInBounds_toArray,List.set_cons_zero,List.set_cons_succ]
      refine wpAnyH_done (by kernel_rfl) ?_ _
      refine nJ (o:= ?o9) ?Sz (fun K hK=> ?rest9)
      case Sz=>(simp only[List.getElem?_toArray,List.getElem?_cons_zero,List.getElem?_cons_succ];exact rfl)
      go_simp
      refine hK _ _ ?_
      clear hK K
      have hM8:(w7.setCell ⟨gp,1,none⟩ (.slice A7 (j+1) c7)).heap[gp]? =some (.cells #[.int .i64 (k:Int),.slice A7 (j+1) c7] 169 (0,0)):=(agA w7 gp 1 _ _ _ M7).trans rfl
      have NZ:ax w7 (gp+1) A7 (j+1) c7 (gK sz l (j+1)):=by unfold ax;rw[hcs.out,List.map_append];exact fQ
      have Xp:ax (w7.setCell ⟨gp,1,none⟩ (.slice A7 (j+1) c7)) (gp+1) A7 (j+1) c7 (gK sz l (j+1)):=ap NZ fun q hq=>agr _ _ _ _ (by
       have:=(agB NZ q hq).1
       show q≠gp;omega)
      have hB7:Below gp wi w7:=(Below.refl gp wi).trans (aI ((ak B5.out _).mono (by have:=Hgp.out;omega)) (World.ownsRow.alloc (aO O5.out (by omega)) (.cells #[.int .i64 kv] 3)) (by rw[ae];exact Gq) (by have:=S5.out;simp;omega))
      have hB8:=aa (qg.out.trans (hB7.setCell (p:=⟨gp,1,none⟩) (agl _) (.slice A7 (j+1) c7)))
      have HM8:=aa hM8
      have HO8:=aa Xp
      obtain⟨w8,NC⟩:∃w8,w8=w7.setCell ⟨gp,1,none⟩ (.slice A7 (j+1) c7):=⟨_,rfl⟩
      rw[←NC] at hB8 HM8 HO8 ⊢
      clear NC hM8 NZ Xp hB7 fQ Gq Xk kp7 M7 m0 m1 m2 m3 hHeld k0 k1 z0 z1 c5
      go_wp2_with fail
      refine⟨⟨j+1,Ax,cr-s,Hjj.out,by go_num, ?_, ?_,PN.out.2, ?_,⟨A7,c7, ?_, ?_⟩,hB8.out⟩, ?_⟩
      ·rw[nz.out,←Hm1.out]
      ·rw[nz.out];exact PN.out.1
      ·rw[nz.out];exact ye.out
      ·show w8.heap[gp]? =some (.cells #[.int .i64 (k:Int),.slice A7 (gK sz l (j+1)).length c7] 169 (0,0))
       rw[fN];exact HM8.out
      ·show ax w8 (gp+1) A7 (gK sz l (j+1)).length c7 (gK sz l (j+1))
       rw[fN];exact HO8.out
      ·have:=Hjj.out;simp[intOf];omega
     ·have e:j=ns:=by omega
      subst e
      rw[fN] at Xq hOk
      have HMk:=aa Xq
      have HOk:=aa hOk
      obtain⟨⟨k0,k1⟩,z0,z1⟩:=aB Xq
      have xD:=zI (k:Int) (gK sz l j) n warm h1 h2 hw l hl CR Ak A2 wi.heap.size ck c2 (by rw[←HM.out];exact hc2) hc3 wi (agl _) (by rw[fN];omega) hOk.ints ((HLp.out.below (hbl.mono HBp.out)).more (by have:=HBp.out;omega))
      rw[fN,←HM.out] at xD
      have Uu:=aa xD
      have afT:fR (k:Int) (gK sz l j) n warm l≤100000000:=by
       unfold fR
       split
       ·rename_i Sn
        rw[←adg.out]
        unfold lY at Sn
        rw[←adg.out] at Sn
        simp only[Bool.and_eq_true,decide_eq_true_eq] at Sn
        have:=sZ (l:=l) Sn.2 (by omega) Sn.1.2 sz.length (agl _)
        have:=Gx.out
        omega
       ·omega
      generalize fR (k:Int) (gK sz l j) n warm l=C at*
      dsimp only at k0 HMk HOk
      have HPi:=aa (HPp.out)
      obtain⟨A9,c9,h9,o9⟩:=HPp.out
      have H9:=aa ((qg.out.block gb J7.out).trans h9)
      have O9:=aa o9
      have FZ:=aa ((qg.out.block w.heap.size (by have:=J7.out;have:=Zf.out;omega)).trans HRp.out)
      have Bw9:Hid (Below w.heap.size w wi):=aa (Bwp.out.trans (qg.out.mono (by have:=J7.out;have:=Zf.out;omega)))
      have acE:=(agn.1 HMk.out).1
      have Up:=aa acE
      have ab5:Hid (∀(w9:World),Below wi.heap.size wi w9→∀v0 v1:Value,w9.heap[gb]? =some (.cells #[v0,v1] 169 (0,0))→Ui ((w9.setCell ⟨gb,0,none⟩ (.int .i64 (k:Int))).setCell ⟨gb,1,none⟩ (.slice Ak j ck)) gb (gb+1) ((k:Int),gK sz l j)∧((w9.setCell ⟨gb,0,none⟩ (.int .i64 (k:Int))).setCell ⟨gb,1,none⟩ (.slice Ak j ck)).heap[w.heap.size]? =some (.cells #[.int .i64 0,.slice none 0 0] 169 (0,0))∧Below w.heap.size w ((w9.setCell ⟨gb,0,none⟩ (.int .i64 (k:Int))).setCell ⟨gb,1,none⟩ (.slice Ak j ck))):=aa (fun w9 b9 v0 v1 hv=>by
       have e1:=J7.out
       have e2:=Zf.out
       have e3:=Up.out
       refine⟨⟨Ak,ck, ?_, ?_⟩, ?_,pp (af Bw9.out b9) (by omega) _ _⟩
       ·have:=vS hv (.int .i64 (k:Int)) (.slice Ak (gK sz l j).length ck)
        rw[fN] at this;dsimp only;rw[fN];exact this
       ·show ax _ (gb+1) Ak (gK sz l j).length ck (gK sz l j)
        rw[fN]
        have o10:=HOk.out.below b9 (agl _)
        refine aO (ap o10 fun q hq=>kT ?_ _ _) (by omega)
        have:=(agB o10 q hq).1
        omega
       ·rw[kT (by omega)]
        exact(b9.block _ (by omega)).trans FZ.out)
      have afm:¬(j:Int)<(j:Int):=by omega
      have ES:intOf (.int .i64 ((k:Int)+1))=(k:Int)+1:=rfl
      clear xD hj hlt acE h9 o9 aae aat dp hbl hsp PF mW xl
      by_cases hA:st.2=0
      ·have hAI:((st.2:Int) == 0)=true:=by rw[beq_iff_eq];omega
       rw[if_pos (.inl hA)] at hstep
       clear hA
       go_wp2_with (go_at_call 191;(with_reducible refine Uu.out.mono ?_);rintro e w9 ⟨rfl,b9⟩;have n0:=later b9 k0;have n1:=later b9 k1;have n9:=(b9.block gb (by have:=J7.out;have:=Up.out;omega)).trans H9.out;obtain⟨⟨y0,y1⟩,y2,y3⟩:=aB n9)
       obtain⟨f1,f2,f3⟩:=ab5.out w9 b9 _ _ n9
       refine⟨⟨k+1,by omega,by go_num,by rw[hstep.out],by rw[hstep.out];exact f1,f2,f3⟩,by simp[intOf];omega⟩
      ·have hAI:((st.2:Int) == 0)=false:=by rw[beq_eq_false_iff_ne];omega
       have hAN:(st.2 == 0)=false:=by rw[beq_eq_false_iff_ne];exact hA
       by_cases hC:C<st.2
       ·rw[if_pos (.inr hC)] at hstep
        have hCI:(C:Int)<(st.2:Int):=by omega
        clear hA
        go_wp2_with (go_at_call 191;(with_reducible refine Uu.out.mono ?_);rintro e w9 ⟨rfl,b9⟩;have n0:=later b9 k0;have n1:=later b9 k1;have n9:=(b9.block gb (by have:=J7.out;have:=Up.out;omega)).trans H9.out;obtain⟨⟨y0,y1⟩,y2,y3⟩:=aB n9)
        obtain⟨f1,f2,f3⟩:=ab5.out w9 b9 _ _ n9
        refine⟨⟨k+1,by omega,by go_num,by rw[hstep.out],by rw[hstep.out];exact f1,f2,f3⟩,by simp[intOf];omega⟩
       ·rw[if_neg (by omega)] at hstep
        have hCI:¬(C:Int)<(st.2:Int):=by omega
        clear hA
        go_wp2_with (go_at_call 191;(with_reducible refine Uu.out.mono ?_);rintro e w9 ⟨rfl,b9⟩;have n0:=later b9 k0;have n1:=later b9 k1;have n9:=(b9.block gb (by have:=J7.out;have:=Up.out;omega)).trans H9.out;obtain⟨⟨y0,y1⟩,y2,y3⟩:=aB n9)
        refine⟨⟨k+1,by omega,by go_num,by rw[hstep.out], ?_,(b9.block _ (agn.1 FZ.out).1).trans FZ.out,af Bw9.out b9⟩,by simp[intOf];omega⟩
        rw[hstep.out]
        exact HPk.out w9 (qg.out.trans (b9.mono (by have:=Up.out;omega)))
  ·have e:k=most+1:=by omega
   have e1:¬(k:Int)≤(most:Int):=by omega
   subst e
   obtain⟨A,c,h3,h4⟩:=HP.out
   have H4:=aa h4
   have H3:=aa h3
   obtain⟨⟨k0,k1⟩,z0,z1⟩:=aB h3
   obtain⟨⟨k2,k3⟩,z2,z3⟩:=aB HR.out
   clear h3 h4
   go_wp2_with fail
   refine bodyPost_ret (Ig rfl _ _ rfl (vS HR.out _ _)) rfl ?_
   refine⟨A,c,rfl,aO (ap H4.out fun q hq=>kT ?_ _ _) (by have:=Zf.out;omega),pp HBl.out (agl _) _ _⟩
   have:=(H4.out.lt q hq).1
   have:=Zf.out
   omega
theorem ai{W:World}{g:Nat}{v0 v1 v2 v3 v4 v5 v6 v7 v8 v9 v10 v11 v12 v13:Value}(h:W.heap[g]? =some (.cells #[v0,v1,v2,v3,v4,v5,v6,v7,v8,v9,v10,v11,v12,v13] 171 (0,0))):
 (W.cell? ⟨g,0,none⟩=some v0∧W.cell? ⟨g,1,none⟩=some v1∧W.cell? ⟨g,2,none⟩=some v2∧W.cell? ⟨g,3,none⟩=some v3∧W.cell? ⟨g,4,none⟩=some v4∧W.cell? ⟨g,5,none⟩=some v5∧W.cell? ⟨g,6,none⟩=some v6∧W.cell? ⟨g,7,none⟩=some v7∧W.cell? ⟨g,8,none⟩=some v8∧W.cell? ⟨g,9,none⟩=some v9∧W.cell? ⟨g,10,none⟩=some v10∧W.cell? ⟨g,11,none⟩=some v11∧W.cell? ⟨g,12,none⟩=some v12∧W.cell? ⟨g,13,none⟩=some v13)∧(W.frozen? ⟨g,0,none⟩=false∧W.frozen? ⟨g,1,none⟩=false∧W.frozen? ⟨g,2,none⟩=false∧W.frozen? ⟨g,3,none⟩=false∧W.frozen? ⟨g,4,none⟩=false∧W.frozen? ⟨g,5,none⟩=false∧W.frozen? ⟨g,6,none⟩=false∧W.frozen? ⟨g,7,none⟩=false∧W.frozen? ⟨g,8,none⟩=false∧W.frozen? ⟨g,9,none⟩=false∧W.frozen? ⟨g,10,none⟩=false∧W.frozen? ⟨g,11,none⟩=false∧W.frozen? ⟨g,12,none⟩=false∧W.frozen? ⟨g,13,none⟩=false):=
 ⟨⟨(agu _ _ _ _ _ _ h).trans rfl,(agu _ _ _ _ _ _ h).trans rfl,(agu _ _ _ _ _ _ h).trans rfl,(agu _ _ _ _ _ _ h).trans rfl,(agu _ _ _ _ _ _ h).trans rfl,(agu _ _ _ _ _ _ h).trans rfl,(agu _ _ _ _ _ _ h).trans rfl,(agu _ _ _ _ _ _ h).trans rfl,(agu _ _ _ _ _ _ h).trans rfl,(agu _ _ _ _ _ _ h).trans rfl,(agu _ _ _ _ _ _ h).trans rfl,(agu _ _ _ _ _ _ h).trans rfl,(agu _ _ _ _ _ _ h).trans rfl,(agu _ _ _ _ _ _ h).trans rfl⟩,⟨agv W g 0 _ _ h,agv W g 1 _ _ h,agv W g 2 _ _ h,agv W g 3 _ _ h,agv W g 4 _ _ h,agv W g 5 _ _ h,agv W g 6 _ _ h,agv W g 7 _ _ h,agv W g 8 _ _ h,agv W g 9 _ _ h,agv W g 10 _ _ h,agv W g 11 _ _ h,agv W g 12 _ _ h,agv W g 13 _ _ h⟩⟩
def fu(W:World)(g:Nat)(x0 x1 x2 x3 x4 x5 x6 x7 x8 x9 p9 tJ uy uU:Value):World:=(((((((((((((W.setCell ⟨g,0,none⟩ x0).setCell ⟨g,1,none⟩ x1).setCell ⟨g,2,none⟩ x2).setCell ⟨g,3,none⟩ x3).setCell ⟨g,4,none⟩ x4).setCell ⟨g,5,none⟩ x5).setCell ⟨g,6,none⟩ x6).setCell ⟨g,7,none⟩ x7).setCell ⟨g,8,none⟩ x8).setCell ⟨g,9,none⟩ x9).setCell ⟨g,10,none⟩ p9).setCell ⟨g,11,none⟩ tJ).setCell ⟨g,12,none⟩ uy).setCell ⟨g,13,none⟩ uU
theorem dI{W:World}{g:Nat}{v0 v1 v2 v3 v4 v5 v6 v7 v8 v9 v10 v11 v12 v13:Value}(h:W.heap[g]? =some (.cells #[v0,v1,v2,v3,v4,v5,v6,v7,v8,v9,v10,v11,v12,v13] 171 (0,0)))(x0 x1 x2 x3 x4 x5 x6 x7 x8 x9 p9 tJ uy uU:Value):(fu W g x0 x1 x2 x3 x4 x5 x6 x7 x8 x9 p9 tJ uy uU).heap[g]? =some (.cells #[x0,x1,x2,x3,x4,x5,x6,x7,x8,x9,p9,tJ,uy,uU] 171 (0,0)):=by
 have h0:=(agA _ g 0 _ _ x0 h).trans (show _=some (Obj.cells #[x0,v1,v2,v3,v4,v5,v6,v7,v8,v9,v10,v11,v12,v13] 171 (0,0))from rfl)
 have h1:=(agA _ g 1 _ _ x1 h0).trans (show _=some (Obj.cells #[x0,x1,v2,v3,v4,v5,v6,v7,v8,v9,v10,v11,v12,v13] 171 (0,0))from rfl)
 have h2:=(agA _ g 2 _ _ x2 h1).trans (show _=some (Obj.cells #[x0,x1,x2,v3,v4,v5,v6,v7,v8,v9,v10,v11,v12,v13] 171 (0,0))from rfl)
 have h3:=(agA _ g 3 _ _ x3 h2).trans (show _=some (Obj.cells #[x0,x1,x2,x3,v4,v5,v6,v7,v8,v9,v10,v11,v12,v13] 171 (0,0))from rfl)
 have h4:=(agA _ g 4 _ _ x4 h3).trans (show _=some (Obj.cells #[x0,x1,x2,x3,x4,v5,v6,v7,v8,v9,v10,v11,v12,v13] 171 (0,0))from rfl)
 have h5:=(agA _ g 5 _ _ x5 h4).trans (show _=some (Obj.cells #[x0,x1,x2,x3,x4,x5,v6,v7,v8,v9,v10,v11,v12,v13] 171 (0,0))from rfl)
 have h6:=(agA _ g 6 _ _ x6 h5).trans (show _=some (Obj.cells #[x0,x1,x2,x3,x4,x5,x6,v7,v8,v9,v10,v11,v12,v13] 171 (0,0))from rfl)
 have h7:=(agA _ g 7 _ _ x7 h6).trans (show _=some (Obj.cells #[x0,x1,x2,x3,x4,x5,x6,x7,v8,v9,v10,v11,v12,v13] 171 (0,0))from rfl)
 have h8:=(agA _ g 8 _ _ x8 h7).trans (show _=some (Obj.cells #[x0,x1,x2,x3,x4,x5,x6,x7,x8,v9,v10,v11,v12,v13] 171 (0,0))from rfl)
 have h9:=(agA _ g 9 _ _ x9 h8).trans (show _=some (Obj.cells #[x0,x1,x2,x3,x4,x5,x6,x7,x8,x9,v10,v11,v12,v13] 171 (0,0))from rfl)
 have h10:=(agA _ g 10 _ _ p9 h9).trans (show _=some (Obj.cells #[x0,x1,x2,x3,x4,x5,x6,x7,x8,x9,p9,v11,v12,v13] 171 (0,0))from rfl)
 have h11:=(agA _ g 11 _ _ tJ h10).trans (show _=some (Obj.cells #[x0,x1,x2,x3,x4,x5,x6,x7,x8,x9,p9,tJ,v12,v13] 171 (0,0))from rfl)
 have h12:=(agA _ g 12 _ _ uy h11).trans (show _=some (Obj.cells #[x0,x1,x2,x3,x4,x5,x6,x7,x8,x9,p9,tJ,uy,v13] 171 (0,0))from rfl)
 have h13:=(agA _ g 13 _ _ uU h12).trans (show _=some (Obj.cells #[x0,x1,x2,x3,x4,x5,x6,x7,x8,x9,p9,tJ,uy,uU] 171 (0,0))from rfl)
 exact h13
theorem dZ{W:World}{g q:Nat}(hq:q≠g)(x0 x1 x2 x3 x4 x5 x6 x7 x8 x9 p9 tJ uy uU:Value):(fu W g x0 x1 x2 x3 x4 x5 x6 x7 x8 x9 p9 tJ uy uU).heap[q]? =W.heap[q]? :=by
 have k:=fun (W:World) (j:Nat) (v:Value)=>agr W ⟨g,j,none⟩ v q hq
 unfold fu
 rw[k,k,k,k,k,k,k,k,k,k,k,k,k,k]
theorem cL{B g:Nat}{w W:World}(h:Below B w W)(hg:B≤g)(x0 x1 x2 x3 x4 x5 x6 x7 x8 x9 p9 tJ uy uU:Value):Below B w (fu W g x0 x1 x2 x3 x4 x5 x6 x7 x8 x9 p9 tJ uy uU):=by
 unfold fu
 exact((((((((((((((h.setCell (p:=⟨g,0,none⟩) hg _).setCell (p:=⟨g,1,none⟩) hg _).setCell (p:=⟨g,2,none⟩) hg _).setCell (p:=⟨g,3,none⟩) hg _).setCell (p:=⟨g,4,none⟩) hg _).setCell (p:=⟨g,5,none⟩) hg _).setCell (p:=⟨g,6,none⟩) hg _).setCell (p:=⟨g,7,none⟩) hg _).setCell (p:=⟨g,8,none⟩) hg _).setCell (p:=⟨g,9,none⟩) hg _).setCell (p:=⟨g,10,none⟩) hg _).setCell (p:=⟨g,11,none⟩) hg _).setCell (p:=⟨g,12,none⟩) hg _).setCell (p:=⟨g,13,none⟩) hg _)
structure Sb where
 kd:Int
 wa:Int
 od:Int
 wm:List Int
 po:Int
 ks:List Int
 rs:List Int
structure Ad where
 A:Option Addr
 c:Nat
 Ak:Option Addr
 ck:Nat
 Ar:Option Addr
 cr:Nat
def nE(s:Sb)(m:Ad):Array Value:=#[.int .i64 s.kd,.int .i64 s.wa,.int .i64 s.od,.int .i64 0,.int .i64 0,.slice none 0 0,.int .i64 0,.int .i64 0,.int .i64 0,.slice none 0 0,.slice m.A s.wm.length m.c,.int .i64 s.po,.slice m.Ak s.ks.length m.ck,.slice m.Ar s.rs.length m.cr]
def io(s:Sb)(m:Ad):Value:=.agg (nE s m)
structure oC (w:World) (B:Nat) (s:Sb) (m:Ad):Prop where
 wm:ag .i64 w B m.A s.wm
 ks:ag .i64 w B m.Ak s.ks
 rs:ag .i64 w B m.Ar s.rs
 c1:s.wm.length≤m.c∧m.c≤9223372036854775807
 c2:s.ks.length≤m.ck∧m.ck≤9223372036854775807
 c3:s.rs.length≤m.cr∧m.cr≤9223372036854775807
 l1:∀q,aj m.A=some q→q<B
 l2:∀q,aj m.Ak=some q→q<B
 l3:∀q,aj m.Ar=some q→q<B
theorem oC.below{w w':World}{B:Nat}{s:Sb}{m:Ad}(h:oC w B s m)(hb:Below B w w'):oC w' B s m:=⟨h.wm.below hb,h.ks.below hb,h.rs.below hb,h.c1,h.c2,h.c3,h.l1,h.l2,h.l3⟩
theorem oC.more{w:World}{B B':Nat}{s:Sb}{m:Ad}(h:oC w B s m)(hB:B≤B'):oC w B' s m:=⟨h.wm.more hB,h.ks.more hB,h.rs.more hB,h.c1,h.c2,h.c3,fun q hq=>agz (h.l1 q hq) hB,fun q hq=>agz (h.l2 q hq) hB,fun q hq=>agz (h.l3 q hq) hB⟩
theorem ft(l:List Int)(hm:l.length≤9223372036854775806)(A:Option Addr)(B c:Nat)(w:World)(ha:ag .i64 w B A l):
 Calls Tryz.prog 135 #[.slice A l.length c] w fun e w'=>e= .returned (.bool (ah l))∧w'=w:=by
 obtain⟨m,NM⟩:∃m,m=l.length:=⟨_,rfl⟩
 have Hm:=aa NM
 rw[←NM] at hm ⊢
 clear NM
 go_enter Tryz.func135,Tryz.ntmps135
 go_wp2_with fail
 go_loop [4,7] (fun _ iv=>∃i:Nat,i≤m∧iv= .int .i64 (i:Int)∧∀j,j<i→aX (ix l j)=true) (fun _ iv=>m-(intOf iv).toNat)
 case atStart=>exact⟨0,agw _,rfl,fun j h=>absurd h (by omega)⟩
 case round=>
  obtain⟨i,hi,rfl,hj⟩:=hrel
  have Hj:=aa hj
  clear hj
  by_cases hlt:i<m
  ·obtain⟨b2,o2,e2,hc2⟩:=ha.at_ (show i<l.length by rw[←Hm.out];exact hlt)
   subst e2
   have hno:Hid (aX (ix l i)=false→ah l=false):=aa (fun h=>eB (by rw[←Hm.out];exact hlt) h)
   have nQ:(i:Int)<(m:Int):=by omega
   have i2:=agp ((i:Int)+1) (by omega)
   obtain⟨x,hx⟩:∃x,ix l i=x:=⟨_,rfl⟩
   rw[hx] at hc2 hno
   have Hx:=aa hx
   clear hx
   by_cases h1:x< -1073741824
   ·go_wp2_with fail
    go_ret
    rw[hno.out (by unfold aX;rw[decide_eq_false (by omega),Bool.false_and])]
    exact⟨rfl,rfl⟩
   ·by_cases h2:1073741824≤x
    ·go_wp2_with fail
     go_ret
     rw[hno.out (by unfold aX;rw[decide_eq_false (p:=x<1073741824) (by omega),Bool.and_false])]
     exact⟨rfl,rfl⟩
    ·go_wp2_with fail
     go_round
     case rel=>exact⟨i+1,by omega,by go_num,fun j hj=>by
      by_cases e:j=i
      ·subst e;rw[Hx.out];exact cX.2 (by omega)
      ·exact Hj.out j (by omega)⟩
     case measure=>simp[intOf];omega
  ·have e:i=m:=by omega
   subst e
   go_wp2_with fail
   go_ret
   refine⟨?_,rfl⟩
   rw[aZ.2 fun j hj=>Hj.out j (by rw[Hm.out];exact hj)]
   rfl
def jB(k:Int):Bool:=decide (k≠0) && decide (k≠1)
theorem iX(k:Int)(w:World):Calls Tryz.prog 146 #[.int .i64 k] w fun e w'=>e= .returned (.bool (jB k))∧w'=w:=by
 by_cases h0:k=0
 ·subst h0
  go_enter Tryz.func146,Tryz.ntmps146
  go_wp2_with fail
  go_ret
  exact⟨rfl,rfl⟩
 ·have h1:(k == 0)=false:=by rw[beq_eq_false_iff_ne];exact h0
  by_cases h2:k=1
  ·subst h2
   go_enter Tryz.func146,Tryz.ntmps146
   go_wp2_with fail
   go_ret
   exact⟨rfl,rfl⟩
  ·have h3:(k == 1)=false:=by rw[beq_eq_false_iff_ne];exact h2
   have hr:Hid (jB k=true):=aa (by unfold jB;rw[decide_eq_true h0,decide_eq_true h2];rfl)
   go_enter Tryz.func146,Tryz.ntmps146
   go_wp2_with fail
   go_ret
   rw[hr.out]
   exact⟨by simp[h0,h2],rfl⟩
theorem cW(w:World)(s:Sb)(m:Ad):∃wx,wx=w.alloc (.cells (nE s m) 171)∧wx.heap[w.heap.size]? =some (.cells (nE s m) 171 (0,0))∧Below w.heap.size w wx∧w.heap.size<wx.heap.size:=
 ⟨_,rfl,ago w _,ak (ac w) _,by simp⟩
def vC(s:Sb)(n:Int):Int:=if s.kd=0 then 1 else if s.kd=1 then n else if s.kd=2 then s.od else 0
theorem kQ(s:Sb)(m:Ad)(n:Int)(hk:s.kd=0∨s.kd=1∨s.kd=2)(w:World):
 Calls Tryz.prog 199 #[io s m,.int .i64 n] w fun e w'=>e= .returned (.int .i64 (vC s n))∧Below w.heap.size w w':=by
 obtain⟨wx,e0,e1,e2,e3⟩:=cW w s m
 obtain⟨⟨k0,k1,k2,k3,k4,k5,k6,k7,k8,k9,eu,eP,eO,eN⟩,_⟩:=ai e1
 have hr:Hid (vC s n=if s.kd=0 then 1 else if s.kd=1 then n else if s.kd=2 then s.od else 0):=aa rfl
 generalize vC s n=R at*
 unfold io
 have E0:=aa e0
 have E2:=aa e2
 unfold nE at E0
 clear e0 e1 e2 k3 k4 k5 k6 k7 k8 k9 eu eP eO eN
 rcases hk with hk | hk | hk
 all_goals rw[hk] at k0 hr E0
 all_goals unfold nE
 all_goals rw[hk]
 all_goals go_enter Tryz.func199,Tryz.ntmps199
 all_goals go_upto_region 1 with fail
 all_goals rw[←E0.out]
 all_goals go_wp2_with fail
 all_goals go_ret
 all_goals exact⟨by rw[hr.out];rfl,E2.out⟩
end
end Go.Proofs.YtbhfpehgacaidaaGreatDoor
