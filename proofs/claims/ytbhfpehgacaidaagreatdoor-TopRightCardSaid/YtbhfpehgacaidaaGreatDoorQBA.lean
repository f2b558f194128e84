/- A part of the proof of the given statement TopRight. Conditions: none. -/
import Derived.Test.YtbhfpehgacaidaaGreatDoorQAZ
namespace Go.Proofs.YtbhfpehgacaidaaGreatDoor
set_option linter.unusedVariables false
set_option linter.unusedSimpArgs false
set_option maxRecDepth 100000
set_option maxHeartbeats 8000000
section
open Go.RowKit
theorem nl{ks sz l:List Int}{i:Nat}:∀j,i≤j→dc ks sz l i≤dc ks sz l j
 |0,h=>by rw[show i=0 by omega];exact agl _
 |j+1,h=>by
  by_cases e:i=j+1
  ·rw[e];exact agl _
  ·have:=nl (ks:=ks) (sz:=sz) (l:=l) (i:=i) j (by omega)
   rw[dc];omega
theorem OC(A:Option Addr)(c s:Nat):aj (if c=s then A else A.map fun x=>x.add s)=aj A:=by
 split
 ·rfl
 ·cases A with
  |none=>rfl
  |some a=>simp only[aj,Option.map_some,Addr.add];split <;> rfl
theorem yh.of_blk{w:World}{g:Nat}{A A':Option Addr}(h:yh w g A)(e:aj A'=aj A):yh w g A':=fun q hq=>h q (by rw[←e];exact hq)
theorem tA{w wx:World}{g:Nat}{bs:List Bool}(h:WB w g bs)(hb:Below w.heap.size w wx)(hs:w.heap.size<wx.heap.size):F5 wx g w.heap.size:=
 ⟨by have:=h.lt;omega,fun e=>by rw[wj h.lt hb] at e;have:=(h.row e).2;omega,hs⟩
theorem QP{w w':World}{g n c:Nat}{A:Option Addr}{bs:List Bool}{l:List Int}(h:WB w g bs)(hb:Below w.heap.size w w')(ho:ax w' w.heap.size A n c l):yh w' g A:=
 yh.fresh h hb fun q hq=>agB ho q (by rw[ae];exact hq)
theorem QE(o:Int)(ks:List Int)(n warm:Nat)(h1:1≤n)(h2:n≤4096)(hw:warm≤n)(l:List Int)(hl:ah l=true)(CR:l.length=n-warm)(bK:lY o ks n warm=true)(A A2:Option Addr)(B c c2:Nat)(hc2:l.length≤c2)(hc3:c2≤9223372036854775807)
 (bs:List Bool) (hroom:bs.length+fR o ks n warm l≤4000000) (g:Nat) (w:World) (hB:B≤w.heap.size) (jV:ks.length≤9223372036854775807) (h:WB w g bs) (ha:ag .i64 w B A ks) (hap:yh w g A) (ha2:ag .i64 w B A2 l) (acZ:yh w g A2):
 Calls Tryz.prog 147 #[.pointer (some ⟨g,0,none⟩),.agg #[.int .i64 o,.slice A ks.length c],.int .i64 (n:Int),.int .i64 (warm:Int),.slice A2 l.length c2] w (tG g (bs++sj o ks n warm l) (.int .i64 0) w):=by
 obtain⟨ho0,mj⟩:=ZR bK
 obtain⟨on,rfl⟩:∃on:Nat,o=(on:Int):=⟨o.toNat,by omega⟩
 have xD:=aa (fun W (hb:Below w.heap.size w W)=>zI (on:Int) ks n warm h1 h2 hw l hl CR A A2 B c c2 hc2 hc3 W (agm hB hb.size) jV (ha.below (hb.mono hB)) (ha2.below (hb.mono hB)))
 have aad:=aa (nD (on:Int) n warm h1 h2 hw)
 have CX:fR (on:Int) ks n warm l=dc ks (aJ (on:Int) n warm) l (aJ (on:Int) n warm).length:=by unfold fR;rw[if_pos bK]
 have aef:4≤fR (on:Int) ks n warm l:=by rw[CX];exact nl _ (agw _)
 have yK:ks.length=(aJ (on:Int) n warm).length∧ks.all kB=true∧aJ (on:Int) n warm≠[]:=by
  unfold lY at bK
  simp only[Bool.and_eq_true,decide_eq_true_eq] at bK
  exact⟨bK.1.2,bK.2,fun e=>bK.1.1 (by rw[e];rfl)⟩
 have aee:fR (on:Int) ks n warm l≤4000000:=by omega
 have hpB:Hid (sj (on:Int) ks n warm l=nb on 4++eD ks (aJ (on:Int) n warm) l (aJ (on:Int) n warm).length):=aa rfl
 obtain⟨jx,hk2,hk3⟩:=yK
 obtain⟨hs1,_,hs2⟩:=oY hk3
 have xl:=kS (on:Int) n warm
 have Bg:=aa hroom
 have Hcp:=aa CX
 rw[CX] at hroom
 generalize fR (on:Int) ks n warm l=C at*
 generalize sj (on:Int) ks n warm l=PB at*
 generalize aJ (on:Int) n warm=sz at*
 have abm:=aa hroom
 obtain⟨nk,Gj⟩:∃nk,nk=ks.length:=⟨_,rfl⟩
 obtain⟨m,hm⟩:∃m,m=l.length:=⟨_,rfl⟩
 have HM:=aa hm
 have Hnk:=aa Gj
 rw[←Gj] at jV xD ⊢
 rw[←hm] at xD hc2 ⊢
 have Hk1:=aa jx
 have Ut:Hid (∀i,dL sz i≤l.length):=aa (fun i=>by
  have e1:=Ct (sz:=sz) i
  have e2:=nA sz fun x hx=>(hs2 x hx).1
  rw[hs1] at e2
  omega)
 have Hs2:=aa hs2
 have Hln:=aa CR
 have Hk2:=aa hk2
 have H:=aa h
 have Ha:=aa ha
 have X4:=aa ha2
 have Hap:=aa hap
 have adq:=aa acZ
 obtain⟨ns,ud⟩:∃ns,ns=sz.length:=⟨_,rfl⟩
 have Gx:=aa ud
 rw[←ud] at xl
 have afp:bs.length+4≤4000000:=by have:=Bg.out;omega
 have hC0:((C:Int) == 0)=false:=by rw[beq_eq_false_iff_ne];omega
 have af9:¬C=0:=by omega
 have i0:=agq (on:Int) (by omega)
 have Sh:=aa (fun W h=>mq on 4 (on:Int) 4 rfl rfl (by omega) (by omega) (by omega) bs (by omega) g W h)
 clear CR jx hk2 hk3 hs1 hs2 ud CX h ha ha2 hap acZ hm Gj hroom bK aef aee
 go_enter Tryz.func147,Tryz.ntmps147
 go_upto_region 1 with fail
 have hx:(w.alloc (.cells #[.int .i64 (on:Int),.slice A nk c] 169)).heap[w.heap.size]? =some (.cells #[.int .i64 (on:Int),.slice A nk c] 169 (0,0)):=ago w _
 have bx:=ak (ac w) (.cells #[.int .i64 (on:Int),.slice A nk c] 169)
 have Ps:w.heap.size<(w.alloc (.cells #[.int .i64 (on:Int),.slice A nk c] 169)).heap.size:=by simp
 obtain⟨wx,hwx⟩:∃wx,wx=w.alloc (.cells #[.int .i64 (on:Int),.slice A nk c] 169):=⟨_,rfl⟩
 rw[←hwx] at hx bx Ps ⊢
 have HX:=aa hx
 have BX:=aa bx
 have NX:=aa (tA H.out bx Ps)
 have Hxs:=aa Ps
 obtain⟨⟨k0,k1⟩,z0,z1⟩:=aB hx
 clear hwx hx bx Ps
 have Hgx:Hid (g<wx.heap.size):=aa (H.out.keep BX.out).lt
 go_wp2_with (first
  |(go_at_call 191;(with_reducible refine(xD.out _ BX.out).mono ?_);rintro e w1 ⟨rfl,b1⟩;have q1:=WK.of_below Hgx.out b1;have W1:=(H.out.keep BX.out).keep b1;have k2:=later b1 k0;have k3:=later b1 k1)
  |(go_at_call 143;(with_reducible refine(Sh.out _ W1).mono ?_);rintro e w2 ⟨rfl,W2,q2⟩;have hq:=(NX.out.keep (q1.trans q2)).2.trans HX.out;obtain⟨⟨k4,k5⟩,_,_⟩:=aB hq)
  |(go_at_call 192;(with_reducible refine(aad.out _).mono ?_);rintro e w3 ⟨A3,c3,rfl,bF,b3⟩))
 have q3:WK g w2 w3:=WK.of_below W2.lt b3
 have Q3:Hid (WK g w w3):=aa ((((WK.of_below H.out.lt BX.out).trans q1).trans q2).trans q3)
 have W3:=aa (W2.keep b3)
 have AP3:=aa (QP W2 b3 bF)
 have oD:=aa bF.ints
 have HA3:=aa (Ha.out.wk Hap.out Q3.out)
 have AA3:=aa (Hap.out.keep Q3.out)
 have HL3:=aa (X4.out.wk adq.out Q3.out)
 have AL3:=aa (adq.out.keep Q3.out)
 have X3:=NX.out.keep ((q1.trans q2).trans q3)
 have HX3:=aa (X3.2.trans HX.out)
 have kL:=aa X3.1
 rw[←Gx.out]
 clear q1 q2 q3 W1 W2 hq k0 k1 k2 k3 k4 k5 z0 z1 b1 b3 bF X3
 go_loopw [4,34] (fun sv iv wr=>∃(i:Nat) (Ar:Option Addr) (cr:Nat),i≤ns∧iv= .int .i64 (i:Int)∧sv= .slice Ar (m-dL sz i) cr∧m-dL sz i≤cr∧cr≤9223372036854775807∧ag .i64 w3 B Ar (l.drop (dL sz i))∧aj Ar=aj A2∧WB wr g (bs++nb on 4++eD ks sz l i)∧WK g w3 wr) (fun _ iv _=>ns-(intOf iv).toNat)
 case atStart=>exact⟨0,A2,c2,agw _,rfl,rfl,by show m-0≤c2;omega,hc3,HL3.out,rfl,by simpa [eD] using W3.out,WK.refl _ _⟩
 case round=>
  obtain⟨i,Ar,cr,hi,rfl,rfl,mW,Xe,dp,mf,hWB,hWK⟩:=hrel
  obtain⟨wo,rfl⟩:∃wo:World,wo=wr:=⟨_,rfl⟩
  have FU:=aa dp
  have HWB:=aa hWB
  have X5:=aa hWK
  have APr:=aa (AL3.out.of_blk mf)
  have Zj:=aa mf
  have HOo:=oD.out.wk AP3.out hWK
  have HAo:=HA3.out.wk AA3.out hWK
  obtain⟨⟨d0,d1⟩,_,_⟩:=aB ((kL.out.keep hWK).2.trans HX3.out)
  clear dp hWB hWK mf
  by_cases hlt:i<ns
  ·have Gl:i<sz.length:=by rw[←Gx.out];exact hlt
   have hlk:i<ks.length:=by rw[Hk1.out];exact Gl
   have yl:=sY Gl
   have KY:=Ut.out (i+1)
   have hs2:=Hs2.out (ix sz i) (lg Gl)
   have hkb:=KI Hk2.out hlk
   have hcs:Hid (eD ks sz l (i+1)=eD ks sz l i++sk (ix ks i) (aY sz l i)):=aa rfl
   have tZ:Hid (aY sz l i=(l.drop (dL sz i)).take (ix sz i).toNat):=aa rfl
   have hpl:(aY sz l i).length=(ix sz i).toNat:=by rw[tZ.out,List.length_take,List.length_drop];omega
   have hpw:ah (aY sz l i)=true:=by rw[tZ.out];exact rR hl _ _
   have RV:(bs++nb on 4++eD ks sz l i).length+kq (ix ks i) (aY sz l i)≤4000000:=by
    have e1:=nl (ks:=ks) (sz:=sz) (l:=l) (i:=i+1) sz.length (by omega)
    have e2:dc ks sz l (i+1)=dc ks sz l i+kq (ix ks i) (aY sz l i):=rfl
    have e3:=tQ ks sz l i
    have e4:=abm.out
    rw[List.length_append,List.length_append,cB]
    omega
   obtain⟨b4,o4,e4,PC⟩:=HOo.at_ Gl
   obtain⟨b5,o5,e5,hck⟩:=HAo.at_ hlk
   subst e4
   subst e5
   have HkC:Hid (∀W,WK g w3 W→W.cell? ⟨b5,o5+i,none⟩=some (.int .i64 (ix ks i))):=aa (fun W hk=>by
    obtain⟨b6,o6,e6,h6⟩:=(HA3.out.wk AA3.out hk).at_ hlk
    injection e6 with e6;injection e6 with e7 e8;subst e7;subst e8
    exact h6)
   obtain⟨s,hs⟩:∃s:Nat,ix sz i=(s:Int):=⟨(ix sz i).toNat,by omega⟩
   rw[hs] at PC hs2 yl tZ hpl
   rw[Int.toNat_natCast] at yl tZ hpl
   have UQ:Hid (sk (ix ks i) (aY sz l i)=nb (ix ks i).toNat 5++if ix ks i=31 then nb (aA (aY sz l i)) 5++dz (aY sz l i) (aA (aY sz l i))else eR (ix ks i).toNat (aY sz l i)):=aa rfl
   have uK:kq (ix ks i) (aY sz l i)=5+if ix ks i=31 then mH (aY sz l i)else dX (ix ks i).toNat (aY sz l i):=rfl
   have Gm:(0≤ix ks i∧ix ks i≤25)∨ix ks i=31:=by unfold kB at hkb;exact of_decide_eq_true hkb
   have qd:Hid (∀W,ag .i64 W B Ar (l.drop (dL sz i))→ag .i64 W B Ar (aY sz l i)):=aa (fun W h=>by rw[tZ.out];exact nO h)
   generalize aY sz l i=p at*
   generalize ix ks i=k at*
   have Ph:=HM.out
   rw[←Ph] at KY
   have rN:(l.drop (dL sz i)).length=m-dL sz i:=by rw[List.length_drop,Ph]
   obtain⟨a,Xo⟩:∃a,dL sz i=a:=⟨_,rfl⟩
   obtain⟨a1,xG⟩:∃a1,dL sz (i+1)=a1:=⟨_,rfl⟩
   rw[Xo] at mW yl qd rN FU ⊢
   rw[xG] at KY yl
   have nz:=aa xG
   obtain⟨Ax,PI⟩:∃Ax,Ax=if cr=s then Ar else Ar.map fun x=>x.add s:=⟨_,rfl⟩
   have YM:∀W,(Instr.slice 39 (.slice Ar (m-a) cr) (some (.int .i64 (s:Int))) none none).run Tryz.prog W= .ok (.slice Ax (m-a-s) (cr-s)) W:=fun W=>by rw[PI];exact vX W Ar (m-a) cr s (by omega) mW
   have ye:Hid (ag .i64 w3 B Ax (l.drop a1)):=by
    have:=gi (p:=s) FU.out (by rw[rN];omega) (c:=cr) (by rw[rN];omega)
    rw[←PI,List.drop_drop,show a+s=a1 by omega] at this
    exact aa this
   have Hbx:Hid (aj Ax=aj A2):=aa (by rw[PI,OC];exact Zj.out)
   have Hm1:Hid (m-a-s=m-a1):=aa (by omega)
   have PN:Hid (m-a1≤cr-s∧cr-s≤9223372036854775807):=aa (by omega)
   have Gg:s≤4096:=by have:=HM.out;have:=Hln.out;omega
   have PL:=aa hpl
   have s1:(s:Int)≤(cr:Int):=by omega
   have s2:(0:Int)≤(s:Int):=by omega
   have s3:(i:Int)<(ns:Int):=by omega
   have s4:(i:Int)<(nk:Int):=by have:=Hk1.out;have:=Hnk.out;have:=Gx.out;omega
   have i1:=agp ((i:Int)+1) (by omega)
   have XY:Hid (i+1≤ns):=aa hlt
   obtain⟨bo,hbo⟩:∃bo,bo=bs++nb on 4++eD ks sz l i:=⟨_,rfl⟩
   have acP:Hid (bs++nb on 4++eD ks sz l (i+1)=bo++sk k p):=aa (by rw[hcs.out,hbo];simp only[List.append_assoc])
   rw[←hbo] at RV HWB
   rw[uK] at RV
   have UX:=aa (qd.out w3 FU.out)
   obtain⟨kn,rfl⟩:∃kn:Nat,k=(kn:Int):=⟨k.toNat,by omega⟩
   rw[Int.toNat_natCast] at UQ RV
   have j0:=agq (kn:Int) (by omega)
   have hpk:=aa (fun W h=>mq kn 5 (kn:Int) 5 rfl rfl (by omega) (by omega) (by omega) bo (by omega) g W h)
   clear PI rN Xo xG yl KY Ph Gl hlk hpl hs hi hs2 mW hlt hbo uK tZ hcs HOo HAo hkb Zj
   by_cases hk31:kn=31
   ·have hkI:((kn:Int) == 31)=true:=by rw[beq_iff_eq];omega
    rw[if_pos (by omega)] at UQ RV
    clear hk31
    have Ez:=ql hpw
    have hwd:Hid (∀W,WK g w3 W→∀cx,Calls Tryz.prog 142 #[.slice Ar s cx] W fun e w'=>e= .returned (.int .i64 (aA p:Int))∧∃m,w'=W.drewN m):=aa (fun W hk cx=>by
     exact iR p s PL.out.symm (by omega) Ar B cx W (UX.out.wk APr.out hk))
    have Ab:mH p=5+aA p*s:=by unfold mH;rw[PL.out]
    rw[Ab] at RV
    have xo:Hid (∀j,j≤s→(dz (p.take j) (aA p)).length≤aA p*s):=aa (fun j hj=>by rw[j7,List.length_take];exact Nat.mul_le_mul_left _ (by rw[PL.out];omega))
    have NF:Hid (∀j,j<s→dz (p.take (j+1)) (aA p)=dz (p.take j) (aA p)++sb (ix p j) (aA p)):=aa (fun j hj=>se (by rw[PL.out];exact hj))
    have NG:Hid (∀j,j<s→(dz (p.take j) (aA p)).length+aA p≤aA p*s):=aa (fun j hj=>by
     have h1:=xo.out (j+1) hj
     rw[NF.out j hj,List.length_append,Qr] at h1;exact h1)
    have ED:Hid (dz (p.take s) (aA p)=dz p (aA p)):=aa (by rw[←PL.out,List.take_length])
    generalize aA p=wd at*
    obtain⟨M,hM⟩:∃M,M=wd*s:=⟨_,rfl⟩
    rw[←hM] at RV NG
    have j5:=agq (wd:Int) (by omega)
    have Hrm:Hid (bo.length+(5+(5+M))≤4000000):=aa RV
    have aal:=aa (fun W h=>mq wd 5 (wd:Int) 5 rfl rfl (by omega) (by omega) (by omega) (bo++nb kn 5) (by rw[List.length_append,cB];omega) g W h)
    clear RV Gm hM Ab xo
    go_wp2_with (first
     |(go_at_call 143;(with_reducible refine(hpk.out _ HWB.out).mono ?_);rintro e w5 ⟨rfl,W5,q5⟩;clear HWB;obtain⟨⟨e0,e1⟩,_,_⟩:=aB ((kL.out.keep (X5.out.trans q5)).2.trans HX3.out);have acR:=HkC.out _ (X5.out.trans q5))
     |(go_at_call 142;(with_reducible refine(hwd.out _ (X5.out.trans q5) _).mono ?_);rintro e w6 ⟨rfl,d6,rfl⟩)
     |(go_at_call 143;(with_reducible refine(aal.out _ (W5.drewN d6)).mono ?_);rintro e w7 ⟨rfl,W7,q7⟩))
    have W7':=aa W7
    have Q7:=aa ((X5.out.trans (q5.drewN d6)).trans q7)
    clear W5 W7 q5 q7 e0 e1 acR
    go_loopw [75] (fun jv wr=>∃j:Nat,j≤s∧jv= .int .i64 (j:Int)∧WB wr g (bo++nb kn 5++nb wd 5++dz (p.take j) wd)∧WK g w3 wr) (fun jv _=>s-(intOf jv).toNat)
    case atStart=>exact⟨0,agw _,rfl,by simpa [dz] using W7'.out,Q7.out⟩
    case round=>
     obtain⟨j,hj,rfl,hB,hK⟩:=hrel
     obtain⟨wi,rfl⟩:∃wi:World,wi=wr:=⟨_,rfl⟩
     have HBi:=aa hB
     have HKi:=aa hK
     have uI:=UX.out.wk APr.out hK
     clear hB hK
     by_cases hlt:j<s
     ·obtain⟨b8,o8,e8,mV⟩:=uI.at_ (show j<p.length by rw[PL.out];exact hlt)
      have hstep:=aa (NF.out j hlt)
      have RX:=NG.out j hlt
      have hr:=Hrm.out
      have hand:=xZ (ix p j) wd (by omega)
      have aai:Hid (sb (ix p j) wd=nb (ix p j%((2 ^ wd:Nat):Int)).toNat wd):=aa rfl
      have aah:=Qq (ix p j) wd
      have adM:(2:Nat) ^ wd≤2 ^ 32:=Nat.pow_le_pow_right (by omega) (by omega)
      have Gh:0<(2:Nat) ^ wd:=Nat.two_pow_pos wd
      have Sc:=aa (fun W h=>qi (ix p j%((2 ^ wd:Nat):Int)).toNat wd (by omega) (by omega) aah (bo++nb kn 5++nb wd 5++dz (p.take j) wd) (by rw[List.length_append,List.length_append,List.length_append,cB,cB];omega) g W h)
      have hE:(2:Int) ^ wd=((2 ^ wd:Nat):Int):=by simp
      have r2:IntKind.u64.wrap (((2 ^ wd:Nat):Int)-1)=((2 ^ wd-1:Nat):Int):=by rw[agq _ (by omega)];omega
      have r1:=agq ((2 ^ wd:Nat):Int) (by omega)
      obtain⟨x,hx⟩:∃x,x=ix p j:=⟨_,rfl⟩
      rw[←hx] at mV hstep hand aai Sc aah
      obtain⟨y,hy⟩:∃y,y=(x%((2 ^ wd:Nat):Int)).toNat:=⟨_,rfl⟩
      rw[←hy] at hand aai Sc
      obtain⟨ux,hux⟩:∃ux,IntKind.u64.wrap x=ux:=⟨_,rfl⟩
      rw[hux] at hand
      clear hx hy aah
      generalize (2:Nat) ^ wd=E at*
      obtain⟨E1,hE1⟩:∃E1,E1=E-1:=⟨_,rfl⟩
      rw[←hE1] at hand r2
      have r3:=agq (E1:Int) (by omega)
      have s5:(j:Int)<(s:Int):=by omega
      have s6:=agp ((j:Int)+1) (by omega)
      subst e8
      clear hE1 Gh adM RX hr
      go_wp2_with (go_at_call 143;(with_reducible refine(Sc.out _ HBi.out).mono ?_);rintro e w8 ⟨rfl,W8,q8⟩)
      refine⟨⟨j+1,hlt,by go_num, ?_,HKi.out.trans q8⟩, ?_⟩
      ·rw[hstep.out,aai.out,←List.append_assoc];exact W8
      ·simp[intOf];omega
     ·have ej:j=s:=by omega
      subst ej
      have HF:Hid (WB wi g (bs++nb on 4++eD ks sz l (i+1))):=by
       have:=HBi.out
       rw[ED.out] at this
       rw[acP.out,UQ.out,←List.append_assoc,←List.append_assoc]
       exact aa this
      go_wp2_with fail
      refine⟨⟨i+1,Ax,cr-j,XY.out,by go_num, ?_, ?_,PN.out.2, ?_,Hbx.out,HF.out,HKi.out⟩, ?_⟩
      ·rw[nz.out,←Hm1.out]
      ·rw[nz.out];exact PN.out.1
      ·rw[nz.out];exact ye.out
      ·have:=XY.out;simp[intOf];omega
   ·have yN:kn≤25:=by omega
    rw[if_neg (by omega)] at UQ RV
    have hkI:((kn:Int) == 31)=false:=by rw[beq_eq_false_iff_ne];omega
    have hrp:Hid (∀W,WB W g (bo++nb kn 5)→WK g w3 W→∀cx,Calls Tryz.prog 193 #[.pointer (some ⟨g,0,none⟩),.int .i64 (kn:Int),.slice Ar s cx] W (tG g (bo++nb kn 5++eR kn p) (.int .i64 0) W)):=aa (fun W h hk cx=>by
     have:=Qt kn yN p hpw (bo++nb kn 5) (by rw[List.length_append,cB];omega) (by rw[PL.out];omega) Ar B cx g W h (UX.out.wk APr.out hk) (APr.out.keep hk)
     rw[PL.out] at this;exact this)
    clear RV Gm hk31
    go_wp2_with (first
     |(go_at_call 143;(with_reducible refine(hpk.out _ HWB.out).mono ?_);rintro e w5 ⟨rfl,W5,q5⟩;obtain⟨⟨e0,e1⟩,_,_⟩:=aB ((kL.out.keep (X5.out.trans q5)).2.trans HX3.out);have acR:=HkC.out _ (X5.out.trans q5))
     |(go_at_call 193;(with_reducible refine(hrp.out _ W5 (X5.out.trans q5) _).mono ?_);rintro e w6 ⟨rfl,W6,q6⟩))
    refine⟨⟨i+1,Ax,cr-s,XY.out,by go_num, ?_, ?_,PN.out.2, ?_,Hbx.out, ?_,(X5.out.trans q5).trans q6⟩, ?_⟩
    ·rw[nz.out,←Hm1.out]
    ·rw[nz.out];exact PN.out.1
    ·rw[nz.out];exact ye.out
    ·rw[acP.out,UQ.out,←List.append_assoc];exact W6
    ·have:=XY.out;simp[intOf];omega
  ·have e:i=ns:=by omega
   subst e
   go_wp2_with fail
   go_ret
   refine⟨rfl, ?_,Q3.out.trans X5.out⟩
   rw[hpB.out,←Gx.out,←List.append_assoc]
   exact HWB.out
end
end Go.Proofs.YtbhfpehgacaidaaGreatDoor
