/- A part of the proof of the given statement TopRight. Conditions: none. -/
import Derived.Test.YtbhfpehgacaidaaGreatDoorQAW
namespace Go.Proofs.YtbhfpehgacaidaaGreatDoor
set_option linter.unusedVariables false
set_option linter.unusedSimpArgs false
set_option maxRecDepth 100000
set_option maxHeartbeats 8000000
section
open Go.RowKit
theorem sK{l:List Int}:∀(k p:Nat) (x:Int),(fP l k p x).1.length=k
 |0,p,x=>rfl
 |k+1,p,x=>by
  show (fP l k _ _).1.length+1=k+1
  rw[sK k]
theorem Aw(l:List Int):(dh l).1.length≤4:=by
 have h:=sy l 6 0 4
 have h2:=sK (l:=l) (aG l 6 0 4).1 (aG l 6 0 4).2.1 (aG l 6 0 4).2.2
 unfold dh
 split
 ·simp
 ·split
  ·simp
  ·dsimp only
   split
   ·simp
   ·split
    ·simp
    ·split
     ·simp
     ·split
      ·simp
      ·split
       ·simp
       ·dsimp only
        omega
theorem Ok(L:List Hl)(i:Nat)(hi:i<L.length):(jH L)[i*2]? =some (.int .i64 L[i].1)∧(jH L)[i*2+1]? =some (.int .i64 L[i].2):=by
 induction L generalizing i with
 |nil=>simp at hi
 |cons a L ih=>
  cases i with
  |zero=>exact⟨rfl,rfl⟩
  |succ i=>
   have h1:=ih i (by simpa using hi)
   have e1:(i+1)*2=i*2+2:=by omega
   have e2:(i+1)*2+1=i*2+1+2:=by omega
   rw[e1]
   exact h1
theorem WN{w:World}{B:Nat}{A:Option Addr}{L:List Hl}(h:Rd w B A (jH L)){i:Nat}(hi:i<L.length):
 ∃b off,A=some ⟨b,off,none⟩∧b<B∧w.cell? ⟨b,off+i*2,none⟩=some (.int .i64 L[i].1)∧w.cell? ⟨b,off+i*2+1,none⟩=some (.int .i64 L[i].2):=by
 have hp:0<(jH L).length:=by rw[Oj];omega
 obtain⟨b,off,e,hb,hc⟩:=h hp
 obtain⟨g1,g2⟩:=Ok L i hi
 exact⟨b,off,e,hb,hc _ _ g1,hc _ _ g2⟩
theorem uu(b:Bool):bN b≤1:=by cases b <;> decide
theorem TF{P:List Pg}(h:∀p∈P,cR p=true∧aH p.body):aH (fd P):=fun x hx=>by
 unfold fd at hx
 obtain⟨p,hp,h2⟩:=List.mem_flatMap.1 hx
 unfold VS at h2
 rcases agC.1 h2 with h3 | h3
 ·exact Ku p (h p hp).1 (h p hp).2 x h3
 ·exact kE _ _ x h3
theorem FO.put{W:World}{o n c:Nat}{A:Option Addr}{L:List (Int×Int)}{v:Value}(h:mh W (o+1) A n c L)(hM:W.heap[o]? =some (.cells #[v] 25 (0,0))):FO (W.setCell ⟨o,0,none⟩ (.slice A n c)) o n:=
 ⟨A,c,L,by rw[agA _ o 0 _ _ _ hM];rfl,h.kept fun q hq=>agr _ _ _ _ (by have:=(h.lt hq).1;show q≠o;omega)⟩
theorem nr{o k:Nat}{w5 W W':World}(hb:Below o w5 W)(hF:FO W o k)(h:Below W.heap.size W W'):Below o w5 W':=hb.trans (h.mono (Nat.le_of_lt hF.lt))
def Yb(N:Nat)(w:World)(e:Ending)(w':World):Prop:=∃A c,e= .returned (.slice A N c)∧Below w.heap.size w w'
theorem xQ(b:List Int)(n:Nat)(hn:b.length=n)(hm:n≤3000)(hby:aH b)(A:Option Addr)(B c:Nat)(hc:n≤c)(cK:c≤9223372036854775807)(w:World)(hB:B≤w.heap.size)(ha:ag .u8 w B A b):
 Calls Tryz.prog 6 #[.slice A n c] w (Yb (jS uP b) w):=by
 obtain⟨RR,cN⟩:∃RR,RR=jS uP b:=⟨_,rfl⟩
 rw[←cN]
 have ml:=xB b n hn hm hby A B c hc cK w hB ha
 have li:=fun W (hb:Below w.heap.size w W)=>Tl b n hn hm hby A B c hc cK W (agm hB hb.size) (ha.below (hb.mono hB))
 have hI4:=Aw b
 have hat:=xC b
 unfold jS at cN
 unfold Lf at li
 generalize dh b=H at*
 obtain⟨I,a0,x⟩:=H
 dsimp only at*
 unfold FX at ml
 dsimp only at ml
 have Gy:=aa ml
 have Ha:=aa ha
 by_cases hx:x=0
 case neg=>
  rw[if_pos hx] at cN
  have HR:=aa cN
  have Gd:(x != 0)=true:=bne_iff_ne.2 hx
  clear cN ml li hat ha hx hn
  go_enter Tryz.func6,Tryz.ntmps6
  go_wp2_with (go_at_call 14;(with_reducible refine Gy.out.mono ?_);rintro e w1 ⟨A1,c1,rfl,cM,b1⟩;dsimp only at cM ⊢)
  go_ret
  rw[HR.out]
  exact⟨_,_,rfl,ak b1 _⟩
 case pos=>
  subst hx
  rw[if_neg (by simp)] at cN
  rw[if_neg (by simp)] at li
  obtain⟨a,rfl,Xn,h6⟩:=hat rfl
  rw[Int.toNat_natCast] at cN li
  obtain⟨ba,oa,rfl,xF,_⟩:=ha.lt (by omega)
  have hac:a≤c:=by omega
  have han:a≤n:=by omega
  obtain⟨D,hD⟩:∃D,D=b.drop a:=⟨_,rfl⟩
  rw[←hD] at cN li
  have hDl:D.length=n-a:=by rw[hD,List.length_drop];omega
  have Gs:aH D:=by rw[hD];exact hby.drop a
  have bQ:=qK Gs (by omega)
  have hsc:=(iM _ D (agl _) Gs).2
  have RS:=fun (A':Option Addr) (c':Nat) (hc':n-a≤c') (hc2:c'≤9223372036854775807) (W:World) (hB':B≤W.heap.size) (hi:ag .u8 W B A' D)=>Du D (n-a) hDl (by omega) Gs A' B c' hc' hc2 W hB' hi
  unfold CO at bQ li
  unfold Uf at RS
  generalize hF:(cm D).1=F at*
  have ym:=zO F
  have YH:=fun (E:List (El Pg)) (he:E.map (·.1)=F) (KZ:∀t∈E,t.1.body.length≤t.2.2) (A':Option Addr) (c':Nat) (W:World) (ha:iE gY W W.heap.size A' E)=>DZ E F.length (by rw[←he];simp) (by omega) (fun t ht=>⟨(hsc t.1 (by rw[←he];exact List.mem_map_of_mem ht)).2,(fK (hsc t.1 (by rw[←he];exact List.mem_map_of_mem ht)).1).2.1⟩) KZ A' W.heap.size c' W (agl _) ha
  have Cj:∀(E:List (El Pg)) (he:E.map (·.1)=F) (KZ:∀t∈E,t.1.body.length≤t.2.2) (A':Option Addr) (c':Nat) (W:World) (ha:iE gY W W.heap.size A' E),Calls Tryz.prog 16 #[.slice A' F.length c'] W (Bf (cT F) W):=fun E he KZ A' c' W ha=>by
   have:=YH E he KZ A' c' W ha
   rw[he] at this
   exact this
  have aci:iJ F=(fd F,0):=by
   unfold iJ
   rw[if_pos]
   unfold MI
   rw[List.all_eq_true]
   exact fun p hp=>(hsc p hp).1
  have hbF:=TF hsc
  have hbl:=rf F fun p hp=>(fK (hsc p hp).1).2.1
  have YB:∀p∈F,aH p.body∧p.body.length≤255:=fun p hp=>⟨(hsc p hp).2,(fK (hsc p hp).1).2.1⟩
  clear YH
  unfold Bf at Cj
  generalize hM:cT F=M at*
  obtain⟨P,hl⟩:=M
  dsimp only at bQ li ym Cj cN
  obtain⟨L,hL⟩:∃L,L=dB P:=⟨_,rfl⟩
  have YK:=tX bQ.1 bQ.2.1
  rw[←hL] at YK li cN
  have hFl:F.length≤250:=bQ.2.2.2.2
  have nS:P.length≤250:=by omega
  have PG:L.length≤250:=by omega
  have hnl:hl.length≤251:=by omega
  have hsP:∀p∈P,aH p.body∧p.body.length≤255:=fun p hp=>⟨(bQ.1 p hp).2.2,by have:=(vr bQ.1 p hp).2;omega⟩
  have hsL:∀q∈L,aH q.data∧q.data.length≤48000:=fun q hq=>⟨(YK.2 q hq).1,by have:=(YK.2 q hq).2;have:=bQ.2.2.1;omega⟩
  have CU:=yP bQ.1
  have hss:=Bt (L:=L) fun p hp=>(hsL p hp).1
  have htf:=tK (P:=P) (by omega) fun p hp=>(hsP p hp).1
  obtain⟨T,hT⟩:∃T,T=dy P:=⟨_,rfl⟩
  obtain⟨G,hG⟩:∃G,G=cz P:=⟨_,rfl⟩
  obtain⟨S,hS⟩:∃S,S=eM L:=⟨_,rfl⟩
  obtain⟨G1,x4⟩:=G
  obtain⟨S1,x5⟩:=S
  obtain⟨wh,hwh⟩:∃wh,wh=b.take a++fd F++T:=⟨_,rfl⟩
  rw[←hT] at htf cN
  rw[←hG] at CU cN
  rw[←hS] at hss cN
  dsimp only at CU hss cN
  rw[←hwh] at cN
  obtain⟨d1,qf⟩:∃d,d=decide (b=wh):=⟨_,rfl⟩
  obtain⟨d6,hd6⟩:∃d,d=yB L:=⟨_,rfl⟩
  obtain⟨d7,hd7⟩:∃d,d=fX I.length L:=⟨_,rfl⟩
  obtain⟨d8,hd8⟩:∃d,d=Rp I.length L:=⟨_,rfl⟩
  obtain⟨d9,hd9⟩:∃d,d=decide (T<:+b):=⟨_,rfl⟩
  obtain⟨d0,SK⟩:∃d,d=uP I L:=⟨_,rfl⟩
  obtain⟨z4,Pr⟩:∃d,d=(decide (x4≠0) || decide (F≠G1)):=⟨_,rfl⟩
  obtain⟨z5,Z8⟩:∃d,d=(decide (x5≠0) || decide (P≠S1)):=⟨_,rfl⟩
  have Jv:RR=bN (!d1)+hl.length+bN z4+bN z5+bN (!d6)+bN d7+bN d8+bN (!d9)+bN d0:=by
   rw[cN,qf,hd6,hd7,hd8,hd9,SK,Pr,Z8]
   simp only[decide_not,ne_eq]
  have HR:=aa Jv
  have HT:=aa hT
  have HG:=aa hG
  have HS:=aa hS
  have Hwh:=aa hwh
  have Hd1:=aa qf
  have Hd6:=aa hd6
  have Hd7:=aa hd7
  have Hd8:=aa hd8
  have Hd9:=aa hd9
  have Hd0:=aa SK
  have Hz4:=aa Pr
  have Hz5:=aa Z8
  have Um:=aa RS
  have Ze:=aa Cj
  have Uq:=aa li
  have HD:=aa hD
  have FW:=aa bQ
  have HsF:=aa YB
  have HbF:=aa hbF
  have ae8:=htf.2.1
  have HsP:=aa hsP
  have HsL:=aa hsL
  have Hgs:=aa CU
  have Hss:=aa hss
  have Htf:=aa htf
  have adl:=aa aci
  have Hn:=aa hn
  have HDl:=aa hDl
  clear cN Jv hT hG hS hwh qf hd6 hd7 hd8 hd9 SK Pr Z8 RS Cj li hD bQ YB hsP hsL CU hss htf aci ml hat ha hsc YK ym hbF Gs hDl hF hM hL hn
  go_enter Tryz.func6,Tryz.ntmps6
  go_upto_region 4 with (go_at_call 14;(with_reducible refine Gy.out.mono ?_);rintro e w1 ⟨A1,c1,rfl,cM,b1⟩;dsimp only at cM ⊢)
  have B1:=aa b1
  have O1:=aa cM
  clear b1 cM Gy
  go_cut [6] (fun s6 wx=>∃(A2:Option Addr) (c2:Nat) (E2:List (El Pg)),s6= .slice A2 F.length c2∧ik wx w1.heap.size A2 F.length c2 E2∧E2.map (·.1)=F∧Below w1.heap.size w1 wx)
  case first=>
   have dp:=Ha.out.below (B1.out.mono hB)
   have xt:=kt dp a
   rw[←HD.out] at xt
   have hz:=agm hB B1.out.size
   have hs1:=aa (Um.out (some ⟨ba,oa+a,none⟩) (c-a) (by omega) (by omega) w1 hz xt)
   have hs2:c-a=0→Hid _:=fun h0=>aa (Um.out (some ⟨ba,oa,none⟩) 0 (by omega) (by omega) w1 hz (fun h1=>by
    rw[List.length_map] at h1
    have:=HDl.out
    omega))
   by_cases PC:c-a=0
   ·have hs3:=hs2 PC
    go_wp2_with (go_at_call 15;(with_reducible refine hs3.out.mono ?_);rintro e w2 ⟨A2,c2,E2,rfl,cD,yq,b2⟩)
    go_meet
    exact⟨A2,c2,E2,rfl,cD,yq,b2⟩
   ·go_wp2_with (go_at_call 15;(with_reducible refine hs1.out.mono ?_);rintro e w2 ⟨A2,c2,E2,rfl,cD,yq,b2⟩)
    go_meet
    exact⟨A2,c2,E2,rfl,cD,yq,b2⟩
  case rest=>
   obtain⟨A2,c2,E2,rfl,cD,yq,b2⟩:=hcut
   obtain⟨w2,rfl⟩:∃w2:World,w2=wc:=⟨_,rfl⟩
   have Ck:=aa (Ze.out E2 yq (fun t ht=>(aV.cap cD t ht).1) A2 c2 w2 (aV.rd cD))
   have O2:=aa cD
   have B2:=aa b2
   have Pl:=aa yq
   clear cD b2 yq Um Ze
   go_upto_region 6 with (go_at_call 16;(with_reducible refine Ck.out.mono ?_);rintro e w3 ⟨A3,c3,E3,A4,c4,rfl,bF,YN,bE,b3⟩;dsimp only at bF YN bE ⊢)
   have O3:=aa bF
   have O4:=aa bE
   have B3:=aa b3
   have PT:=aa YN
   clear bF bE b3 YN Ck
   have B13:=aa (B1.out.trans ((B2.out.trans (B3.out.mono B2.out.size)).mono B1.out.size))
   have Xb:=aa (Uq.out w3 B13.out)
   unfold Zo at Xb
   dsimp only at Xb
   clear Uq
   go_upto_region 7 with (go_at_call 17;(with_reducible refine Xb.out.mono ?_);rintro e w4 ⟨A5,c5,E5,Ah,ch,rfl,bT,KV,_,b4⟩;dsimp only at bT KV ⊢)
   have O5:=aa bT
   have B4:=aa b4
   have HE5:=aa KV
   clear bT b4 KV Xb
   have aaS:Hid (P.length=E3.length):=aa (by have:=PT.out;rw[←this,List.length_map])
   have WJ:dM E3:=fun t ht=>HsP.out t.1 (by rw[←PT.out];exact List.mem_map_of_mem ht)
   have Ge:=aa (Nt E3 P.length aaS.out (by omega) WJ (aV.cap O3.out) A3 w3.heap.size c3 w4 B4.out.size ((aV.rd O3.out).below B4.out))
   rw[PT.out,←HT.out] at Ge
   go_upto_region 8 with (go_at_call 18;(with_reducible refine Ge.out.mono ?_);rintro e w5 ⟨A6,c6,rfl,dC,b5⟩)
   have O6:=aa dC
   have B5:=aa b5
   clear dC b5 Ge
   obtain⟨o,ho⟩:∃o,o=w5.heap.size:=⟨_,rfl⟩
   have B45:=B5.out
   have B35:=af B4.out B45
   have Zr:=B3.out.trans (B35.mono B3.out.size)
   have B15:=B2.out.trans (Zr.mono B2.out.size)
   have BW5:=aa (B1.out.trans (B15.mono B1.out.size))
   have rI:=aa ((O1.out.rd.below B15).more B15.size)
   have rF:=aa (((aV.rd O2.out).below Zr).more Zr.size)
   have rP:=aa (((aV.rd O3.out).below B35).more B35.size)
   have rH:Hid (Rd w5 w5.heap.size A4 (jH hl)):=aa (((ip O4.out.1).below B35).more B35.size)
   have rK:=aa (((aV.rd O5.out).below B45).more B45.size)
   have rT:=aa O6.out.ints
   have rb:=aa (Ha.out.below (BW5.out.mono hB))
   have hcP:=(bJ O3.out.row).1
   have hcT:=(bJ O6.out).1
   have hcK:=aa (aV.cap O5.out)
   have ac2:Hid (F.length=E2.length):=aa (by have:=Pl.out;rw[←this,List.length_map])
   have SZ:Hid (L.length=E5.length):=aa (by have:=HE5.out;rw[←this,List.length_map])
   have aag:dM E2:=fun t ht=>HsF.out t.1 (by rw[←Pl.out];exact List.mem_map_of_mem ht)
   have NE:∀t∈E5,aH t.1.data∧t.1.data.length≤48000:=fun t ht=>HsL.out t.1 (by rw[←HE5.out];exact List.mem_map_of_mem ht)
   have hBy:=aa fun W (h:Below w5.heap.size w5 W)=>wR E2 F.length ac2.out (by omega) aag A2 w5.heap.size c2 W h.size (rF.out.below h)
   have hGd:=aa fun W (h:Below w5.heap.size w5 W)=>wO E3 P.length aaS.out (by omega) WJ A3 w5.heap.size c3 hcP W h.size (rP.out.below h)
   have hSp:=aa fun W (h:Below w5.heap.size w5 W)=>zf E5 E5.length rfl (by have:=SZ.out;omega) (fun t ht=>by have:=(NE t ht).2;omega) A5 w5.heap.size c5 W h.size (rK.out.below h)
   have SX:=aa fun W (h:Below w5.heap.size w5 W)=>V7 E5 E5.length rfl (by have:=SZ.out;omega) (fun t ht=>⟨(NE t ht).1,by have:=(NE t ht).2;omega⟩) A5 w5.heap.size c5 W h.size (rK.out.below h)
   have hFw:=aa fun W (h:Below w5.heap.size w5 W)=>Tk E5 E5.length rfl (by have:=SZ.out;omega) A1 A5 w5.heap.size I.length c1 c5 (by omega) W h.size (rK.out.below h)
   have hKy:=aa fun W (h:Below w5.heap.size w5 W)=>Ww E5 E5.length rfl (by have:=SZ.out;omega) A1 A5 w5.heap.size I.length c1 c5 (by omega) W h.size (rK.out.below h)
   have hDt:=aa fun W (h:Below w5.heap.size w5 W)=>FK I E5 E5.length I.length rfl rfl (by omega) (by have:=SZ.out;omega) (fun t ht=>⟨(NE t ht).1,by have:=(NE t ht).2;omega⟩) hcK.out A1 A5 w5.heap.size c1 c5 W h.size (rI.out.below h) (rK.out.below h)
   have hSf:=aa fun W (h:Below w5.heap.size w5 W)=>Vv b T n T.length Hn.out.symm rfl Htf.out.2.2 (by omega) (by have:=Htf.out.2.1;omega) hby Htf.out.1 (some ⟨ba,oa,none⟩) A6 B w5.heap.size c c6 hc W (rb.out.below (h.mono (agm hB BW5.out.size))) (rT.out.below h)
   rw[Pl.out,adl.out] at hBy
   rw[PT.out,←HG.out] at hGd
   rw[HE5.out] at hSp SX hFw hKy hDt
   rw[←HS.out] at hSp
   rw[←Hd6.out] at SX
   rw[←Hd7.out] at hFw
   rw[←Hd8.out] at hKy
   rw[←Hd0.out] at hDt
   rw[←Hd9.out] at hSf
   unfold yb at hGd hSp
   unfold dF at hBy
   dsimp only at hBy hGd hSp
   have kJ:B≤o:=by rw[ho];exact agm hB BW5.out.size
   have NB:w.heap.size≤o:=by rw[ho];exact BW5.out.size
   rw[←ho] at rF rP rH rK rT hBy hGd hSp SX hFw hKy hDt hSf
   have HO0:=aa ho
   have M6:=ago w5 (.cells #[.slice none 0 0] 25)
   have F6:Hid (FO (w5.alloc (.cells #[.slice none 0 0] 25)) o 0):=aa ⟨none,0,[],by rw[ho];exact M6,mh.nil _ _⟩
   have B6:Hid (Below o w5 (w5.alloc (.cells #[.slice none 0 0] 25))):=aa (by rw[ho];exact ak (ac w5) _)
   have acb:=aa aag
   have aca:=aa WJ
   clear B45 B35 Zr B15 B4 B5 B3 B2 B13 B1 O1 O2 O3 O4 O5 O6 rI rK hcP hcT hcK M6 aag WJ NE HD adl
   go_upto_region 10 with fail
   rw[←ho]
   obtain⟨w6,lZ⟩:∃w6,w6=w5.alloc (.cells #[.slice none 0 0] 25):=⟨_,rfl⟩
   rw[←lZ] at F6 B6 ⊢
   clear lZ ho
   go_upto_region 11 with (go_at_call 20;(with_reducible refine(hBy.out w6 B6.out).mono ?_);rintro e w7 ⟨A7,c7,rfl,fQ,b7⟩;dsimp only at fQ ⊢)
   have F7:=aa (F6.out.below b7)
   have B7:=aa (nr B6.out F6.out b7)
   have O7:=aa fQ
   clear fQ b7 F6 B6 hBy
   have i7:=bZ (p:=0) (s:=a) (rb.out.below (B7.out.mono kJ)) (by have:=Hn.out;omega)
   rw[Nat.add_zero,List.drop_zero] at i7
   have I7:=aa i7
   have T7:=aa (rT.out.below B7.out)
   have hta:Hid ((b.take a).length=a):=aa (by have:=Hn.out;simp;omega)
   obtain⟨BF,hBF⟩:∃BF,BF=fd F:=⟨_,rfl⟩
   have HBF:=aa hBF
   rw[←hBF] at O7 hbl ⊢
   have af5:(a:Int)≤(c:Int):=by omega
   clear i7 hBF
   go_upto_region 12 with (first
    |(at_builtin;refine jU w7 rfl (.const (.slice none 0 0)) (.tmp 61) rfl w7 none 0 rfl (aq.nil _ _) B _ a c (b.take a) rfl hta.out I7.out (by omega) (ac w7) ?_;intro A8 c8 w8 mj b8)
    |(at_builtin;refine cF _ rfl (.tmp 62) (.tmp 63) rfl w7 A8 a c8 (b.take a) rfl mj _ A7 BF.length c7 BF rfl rfl (O7.out.below b8 (agl _)).ints (by omega) b8 ?_;intro A9 c9 w9 lh b9)
    |(at_builtin;refine cF _ rfl (.tmp 64) (.tmp 65) rfl w7 A9 (a+BF.length) c9 _ rfl lh _ A6 T.length c6 T rfl rfl (T7.out.below (b9.mono (Nat.le_of_lt F7.out.lt))) (by omega) b9 ?_;intro A10 c10 F9 Ci uv))
   have yv:=aa (F7.out.below uv)
   have Pp:=aa (nr B7.out F7.out uv)
   have Ey:Hid (a+BF.length+T.length=wh.length):=aa (by rw[Hwh.out,HBF.out,List.length_append,List.length_append,hta.out])
   have ig:aH wh:=by
    rw[Hwh.out]
    intro x hx
    rcases agC.1 hx with h | h
    ·rcases agC.1 h with h | h
     ·exact hby x (List.mem_of_mem_take h)
     ·exact HbF.out x h
    ·exact Htf.out.1 x h
   have ab4:ag .u8 F9 F9.heap.size A10 wh:=by
    have:=Ci.ints
    rw[HBF.out,←Hwh.out] at this
    exact this
   have YR:=aa (vv b wh n (a+BF.length+T.length) Hn.out.symm Ey.out hby ig (some ⟨ba,oa,none⟩) A10 B F9.heap.size c c10 F9 (rb.out.below (Pp.out.mono kJ)) ab4)
   rw[←Hd1.out] at YR
   clear Ci uv lh b9 mj b8 O7 F7 B7 I7 T7 ab4 ig
   go_upto_region 13 with (first
    |(go_at_call 21;(with_reducible refine YR.out.mono ?_);rintro e u ⟨rfl,hu⟩;have hu2:=hu.symm;clear hu;subst hu2)
    |(go_at_call 19;(with_reducible refine(gT _ _ o 0 (by omega) _ yv.out).mono ?_);rintro e Yg ⟨rfl,Lg,CF⟩))
   have lb1:=uu (!d1)
   obtain⟨k1,jx⟩:∃k,k=0+bN (!d1):=⟨_,rfl⟩
   rw[←jx] at Lg
   have F12:=aa Lg
   have B12:=aa (Pp.out.trans CF)
   have Hk1:=aa jx
   have afF:k1≤1:=by omega
   clear Lg CF jx yv Pp YR lb1
   go_wp2_with fail
   go_loopw [20,75] (fun _ iv wr=>(∃i:Nat,i≤hl.length∧iv= .int .i64 i∧FO wr o (k1+i))∧Below o w5 wr) (fun _ iv _=>hl.length-(intOf iv).toNat)
   case atStart=>exact⟨⟨0,agw _,rfl,F12.out⟩,B12.out⟩
   case round=>
    obtain⟨⟨i,hi,rfl,hF⟩,hb⟩:=hrel
    obtain⟨wo,rfl⟩:∃wo:World,wo=wr:=⟨_,rfl⟩
    have HF:=aa hF
    have HB:=aa hb
    clear hF hb F12 B12
    by_cases hlt:i<hl.length
    ·have nQ:(i:Int)<(hl.length:Int):=by omega
     obtain⟨b9,ae5,rfl,hb9,y0,y1⟩:=WN (rH.out.below HB.out) hlt
     generalize hl[i]=hh at*
     obtain⟨fr,tu⟩:=hh
     dsimp only at*
     go_upto_region 16 with fail
     obtain⟨wb,ig⟩:∃wb,wb=wo.alloc (.cells #[.int .i64 fr,.int .i64 tu] 68):=⟨_,rfl⟩
     have n0:wb.cell? ⟨wo.heap.size,0,none⟩=some (.int .i64 fr):=by rw[ig];exact(agu _ _ _ _ _ _ (ago wo _)).trans rfl
     have HBb:Hid (Below o w5 wb):=aa (by rw[ig];exact nr HB.out HF.out (ak (ac wo) _))
     have HFb:Hid (FO wb o (k1+i)):=aa (by rw[ig];exact HF.out.below (ak (ac wo) _))
     rw[←ig]
     have Sj:=HFb.out.lt
     obtain⟨A8,c8,L8,h1,h2⟩:=HFb.out
     have H1:=aa h1
     have H2:=aa h2
     have k0:=jf h1
     have z0:=agv wb o 0 _ _ h1
     obtain⟨kk,Gm⟩:∃kk,kk=k1+i:=⟨_,rfl⟩
     have Ve:=aa Gm
     have hkb:kk≤300:=by omega
     rw[←Gm] at k0 H1 H2
     clear ig h1 h2 Gm y0 y1 HF
     go_wp2_with (at_builtin;refine TU wb rfl (.tmp 79) (.tmp 83) rfl (o+1) A8 kk c8 L8 rfl H2.out (fr,(3:Int)) _ rfl _ rfl (by omega) (by omega) ?_;intro A9 c9 w9 lh kp9 b9';have M9:=(b9'.block o (by omega)).trans H1.out;have k9:=jf M9;have z9:=agv w9 o 0 _ _ M9)
     have aeA:Below o wb w9:=b9'.mono (by omega)
     refine⟨⟨⟨i+1,by omega,by go_num, ?_⟩, ?_⟩,by simp[intOf];omega⟩
     ·have:=FO.put lh M9
      rw[Ve.out] at this ⊢
      exact this
     ·exact(HBb.out.trans aeA).setCell (p:=⟨o,0,none⟩) (agl _) _
    ·obtain rfl:i=hl.length:=by omega
     have nQ:¬(hl.length:Int)<(hl.length:Int):=by omega
     obtain⟨k2,hk2⟩:∃k,k=k1+hl.length:=⟨_,rfl⟩
     rw[←hk2] at HF
     have Hk2:=aa hk2
     have afE:k2≤252:=by omega
     clear hk2
     go_upto_region 18 with fail
     go_upto_region 19 with (go_at_call 22;(with_reducible refine(hGd.out wo HB.out).mono ?_);rintro e w18 ⟨A18,c18,E18,rfl,aap,aaz,b18⟩;dsimp only at aap aaz ⊢)
     have F18:=aa (HF.out.below b18)
     have B18:=aa (nr HB.out HF.out b18)
     have O18:=aa aap
     have Ya:=aa aaz
     clear aap aaz b18 HF HB hGd
     go_cut [100] (fun _ wx=>FO wx o (k2+bN z4)∧Below o w5 wx)
     case first=>
      by_cases h4:x4=0
      ·subst h4
       have Yy:dM E18:=fun t ht=>Hgs.out t.1 (by rw[←Ya.out];exact List.mem_map_of_mem ht)
       have acu:G1.length=E18.length:=by have:=Ya.out;rw[←this,List.length_map]
       have hsp:=aa (vW E2 E18 F.length G1.length ac2.out acu (by omega) acb.out Yy A2 A18 o w18.heap.size c2 c18 w18 (Nat.le_of_lt F18.out.lt) (agl _) (rF.out.below B18.out) (aV.rd O18.out))
       rw[Pl.out,Ya.out] at hsp
       obtain⟨d4,Xd⟩:∃d,d=decide (F=G1):=⟨_,rfl⟩
       rw[←Xd] at hsp
       have hz:Hid (z4= !d4):=aa (by rw[Hz4.out,Xd];simp)
       clear Yy acu Xd
       go_wp2_with (first
        |(go_at_call 23;(with_reducible refine hsp.out.mono ?_);rintro e w19 ⟨rfl,b19⟩;have f19:=F18.out.below b19;have B19:=nr B18.out F18.out b19)
        |(go_at_call 19;(with_reducible refine(gT _ _ o k2 (by omega) _ f19).mono ?_);rintro e w20 ⟨rfl,f20,b20⟩))
       go_meet
       rw[hz.out]
       exact⟨f20,B19.trans b20⟩
      ·have Gd:(x4 != 0)=true:=bne_iff_ne.2 h4
       have hz:Hid (z4=true):=aa (by rw[Hz4.out,decide_eq_true h4];rfl)
       clear h4
       go_wp2_with (go_at_call 19;(with_reducible refine(gT _ _ o k2 (by omega) _ F18.out).mono ?_);rintro e w20 ⟨rfl,f20,b20⟩)
       go_meet
       rw[hz.out]
       exact⟨f20,B18.out.trans b20⟩
     case rest=>
      obtain⟨f20,b20⟩:=hcut
      obtain⟨w20,rfl⟩:∃w20:World,w20=wc:=⟨_,rfl⟩
      have lb4:=uu z4
      obtain⟨k4,hk4⟩:∃k,k=k2+bN z4:=⟨_,rfl⟩
      rw[←hk4] at f20
      have F20:=aa f20
      have B20:=aa b20
      have Hk4:=aa hk4
      have afD:k4≤253:=by omega
      clear f20 b20 hk4 lb4 F18 B18 O18 Ya
      go_upto_region 21 with (go_at_call 24;(with_reducible refine(hSp.out w20 B20.out).mono ?_);rintro e w21 ⟨A21,c21,E21,rfl,aao,aay,b21⟩;dsimp only at aao aay ⊢)
      have F21:=aa (F20.out.below b21)
      have B21:=aa (nr B20.out F20.out b21)
      have O21:=aa aao
      have X9:=aa aay
      clear aao aay b21 F20 B20 hSp
      go_cut [115] (fun _ wx=>FO wx o (k4+bN z5)∧Below o w5 wx)
      case first=>
       by_cases h5:x5=0
       ·subst h5
        have Yx:dM E21:=fun t ht=>Hss.out t.1 (by rw[←X9.out];exact List.mem_map_of_mem ht)
        have acs:S1.length=E21.length:=by have:=X9.out;rw[←this,List.length_map]
        have hsp:=aa (vW E3 E21 P.length S1.length aaS.out acs (by omega) aca.out Yx A3 A21 o w21.heap.size c3 c21 w21 (Nat.le_of_lt F21.out.lt) (agl _) (rP.out.below B21.out) (aV.rd O21.out))
        rw[PT.out,X9.out] at hsp
        obtain⟨d5,Xc⟩:∃d,d=decide (P=S1):=⟨_,rfl⟩
        rw[←Xc] at hsp
        have hz:Hid (z5= !d5):=aa (by rw[Hz5.out,Xc];simp)
        clear Yx acs Xc
        go_wp2_with (first
         |(go_at_call 23;(with_reducible refine hsp.out.mono ?_);rintro e w22 ⟨rfl,b22⟩;have f22:=F21.out.below b22;have B22:=nr B21.out F21.out b22)
         |(go_at_call 19;(with_reducible refine(gT _ _ o k4 (by omega) _ f22).mono ?_);rintro e w23 ⟨rfl,f23,b23⟩))
        go_meet
        rw[hz.out]
        exact⟨f23,B22.trans b23⟩
       ·have Gd:(x5 != 0)=true:=bne_iff_ne.2 h5
        have hz:Hid (z5=true):=aa (by rw[Hz5.out,decide_eq_true h5];rfl)
        clear h5
        go_wp2_with (go_at_call 19;(with_reducible refine(gT _ _ o k4 (by omega) _ F21.out).mono ?_);rintro e w23 ⟨rfl,f23,b23⟩)
        go_meet
        rw[hz.out]
        exact⟨f23,B21.out.trans b23⟩
      case rest=>
       obtain⟨f23,b23⟩:=hcut
       obtain⟨w23,rfl⟩:∃w23:World,w23=wc:=⟨_,rfl⟩
       have lb5:=uu z5
       obtain⟨k5,qN⟩:∃k,k=k4+bN z5:=⟨_,rfl⟩
       rw[←qN] at f23
       have F23:=aa f23
       have B23:=aa b23
       have Hk5:=aa qN
       have afC:k5≤254:=by omega
       clear f23 b23 qN lb5 F21 B21 O21 X9
       go_upto_region 23 with (first
        |(go_at_call 25;(with_reducible refine(SX.out w23 B23.out).mono ?_);rintro e va ⟨rfl,ba⟩;have fa:=F23.out.below ba;have Ba:=nr B23.out F23.out ba)
        |(go_at_call 19;(with_reducible refine(gT _ _ o k5 (by omega) _ fa).mono ?_);rintro e w24 ⟨rfl,fb,bb⟩))
       have lb:=uu (!d6)
       obtain⟨k6,hk⟩:∃k,k=k5+bN (!d6):=⟨_,rfl⟩
       rw[←hk] at fb
       have F24:=aa fb
       have B24:=aa (Ba.trans bb)
       have Hk6:=aa hk
       have afB:k6≤255:=by omega
       clear fa fb bb hk lb Ba F23 B23 SX
       go_upto_region 24 with (first
        |(go_at_call 26;(with_reducible refine(hFw.out w24 B24.out).mono ?_);rintro e va ⟨rfl,ba⟩;have fa:=F24.out.below ba;have Ba:=nr B24.out F24.out ba)
        |(go_at_call 19;(with_reducible refine(gT _ _ o k6 (by omega) _ fa).mono ?_);rintro e w25 ⟨rfl,fb,bb⟩))
       have lb:=uu (d7)
       obtain⟨k7,hk⟩:∃k,k=k6+bN (d7):=⟨_,rfl⟩
       rw[←hk] at fb
       have F25:=aa fb
       have Zr:=aa (Ba.trans bb)
       have Hk7:=aa hk
       have afA:k7≤256:=by omega
       clear fa fb bb hk lb Ba F24 B24 hFw
       go_upto_region 25 with (first
        |(go_at_call 27;(with_reducible refine(hKy.out w25 Zr.out).mono ?_);rintro e va ⟨rfl,ba⟩;have fa:=F25.out.below ba;have Ba:=nr Zr.out F25.out ba)
        |(go_at_call 19;(with_reducible refine(gT _ _ o k7 (by omega) _ fa).mono ?_);rintro e w26 ⟨rfl,fb,bb⟩))
       have lb:=uu (d8)
       obtain⟨k8,hk⟩:∃k,k=k7+bN (d8):=⟨_,rfl⟩
       rw[←hk] at fb
       have F26:=aa fb
       have B26:=aa (Ba.trans bb)
       have Hk8:=aa hk
       have afz:k8≤257:=by omega
       clear fa fb bb hk lb Ba F25 Zr hKy
       go_upto_region 26 with (first
        |(go_at_call 28;(with_reducible refine(hSf.out w26 B26.out).mono ?_);rintro e u ⟨rfl,hu⟩;have hu2:=hu.symm;clear hu;subst hu2;have fa:=F26.out;have Ba:=B26.out)
        |(go_at_call 19;(with_reducible refine(gT _ _ o k8 (by omega) _ fa).mono ?_);rintro e w27 ⟨rfl,fb,bb⟩))
       have lb:=uu (!d9)
       obtain⟨k9,hk⟩:∃k,k=k8+bN (!d9):=⟨_,rfl⟩
       rw[←hk] at fb
       have F27:=aa fb
       have B27:=aa (Ba.trans bb)
       have Hk9:=aa hk
       have afy:k9≤258:=by omega
       clear fa fb bb hk lb Ba F26 B26 hSf
       go_upto_region 27 with (first
        |(go_at_call 29;(with_reducible refine(hDt.out w27 B27.out).mono ?_);rintro e va ⟨rfl,ba⟩;have fa:=F27.out.below ba;have Ba:=nr B27.out F27.out ba)
        |(go_at_call 19;(with_reducible refine(gT _ _ o k9 (by omega) _ fa).mono ?_);rintro e w28 ⟨rfl,fb,bb⟩))
       have lb:=uu (d0)
       obtain⟨eu,hk⟩:∃k,k=k9+bN (d0):=⟨_,rfl⟩
       rw[←hk] at fb
       have F28:=aa fb
       have B28:=aa (Ba.trans bb)
       have aeH:=aa hk
       have aeY:eu≤259:=by omega
       clear fa fb bb hk lb Ba F27 B27 hDt
       have Sj:=F28.out.lt
       obtain⟨A9,c9,L9,h1,h2⟩:=F28.out
       have k0:=jf h1
       have hRk:Hid (RR=eu):=aa (by
        have:=HR.out;have:=Hk1.out;have:=Hk2.out;have:=Hk4.out;have:=Hk5.out;have:=Hk6.out;have:=Hk7.out;have:=Hk8.out;have:=Hk9.out;have:=aeH.out
        omega)
       clear h1 h2
       go_wp2_with fail
       go_ret
       rw[hRk.out]
       exact⟨A9,c9,rfl,BW5.out.trans (B28.out.mono NB)⟩
theorem I8(b:List Int)(n:Nat)(hn:b.length=n)(hm:n≤3000)(hby:aH b)(A:Option Addr)(B c:Nat)(hc:n≤c)(cK:c≤9223372036854775807)(w:World)(hB:B≤w.heap.size)(ha:ag .u8 w B A b):
 Calls Tryz.prog 5 #[.slice A n c] w fun e w'=>e= .returned (.bool (decide (jS uP b=0)))∧Below w.heap.size w w':=by
 have h:=xQ b n hn hm hby A B c hc cK w hB ha
 generalize jS uP b=N at*
 have H:=aa h
 clear h hn ha
 by_cases h0:N=0
 ·subst h0
  go_enter Tryz.func5,Tryz.ntmps5
  go_wp2_with (go_at_call 6;(with_reducible refine H.out.mono ?_);rintro e w1 ⟨A1,c1,rfl,b1⟩)
  go_ret
  exact⟨rfl,b1⟩
 ·have hb:((N:Int) == 0)=false:=by rw[beq_eq_false_iff_ne];omega
  have hd:Hid (decide (N=0)=false):=aa (decide_eq_false h0)
  clear h0
  go_enter Tryz.func5,Tryz.ntmps5
  go_wp2_with (go_at_call 6;(with_reducible refine H.out.mono ?_);rintro e w1 ⟨A1,c1,rfl,b1⟩)
  go_ret
  rw[hd.out]
  exact⟨rfl,b1⟩
theorem Df:∀(r:List Int) (i acc v s:Nat),aH r→cY r i acc=(v,s,0)→∃m,v=acc+m*2 ^ (7*i)∧i<s∧s-i≤r.length∧r.take (s-i)=j9 m∧(0<i→0<m)
 |[],i,acc,v,s,hb,h=>by
  unfold cY at h
  simp at h
 |c :: r,i,acc,v,s,hb,h=>by
  have hc:=hb c (by simp)
  have hr:aH r:=fun x hx=>hb x (by simp[hx])
  unfold cY at h
  split at h
  ·simp at h
  ·rename_i aW
   split at h
   ·rename_i Xv
    simp only[Prod.mk.injEq,and_true] at h
    obtain⟨h1,h2⟩:=h
    obtain⟨k,rfl⟩:=Int.eq_ofNat_of_zero_le hc.1
    have hk:k<128:=by omega
    have e1:((k:Int)%128).toNat=k:=by omega
    rw[e1] at h1
    refine⟨k,h1.symm,by omega,by simp;omega, ?_,fun hi=>by omega⟩
    rw[show s-i=1 by omega,nH hk]
    rfl
   ·rename_i Xv
    obtain⟨m,h1,h2,h3,h4,h5⟩:=Df r (i+1) _ v s hr h
    obtain⟨k,rfl⟩:=Int.eq_ofNat_of_zero_le hc.1
    have hm:0<m:=h5 (by omega)
    have e1:((k:Int)%128).toNat=k%128:=by omega
    rw[e1] at h1
    refine⟨k%128+128*m, ?_,by omega,by simp;omega, ?_,fun _=>by omega⟩
    ·rw[h1,show 7*(i+1)=7*i+7 by omega,Nat.pow_add,Nat.add_mul]
     have:m*(2 ^ (7*i)*2 ^ 7)=128*m*2 ^ (7*i):=by
      rw[show (2:Nat) ^ 7=128 by rfl,Nat.mul_comm (2 ^ (7*i)) 128,←Nat.mul_assoc,Nat.mul_comm m 128]
     omega
    ·rw[show s-i=(s-(i+1))+1 by omega,List.take_succ_cons,h4,uX (n:=k%128+128*m) (by omega)]
     congr 1
     ·have:(k%128+128*m)%128+128=k:=by omega
      rw[this]
     ·congr 1
      omega
theorem cn{l:List Int}{p:Nat}{x:Int}{most v p':Nat}(h:aG l p x most=(v,p',0)):x=0:=by
 unfold aG at h
 split at h
 ·rename_i h1;simp only[Prod.mk.injEq] at h;exact absurd h.2.2 h1
 ·rename_i h1;exact Decidable.not_not.1 h1
theorem cS{l:List Int}{p:Nat}{x:Int}{most v p':Nat}(hb:aH l)(hp:p≤l.length)(h:aG l p x most=(v,p',0)):p'≤l.length∧l.take p'=l.take p++j9 v:=by
 have hx:=cn h
 subst hx
 have hle:=dP (l:=l) 0 most hp
 rw[h] at hle
 unfold aG at h
 rw[if_neg (by simp)] at h
 split at h
 ·rename_i h1;simp only[Prod.mk.injEq] at h;exact absurd h.2.2 h1
 ·rename_i h1
  split at h
  ·simp at h
  ·simp only[Prod.mk.injEq,and_true] at h
   obtain⟨h2,h3⟩:=h
   have h0:(cY (l.drop p) 0 0).2.2=0:=Decidable.not_not.1 h1
   obtain⟨m,e1,e2,e3,e4,_⟩:=Df (l.drop p) 0 0 (cY (l.drop p) 0 0).1 (cY (l.drop p) 0 0).2.1 (hb.drop p) (by rw[←h0])
   rw[Nat.sub_zero] at e4
   rw[Nat.mul_zero,Nat.pow_zero,Nat.mul_one,Nat.zero_add,h2] at e1
   refine⟨hle, ?_⟩
   rw[←h3,List.take_add,e4,e1]
theorem Rz{l:List Int}{p:Nat}{x:Int}{i:eC}{p':Nat}(hb:aH l)(hp:p≤l.length)(h:pJ l p x=(i,p',0)):x=0∧p'≤l.length∧l.take p'=l.take p++kw i:=by
 unfold pJ at h
 dsimp only at h
 rcases hA:aG l p x 2 with ⟨va,pa,xa⟩
 rw[hA] at h
 dsimp only at h
 rcases hB:aG l pa xa 1048576 with ⟨vb,pb,xb⟩
 rw[hB] at h
 dsimp only at h
 rcases hC:aG l pb xb 1048576 with ⟨vc,pc,xc⟩
 rw[hC] at h
 dsimp only at h
 split at h
 ·rename_i h1
  rcases hD:aG l pc xc 1048576 with ⟨vd,pd,xd⟩
  rw[hD] at h
  dsimp only at h
  rcases hE:aG l pd xd 8 with ⟨ve,pe,xe⟩
  rw[hE] at h
  dsimp only at h
  rcases hF:aG l pe xe 24 with ⟨vf,pf,xf⟩
  rw[hF] at h
  simp only[Prod.mk.injEq] at h
  obtain⟨hi,rfl,rfl⟩:=h
  have e5:=cn hF
  subst e5
  have e4:=cn hE
  subst e4
  have e3:=cn hD
  subst e3
  have e2:=cn hC
  subst e2
  have e1:=cn hB
  subst e1
  have e0:=cn hA
  obtain⟨l1,t1⟩:=cS hb hp hA
  obtain⟨l2,t2⟩:=cS hb l1 hB
  obtain⟨l3,t3⟩:=cS hb l2 hC
  obtain⟨l4,t4⟩:=cS hb l3 hD
  obtain⟨l5,t5⟩:=cS hb l4 hE
  obtain⟨l6,t6⟩:=cS hb l5 hF
  refine⟨e0,l6, ?_⟩
  rw[t6,t5,t4,t3,t2,t1,←hi]
  unfold kw
  dsimp only
  rw[if_pos h1]
  simp[bU]
 ·rename_i h1
  rcases hD:aG l pc xc 64 with ⟨vd,pd,xd⟩
  rw[hD] at h
  dsimp only at h
  rcases hE:aG l pd xd 64 with ⟨ve,pe,xe⟩
  rw[hE] at h
  dsimp only at h
  rcases hF:aG l pe xe 16 with ⟨vf,pf,xf⟩
  rw[hF] at h
  dsimp only at h
  rcases hG:aG l pf xf 4 with ⟨vg,pg,xg⟩
  rw[hG] at h
  simp only[Prod.mk.injEq] at h
  obtain⟨hi,rfl,rfl⟩:=h
  have e6:=cn hG
  subst e6
  have e5:=cn hF
  subst e5
  have e4:=cn hE
  subst e4
  have e3:=cn hD
  subst e3
  have e2:=cn hC
  subst e2
  have e1:=cn hB
  subst e1
  have e0:=cn hA
  obtain⟨l1,t1⟩:=cS hb hp hA
  obtain⟨l2,t2⟩:=cS hb l1 hB
  obtain⟨l3,t3⟩:=cS hb l2 hC
  obtain⟨l4,t4⟩:=cS hb l3 hD
  obtain⟨l5,t5⟩:=cS hb l4 hE
  obtain⟨l6,t6⟩:=cS hb l5 hF
  obtain⟨l7,t7⟩:=cS hb l6 hG
  refine⟨e0,l7, ?_⟩
  rw[t7,t6,t5,t4,t3,t2,t1,←hi]
  unfold kw
  dsimp only
  rw[if_neg h1]
  simp[bU]
theorem zZ{l:List Int}(hb:aH l):∀(k p:Nat) (x:Int) (L:List eC) (p':Nat),p≤l.length→fP l k p x=(L,p',0)→x=0∧p'≤l.length∧l.take p'=l.take p++L.flatMap kw
 |0,p,x,L,p',hp,h=>by
  unfold fP at h
  simp only[Prod.mk.injEq] at h
  obtain⟨rfl,rfl,rfl⟩:=h
  exact⟨rfl,hp,by simp⟩
 |k+1,p,x,L,p',hp,h=>by
  unfold fP at h
  dsimp only at h
  rcases hA:pJ l p x with ⟨i,pa,xa⟩
  rw[hA] at h
  dsimp only at h
  rcases hR:fP l k pa xa with ⟨M,pr,xr⟩
  rw[hR] at h
  simp only[Prod.mk.injEq] at h
  obtain⟨rfl,rfl,rfl⟩:=h
  have tZ:pa≤l.length:=by
   have:=KM (l:=l) x hp
   rw[hA] at this
   exact this
  obtain⟨e1,e2,e3⟩:=zZ hb k pa xa M pr tZ hR
  subst e1
  obtain⟨f1,f2,f3⟩:=Rz hb hp hA
  refine⟨f1,e2, ?_⟩
  rw[e3,f3]
  simp
theorem OE{a b c d:Int}(h:aH [a,b,c,d]):bM (df [a,b,c,d]) 4=[a,b,c,d]:=by
 have ha:=h a (by simp)
 have hb:=h b (by simp)
 have hc:=h c (by simp)
 have hd:=h d (by simp)
 obtain⟨a,rfl⟩:=Int.eq_ofNat_of_zero_le ha.1
 obtain⟨b,rfl⟩:=Int.eq_ofNat_of_zero_le hb.1
 obtain⟨c,rfl⟩:=Int.eq_ofNat_of_zero_le hc.1
 obtain⟨d,rfl⟩:=Int.eq_ofNat_of_zero_le hd.1
 have e:df [(a:Int),(b:Int),(c:Int),(d:Int)]=((a*256+b)*256+c)*256+d:=by
  simp[df]
 rw[e]
 simp only[bM,gy,List.nil_append,List.cons_append,List.reverse_cons,List.reverse_nil]
 have q0:(((a*256+b)*256+c)*256+d)/256 ^ 0%256=d:=by omega
 have q1:(((a*256+b)*256+c)*256+d)/256 ^ 1%256=c:=by omega
 have q2:(((a*256+b)*256+c)*256+d)/256 ^ 2%256=b:=by omega
 have q3:(((a*256+b)*256+c)*256+d)/256 ^ 3%256=a:=by omega
 rw[q0,q1,q2,q3]
theorem Xz{l:List Int}(h:l.length=4)(hb:aH l):bM (df l) 4=l:=by
 match l,h,hb with
 |[a,b,c,d],_,hb=>exact OE hb
theorem NT{l:List Int}{I:List eC}{n:Nat}(hb:aH l)(h:dh l=(I,(n:Int),0)):n≤l.length∧l.take n=mU I∧1≤I.length∧(∀i∈I,jw i=true):=by
 unfold dh at h
 split at h
 ·simp at h
 ·rename_i h6
  split at h
  ·simp at h
  ·rename_i hk
   dsimp only at h
   rcases hA:aG l 6 0 4 with ⟨k,p,x⟩
   rw[hA] at h
   dsimp only at h
   have hpl:p≤l.length:=by
    have:=dP (l:=l) (p:=6) 0 4 (by omega)
    rw[hA] at this
    exact this
   rcases hR:fP l k p x with ⟨M,pr,xr⟩
   rw[hR] at h
   dsimp only at h
   split at h
   ·rename_i hx;simp only[Prod.mk.injEq] at h;exact absurd h.2.2 hx
   ·rename_i hx
    have hx0:xr=0:=Decidable.not_not.1 hx
    subst hx0
    split at h
    ·simp at h
    ·rename_i hk0
     split at h
     ·simp at h
     ·rename_i Ju
      split at h
      ·simp at h
      ·rename_i h4
       split at h
       ·simp at h
       ·rename_i mW
        simp only[Prod.mk.injEq] at h
        obtain⟨rfl,hn,_⟩:=h
        have NL:n=pr+4:=by omega
        obtain⟨e1,e2,e3⟩:=zZ hb k p x M pr hpl hR
        subst e1
        obtain⟨f1,f2⟩:=cS hb (by omega) hA
        have Xq:M.length=k:=by
         have:=sK (l:=l) k p 0
         rw[hR] at this
         exact this
        have xw:l.take 6=[75,73,78,79,82,65]:=Decidable.not_not.1 hk
        have Xe:df ((l.drop pr).take 4)=(fC (l.take pr)).toNat:=Decidable.not_not.1 mW
        have NI:l.take pr=lV M:=by
         rw[e3,f2,xw]
         unfold lV
         rw[Xq]
         simp[bU]
        refine⟨by omega, ?_,by omega,fun i hi=> ?_⟩
        ·rw[NL,List.take_add,NI]
         unfold mU
         rw[←NI,←Xe,Xz (by simp;omega) (fun y hy=>hb y (List.mem_of_mem_drop (List.mem_of_mem_take hy)))]
        ·have:=Ju
         simp only[Bool.not_eq_true,List.any_eq_false] at this
         have:=this i hi
         simpa using this
theorem QW(P:List Pg):∀k,om (Gt P k)=om (P.take (8*k))
 |0=>by simp[Gt,om]
 |k+1=>by
  have ih:=QW P k
  have hg:ia (jo (lj P k) (wJ P (8*k)).seq)=none:=by
   unfold ia
   exact if_pos (Or.inr (Or.inl rfl))
  unfold om at ih ⊢
  rw[EW,List.filterMap_append,List.filterMap_append,ih,show 8*(k+1)=8*k+8 by omega,List.take_add,List.filterMap_append]
  rw[List.filterMap_cons_none hg]
  simp[lj]
theorem Jw{P F:List Pg}(h:cz P=(F,0)):om F=om P:=by
 unfold cz at h
 split at h
 ·simp only[Prod.mk.injEq,and_true] at h
  rw[←h,QW,List.take_of_length_le (by omega)]
 ·simp at h
theorem Qd{P F:List Pg}(h:cz P=(F,0)):dy F=dy P:=by
 unfold dy
 rw[Jw h]
theorem rh(k:Nat)(L:List Pk):(cV k L).length=k:=by simp[cV]
theorem Od{k:Nat}{L:List Pk}(h:fX k L=false):∀p∈L,0≤p.stream∧p.stream<(k:Int):=fun p hp=>by
 unfold fX at h
 rw[List.any_eq_false] at h
 have:=h p hp
 simp only[decide_eq_true_eq] at this
 omega
theorem Dl{k s:Nat}{L:List Pk}(h:fX k L=false)(hs:k≤s):(L.filter fun p=>decide (p.stream=(s:Int)))=[]:=by
 rw[List.filter_eq_nil_iff]
 intro p hp
 have:=Od h p hp
 simp only[decide_eq_true_eq]
 omega
theorem ri{k:Nat}{L:List Pk}(h:fX k L=false):∀j,cV (k+j) L=cV k L++List.replicate j []
 |0=>by simp
 |j+1=>by
  have ih:=ri h j
  unfold cV at ih ⊢
  rw[show k+(j+1)=(k+j)+1 by omega,List.range_succ,List.map_append,ih,List.map_singleton,Dl h (by omega),List.replicate_succ',List.append_assoc]
theorem Ld{A C:List (List Pk)}{s:Nat}(h:s<A.length):(A++C).getD s []=A.getD s []:=by
 simp only[List.getD_eq_getElem?_getD,List.getElem?_append_left h]
theorem Tj{A:List (List Pk)}{j s:Nat}(h:A.length≤s):(A++List.replicate j ([]:List Pk)).getD s []=[]:=by
 simp only[List.getD_eq_getElem?_getD,List.getElem?_append_right h,List.getElem?_replicate]
 split <;> rfl
theorem IV(A:List (List Pk))(j:Nat):ji (A++List.replicate j [])=ji A:=by
 unfold ji
 rw[Bool.eq_iff_iff,List.any_eq_true,List.any_eq_true]
 constructor
 ·rintro ⟨s,hs,h⟩
  by_cases hsA:s<A.length
  ·refine⟨s,List.mem_range.2 hsA, ?_⟩
   rw[Ld hsA] at h
   exact h
  ·rw[Tj (by omega)] at h
   simp at h
 ·rintro ⟨s,hs,h⟩
  have hsA:=List.mem_range.1 hs
  refine⟨s,List.mem_range.2 (by rw[List.length_append];omega), ?_⟩
  rw[Ld hsA]
  exact h
theorem Tu:qY []=false:=by simp[qY]
theorem T5(A:List (List Pk))(j:Nat)(h1:1≤A.length)(h4:A.length+j≤4):nu (A++List.replicate j [])=nu A:=by
 unfold nu
 have e1:(A++List.replicate j ([]:List Pk)).any qY=A.any qY:=by
  rw[List.any_append]
  have:(List.replicate j ([]:List Pk)).any qY=false:=by
   rw[List.any_eq_false]
   intro x hx
   rw[List.eq_of_mem_replicate hx,Tu]
   simp
  rw[this,Bool.or_false]
 have e2:(A++List.replicate j ([]:List Pk)).flatten=A.flatten:=by
  rw[List.flatten_append]
  have:(List.replicate j ([]:List Pk)).flatten=[]:=by
   rw[List.flatten_eq_nil_iff]
   intro x hx
   exact List.eq_of_mem_replicate hx
  rw[this,List.append_nil]
 rw[IV,e1,e2,List.length_append,List.length_replicate,if_neg (show ¬(A.length+j<1∨4<A.length+j)by omega),if_neg (show ¬(A.length<1∨4<A.length)by omega)]
theorem CI{k:Nat}{L:List Pk}(jx:1≤k)(hk4:k≤4)(ho:yB L=true)(hf:fX k L=false):nu (cV k L)=(L,0):=by
 unfold yB at ho
 rw[Bool.and_eq_true,Bool.and_eq_true,decide_eq_true_eq,decide_eq_true_eq] at ho
 obtain⟨_,h2,h3⟩:=ho
 have e:=ri hf (4-k)
 rw[show k+(4-k)=4 by omega] at e
 rw[e,T5 _ _ (by rw[rh];exact jx) (by rw[rh];omega)] at h2 h3
 exact Prod.ext h3 h2
end
end Go.Proofs.YtbhfpehgacaidaaGreatDoor
