/- A part of the proof of the given statement TopRight. Conditions: none. -/
import Derived.Test.YtbhfpehgacaidaaGreatDoorQAM
import Derived.Test.YtbhfpehgacaidaaGreatDoorQAQ
namespace Go.Proofs.YtbhfpehgacaidaaGreatDoor
set_option linter.unusedVariables false
set_option linter.unusedSimpArgs false
set_option maxRecDepth 100000
set_option maxHeartbeats 8000000
section
open Go.RowKit
theorem kC{w:World}{B:Nat}{A:Option Addr}{l:List Int}{n c:Nat}(hn:n=l.length)(h:ag .u8 w B A l):
 (convert 22 9 (.slice A n c)).run Tryz.prog w= .ok (.string (strOfNums l)) w:=by
 subst hn
 by_cases h0:0<l.length
 ·obtain⟨b,off,rfl,_,hc⟩:=h.lt h0
  exact run_convert_bytes_arg w _ _ Tryz.underlying22 Tryz.underlying5 b off l.length c l rfl (fun i hi=>hc i hi) _ Tryz.underlying9
 ·have e:l=[]:=List.eq_nil_of_length_eq_zero (by omega)
  subst e
  cases A with
  |none=>exact run_convert_bytes_nil w _ _ Tryz.underlying22 Tryz.underlying5 0 c _ Tryz.underlying9
  |some a=>
   rw[run_convert_bytes_string w _ _ _ (some a) _ c Tryz.underlying22 Tryz.underlying5 Tryz.underlying9]
   exact run_bytesToString w a 0 c [] (by simp[loadCells,loadCellsFrom,Sem.run_pure])
def FX(r:List eC×Int×Int)(w:World)(e:Ending)(w':World):Prop:=
 ∃A c,e= .returned (.tuple #[.slice A r.1.length c,.int .i64 r.2.1,.int .i64 r.2.2])∧ij w' w.heap.size A r.1.length c r.1∧Below w.heap.size w w'
theorem jm{x:Int}{w w':World}(h:Below w.heap.size w w'):FX ([],0,x) w (.returned (.tuple #[.slice none 0 0,.int .i64 0,.int .i64 x])) w':=⟨none,0,rfl,ij.nil _ _,h⟩
def EM(l:List Int)(k:Nat)(r:List eC×Nat×Int):List eC×Int×Int:=
 if r.2.2≠0 then([],0,r.2.2)
 else if k=0 then([],0,2)
 else if r.1.any (fun i=> !jw i)then([],0,2)
 else if l.length-r.2.1<4 then([],0,3)
 else if df ((l.drop r.2.1).take 4)≠(fC (l.take r.2.1)).toNat then([],0,5)
 else(r.1,(r.2.1+4:Nat),0)
theorem KM{l:List Int}{p:Nat}(x:Int)(h:p≤l.length):(pJ l p x).2.1≤l.length:=by
 have h1:=dP x 2 h
 have h2:=dP (aG l p x 2).2.2 1048576 h1
 have h3:=dP (aG l (aG l p x 2).2.1 (aG l p x 2).2.2 1048576).2.2 1048576 h2
 unfold pJ
 dsimp only
 split
 ·exact dP _ _ (dP _ _ (dP _ _ h3))
 ·exact dP _ _ (dP _ _ (dP _ _ (dP _ _ h3)))
theorem xh{w:World}{B:Nat}{A:Option Addr}{L:List eC}(h:Rd w B A (ew L)){i:Nat}(hi:i<L.length):
 ∃b off,A=some ⟨b,off,none⟩∧b<B∧w.cell? ⟨b,off+i*10,none⟩=some (.int .i64 L[i].kd)∧w.cell? ⟨b,off+i*10+1,none⟩=some (.int .i64 L[i].rn)∧w.cell? ⟨b,off+i*10+2,none⟩=some (.int .i64 L[i].rd)∧w.cell? ⟨b,off+i*10+3,none⟩=some (.int .i64 L[i].fr)∧w.cell? ⟨b,off+i*10+4,none⟩=some (.int .i64 L[i].fc)∧w.cell? ⟨b,off+i*10+5,none⟩=some (.int .i64 L[i].fb)∧w.cell? ⟨b,off+i*10+6,none⟩=some (.int .i64 L[i].s1)∧w.cell? ⟨b,off+i*10+7,none⟩=some (.int .i64 L[i].s2)∧w.cell? ⟨b,off+i*10+8,none⟩=some (.int .i64 L[i].s3)∧w.cell? ⟨b,off+i*10+9,none⟩=some (.int .i64 L[i].s4):=by
 have hp:0<(ew L).length:=by rw[AK];omega
 obtain⟨b,off,e,hb,hc⟩:=h hp
 have hg:=fun (t:Nat) (ht:t<10) (v:Value) (hv:(dT L[i]).toList[t]? =some v)=>hc (i*10+t) v (by rw[Oh L i t hi ht];exact hv)
 exact⟨b,off,e,hb,hg 0 (by omega) _ rfl,hg 1 (by omega) _ rfl,hg 2 (by omega) _ rfl,hg 3 (by omega) _ rfl,hg 4 (by omega) _ rfl,hg 5 (by omega) _ rfl,hg 6 (by omega) _ rfl,hg 7 (by omega) _ rfl,hg 8 (by omega) _ rfl,hg 9 (by omega) _ rfl⟩
theorem Wv {L : List Int} (h : aH L) : (strOfNums L = (⟨#[75, 73, 78, 79, 82, 65]⟩ : ByteArray)) ↔ L = [75, 73, 78, 79, 82, 65] := by
  constructor
  · intro e
    have h1 : L.map (fun n => UInt8.ofNat n.toNat) = [75, 73, 78, 79, 82, 65] := by
      rw [← strOfNums_data, e]
    have h2 : L.map (fun n => ((UInt8.ofNat n.toNat).toNat : Int)) = [75, 73, 78, 79, 82, 65] := by
      have := congrArg (List.map (fun u : UInt8 => (u.toNat : Int))) h1
      rw [List.map_map] at this
      exact this
    rw [← h2]
    symm
    calc L.map (fun n => ((UInt8.ofNat n.toNat).toNat : Int)) = L.map id := List.map_congr_left fun x hx => by
          have hb := h x hx
          simp only [UInt8.toNat_ofNat', id]
          omega
      _ = L := List.map_id L
  · rintro rfl
    decide +kernel
theorem xB(l:List Int)(n:Nat)(hn:l.length=n)(hm:n≤3000)(hby:aH l)(A:Option Addr)(B c:Nat)(hc:n≤c)(cK:c≤9223372036854775807)(w:World)(hB:B≤w.heap.size)(ha:ag .u8 w B A l):
 Calls Tryz.prog 14 #[.slice A n c] w (FX (dh l) w):=by
 obtain⟨RR,cN⟩:∃RR,RR=dh l:=⟨_,rfl⟩
 rw[←cN]
 unfold dh at cN
 by_cases h6:n<6
 ·rw[if_pos (by omega)] at cN
  have HR:=aa cN
  clear cN
  have h6i:(n:Int)<6:=by omega
  go_enter Tryz.func14,Tryz.ntmps14
  go_wp2_with fail
  go_ret3
  rw[HR.out]
  exact jm (ac w)
 ·rw[if_neg (by omega)] at cN
  have h6i:¬(n:Int)<6:=by omega
  obtain⟨ba,oa,rfl,xF,_⟩:=ha.lt (by omega)
  have h6c:6≤c:=by omega
  have cv:=kC (n:=6) (c:=c) (A:=some ⟨ba,oa,none⟩) (l:=l.take 6) (by simp;omega) (by
   have:=bZ (p:=0) (s:=6) ha (by omega)
   simpa using this)
  have hst:(strOfNums (l.take 6)=(⟨#[75,73,78,79,82,65]⟩:ByteArray))↔l.take 6=[75,73,78,79,82,65]:=Wv (eZ hby 6)
  generalize strOfNums (l.take 6)=S at cv hst
  have Ha:=aa ha
  have Cv:=aa cv
  by_cases hk:l.take 6=[75,73,78,79,82,65]
  ·rw[if_neg (by simpa using hk)] at cN
   have hS:=hst.2 hk
   subst hS
   have HR:=aa cN
   clear cN hst hk ha
   go_enter Tryz.func14,Tryz.ntmps14
   have WR:=fun W=>gD l n hn (by omega) (some ⟨ba,oa,none⟩) B c W
   have adn:=aa WR
   clear WR
   go_upto_region 6 with (go_at_call 49;(with_reducible refine(adn.out _ Ha.out).mono ?_);rintro e w1 ⟨g,rfl,hg1,cM,b1⟩)
   have qc:Calls Tryz.prog 50 #[.pointer (some ⟨g,0,none⟩),.int .i64 6] w1 (rB l 0 0 6 g w1):=Dj l (by omega) 0 (agw _) 0 6 (by omega) (by omega) g w1 cM
   unfold rB at qc
   rw[show lF l 0 0 6=6 by unfold lF;rw[if_neg (by simp),if_neg (by omega)],show lG l 0 0 6=0 by unfold lG;rw[if_neg (by simp),if_neg (by omega)]] at qc
   have Htk:=aa qc
   have B1:=aa b1
   clear qc cM b1 adn
   go_upto_region 7 with (go_at_call 50;(with_reducible refine Htk.out.mono ?_);rintro e w2 ⟨A2,c2,rfl,_,cD,k2⟩)
   have B2:Hid (Below w.heap.size w w2):=aa (B1.out.trans (k2.below (fun q e=>by rw[e];exact hg1) B1.out.size))
   clear k2 Htk B1
   obtain⟨k,p,x,ek,hkm,hpl,ack⟩:=wM l (by omega) hby 6 (by omega) 0 4 4 rfl g w2 cD
   have hr:RR=EM l k (fP l k p x):=by
    rw[HR.out]
    show EM l (aG l 6 0 4).1 (fP l (aG l 6 0 4).1 (aG l 6 0 4).2.1 (aG l 6 0 4).2.2)=_
    rw[ek]
   have lX:=aa hr
   have adm:=aa ack
   clear hr ack ek HR
   go_wp2_with (go_at_call 51;(with_reducible refine adm.out.mono ?_);rintro e w3 ⟨rfl,bF,k3⟩)
   have B3:Hid (Below w.heap.size w w3):=aa (B2.out.trans (k3.below (fun q e=>by rw[e];exact hg1) B2.out.size))
   have UW:=bF.lt
   clear k3 adm B2 cD cv
   go_loopw [6,7] (fun ov nv wr=>∃(j:Nat) (p':Nat) (x':Int) (A':Option Addr) (c':Nat) (L:List eC),j≤k∧nv= .int .u64 ((k-j:Nat):Int)∧ov= .slice A' j c'∧ij wr (g+1) A' j c' L∧cG wr g l p' x'∧p'≤l.length∧fP l k p x=(L++(fP l (k-j) p' x').1,(fP l (k-j) p' x').2)∧Below w.heap.size w wr) (fun _ nv _=>(intOf nv).toNat)
   case atStart=>exact⟨0,p,x,none,0,[],agw _,rfl,rfl,ij.nil _ _,bF,hpl,rfl,B3.out⟩
   case round=>
    obtain⟨j,p',x',A',c',L,hj,rfl,rfl,hO,ho,hp',hR,hb⟩:=hrel
    have HO:=aa hO
    have Hb:=aa hb
    have Ho:=aa ho
    have Pf:=aa hR
    clear hO hb ho hR
    by_cases hlt:j<k
    ·obtain⟨m,xu⟩:∃m,k-j=m+1:=⟨k-j-1,by omega⟩
     rw[xu] at Pf ⊢
     have lT:k-(j+1)=m:=by omega
     have hI:((m+1:Nat):Int) > 0:=by omega
     have u1:=agq (((m+1:Nat):Int)-1) (by omega)
     have hle:=KM x' hp'
     have hst:fP l (m+1) p' x'=((pJ l p' x').1 :: (fP l m (pJ l p' x').2.1 (pJ l p' x').2.2).1,(fP l m (pJ l p' x').2.1 (pJ l p' x').2.2).2):=rfl
     have dp:=Rx l (by omega) hby p' hp' x' g wr Ho.out
     generalize pJ l p' x'=R at*
     obtain⟨⟨i0,i1,i2,i3,i4,i5,i6,i7,i8,i9⟩,p2,x2⟩:=R
     unfold Ul ku at dp
     dsimp only at dp hst hle
     have FU:=aa dp
     have fG:=aa hst
     clear dp hst
     have aea:w.heap.size≤g+1:=by omega
     go_wp2_with (first
      |(go_at_call 52;(with_reducible refine FU.out.mono ?_);rintro e w4 ⟨rfl,bE,k4⟩;have O4:=HO.out.kept (fun q hq=>k4.block q (HO.out.lt hq).2 (fun e=>by have:=(HO.out.lt hq).1;omega)))
      |(at_builtin;refine aa9 w4 rfl (.tmp 29) (.tmp 32) rfl (g+1) A' j c' L rfl O4 ⟨i0,i1,i2,i3,i4,i5,i6,i7,i8,i9⟩ _ rfl _ rfl (by omega) (by have:=bE.lt;omega) ?_;intro A6 c6 w6 dC kp6 b6))
     refine⟨⟨j+1,p2,x2,A6,c6,L++[⟨i0,i1,i2,i3,i4,i5,i6,i7,i8,i9⟩],by omega,by rw[lT],rfl,dC,bE.keep fun q hq=>b6.block q (by omega),hle,by rw[lT,Pf.out,fG.out];simp,(Hb.out.trans (k4.below (fun q e=>by rw[e];exact hg1) Hb.out.size)).trans (b6.mono aea)⟩,by simp only[intOf];omega⟩
    ·obtain rfl:j=k:=by omega
     rw[Nat.sub_self] at Pf ⊢
     have hI:¬((0:Nat):Int) > 0:=by omega
     have iu:fP l j p x=(L,p',x'):=by
      rw[Pf.out]
      simp[fP]
     have hr:=lX.out
     rw[iu] at hr
     have mo:=aa hr
     have hLk:L.length=j:=HO.out.2
     have F2:=aa hLk
     clear iu hr lX Pf hLk
     have her:=pG l p' x' g wr Ho.out
     have Ur:=aa her
     clear her
     by_cases hx:x'=0
     ·subst hx
      by_cases Ji:j=0
      ·have hr2:=mo.out
       unfold EM at hr2
       rw[if_neg (by simp),if_pos Ji] at hr2
       have yf:=aa hr2
       have hji:(j:Int)=0:=by omega
       clear hr2 mo
       go_wp2_with (go_at_call 53;(with_reducible refine Ur.out.mono ?_);rintro e w' ⟨rfl,rfl⟩)
       go_ret3
       rw[yf.out]
       exact jm Hb.out
      ·have hr2:=mo.out
       unfold EM at hr2
       rw[if_neg (by simp),if_neg Ji] at hr2
       have yf:=aa hr2
       have hji:((j:Int) == 0)=false:=by rw[beq_eq_false_iff_ne];omega
       clear hr2 mo
       go_upto_region 17 with (go_at_call 53;(with_reducible refine Ur.out.mono ?_);rintro e w' ⟨rfl,rfl⟩)
       obtain⟨wq,rfl⟩:∃wq:World,wq=w':=⟨_,rfl⟩
       go_wp2_with fail
       go_loopw [2,3,4,10,44] (fun _ _ _ bv iv wr=>∃i:Nat,i≤j∧iv= .int .i64 i∧(∀t (h:t<L.length),t<i→jw L[t]=true)∧Below wq.heap.size wq wr) (fun _ _ _ _ iv _=>j-(intOf iv).toNat)
       case atStart=>exact⟨0,agw _,rfl,fun t _ h=>absurd h (Nat.not_lt_zero _),ac wq⟩
       case round=>
        obtain⟨i,hi,rfl,hall,hb2⟩:=hrel
        obtain⟨wo,rfl⟩:∃wo:World,wo=wr:=⟨_,rfl⟩
        have uR:=aa hall
        have Pe:=aa hb2
        clear hall hb2
        by_cases hlt:i<j
        ·have ES:(i:Int)<(j:Int):=by omega
         have CT:i<L.length:=by have:=F2.out;omega
         have kx:=(HO.out.below Pe.out (agl _)).rd
         obtain⟨b,off,rfl,sQ,x0,x1,x2,x3,x4,x5,x6,x7,x8,x9⟩:=xh kx CT
         have bK:=xN L[i]
         have Ju:jw L[i]=false→(L.any fun i=> !jw i)=true:=fun e=>List.any_eq_true.2 ⟨L[i],agt CT,by rw[e];rfl⟩
         have ue:jw L[i]=true→∀t (h:t<L.length),t<i+1→jw L[t]=true:=fun e t h ht=>by
          by_cases h2:t=i
          ·subst h2;exact e
          ·exact uR.out t h (by omega)
         generalize L[i]=I at*
         generalize jw I=ib at*
         obtain⟨i0,i1,i2,i3,i4,i5,i6,i7,i8,i9⟩:=I
         unfold ku at bK
         dsimp only at*
         have Pc:=aa bK
         have FT:=aa ue
         have J8:=aa Ju
         clear bK ue Ju kx
         cases ib with
         |false=>
          have hr3:=yf.out
          rw[if_pos (J8.out rfl)] at hr3
          have C7:=aa hr3
          clear hr3 yf
          go_wp2_with (go_at_call 32;(with_reducible refine(Pc.out _).mono ?_);rintro e w4 ⟨rfl,b4⟩)
          go_ret3
          rw[C7.out]
          exact jm (Hb.out.trans ((af (ak Pe.out _) b4).mono Hb.out.size))
         |true=>
          go_wp2_with (go_at_call 32;(with_reducible refine(Pc.out _).mono ?_);rintro e w4 ⟨rfl,b4⟩)
          exact⟨⟨i+1,by omega,by go_num,FT.out trivial,af (ak Pe.out _) b4⟩,by simp[intOf];omega⟩
        ·obtain rfl:i=j:=by omega
         have ES:¬(i:Int)<(i:Int):=by omega
         have Ju:(L.any fun i=> !jw i)=false:=by
          rw[List.any_eq_false]
          intro x hx
          obtain⟨t,ht,rfl⟩:=List.getElem_of_mem hx
          rw[uR.out t ht (by have:=F2.out;omega)]
          simp
         have hr3:=yf.out
         rw[if_neg (by rw[Ju];simp)] at hr3
         have bT:cG wo g l p' 0:=Ho.out.keep fun q hq=>Pe.out.block q (Nat.lt_of_le_of_lt hq Ho.out.lt)
         have UY:=HO.out.below Pe.out (agl _)
         have hB5:=Hb.out.trans (Pe.out.mono Hb.out.size)
         have UV:=gZ l p' 0 g wo bT (by omega) (by omega)
         have Ho5:=aa bT
         have Uy:=aa UY
         have vx:=aa hB5
         have Vd:=aa UV
         clear Ju bT UY hB5 UV uR Pe yf HO Ho Hb Ur
         by_cases h4:l.length-p'<4
         ·rw[if_pos h4] at hr3
          have C7:=aa hr3
          have h4i:(l.length:Int)-(p':Int)<4:=by omega
          clear hr3
          go_wp2_with (go_at_call 54;(with_reducible refine Vd.out.mono ?_);rintro e w' ⟨rfl,q,rfl⟩)
          go_ret3
          rw[C7.out]
          exact jm (below_drewN vx.out _)
         ·rw[if_neg h4] at hr3
          have h4i:¬(l.length:Int)-(p':Int)<4:=by omega
          go_upto_region 25 with (go_at_call 54;(with_reducible refine Vd.out.mono ?_);rintro e w' ⟨rfl,q,rfl⟩)
          have UD:=aa (below_drewN vx.out q)
          have GA:=aa (Uy.out.below (below_drewN (ac wo) q) (agl _))
          have Ho6:=aa (Ho5.out.keep (w':=wo.drewN q) fun _ _=>rfl)
          obtain⟨w6,lZ⟩:∃w6,w6=wo.drewN q:=⟨_,rfl⟩
          rw[←lZ] at UD GA Ho6 ⊢
          clear lZ vx Uy Ho5 Vd
          have hint:ag .u8 w6 B (some ⟨ba,oa,none⟩) (l.take p'):=by
           have:=bZ (p:=0) (s:=p') (Ha.out.below (UD.out.mono hB)) (by omega)
           simpa using this
          have RN:=dW (l.take p') (eZ hby p') p' (by simp;omega) (by omega) (some ⟨ba,oa,none⟩) B c w6 hint
          have hat:=nM l p' 0 g w6 Ho6.out
          obtain⟨bv,hbv⟩:∃bv,bv=df ((l.drop p').take 4):=⟨_,rfl⟩
          have hbg:=TI l (by omega) hby p' bv (by omega) hbv.symm g w6 Ho6.out
          obtain⟨cr,mW⟩:∃cr,cr=(fC (l.take p')).toNat:=⟨_,rfl⟩
          have qP:cr<4294967296:=by rw[mW];exact(fC _).isLt
          rw[←mW] at RN
          rw[←hbv,←mW] at hr3
          have Hth:=aa RN
          have Hat:=aa hat
          have Hbg:=aa hbg
          have Vc:=aa hr3
          have hpc:p'≤c:=by omega
          have u3:=agq (cr:Int) (by omega)
          clear RN hat hbg hr3 hbv mW hint h4i
          by_cases he:bv=cr
          ·have hr4:=Vc.out
           rw[if_neg (by simp[he])] at hr4
           have C7:=aa hr4
           subst he
           clear hr4 Vc
           go_upto_region 28 with (first
            |(go_at_call 56;(with_reducible refine Hat.out.mono ?_);rintro e w' ⟨rfl,rfl⟩)
            |(go_at_call 55;(with_reducible refine Hth.out.mono ?_);rintro e w' ⟨rfl,rfl⟩)
            |(go_at_call 57;(with_reducible refine Hbg.out.mono ?_);rintro e w8 ⟨rfl,mj,k8⟩))
           have acY:=nM l (p'+4) 0 g w8 mj
           have aeQ:=aa acY
           have O8:=GA.out.kept (fun q hq=>k8.block q (GA.out.lt hq).2 (fun e=>by have:=(GA.out.lt hq).1;omega))
           have B8:=UD.out.trans (k8.below (fun q e=>by rw[e];exact hg1) UD.out.size)
           clear acY Hat Hth Hbg
           go_wp2_with (go_at_call 56;(with_reducible refine aeQ.out.mono ?_);rintro e w' ⟨rfl,rfl⟩)
           go_ret3
           rw[C7.out]
           refine⟨A',c', ?_, ?_,B8⟩
           ·dsimp only
            rw[F2.out]
            rfl
           ·dsimp only
            rw[F2.out]
            exact O8.base (by omega)
          ·have hr4:=Vc.out
           rw[if_pos he] at hr4
           have C7:=aa hr4
           have hne:((bv:Int) != (cr:Int))=true:=by rw[bne_iff_ne];omega
           clear hr4 Vc
           go_wp2_with (first
            |(go_at_call 56;(with_reducible refine Hat.out.mono ?_);rintro e w' ⟨rfl,rfl⟩)
            |(go_at_call 55;(with_reducible refine Hth.out.mono ?_);rintro e w' ⟨rfl,rfl⟩)
            |(go_at_call 57;(with_reducible refine Hbg.out.mono ?_);rintro e w8 ⟨rfl,mj,k8⟩))
           go_ret3
           rw[C7.out]
           exact jm (UD.out.trans (k8.below (fun q e=>by rw[e];exact hg1) UD.out.size))
     ·have hr2:=mo.out
      unfold EM at hr2
      rw[if_pos hx] at hr2
      have yf:=aa hr2
      have Gd:(x' != 0)=true:=by rw[bne_iff_ne];exact hx
      clear hr2 mo
      go_wp2_with (go_at_call 53;(with_reducible refine Ur.out.mono ?_);rintro e w' ⟨rfl,rfl⟩)
      go_ret3
      rw[yf.out]
      exact jm Hb.out
   all_goals fail "R3"
  ·rw[if_pos hk] at cN
   have HR:=aa cN
   have hS:¬S=(⟨#[75,73,78,79,82,65]⟩:ByteArray):=fun e=>hk (hst.1 e)
   have hS2:(S.toList == [75,73,78,79,82,65])=false:=beq_eq_false_iff_ne.2 fun e=>hS (ByteArray.ext (Array.toList_inj.1 (by rw[←ByteArray.toList_eq];exact e)))
   clear cN hst hk ha
   go_enter Tryz.func14,Tryz.ntmps14
   go_wp2_with fail
   go_ret3
   rw[HR.out]
   exact jm (ac w)
def Lf(l:List Int):List Pk×List Hl×Int:=
 if (dh l).2.2≠0 then([],[],(dh l).2.2)
 else(dB (CO (l.drop (dh l).2.1.toNat)).1,(CO (l.drop (dh l).2.1.toNat)).2,0)
def Zo(r:List Pk×List Hl×Int)(w:World)(e:Ending)(w':World):Prop:=
 ∃A c E A2 c2,e= .returned (.tuple #[.slice A E.length c,.slice A2 r.2.1.length c2,.int .i64 r.2.2])∧aV iA 52 w' w.heap.size A E.length c E∧E.map (·.1)=r.1∧gP w' w.heap.size A2 r.2.1.length c2 r.2.1∧Below w.heap.size w w'
theorem xC(l:List Int):(dh l).2.2=0→∃a:Nat,(dh l).2.1=(a:Int)∧a≤l.length∧6≤l.length:=by
 unfold dh
 split
 ·intro h;simp at h
 ·split
  ·intro h;simp at h
  ·dsimp only
   split
   ·rename_i h1 h2 h3
    intro h
    exact absurd h h3
   ·split
    ·intro h;simp at h
    ·split
     ·intro h;simp at h
     ·split
      ·intro h;simp at h
      ·split
       ·intro h;simp at h
       ·intro _
        exact⟨_,rfl,by omega,by omega⟩
theorem Tl(l:List Int)(n:Nat)(hn:l.length=n)(hm:n≤3000)(hby:aH l)(A:Option Addr)(B c:Nat)(hc:n≤c)(cK:c≤9223372036854775807)(w:World)(hB:B≤w.heap.size)(ha:ag .u8 w B A l):
 Calls Tryz.prog 17 #[.slice A n c] w (Zo (Lf l) w):=by
 have ml:=xB l n hn hm hby A B c hc cK w hB ha
 have hat:=xC l
 obtain⟨RR,cN⟩:∃RR,RR=Lf l:=⟨_,rfl⟩
 rw[←cN]
 unfold Lf at cN
 generalize dh l=H at*
 obtain⟨L,a0,x⟩:=H
 dsimp only at*
 unfold FX at ml
 dsimp only at ml
 have Gy:=aa ml
 have Ha:=aa ha
 by_cases hx:x=0
 ·rw[if_neg (by simpa using hx)] at cN
  subst hx
  obtain⟨a,rfl,Xn,h6⟩:=hat rfl
  rw[Int.toNat_natCast] at cN
  have HR:=aa cN
  obtain⟨ba,oa,rfl,xF,_⟩:=ha.lt (by omega)
  have hac:a≤c:=by omega
  have han:a≤n:=by omega
  clear cN ml ha hat
  go_enter Tryz.func17,Tryz.ntmps17
  go_upto_region 4 with (go_at_call 14;(with_reducible refine Gy.out.mono ?_);rintro e w1 ⟨A1,c1,rfl,cM,b1⟩;dsimp only at cM ⊢)
  have hz:=b1.size
  have dp:=Ha.out.below (b1.mono hB)
  have xt:=kt dp a
  obtain⟨D,hD⟩:∃D,D=l.drop a:=⟨_,rfl⟩
  have hDl:D.length=n-a:=by rw[hD,List.length_drop];omega
  have Gs:aH D:=by rw[hD];exact hby.drop a
  have uI:=mI D (n-a) hDl (by omega) Gs (some ⟨ba,oa+a,none⟩) B (c-a) (by omega) (by omega) w1 (agm hB hz) (by rw[hD];exact xt)
  have KS:c-a=0→Calls Tryz.prog 30 #[.slice (some ⟨ba,oa,none⟩) (n-a) 0] w1 (XR (CO D) w1):=fun h0=>mI D (n-a) hDl (by omega) Gs (some ⟨ba,oa,none⟩) B 0 (by omega) (by omega) w1 (agm hB hz) (fun h1=>by
   rw[List.length_map] at h1
   omega)
  have bQ:=qK Gs (by omega)
  rw[←hD] at HR
  generalize CO D=I at*
  obtain⟨P,Hs⟩:=I
  dsimp only at*
  unfold XR Bf at uI KS
  dsimp only at uI KS
  have abo:=aa uI
  have adk:=aa KS
  have B1:=aa b1
  have hjn:=fun (E:List (El Pg)) (hE:E.map (·.1)=P) (w2:World) (A2:Option Addr) (c2:Nat) (ho:ik w2 w1.heap.size A2 P.length c2 E)=>wW E P.length (by rw[←hE];simp) (by omega) (by rw[hE];exact bQ.1) (by rw[hE];exact bQ.2.1) (by rw[hE];omega) A2 w2.heap.size c2 w2 (agl _) ho.rd
  have Hjn:=aa hjn
  clear uI KS hjn bQ dp xt hD hDl Gs b1 hz cM Gy
  by_cases PC:c-a=0
  ·have Gh:=adk.out PC
   have Hp0:=aa Gh
   clear Gh
   go_wp2_with (first
    |(go_at_call 30;(with_reducible refine Hp0.out.mono ?_);rintro e w2 ⟨A2,c2,E2,A3,c3,rfl,cD,yq,bF,b2⟩;have hj:=Hjn.out E2 yq w2 A2 c2 cD;rw[yq] at hj)
    |(go_at_call 31;(with_reducible refine hj.mono ?_);rintro e w3 ⟨A4,c4,E4,rfl,bE,Gr,b4⟩))
   go_ret3
   rw[HR.out]
   have hz1:=B1.out.size
   have B2:=b2.trans (b4.mono b2.size)
   exact⟨A4,c4,E4,A3,c3,rfl,aV.base bE (agm hz1 b2.size),Gr,gP.base (bF.below b4 (agl _)) hz1,B1.out.trans (B2.mono hz1)⟩
  ·go_wp2_with (first
    |(go_at_call 30;(with_reducible refine abo.out.mono ?_);rintro e w2 ⟨A2,c2,E2,A3,c3,rfl,cD,yq,bF,b2⟩;have hj:=Hjn.out E2 yq w2 A2 c2 cD;rw[yq] at hj)
    |(go_at_call 31;(with_reducible refine hj.mono ?_);rintro e w3 ⟨A4,c4,E4,rfl,bE,Gr,b4⟩))
   go_ret3
   rw[HR.out]
   have hz1:=B1.out.size
   have B2:=b2.trans (b4.mono b2.size)
   exact⟨A4,c4,E4,A3,c3,rfl,aV.base bE (agm hz1 b2.size),Gr,gP.base (bF.below b4 (agl _)) hz1,B1.out.trans (B2.mono hz1)⟩
 ·rw[if_pos hx] at cN
  have HR:=aa cN
  have Gd:(x != 0)=true:=by rw[bne_iff_ne];exact hx
  clear cN ml ha hat
  go_enter Tryz.func17,Tryz.ntmps17
  go_wp2_with (go_at_call 14;(with_reducible refine Gy.out.mono ?_);rintro e w1 ⟨A1,c1,rfl,cM,b1⟩;dsimp only at cM ⊢)
  go_ret3
  rw[HR.out]
  exact⟨none,0,[],none,0,rfl,aV.nil _ _,rfl,gP.nil _ _,b1⟩
instance : DecidableEq Pg := fun a b => decidable_of_iff (a.seq = b.seq ∧ a.first = b.first ∧ a.last = b.last ∧ a.guard = b.guard ∧ a.body = b.body) (by cases a; cases b; simp)
instance : DecidableEq Pk := fun a b => decidable_of_iff (a.stream = b.stream ∧ a.pat = b.pat ∧ a.plen = b.plen ∧ a.key = b.key ∧ a.hid = b.hid ∧ a.data = b.data) (by cases a; cases b; simp)
def oH(P:List Pk)(i:Nat):Pk:=P.getD i UI
theorem pB{P:List Pk}{i:Nat}(h:i<P.length):oH P i=P[i]:=by simp[oH,h]
theorem Wj(P:List Pk):(List.range P.length).map (oH P)=P:=by
 apply List.ext_getElem (by simp)
 intro i h1 h2
 simp[pB h2]
def iI(l:List Int):List Int:=l.flatMap fun c=>[96+c/16,96+c%16]
theorem xA(l:List Int):(iI l).length=2*l.length:=by
 induction l with
 |nil=>rfl
 |cons a l ih=>simp only[iI,List.flatMap_cons,List.length_append,List.length_cons,List.length_nil] at ih ⊢;omega
theorem Av{l:List Int}{k:Nat}(h:k<l.length):iI (l.take (k+1))=iI (l.take k)++[96+ix l k/16,96+ix l k%16]:=by
 rw[bW h];simp[iI]
def dy(P:List Pg):List Int:=iI (ox (om P))++bM (iI (ox (om P))).length 4++[75,69,78,68]
def kw(i:eC):List Int:=bU [i.kd,i.rn,i.rd]++(if i.kd=1 then bU [i.fr,i.fc,i.fb] else bU [i.s1,i.s2,i.s3,i.s4])
def lV(I:List eC):List Int:=[75,73,78,79,82,65]++bU [(I.length:Int)]++I.flatMap kw
def mU(I:List eC):List Int:=lV I++bM (fC (lV I)).toNat 4
def cV(k:Nat)(L:List Pk):List (List Pk):=(List.range k).map fun (s:Nat)=>L.filter fun p=>decide (p.stream=(s:Int))
def cfP(p q:Pk):Int:=if p.pat<q.pat then-1 else if q.pat<p.pat then 1 else if p.stream<q.stream then-1 else if q.stream<p.stream then 1 else 0
def XH(P:List Pk)(i j:Nat):Int:=cfP (oH P i) (oH P j)
def lI(P:List Pk):List Pk:=(stabP (Go.Proofs.ltOf (XH P)) (Array.range P.length)).toList.map (oH P)
def ji(LL:List (List Pk)):Bool:=(List.range LL.length).any fun s=>(LL.getD s []).any fun p=>decide ((iq p).2≠0∨p.stream≠(s:Int))
def qY(L:List Pk):Bool:=(List.range L.length).any fun i=>decide (0<i∧(oH L i).pat<(oH L (i-1)).pat)
def nu(LL:List (List Pk)):List Pk×Int:=
 if LL.length<1∨4<LL.length then([],1)else if ji LL then([],1)else if LL.any qY then([],12)else(lI LL.flatten,0)
def yB(L:List Pk):Bool:=L.all (fun p=>decide (0≤p.stream∧p.stream<4)) && (decide ((nu (cV 4 L)).2=0) && decide ((nu (cV 4 L)).1=L))
def fX(k:Nat)(L:List Pk):Bool:=L.any fun p=>decide (p.stream<0∨(k:Int)≤p.stream)
def Rp(k:Nat)(L:List Pk):Bool:=(List.range k).any fun s=>match L.find? (fun p=>decide (p.stream=(s:Int)))with
 |some p=> !p.key
 |none=>false
def bN(b:Bool):Nat:=if b then 1 else 0
def jS(dat:List eC→List Pk→Bool)(b:List Int):Nat:=
 if (dh b).2.2≠0 then 1
 else
  let n:=(dh b).2.1.toNat
  let F:=(cm (b.drop n)).1
  let P:=(cT F).1
  let L:=dB P
  bN (decide (b≠b.take n++fd F++dy P))+(cT F).2.length+bN (decide ((cz P).2≠0) || decide (F≠(cz P).1))+bN (decide ((eM L).2≠0) || decide (P≠(eM L).1))
   +bN (!yB L)+bN (fX (dh b).1.length L)+bN (Rp (dh b).1.length L)+bN (decide (¬dy P<:+b))+bN (dat (dh b).1 L)
structure adb (b:List Int) (I:List eC) (n:Nat) (F P:List Pg) (L:List Pk):Prop where
 head:dh b=(I,(n:Int),0)
 nb:n≤b.length
 scan:(cm (b.drop n)).1=F
 mend:cT F=(P,[])
 join:dB P=L
 whole:b=b.take n++fd F++dy P
 guard:cz P=(F,0)
 split:eM L=(P,0)
 order:yB L=true
 flow:fX I.length L=false
theorem rz{b:Bool}(h:bN b=0):b=false:=by
 cases b with
 |true=>simp[bN] at h
 |false=>rfl
theorem Cr{dat:List eC→List Pk→Bool}{b:List Int}(h:jS dat b=0):
 ∃I n F P L,adb b I n F P L:=by
 unfold jS at h
 split at h
 ·simp at h
 ·rename_i h0
  have h0:(dh b).2.2=0:=by simpa using h0
  obtain⟨n,hn,UU,_⟩:=xC b h0
  dsimp only at h
  rw[hn,Int.toNat_natCast] at h
  obtain⟨F,hF⟩:∃F,F=(cm (b.drop n)).1:=⟨_,rfl⟩
  rw[←hF] at h
  have e1:=rz (b:=decide (b≠b.take n++fd F++dy (cT F).1)) (by omega)
  have e2:(cT F).2.length=0:=by omega
  have e3:=rz (b:=decide ((cz (cT F).1).2≠0) || decide (F≠(cz (cT F).1).1)) (by omega)
  have e4:=rz (b:=decide ((eM (dB (cT F).1)).2≠0) || decide ((cT F).1≠(eM (dB (cT F).1)).1)) (by omega)
  have e5:=rz (b:= !yB (dB (cT F).1)) (by omega)
  have e6:=rz (b:=fX (dh b).1.length (dB (cT F).1)) (by omega)
  rw[Bool.or_eq_false_iff] at e3 e4
  have f1:=of_decide_eq_false e1
  have f3:=of_decide_eq_false e3.1
  have f3':=of_decide_eq_false e3.2
  have f4:=of_decide_eq_false e4.1
  have f4':=of_decide_eq_false e4.2
  refine⟨(dh b).1,n,F,(cT F).1,dB (cT F).1, ?_,UU,hF.symm, ?_,rfl,Decidable.not_not.1 f1, ?_, ?_,by simpa using e5,e6⟩
  ·exact Prod.ext rfl (Prod.ext hn h0)
  ·exact Prod.ext rfl (List.eq_nil_of_length_eq_zero e2)
  ·exact Prod.ext (Decidable.not_not.1 f3').symm (Decidable.not_not.1 f3)
  ·exact Prod.ext (Decidable.not_not.1 f4').symm (Decidable.not_not.1 f4)
def Cu(a b:Int):Int:=if a<b then-1 else if b<a then 1 else 0
theorem En(a:Int)(w:World):Calls Tryz.prog 128 #[.int .i64 a] w fun e w'=>e= .returned (.bool false)∧w'=w:=by
 have h:(a != a)=false:=by simp
 go_enter Tryz.func128,Tryz.ntmps128
 go_wp2_with fail
 go_ret
 exact⟨rfl,rfl⟩
theorem I9(a:Int)(w:World):Calls Tryz.prog 129 #[.int .i64 a] w fun e w'=>e= .returned (.bool false)∧w'=w:=by
 have h:(a != a)=false:=by simp
 go_enter Tryz.func129,Tryz.ntmps129
 go_wp2_with fail
 go_ret
 exact⟨rfl,rfl⟩
theorem Ov(a b:Int)(w:World):Calls Tryz.prog 83 #[.int .i64 a,.int .i64 b] w fun e w'=>e= .returned (.int .i64 (Cu a b))∧w'=w:=by
 have h1:=fun (a:Int) (w:World)=>En a w
 have H1:=aa h1
 clear h1
 by_cases c1:a<b
 ·have hr:Hid (Cu a b= -1):=by show _=_;rw[Cu,if_pos c1]
  go_enter Tryz.func83,Tryz.ntmps83
  go_wp2_with (go_at_call 128;(with_reducible refine(H1.out _ _).mono ?_);rintro e w' ⟨rfl,rfl⟩)
  go_ret
  rw[hr.out];exact⟨rfl,rfl⟩
 ·by_cases c2:b<a
  ·have hr:Hid (Cu a b=1):=by show _=_;rw[Cu,if_neg c1,if_pos c2]
   go_enter Tryz.func83,Tryz.ntmps83
   go_wp2_with (go_at_call 128;(with_reducible refine(H1.out _ _).mono ?_);rintro e w' ⟨rfl,rfl⟩)
   go_ret
   rw[hr.out];exact⟨rfl,rfl⟩
  ·have hr:Hid (Cu a b=0):=by show _=_;rw[Cu,if_neg c1,if_neg c2]
   go_enter Tryz.func83,Tryz.ntmps83
   go_wp2_with (go_at_call 128;(with_reducible refine(H1.out _ _).mono ?_);rintro e w' ⟨rfl,rfl⟩)
   go_ret
   rw[hr.out];exact⟨rfl,rfl⟩
theorem Tz(a b:Int)(w:World):Calls Tryz.prog 84 #[.int .i64 a,.int .i64 b] w fun e w'=>e= .returned (.int .i64 (Cu a b))∧w'=w:=by
 have h1:=fun (a:Int) (w:World)=>I9 a w
 have H1:=aa h1
 clear h1
 by_cases c1:a<b
 ·have hr:Hid (Cu a b= -1):=by show _=_;rw[Cu,if_pos c1]
  go_enter Tryz.func84,Tryz.ntmps84
  go_wp2_with (go_at_call 129;(with_reducible refine(H1.out _ _).mono ?_);rintro e w' ⟨rfl,rfl⟩)
  go_ret
  rw[hr.out];exact⟨rfl,rfl⟩
 ·by_cases c2:b<a
  ·have hr:Hid (Cu a b=1):=by show _=_;rw[Cu,if_neg c1,if_pos c2]
   go_enter Tryz.func84,Tryz.ntmps84
   go_wp2_with (go_at_call 129;(with_reducible refine(H1.out _ _).mono ?_);rintro e w' ⟨rfl,rfl⟩)
   go_ret
   rw[hr.out];exact⟨rfl,rfl⟩
  ·have hr:Hid (Cu a b=0):=by show _=_;rw[Cu,if_neg c1,if_neg c2]
   go_enter Tryz.func84,Tryz.ntmps84
   go_wp2_with (go_at_call 129;(with_reducible refine(H1.out _ _).mono ?_);rintro e w' ⟨rfl,rfl⟩)
   go_ret
   rw[hr.out];exact⟨rfl,rfl⟩
def Wa(x y:Int):Int:=if x≠0 then x else y
theorem Wb(x y:Int)(b c:Nat)(w:World)(h0:w.cell? ⟨b,0,none⟩=some (.int .i64 x))(h1:w.cell? ⟨b,1,none⟩=some (.int .i64 y)):
 Calls Tryz.prog 82 #[.slice (some ⟨b,0,none⟩) 2 c] w fun e w'=>e= .returned (.int .i64 (Wa x y))∧w'=w:=by
 go_enter Tryz.func82,Tryz.ntmps82
 go_wp2_with fail
 go_loop [5,8] (fun _ iv=>∃i:Nat,i≤2∧iv= .int .i64 i∧(1≤i→x=0)∧(2≤i→y=0)) (fun _ iv=>2-(intOf iv).toNat)
 case atStart=>exact⟨0,by omega,rfl,by omega,by omega⟩
 case round=>
  obtain⟨i,hi,rfl,hx,hy⟩:=hrel
  by_cases h2:i=2
  ·subst h2
   have xk:=hy (agl _)
   have hx0:=hx (by omega)
   have hr:Hid (Wa x y=0):=by show _=_;unfold Wa;rw[if_neg (by omega)];exact xk
   clear hx hy hx0 xk
   go_wp2_with fail
   go_ret
   rw[hr.out];exact⟨rfl,rfl⟩
  ·by_cases h3:i=1
   ·subst h3
    have hx0:=hx (agl _)
    by_cases xk:y=0
    ·have hb:(y != 0)=false:=by simp[xk]
     have Hy:=aa xk
     have Hx:=aa hx0
     clear hx hy xk hx0
     go_wp2_with fail
     go_round
     case rel=>exact⟨2,by omega,by go_num,fun _=>Hx.out,fun _=>Hy.out⟩
     case measure=>simp[intOf]
    ·have hb:(y != 0)=true:=bne_iff_ne.2 xk
     have hr:Hid (Wa x y=y):=by show _=_;unfold Wa;rw[if_neg (by omega)]
     clear hx hy hx0
     go_wp2_with fail
     go_ret
     rw[hr.out];exact⟨rfl,rfl⟩
   ·obtain rfl:i=0:=by omega
    by_cases hx0:x=0
    ·have hb:(x != 0)=false:=by simp[hx0]
     have Hx:=aa hx0
     clear hx hy hx0
     go_wp2_with fail
     go_round
     case rel=>exact⟨1,by omega,by go_num,fun _=>Hx.out,fun h=>by omega⟩
     case measure=>simp[intOf]
    ·have hb:(x != 0)=true:=bne_iff_ne.2 hx0
     have hr:Hid (Wa x y=x):=by show _=_;unfold Wa;rw[if_pos hx0]
     clear hx hy
     go_wp2_with fail
     go_ret
     rw[hr.out];exact⟨rfl,rfl⟩
theorem aaX(p q:Pk):cfP p q=Wa (Cu p.pat q.pat) (Cu p.stream q.stream):=by
 unfold cfP Wa Cu
 by_cases h1:p.pat<q.pat
 ·simp[h1]
 ·by_cases h2:q.pat<p.pat
  ·simp[h1,h2]
  ·simp[h1,h2]
theorem T6(p q:Pk)(A1 A2:Option Addr)(c1 c2:Nat)(w:World):
 Calls Tryz.prog 81 #[Ga p A1 c1,Ga q A2 c2] w fun e w'=>e= .returned (.int .i64 (cfP p q))∧∃n os',w'=Go.Sort.grow (w.drewN n) os':=by
 rw[aaX]
 obtain⟨s1,t1,l1,k1,h1,d1⟩:=p
 obtain⟨s2,t2,l2,k2,h2,d2⟩:=q
 unfold Ga
 dsimp only
 obtain⟨X,hX⟩:∃X,X=Cu t1 t2:=⟨_,rfl⟩
 obtain⟨Y,hY⟩:∃Y,Y=Cu s1 s2:=⟨_,rfl⟩
 have hc1:=fun W=>Ov t1 t2 W
 have hc2:=fun W=>Tz s1 s2 W
 rw[←hX] at hc1 ⊢
 rw[←hY] at hc2 ⊢
 have H1:=aa hc1
 have H2:=aa hc2
 have H3:=aa (fun b c W h0 h1=>Wb X Y b c W h0 h1)
 clear hc1 hc2 hX hY
 go_enter Tryz.func81,Tryz.ntmps81
 go_wp2_with fail
 have z1:(w.alloc (.cells #[.int .i64 s1,.int .i64 t1,.int .i64 l1,.bool k1,.bool h1,.slice A1 d1.length c1] 52)).heap.size=w.heap.size+1:=by simp
 obtain⟨wb,ig⟩:∃wb,wb=(w.alloc (.cells #[.int .i64 s1,.int .i64 t1,.int .i64 l1,.bool k1,.bool h1,.slice A1 d1.length c1] 52)).alloc (.cells #[.int .i64 s2,.int .i64 t2,.int .i64 l2,.bool k2,.bool h2,.slice A2 d2.length c2] 52):=⟨_,rfl⟩
 have x1:wb.heap[w.heap.size]? =some (.cells #[.int .i64 s1,.int .i64 t1,.int .i64 l1,.bool k1,.bool h1,.slice A1 d1.length c1] 52 (0,0)):=by
  rw[ig,heap_alloc_old _ _ (by simp)];exact ago w _
 have x2:wb.heap[w.heap.size+1]? =some (.cells #[.int .i64 s2,.int .i64 t2,.int .i64 l2,.bool k2,.bool h2,.slice A2 d2.length c2] 52 (0,0)):=by
  rw[ig,←z1];exact ago _ _
 obtain⟨⟨a0,a1,_,_,_,_⟩,_⟩:=bH x1
 obtain⟨⟨b0,b1,_,_,_,_⟩,_⟩:=bH x2
 have hgr:∃os,wb=Go.Sort.grow w os:=⟨_,by rw[ig,Go.Sort.alloc_eq_grow,Go.Sort.alloc_eq_grow,Go.Sort.grow_grow]⟩
 have HGR:=aa hgr
 rw[←ig]
 clear ig x1 x2 hgr z1
 go_region_held3 (fun w'=>w'.cell? ⟨w.heap.size,0,none⟩=some (.int .i64 s1)∧w'.cell? ⟨w.heap.size,1,none⟩=some (.int .i64 t1)∧w'.cell? ⟨w.heap.size+1,0,none⟩=some (.int .i64 s2)∧w'.cell? ⟨w.heap.size+1,1,none⟩=some (.int .i64 t2))
  (first | (go_keep;done) | exact⟨a0,a1,b0,b1⟩ | exact⟨later (ak (ac wb) _).drew a0,later (ak (ac wb) _).drew a1,later (ak (ac wb) _).drew b0,later (ak (ac wb) _).drew b1⟩ | exact⟨later (ak (ac wb) _) a0,later (ak (ac wb) _) a1,later (ak (ac wb) _) b0,later (ak (ac wb) _) b1⟩)
  (first
    |(go_at_call 83;(with_reducible refine(H1.out _).mono ?_);rintro e w' ⟨rfl,rfl⟩)
    |(go_at_call 84;(with_reducible refine(H2.out _).mono ?_);rintro e w' ⟨rfl,rfl⟩)
    |(go_at_call 82;refine(H3.out _ _ _ ?_ ?_).mono ?_;(simp[World.cell?_alloc_new]);(simp[World.cell?_alloc_new]);rintro e w' ⟨rfl,rfl⟩))
 all_goals (
  go_wp2_with fail
  go_ret
  obtain⟨os,hos⟩:=HGR.out
  refine⟨rfl,1,os++#[.cells #[.int .i64 X,.int .i64 Y] 3], ?_⟩
  rw[hos,Go.Sort.alloc_eq_grow,Go.Sort.grow_grow]
  rfl)
def xR(E:List (El Pk))(i:Nat):El Pk:=E.getD i (UI,none,0)
theorem aaT{E:List (El Pk)}{i:Nat}(h:i<E.length):xR E i=E[i]:=by simp[xR,h]
theorem Cs(E:List (El Pk))(i:Nat):(xR E i).1=oH (E.map (·.1)) i:=by
 unfold xR oH
 by_cases h:i<E.length
 ·simp[h]
 ·rw[List.getD_eq_getElem?_getD,List.getD_eq_getElem?_getD,List.getElem?_eq_none (by omega),List.getElem?_eq_none (by simp;omega)];rfl
def nh(E:List (El Pk))(i:Nat):List Value:=iA.enc (xR E i).1 (xR E i).2.1 (xR E i).2.2
theorem abG:rC Tryz.prog 6 where
 mixed:=by kernel_rfl
 fSw:=Tryz.func259
 fRo:=Tryz.func217
 fSy:=Tryz.func175
 fSt:=Tryz.func127
 fTop:=Tryz.func80
 t0:=Tryz.underlying0
 a0:=Tryz.isAgg0
 z0:=Tryz.sizeOf0
 v0:=Tryz.zeroValue0
 t3:=Tryz.underlying3
 a3:=Tryz.isAgg3
 z3:=Tryz.sizeOf3
 v3:=Tryz.zeroValue3
 t4:=Tryz.underlying4
 a4:=Tryz.isAgg4
 z4:=Tryz.sizeOf4
 v4:=Tryz.zeroValue4
 tU:=Tryz.underlying140
 aU:=Tryz.isAgg140
 zU:=Tryz.sizeOf140
 vU:=Tryz.zeroValue140
 tR:=Tryz.underlying44
 aR:=Tryz.isAgg44
 zR:=Tryz.sizeOf44
 vR:=Tryz.zeroValue44
 tF:=Tryz.underlying158
 aF:=Tryz.isAgg158
 zF:=Tryz.sizeOf158
 vF:=Tryz.zeroValue158
 aE:=Tryz.isAgg52
 zE:=Tryz.sizeOf52
theorem Z5:Go.Proofs.SlLaysF0.n20 Tryz.prog Yn where
 mixed:=by kernel_rfl
 f20:=⟨Tryz.f174.name,by decide,Tryz.func174.trans (congrArg some (by kernel_rfl))⟩
 t0:=Tryz.underlying0
 a0:=Tryz.isAgg0
 z0:=Tryz.sizeOf0
 v0:=Tryz.zeroValue0
 t3:=Tryz.underlying3
 a3:=Tryz.isAgg3
 z3:=Tryz.sizeOf3
 v3:=Tryz.zeroValue3
 t4:=Tryz.underlying4
 a4:=Tryz.isAgg4
 z4:=Tryz.sizeOf4
 v4:=Tryz.zeroValue4
 t22:=Tryz.underlying44
 a22:=Tryz.isAgg44
 z22:=Tryz.sizeOf44
 v22:=Tryz.zeroValue44
 t25:=Tryz.underlying158
 a25:=Tryz.isAgg158
 z25:=Tryz.sizeOf158
 v25:=Tryz.zeroValue158
theorem ltK(P:List Pk)(i j:Nat):Go.Proofs.ltOf (XH P) i j=decide ((oH P i).pat<(oH P j).pat∨(oH P i).pat=(oH P j).pat∧(oH P i).stream<(oH P j).stream):=by
 unfold Go.Proofs.ltOf XH cfP
 rw[decide_eq_decide]
 repeat' split
 all_goals omega
theorem Vu(P:List Pk):Go.Sort.SWO (Go.Proofs.ltOf (XH P)) where
 irrefl x:=by rw[ltK];simp
 trans x y z h1 h2:=by rw[ltK] at*;simp at*;omega
 ntrans x y z h1 h2:=by rw[ltK] at*;simp at*;omega
theorem Ev(A:Option Addr)(c g:Nat)(w:World):Calls Tryz.prog 174 #[.slice A 0 c,.int .i64 0,.int .i64 0,.func (.func g) #[] #[]] w fun e w'=>e= .returned (.tuple #[])∧w'=w:=by
 go_enter Tryz.func174,Tryz.ntmps174
 go_wp2_with fail
 refine wp_loop_rounds 1 ?_
 rw[rounds_succ]
 go_wp2_with fail
 go_end0
 exact⟨rfl,rfl⟩
theorem G0(A:Option Addr)(c g:Nat)(w:World):Calls Tryz.prog 127 #[.slice A 0 c,.int .i64 0,.func (.func g) #[] #[]] w fun e w'=>e= .returned (.tuple #[])∧w'=w:=by
 have H1:=aa (Ev A c g)
 go_enter Tryz.func127,Tryz.ntmps127
 go_wp2_with fail
 refine wp_loop_rounds 1 ?_
 rw[rounds_succ]
 go_wp2_with (go_at_call 174;(with_reducible refine(H1.out _).mono ?_);rintro e w' ⟨rfl,rfl⟩)
 refine wp_loop_rounds 1 ?_
 rw[rounds_succ]
 go_wp2_with fail
 go_end0
 exact⟨rfl,rfl⟩
end
end Go.Proofs.YtbhfpehgacaidaaGreatDoor
