/- A part of the proof of the given statement TopRight. Conditions: none. -/
import Derived.Test.YtbhfpehgacaidaaGreatDoorQAP
namespace Go.Proofs.YtbhfpehgacaidaaGreatDoor
set_option linter.unusedVariables false
set_option linter.unusedSimpArgs false
set_option maxRecDepth 100000
set_option maxHeartbeats 8000000
section
open Go.Lib Go.RowKit Go.Shelf Go.Sort
variable {P : Program} {α : Type} [Inhabited α] {k : Nat}
theorem Vt(L:rC P k)(enc:α→List Value)(cf:α→α→Int)(g:Nat)(eg:∀args w,(callFunc g args).run P w= .ok (.enter g args) w)(blk off cap a m b:Nat)(d0 d:Array α)(w0 w:World)(iy:CmpLays P g #[] enc k cf blk off d0.size w0)
 (R:RowK enc k w0 blk off d0) (hs:d0.size=d.size) (S:SWK enc k w0 blk off d w) (Xm:a<m) (yn:m<b) (hb:b≤d.size) (hsz:d.size<1152921504606846976) (h1:¬m-a=1) (h2:¬b-m=1) (hc:(a+b)/2<m) (f:Nat) (hf:b-a≤f+1)
 (ih:∀(a m b:Nat) (dk:Array α) (W:World),b-a≤f→d0.size=dk.size→SWK enc k w0 blk off dk W→a<m→m<b→b≤dk.size→
   Calls P 175 #[.slice (some ⟨blk,off,none⟩) dk.size cap,.int .i64 a,.int .i64 m,.int .i64 b,.func (.func g) #[] #[]] W fun e w'=>e= .returned (.tuple #[])∧SWK enc k w0 blk off (fV (ltOf cf) f dk a m b) w'):
 Calls P 175 #[.slice (some ⟨blk,off,none⟩) d.size cap,.int .i64 a,.int .i64 m,.int .i64 b,.func (.func g) #[] #[]] w fun e w'=>e= .returned (.tuple #[])∧SWK enc k w0 blk off (fV (ltOf cf) (f+1) d a m b) w':=by
 have mixed:=L.mixed;have t0:=L.t0;have a0:=L.a0;have z0:=L.z0;have v0:=L.v0;have t3:=L.t3;have a3:=L.a3;have z3:=L.z3;have v3:=L.v3;have t4:=L.t4;have a4:=L.a4;have z4:=L.z4;have v4:=L.v4;have tU:=L.tU;have aU:=L.aU;have zU:=L.zU;have vU:=L.vU;have t22:=L.tR;have a22:=L.aR;have z22:=L.zR;have v22:=L.vR;have t25:=L.tF;have a25:=L.aF;have z25:=L.zF;have v25:=L.vF;have aE:=L.aE;have zE:=L.zE
 have HC:Aside _:=iy
 have S0:Aside (SWK enc k w0 blk off d w):=S
 have EG:=aa eg
 clear S iy
 have IH:=aa ih
 clear ih
 have h1z:((m:Int)-(a:Int) == 1)=false:=by rw[beq_eq_false_iff_ne];omega
 have h1w:IntKind.i64.wrap ((m:Int)-(a:Int))=(m:Int)-(a:Int):=by rw[agD];omega
 have h2z:((b:Int)-(m:Int) == 1)=false:=by rw[beq_eq_false_iff_ne];omega
 have h2w:IntKind.i64.wrap ((b:Int)-(m:Int))=(b:Int)-(m:Int):=by rw[agD];omega
 have uG:fV (ltOf cf) (f+1) d a m b=(let mid:=(a+b)/2
  let s:=oV (ltOf cf) d a m b
  let e:=mid+m-s
  let d1:=if s<m∧m<e then ww d s m e else d
  let d2:=if a<s∧s<mid then fV (ltOf cf) f d1 a s mid else d1
  if mid<e∧e<b then fV (ltOf cf) f d2 mid e b else d2):=by rw[fV,if_neg h1,if_neg h2]
 have dp:=Bk (lt:=ltOf cf) (d:=d) Xm yn
 have KP:oV (ltOf cf) d a m b=lA (fun c=> !ltOf cf d[(a+b)/2+m-1-c]! d[c]!) (b-a) ((a+b)/2+m-b) (((a+b)/2)):=by
  unfold oV;dsimp only;rw[if_pos hc]
 obtain⟨I,hI⟩:∃I,I=oV (ltOf cf) d a m b:=⟨_,rfl⟩
 rw[←hI] at uG dp KP
 clear hI
 obtain⟨mid,sN⟩:∃mid,mid=(a+b)/2:=⟨_,rfl⟩
 have acn:=sT sN
 have adY:a≤mid∧mid<b:=by omega
 rw[←sN] at uG dp KP hc
 dsimp only at uG
 have wab:IntKind.i64.wrap ((a:Int)+(b:Int))=(a:Int)+(b:Int):=by rw[agD];omega
 have uab:IntKind.u64.wrap ((a:Int)+(b:Int))=(a:Int)+(b:Int):=agq _ (by omega)
 have adx:IntKind.i64.wrap (mid:Int)=(mid:Int):=by rw[agD];omega
 obtain⟨n,hn⟩:∃n,n=mid+m:=⟨_,rfl⟩
 have hni:(mid:Int)+(m:Int)=(n:Int):=by omega
 have wn:IntKind.i64.wrap (n:Int)=(n:Int):=by rw[agD];omega
 rw[←hn] at uG dp KP
 obtain⟨p,hp⟩:∃p,p=n-1:=⟨_,rfl⟩
 have qd:(n:Int)-1=(p:Int):=by omega
 have wp:IntKind.i64.wrap (p:Int)=(p:Int):=by rw[agD];omega
 have hgt:(mid:Int)<(m:Int):=by omega
 obtain⟨s0,hs0⟩:∃s0,s0=n-b:=⟨_,rfl⟩
 have afh:(n:Int)-(b:Int)=(s0:Int):=by omega
 have ws0:IntKind.i64.wrap (s0:Int)=(s0:Int):=by rw[agD];omega
 have hsr:s0≤mid∧mid-s0≤b-a:=by omega
 have WE:∀h,s0≤h→h<mid→h≤p∧p-h<b∧h<b:=fun h hh1 hh2=>by omega
 have HXX:=aa WE
 rw[←hs0] at KP
 rw[rj _ (b-a) (mid-s0) _ _ (by omega) (by omega)] at KP
 have LD:Hid (lA (fun c=> !ltOf cf d[n-1-c]! d[c]!) (mid-s0) s0 mid=I):=aa KP.symm
 have X6:=aa uG
 have Db:=aa dp
 have aeS:=aa sN
 have HN:=aa hn
 have HP:=aa hp
 have aaf:=hsr.1
 clear uG dp KP sN hn hp hsr WE
 clear hs0
 go_enter L.fSy,Tryz.ntmps175
 go_wp2
 go_loopg [20,21] (mid-s0) (fun gx vi vj wr=>∃(i j t:Nat),vi= .int .i64 i∧vj= .int .i64 j∧s0≤i∧i≤j∧j≤mid∧j-i≤t∧t≤gx∧Aside (SWK enc k w0 blk off d wr)∧Hid (lA (fun c=> !ltOf cf d[n-1-c]! d[c]!) t i j=I))
 case atStart=>exact⟨s0,mid,mid-s0,rfl,rfl,agl _,aaf,agl _,agl _,agl _,S0,LD⟩
 case round=>
  clear S0 LD
  obtain⟨i,j,t,rfl,rfl,cw,uM,Ji,ht,hg,S1,HI⟩:=hrel
  by_cases hlt:i<j
  ·have xv:(i:Int)<(j:Int):=by omega
   obtain⟨u,rfl⟩:∃u,t=u+1:=⟨t-1,by omega⟩
   have hgo:=tk (p:=(fun c=> !ltOf cf d[n-1-c]! d[c]!)) (f:=u) hlt
   obtain⟨h,hh⟩:∃h,h=(i+j)/2:=⟨_,rfl⟩
   have hhi:=sT hh
   have hh1:i≤h∧h<j:=by omega
   have Gd:=HXX.out h (by omega) (by omega)
   have WL:=HP.out
   obtain⟨x,hx⟩:∃x,x=p-h:=⟨_,rfl⟩
   have hxi:(p:Int)-(h:Int)=(x:Int):=by omega
   have hxn:n-1-h=x:=by omega
   have hxd:x<d.size:=by omega
   rw[←hh,HI.out] at hgo
   have yu:=aa hgo
   have w1:IntKind.i64.wrap ((i:Int)+(j:Int))=(i:Int)+(j:Int):=by rw[agD];omega
   have w2:IntKind.u64.wrap ((i:Int)+(j:Int))=(i:Int)+(j:Int):=agq _ (by omega)
   have w3:IntKind.i64.wrap (h:Int)=(h:Int):=by rw[agD];omega
   have w4:IntKind.i64.wrap ((h:Int)+1)=(h:Int)+1:=by rw[agD];omega
   have HXN:=aa hxn
   clear hgo hh HI WL hx hxn
   cases hlv:decide (cf d[x]! d[h]! <0)with
   |true=>
    have hq:Hid (lA (fun c=> !ltOf cf d[n-1-c]! d[c]!) u i h=I):=by
     show _=_
     rw[yu.out]
     exact(if_neg (by rw[HXN.out];simp[ltOf,hlv])).symm
    clear yu
    have ex:((x:Int)).toNat=x:=by omega
    have px:(0:Int)≤(x:Int):=by omega
    have qx:(x:Int)<(d.size:Int):=by omega
    have rx:IntKind.i64.wrap (x:Int)=(x:Int):=by rw[agD];omega
    have ey:((h:Int)).toNat=h:=by omega
    have py:(0:Int)≤(h:Int):=by omega
    have qy:(h:Int)<(d.size:Int):=by omega
    have ry:IntKind.i64.wrap (h:Int)=(h:Int):=by rw[agD];omega
    obtain⟨cx,mV⟩:∃c,c=d[x]! :=⟨_,rfl⟩
    obtain⟨cy,pM⟩:∃c,c=d[h]! :=⟨_,rfl⟩
    have lx:=S1.out.ld R (by omega) P x (by omega)
    have ly:=S1.out.ld R (by omega) P h (by omega)
    rw[←mV] at lx
    rw[←pM] at ly
    have nR:=S1.out.cmp HC.out (by omega) cx cy
    rw[←mV,←pM] at hlv
    have hv:cf cx cy<0:=of_decide_eq_true hlv
    have hd:decide (cf cx cy<0)=true:=hlv
    clear mV pM hlv
    go_wp2_with fail
    go_quiet_grown (first | (go_at_fn g;refine Calls.grown_of (nR _ _)))
    have SU:Aside (SWK enc k w0 blk off d (grow (wr.drewN nq) osq)):=S1.out.grown nq osq
    clear lx ly nR S1
    generalize grow (wr.drewN nq) osq=wu at SU ⊢
    clear nq osq
    go_wp2
    go_roundg u
    case measure=>omega
    case rel=>exact⟨i,h,u,rfl,rfl,cw,by omega,by omega,by omega,agl _,SU,hq⟩
   |false=>
    have hq:Hid (lA (fun c=> !ltOf cf d[n-1-c]! d[c]!) u (h+1) j=I):=by
     show _=_
     rw[yu.out]
     exact(if_pos (by rw[HXN.out];simp[ltOf,hlv])).symm
    clear yu
    have ex:((x:Int)).toNat=x:=by omega
    have px:(0:Int)≤(x:Int):=by omega
    have qx:(x:Int)<(d.size:Int):=by omega
    have rx:IntKind.i64.wrap (x:Int)=(x:Int):=by rw[agD];omega
    have ey:((h:Int)).toNat=h:=by omega
    have py:(0:Int)≤(h:Int):=by omega
    have qy:(h:Int)<(d.size:Int):=by omega
    have ry:IntKind.i64.wrap (h:Int)=(h:Int):=by rw[agD];omega
    obtain⟨cx,mV⟩:∃c,c=d[x]! :=⟨_,rfl⟩
    obtain⟨cy,pM⟩:∃c,c=d[h]! :=⟨_,rfl⟩
    have lx:=S1.out.ld R (by omega) P x (by omega)
    have ly:=S1.out.ld R (by omega) P h (by omega)
    rw[←mV] at lx
    rw[←pM] at ly
    have nR:=S1.out.cmp HC.out (by omega) cx cy
    rw[←mV,←pM] at hlv
    have hv:¬cf cx cy<0:=of_decide_eq_false hlv
    have hd:decide (cf cx cy<0)=false:=hlv
    clear mV pM hlv
    go_wp2_with fail
    go_quiet_grown (first | (go_at_fn g;refine Calls.grown_of (nR _ _)))
    have SU:Aside (SWK enc k w0 blk off d (grow (wr.drewN nq) osq)):=S1.out.grown nq osq
    clear lx ly nR S1
    generalize grow (wr.drewN nq) osq=wu at SU ⊢
    clear nq osq
    go_wp2
    go_roundg u
    case measure=>omega
    case rel=>exact⟨h+1,j,u,by go_num,rfl,by omega,by omega,Ji,by omega,agl _,SU,hq⟩
  ·obtain rfl:i=j:=by omega
   have xv:¬(i:Int)<(i:Int):=by omega
   have hii:i=I:=by rw[←HI.out,fe (by omega)]
   subst hii
   have dp:=Db.out
   have KT:=HN.out
   obtain⟨e9,NV⟩:∃e9,e9=n-i:=⟨_,rfl⟩
   have hei:(n:Int)-(i:Int)=(e9:Int):=by omega
   have we:IntKind.i64.wrap (e9:Int)=(e9:Int):=by rw[agD];omega
   have uG:=X6.out
   rw[←NV] at uG
   have RU:=fun (h1:i<m) (h2:m<e9)=>Ko (P:=P) L enc g blk off cap i m e9 d0 d w0 wr R hs S1.out h1 h2 (by omega) (by omega)
   have abq:=aa RU
   have eRo:∀args w,(callFunc 217 args).run P w= .ok (.enter 217 args) w:=enters_of L.fRo (by kernel_rfl) rfl
   have eSy:∀args w,(callFunc 175 args).run P w= .ok (.enter 175 args) w:=enters_of L.fSy (by kernel_rfl) rfl
   obtain⟨D1,Xu⟩:∃D1,D1=(if i<m∧m<e9 then ww d i m e9 else d):=⟨_,rfl⟩
   rw[←Xu] at uG
   obtain⟨D2,N0⟩:∃D2,D2=(if a<i∧i<mid then fV (ltOf cf) f D1 a i mid else D1):=⟨_,rfl⟩
   rw[←N0] at uG
   have qf:gM d D1:=by
    rw[Xu]
    split
    ·exact wD d (by omega) (by omega) (by omega)
    ·exact gM.refl d
   have Az:gM d D2:=by
    rw[N0]
    split
    ·exact qf.trans (ja f _ a i mid (by omega) (by omega) (by rw[qf.size];omega))
    ·exact qf
   have hz1:=qf.size
   have hz2:=Az.size
   have hs1:=fun (W:World) (S:SWK enc k w0 blk off D1 W) (h1:a<i) (h2:i<mid)=>IH.out a i mid D1 W (by omega) (by omega) S h1 h2 (by omega)
   have hs2:=fun (W:World) (S:SWK enc k w0 blk off D2 W) (h1:mid<e9) (h2:e9<b)=>IH.out mid e9 b D2 W (by omega) (by omega) S h1 h2 (by omega)
   rw[hz1] at hs1
   rw[hz2] at hs2
   have HS1:=aa hs1
   have Gz:=aa hs2
   have Pm:=aa Xu
   have GC:=aa N0
   have S1':SWK enc k w0 blk off d wr:=S1.out
   have HE9:=aa NV
   clear RU qf Az dp KT Db HI HXX X6 Xu N0 hs1 hs2 IH NV
   have X6:=aa uG
   clear uG
   go_wp2_with (first
    |(go_at_call 217;(with_reducible refine(abq.out ?_ ?_).mono ?_);omega;omega;rintro e w1 ⟨rfl,bj⟩)
    |(go_at_call 175;(with_reducible refine(HS1.out _ ?_ ?_ ?_).mono ?_);(first | (rw[Pm.out,if_pos (by omega)];exact bj) | (rw[Pm.out,if_neg (by omega)];exact S1'));omega;omega;rintro e w2 ⟨rfl,hw2⟩)
    |(go_at_call 175;(with_reducible refine(Gz.out _ ?_ ?_ ?_).mono ?_);(first | (rw[GC.out,if_pos (by omega)];exact hw2) | (rw[GC.out,if_neg (by omega),Pm.out,if_pos (by omega)];exact bj) | (rw[GC.out,if_neg (by omega),Pm.out,if_neg (by omega)];exact S1'));omega;omega;rintro e w3 ⟨rfl,hw3⟩))
   all_goals (
    first | go_end0 | ((try simp only[Exit.inBlock,Exit.then]);refine bodyPost_ret (results_none rfl _ _ _) rfl ?_) | (trace_state;fail)
    refine⟨rfl, ?_⟩
    rw[X6.out]
    first
    |(rw[if_pos (by omega)];exact hw3)
    |(rw[if_neg (by omega),GC.out,if_pos (by omega)];exact hw2)
    |(rw[if_neg (by omega),GC.out,if_neg (by omega),Pm.out,if_pos (by omega)];exact bj)
    |(rw[if_neg (by omega),GC.out,if_neg (by omega),Pm.out,if_neg (by omega)];exact S1'))
theorem Vs(L:rC P k)(enc:α→List Value)(cf:α→α→Int)(g:Nat)(eg:∀args w,(callFunc g args).run P w= .ok (.enter g args) w)(blk off cap a m b:Nat)(d0 d:Array α)(w0 w:World)(iy:CmpLays P g #[] enc k cf blk off d0.size w0)
 (R:RowK enc k w0 blk off d0) (hs:d0.size=d.size) (S:SWK enc k w0 blk off d w) (Xm:a<m) (yn:m<b) (hb:b≤d.size) (hsz:d.size<1152921504606846976) (h1:¬m-a=1) (h2:¬b-m=1) (hc:¬(a+b)/2<m) (f:Nat) (hf:b-a≤f+1)
 (ih:∀(a m b:Nat) (dk:Array α) (W:World),b-a≤f→d0.size=dk.size→SWK enc k w0 blk off dk W→a<m→m<b→b≤dk.size→
   Calls P 175 #[.slice (some ⟨blk,off,none⟩) dk.size cap,.int .i64 a,.int .i64 m,.int .i64 b,.func (.func g) #[] #[]] W fun e w'=>e= .returned (.tuple #[])∧SWK enc k w0 blk off (fV (ltOf cf) f dk a m b) w'):
 Calls P 175 #[.slice (some ⟨blk,off,none⟩) d.size cap,.int .i64 a,.int .i64 m,.int .i64 b,.func (.func g) #[] #[]] w fun e w'=>e= .returned (.tuple #[])∧SWK enc k w0 blk off (fV (ltOf cf) (f+1) d a m b) w':=by
 have mixed:=L.mixed;have t0:=L.t0;have a0:=L.a0;have z0:=L.z0;have v0:=L.v0;have t3:=L.t3;have a3:=L.a3;have z3:=L.z3;have v3:=L.v3;have t4:=L.t4;have a4:=L.a4;have z4:=L.z4;have v4:=L.v4;have tU:=L.tU;have aU:=L.aU;have zU:=L.zU;have vU:=L.vU;have t22:=L.tR;have a22:=L.aR;have z22:=L.zR;have v22:=L.vR;have t25:=L.tF;have a25:=L.aF;have z25:=L.zF;have v25:=L.vF;have aE:=L.aE;have zE:=L.zE
 have HC:Aside _:=iy
 have S0:Aside (SWK enc k w0 blk off d w):=S
 have EG:=aa eg
 clear S iy
 have IH:=aa ih
 clear ih
 have h1z:((m:Int)-(a:Int) == 1)=false:=by rw[beq_eq_false_iff_ne];omega
 have h1w:IntKind.i64.wrap ((m:Int)-(a:Int))=(m:Int)-(a:Int):=by rw[agD];omega
 have h2z:((b:Int)-(m:Int) == 1)=false:=by rw[beq_eq_false_iff_ne];omega
 have h2w:IntKind.i64.wrap ((b:Int)-(m:Int))=(b:Int)-(m:Int):=by rw[agD];omega
 have uG:fV (ltOf cf) (f+1) d a m b=(let mid:=(a+b)/2
  let s:=oV (ltOf cf) d a m b
  let e:=mid+m-s
  let d1:=if s<m∧m<e then ww d s m e else d
  let d2:=if a<s∧s<mid then fV (ltOf cf) f d1 a s mid else d1
  if mid<e∧e<b then fV (ltOf cf) f d2 mid e b else d2):=by rw[fV,if_neg h1,if_neg h2]
 have dp:=Bk (lt:=ltOf cf) (d:=d) Xm yn
 have KP:oV (ltOf cf) d a m b=lA (fun c=> !ltOf cf d[(a+b)/2+m-1-c]! d[c]!) (b-a) (a) (m):=by
  unfold oV;dsimp only;rw[if_neg hc]
 obtain⟨I,hI⟩:∃I,I=oV (ltOf cf) d a m b:=⟨_,rfl⟩
 rw[←hI] at uG dp KP
 clear hI
 obtain⟨mid,sN⟩:∃mid,mid=(a+b)/2:=⟨_,rfl⟩
 have acn:=sT sN
 have adY:a≤mid∧mid<b:=by omega
 rw[←sN] at uG dp KP hc
 dsimp only at uG
 have wab:IntKind.i64.wrap ((a:Int)+(b:Int))=(a:Int)+(b:Int):=by rw[agD];omega
 have uab:IntKind.u64.wrap ((a:Int)+(b:Int))=(a:Int)+(b:Int):=agq _ (by omega)
 have adx:IntKind.i64.wrap (mid:Int)=(mid:Int):=by rw[agD];omega
 obtain⟨n,hn⟩:∃n,n=mid+m:=⟨_,rfl⟩
 have hni:(mid:Int)+(m:Int)=(n:Int):=by omega
 have wn:IntKind.i64.wrap (n:Int)=(n:Int):=by rw[agD];omega
 rw[←hn] at uG dp KP
 obtain⟨p,hp⟩:∃p,p=n-1:=⟨_,rfl⟩
 have qd:(n:Int)-1=(p:Int):=by omega
 have wp:IntKind.i64.wrap (p:Int)=(p:Int):=by rw[agD];omega
 have hgt:¬(mid:Int)<(m:Int):=by omega
 have hsr:a≤m∧m-a≤b-a:=by omega
 have WE:∀h,a≤h→h<m→h≤p∧p-h<b∧h<b:=fun h hh1 hh2=>by omega
 have HXX:=aa WE
 rw[rj _ (b-a) (m-a) _ _ (by omega) (by omega)] at KP
 have LD:Hid (lA (fun c=> !ltOf cf d[n-1-c]! d[c]!) (m-a) a m=I):=aa KP.symm
 have X6:=aa uG
 have Db:=aa dp
 have aeS:=aa sN
 have HN:=aa hn
 have HP:=aa hp
 have aaf:=hsr.1
 clear uG dp KP sN hn hp hsr WE
 go_enter L.fSy,Tryz.ntmps175
 go_wp2
 go_loopg [20,21] (m-a) (fun gx vi vj wr=>∃(i j t:Nat),vi= .int .i64 i∧vj= .int .i64 j∧a≤i∧i≤j∧j≤m∧j-i≤t∧t≤gx∧Aside (SWK enc k w0 blk off d wr)∧Hid (lA (fun c=> !ltOf cf d[n-1-c]! d[c]!) t i j=I))
 case atStart=>exact⟨a,m,m-a,rfl,rfl,agl _,aaf,agl _,agl _,agl _,S0,LD⟩
 case round=>
  clear S0 LD
  obtain⟨i,j,t,rfl,rfl,cw,uM,Ji,ht,hg,S1,HI⟩:=hrel
  by_cases hlt:i<j
  ·have xv:(i:Int)<(j:Int):=by omega
   obtain⟨u,rfl⟩:∃u,t=u+1:=⟨t-1,by omega⟩
   have hgo:=tk (p:=(fun c=> !ltOf cf d[n-1-c]! d[c]!)) (f:=u) hlt
   obtain⟨h,hh⟩:∃h,h=(i+j)/2:=⟨_,rfl⟩
   have hhi:=sT hh
   have hh1:i≤h∧h<j:=by omega
   have Gd:=HXX.out h (by omega) (by omega)
   have WL:=HP.out
   obtain⟨x,hx⟩:∃x,x=p-h:=⟨_,rfl⟩
   have hxi:(p:Int)-(h:Int)=(x:Int):=by omega
   have hxn:n-1-h=x:=by omega
   have hxd:x<d.size:=by omega
   rw[←hh,HI.out] at hgo
   have yu:=aa hgo
   have w1:IntKind.i64.wrap ((i:Int)+(j:Int))=(i:Int)+(j:Int):=by rw[agD];omega
   have w2:IntKind.u64.wrap ((i:Int)+(j:Int))=(i:Int)+(j:Int):=agq _ (by omega)
   have w3:IntKind.i64.wrap (h:Int)=(h:Int):=by rw[agD];omega
   have w4:IntKind.i64.wrap ((h:Int)+1)=(h:Int)+1:=by rw[agD];omega
   have HXN:=aa hxn
   clear hgo hh HI WL hx hxn
   cases hlv:decide (cf d[x]! d[h]! <0)with
   |true=>
    have hq:Hid (lA (fun c=> !ltOf cf d[n-1-c]! d[c]!) u i h=I):=by
     show _=_
     rw[yu.out]
     exact(if_neg (by rw[HXN.out];simp[ltOf,hlv])).symm
    clear yu
    have ex:((x:Int)).toNat=x:=by omega
    have px:(0:Int)≤(x:Int):=by omega
    have qx:(x:Int)<(d.size:Int):=by omega
    have rx:IntKind.i64.wrap (x:Int)=(x:Int):=by rw[agD];omega
    have ey:((h:Int)).toNat=h:=by omega
    have py:(0:Int)≤(h:Int):=by omega
    have qy:(h:Int)<(d.size:Int):=by omega
    have ry:IntKind.i64.wrap (h:Int)=(h:Int):=by rw[agD];omega
    obtain⟨cx,mV⟩:∃c,c=d[x]! :=⟨_,rfl⟩
    obtain⟨cy,pM⟩:∃c,c=d[h]! :=⟨_,rfl⟩
    have lx:=S1.out.ld R (by omega) P x (by omega)
    have ly:=S1.out.ld R (by omega) P h (by omega)
    rw[←mV] at lx
    rw[←pM] at ly
    have nR:=S1.out.cmp HC.out (by omega) cx cy
    rw[←mV,←pM] at hlv
    have hv:cf cx cy<0:=of_decide_eq_true hlv
    have hd:decide (cf cx cy<0)=true:=hlv
    clear mV pM hlv
    go_wp2_with fail
    go_quiet_grown (first | (go_at_fn g;refine Calls.grown_of (nR _ _)))
    have SU:Aside (SWK enc k w0 blk off d (grow (wr.drewN nq) osq)):=S1.out.grown nq osq
    clear lx ly nR S1
    generalize grow (wr.drewN nq) osq=wu at SU ⊢
    clear nq osq
    go_wp2
    go_roundg u
    case measure=>omega
    case rel=>exact⟨i,h,u,rfl,rfl,cw,by omega,by omega,by omega,agl _,SU,hq⟩
   |false=>
    have hq:Hid (lA (fun c=> !ltOf cf d[n-1-c]! d[c]!) u (h+1) j=I):=by
     show _=_
     rw[yu.out]
     exact(if_pos (by rw[HXN.out];simp[ltOf,hlv])).symm
    clear yu
    have ex:((x:Int)).toNat=x:=by omega
    have px:(0:Int)≤(x:Int):=by omega
    have qx:(x:Int)<(d.size:Int):=by omega
    have rx:IntKind.i64.wrap (x:Int)=(x:Int):=by rw[agD];omega
    have ey:((h:Int)).toNat=h:=by omega
    have py:(0:Int)≤(h:Int):=by omega
    have qy:(h:Int)<(d.size:Int):=by omega
    have ry:IntKind.i64.wrap (h:Int)=(h:Int):=by rw[agD];omega
    obtain⟨cx,mV⟩:∃c,c=d[x]! :=⟨_,rfl⟩
    obtain⟨cy,pM⟩:∃c,c=d[h]! :=⟨_,rfl⟩
    have lx:=S1.out.ld R (by omega) P x (by omega)
    have ly:=S1.out.ld R (by omega) P h (by omega)
    rw[←mV] at lx
    rw[←pM] at ly
    have nR:=S1.out.cmp HC.out (by omega) cx cy
    rw[←mV,←pM] at hlv
    have hv:¬cf cx cy<0:=of_decide_eq_false hlv
    have hd:decide (cf cx cy<0)=false:=hlv
    clear mV pM hlv
    go_wp2_with fail
    go_quiet_grown (first | (go_at_fn g;refine Calls.grown_of (nR _ _)))
    have SU:Aside (SWK enc k w0 blk off d (grow (wr.drewN nq) osq)):=S1.out.grown nq osq
    clear lx ly nR S1
    generalize grow (wr.drewN nq) osq=wu at SU ⊢
    clear nq osq
    go_wp2
    go_roundg u
    case measure=>omega
    case rel=>exact⟨h+1,j,u,by go_num,rfl,by omega,by omega,Ji,by omega,agl _,SU,hq⟩
  ·obtain rfl:i=j:=by omega
   have xv:¬(i:Int)<(i:Int):=by omega
   have hii:i=I:=by rw[←HI.out,fe (by omega)]
   subst hii
   have dp:=Db.out
   have KT:=HN.out
   obtain⟨e9,NV⟩:∃e9,e9=n-i:=⟨_,rfl⟩
   have hei:(n:Int)-(i:Int)=(e9:Int):=by omega
   have we:IntKind.i64.wrap (e9:Int)=(e9:Int):=by rw[agD];omega
   have uG:=X6.out
   rw[←NV] at uG
   have RU:=fun (h1:i<m) (h2:m<e9)=>Ko (P:=P) L enc g blk off cap i m e9 d0 d w0 wr R hs S1.out h1 h2 (by omega) (by omega)
   have abq:=aa RU
   have eRo:∀args w,(callFunc 217 args).run P w= .ok (.enter 217 args) w:=enters_of L.fRo (by kernel_rfl) rfl
   have eSy:∀args w,(callFunc 175 args).run P w= .ok (.enter 175 args) w:=enters_of L.fSy (by kernel_rfl) rfl
   obtain⟨D1,Xu⟩:∃D1,D1=(if i<m∧m<e9 then ww d i m e9 else d):=⟨_,rfl⟩
   rw[←Xu] at uG
   obtain⟨D2,N0⟩:∃D2,D2=(if a<i∧i<mid then fV (ltOf cf) f D1 a i mid else D1):=⟨_,rfl⟩
   rw[←N0] at uG
   have qf:gM d D1:=by
    rw[Xu]
    split
    ·exact wD d (by omega) (by omega) (by omega)
    ·exact gM.refl d
   have Az:gM d D2:=by
    rw[N0]
    split
    ·exact qf.trans (ja f _ a i mid (by omega) (by omega) (by rw[qf.size];omega))
    ·exact qf
   have hz1:=qf.size
   have hz2:=Az.size
   have hs1:=fun (W:World) (S:SWK enc k w0 blk off D1 W) (h1:a<i) (h2:i<mid)=>IH.out a i mid D1 W (by omega) (by omega) S h1 h2 (by omega)
   have hs2:=fun (W:World) (S:SWK enc k w0 blk off D2 W) (h1:mid<e9) (h2:e9<b)=>IH.out mid e9 b D2 W (by omega) (by omega) S h1 h2 (by omega)
   rw[hz1] at hs1
   rw[hz2] at hs2
   have HS1:=aa hs1
   have Gz:=aa hs2
   have Pm:=aa Xu
   have GC:=aa N0
   have S1':SWK enc k w0 blk off d wr:=S1.out
   have HE9:=aa NV
   clear RU qf Az dp KT Db HI HXX X6 Xu N0 hs1 hs2 IH NV
   have X6:=aa uG
   clear uG
   go_wp2_with (first
    |(go_at_call 217;(with_reducible refine(abq.out ?_ ?_).mono ?_);omega;omega;rintro e w1 ⟨rfl,bj⟩)
    |(go_at_call 175;(with_reducible refine(HS1.out _ ?_ ?_ ?_).mono ?_);(first | (rw[Pm.out,if_pos (by omega)];exact bj) | (rw[Pm.out,if_neg (by omega)];exact S1'));omega;omega;rintro e w2 ⟨rfl,hw2⟩)
    |(go_at_call 175;(with_reducible refine(Gz.out _ ?_ ?_ ?_).mono ?_);(first | (rw[GC.out,if_pos (by omega)];exact hw2) | (rw[GC.out,if_neg (by omega),Pm.out,if_pos (by omega)];exact bj) | (rw[GC.out,if_neg (by omega),Pm.out,if_neg (by omega)];exact S1'));omega;omega;rintro e w3 ⟨rfl,hw3⟩))
   all_goals (
    first | go_end0 | ((try simp only[Exit.inBlock,Exit.then]);refine bodyPost_ret (results_none rfl _ _ _) rfl ?_) | (trace_state;fail)
    refine⟨rfl, ?_⟩
    rw[X6.out]
    first
    |(rw[if_pos (by omega)];exact hw3)
    |(rw[if_neg (by omega),GC.out,if_pos (by omega)];exact hw2)
    |(rw[if_neg (by omega),GC.out,if_neg (by omega),Pm.out,if_pos (by omega)];exact bj)
    |(rw[if_neg (by omega),GC.out,if_neg (by omega),Pm.out,if_neg (by omega)];exact S1'))
variable {P : Program} {α : Type} [Inhabited α] {k : Nat}
theorem Dk(L:rC P k)(enc:α→List Value)(cf:α→α→Int)(g:Nat)(eg:∀args w,(callFunc g args).run P w= .ok (.enter g args) w)(blk off cap:Nat)(d0:Array α)(w0:World)(iy:CmpLays P g #[] enc k cf blk off d0.size w0)
 (R:RowK enc k w0 blk off d0):∀(f a m b:Nat) (d:Array α) (w:World),b-a≤f→d0.size=d.size→SWK enc k w0 blk off d w→a<m→m<b→b≤d.size→d.size<1152921504606846976→
 Calls P 175 #[.slice (some ⟨blk,off,none⟩) d.size cap,.int .i64 a,.int .i64 m,.int .i64 b,.func (.func g) #[] #[]] w fun e w'=>e= .returned (.tuple #[])∧SWK enc k w0 blk off (fV (ltOf cf) f d a m b) w'
 |0,a,m,b,d,w,hf,_,_,h1,h2,_,_=>by omega
 |f+1,a,m,b,d,w,hf,hs,S,h1,h2,hb,hsz=>by
  by_cases c1:m-a=1
  ·have:=Qf L enc cf g eg blk off cap a m b d0 d w0 w iy R hs S h1 h2 hb hsz c1
   rw[fV,if_pos c1]
   exact this
  ·by_cases c2:b-m=1
   ·have:=Qe L enc cf g eg blk off cap a m b d0 d w0 w iy R hs S h1 h2 hb hsz c1 c2
    rw[fV,if_neg c1,if_pos c2]
    exact this
   ·have ih:=fun (a m b:Nat) (dk:Array α) (W:World) (h3:b-a≤f) (h4:d0.size=dk.size) (S:SWK enc k w0 blk off dk W) (h5:a<m) (h6:m<b) (h7:b≤dk.size)=>
     Dk L enc cf g eg blk off cap d0 w0 iy R f a m b dk W h3 h4 S h5 h6 h7 (by omega)
    by_cases c3:(a+b)/2<m
    ·exact Vt L enc cf g eg blk off cap a m b d0 d w0 w iy R hs S h1 h2 hb hsz c1 c2 c3 f hf ih
    ·exact Vs L enc cf g eg blk off cap a m b d0 d w0 w iy R hs S h1 h2 hb hsz c1 c2 c3 f hf ih
def Yn:Ren:=⟨fun | 20=>174 | n=>n,fun | 22=>44 | 24=>52 | 25=>158 | 3=>3 | 0=>0 | 4=>4 | n=>n,fun | n=>n⟩
theorem WA{lt:α→α→Bool}{f a b n:Nat}{d:Array α}(h:b≤n):uF lt (f+1) d a b n=uF lt f (insertionSort lt d a b) b (b+20) n:=by rw[uF,if_pos h]
theorem Nx{lt:α→α→Bool}{f a b n:Nat}{d:Array α}(h:¬b≤n):uF lt f d a b n=insertionSort lt d a n:=by
 cases f with
 |zero=>rfl
 |succ f=>rw[uF,if_neg h]
theorem Wi{lt:α→α→Bool}{f a b bs n:Nat}{d:Array α}(h:b≤n):sB lt (f+1) d a b bs n=sB lt f (fV lt (b-a) d a (a+bs) b) b (b+2*bs) bs n:=by rw[sB,if_pos h]
theorem MN{lt:α→α→Bool}{f a b bs n:Nat}{d:Array α}(h:¬b≤n)(hf:n≤a+f):sB lt f d a b bs n=if a+bs<n then fV lt (n-a) d a (a+bs) n else d:=by
 cases f with
 |zero=>rw[if_neg (by omega)];rfl
 |succ f=>rw[sB,if_neg h]
theorem Qi{lt:α→α→Bool}{f bs n:Nat}{d:Array α}(h:bs<n):lH lt (f+1) d bs n=lH lt f (sB lt n d 0 (2*bs) bs n) (2*bs) n:=by rw[lH,if_pos h]
theorem GX{lt:α→α→Bool}{f bs n:Nat}{d:Array α}(h:¬bs<n):lH lt f d bs n=d:=by
 cases f with
 |zero=>rfl
 |succ f=>rw[lH,if_neg h]
theorem GW(L:rC P k)(LI:SlLaysF0.n20 P Yn)(enc:α→List Value)(cf:α→α→Int)(hO:SWO (ltOf cf))(g:Nat)(eg:∀args w,(callFunc g args).run P w= .ok (.enter g args) w)(blk off cap:Nat)(d:Array α)(w:World)(iy:CmpLays P g #[] enc k cf blk off d.size w)
 (R:RowK enc k w blk off d) (hsz:d.size<576460752303423488):
 Calls P 127 #[.slice (some ⟨blk,off,none⟩) d.size cap,.int .i64 d.size,.func (.func g) #[] #[]] w fun e w'=>e= .returned (.tuple #[])∧SWK enc k w blk off (stabP (ltOf cf) d) w':=by
 have mixed:=L.mixed;have t0:=L.t0;have a0:=L.a0;have z0:=L.z0;have v0:=L.v0;have t3:=L.t3;have a3:=L.a3;have z3:=L.z3;have v3:=L.v3;have t4:=L.t4;have a4:=L.a4;have z4:=L.z4;have v4:=L.v4;have tU:=L.tU;have aU:=L.aU;have zU:=L.zU;have vU:=L.vU;have t22:=L.tR;have a22:=L.aR;have z22:=L.zR;have v22:=L.vR;have t25:=L.tF;have a25:=L.aF;have z25:=L.zF;have v25:=L.vF;have aE:=L.aE;have zE:=L.zE
 have eIn:∀args w,(callFunc 174 args).run P w= .ok (.enter 174 args) w:=LI.f20.enters rfl
 have eSy:∀args w,(callFunc 175 args).run P w= .ok (.enter 175 args) w:=enters_of L.fSy (by kernel_rfl) rfl
 have S0:Aside (SWK enc k w blk off d w):=SWK.start R.hH
 obtain⟨n,hn⟩:∃n,n=d.size:=⟨_,rfl⟩
 have acx:∀(a b:Nat) (dk:Array α) (W:World),n=dk.size→SWK enc k w blk off dk W→a≤b→b≤n→Calls P 174 #[.slice (some ⟨blk,off,none⟩) dk.size cap,.int .i64 a,.int .i64 b,.func (.func g) #[] #[]] W (fun e w'=>e= .returned (.tuple #[])∧SWK enc k w blk off (Sort.insertionSort (ltOf cf) dk a b) w'):=fun a b dk W h1 S hab hb=>Go.Proofs.AnyQ.insertionSortCmpFunc_w (P:=P) LI k aE zE enc cf g #[] blk off cap a b d dk w W eg iy R (by omega) S hO hab (by omega) (by omega)
 have ab6:=fun (f a m b:Nat) (dk:Array α) (W:World) (h0:b-a≤f) (h1:n=dk.size) (S:SWK enc k w blk off dk W) (Xm:a<m) (yn:m<b) (hb:b≤n)=>Dk L enc cf g eg blk off cap d w iy R f a m b dk W h0 (by omega) S Xm yn (by omega) (by omega)
 have ads:=aa acx
 have adr:=aa ab6
 clear acx ab6 iy
 obtain⟨D,hD⟩:∃D,D=uF (ltOf cf) n d 0 20 n:=⟨_,rfl⟩
 have iu:stabP (ltOf cf) d=lH (ltOf cf) n D 20 n:=by rw[hD,hn];rfl
 have hpd:gM d D:=by rw[hD];exact wG hO n d 0 20 n (by omega) (by omega) (by omega)
 rw[iu]
 rw[←hn] at hsz ⊢
 have HD:=aa hD
 have HN:=aa hn
 have HPD:=aa hpd
 clear hD iu hn hpd eg
 have w20:IntKind.i64.wrap (20:Int)=20:=by kernel_rfl
 go_enter L.fSt,Tryz.ntmps127
 go_wp2
 go_loopg [7,8] n (fun gx v7 v8 wr=>∃(a b t:Nat) (dk:Array α),v7= .int .i64 a∧v8= .int .i64 b∧Hid (b=a+20)∧a≤n∧n≤a+t∧t≤gx∧Aside (gM d dk)∧Aside (SWK enc k w blk off dk wr)∧Hid (uF (ltOf cf) t dk a b n=D))
 case atStart=>exact⟨0,20,n,d,by go_num,by go_num,rfl,by omega,by omega,agl _,gM.refl d,S0,HD.out.symm⟩
 case round=>
  clear S0 HD
  obtain⟨a,b,t,dk,rfl,rfl,hba,han,hnt,htg,HP,S1,HR⟩:=hrel
  have NY:=hba.out
  have yr:=HP.out.size
  have KT:=HN.out
  by_cases hlt:b≤n
  ·have xv:(b:Int)≤(n:Int):=by omega
   obtain⟨f,rfl⟩:∃f,t=f+1:=⟨t-1,by omega⟩
   have hc:=ads.out a b dk wr (by omega) S1.out (by omega) hlt
   have lS:=HP.out.trans (uY hO dk (a:=a) (b:=b) (by omega) (by omega))
   rw[show dk.size=n by omega] at hc
   have lX:Hid (uF (ltOf cf) f (insertionSort (ltOf cf) dk a b) b (b+20) n=D):=aa ((WA hlt).symm.trans HR.out)
   have HC:=aa hc
   have PS:Aside (gM d _):=lS
   have w1:IntKind.i64.wrap ((b:Int)+20)=(b:Int)+20:=by rw[agD];omega
   have yL:b≤n∧n≤b+f∧f<_:=⟨hlt,by omega,htg⟩
   clear hc lS HR NY KT yr
   go_wp2_with (go_at_call 174;(with_reducible refine HC.out.mono ?_);rintro e w1 ⟨rfl,bj⟩)
   go_roundg f
   case measure=>omega
   case rel=>exact⟨b,b+20,f,_,rfl,by go_num,rfl,hlt,by omega,agl _,PS,bj,lX⟩
  ·have xv:¬(b:Int)≤(n:Int):=by omega
   have hst:=Nx (lt:=ltOf cf) (f:=t) (a:=a) (b:=b) (d:=dk) hlt
   rw[HR.out] at hst
   have hc:=ads.out a n dk wr (by omega) S1.out han (agl _)
   rw[show dk.size=n by omega,←hst] at hc
   have HC:=aa hc
   clear hc hst HR NY KT yr
   go_wp2_with (go_at_call 174;(with_reducible refine HC.out.mono ?_);rintro e w1 ⟨rfl,bj⟩)
   have SD:Aside (SWK enc k w blk off D w1):=bj
   clear HC S1 HP bj
   go_loopg [6,7,8,9] n (fun gx v6 _ _ _ wr=>∃(bs t:Nat) (dk:Array α),v6= .int .i64 bs∧0<bs∧bs≤2*n+20∧n≤bs+t∧t≤gx∧Aside (gM d dk)∧Aside (SWK enc k w blk off dk wr)∧Hid (lH (ltOf cf) t dk bs n=lH (ltOf cf) n D 20 n))
   case atStart=>exact⟨20,n,D,by go_num,by omega,by omega,by omega,agl _,HPD.out,SD,rfl⟩
   case round=>
    clear SD HPD
    obtain⟨bs,t2,dk,rfl,aen,afY,afl,afa,HP,S1,HR⟩:=hrel
    by_cases Su:bs<n
    ·have ad1:(bs:Int)<(n:Int):=by omega
     obtain⟨f,rfl⟩:∃f,t2=f+1:=⟨t2-1,by omega⟩
     have hgo:=Qi (lt:=ltOf cf) (f:=f) (d:=dk) Su
     rw[HR.out] at hgo
     obtain⟨D2,N0⟩:∃D2,D2=sB (ltOf cf) n dk 0 (2*bs) bs n:=⟨_,rfl⟩
     have CQ:=HP.out.trans (wF (lt:=ltOf cf) n dk 0 (2*bs) bs n aen (by omega) (by have:=HP.out.size;have:=HN.out;omega))
     rw[←N0] at hgo CQ
     have yu:=aa hgo
     have GC:=aa N0
     have PS:Aside (gM d D2):=CQ
     obtain⟨b2,hb2⟩:∃b2,b2=2*bs:=⟨_,rfl⟩
     have af2:2*(bs:Int)=(b2:Int):=by omega
     have af1:(bs:Int)*2=(b2:Int):=by omega
     have wb2:IntKind.i64.wrap (b2:Int)=(b2:Int):=by rw[agD];omega
     have kG:=aa hb2
     have Xi:b2≤2*n∧bs<b2∧b2≤bs+bs∧bs+bs≤b2:=by omega
     clear hgo N0 CQ hb2 HR
     go_wp2_with fail
     go_loopg [7,8] n (fun gx v7 v8 wr=>∃(a b t:Nat) (dk:Array α),v7= .int .i64 a∧v8= .int .i64 b∧Hid (b=a+b2)∧a≤n∧n≤a+t∧t≤gx∧Aside (gM d dk)∧Aside (SWK enc k w blk off dk wr)∧Hid (sB (ltOf cf) t dk a b bs n=D2))
     case atStart=>exact⟨0,b2,n,dk,by go_num,rfl,(by show _=_;omega),by omega,by omega,agl _,HP,S1,(by show _=_;rw[kG.out];exact GC.out.symm)⟩
     case round=>
      clear S1 GC HP
      obtain⟨a,b,t3,dk,rfl,rfl,aep,af3,adR,ae9,HP,S1,HR⟩:=hrel
      have NY:=aep.out
      have yr:=HP.out.size
      have KT:=HN.out
      obtain⟨m9,xu⟩:∃m9,m9=a+bs:=⟨_,rfl⟩
      have afv:(a:Int)+(bs:Int)=(m9:Int):=by omega
      have wm9:IntKind.i64.wrap (m9:Int)=(m9:Int):=by rw[agD];omega
      have aaO:=Xi.2.2
      by_cases jR:b≤n
      ·have EI:(b:Int)≤(n:Int):=by omega
       obtain⟨u,rfl⟩:∃u,t3=u+1:=⟨t3-1,by omega⟩
       have hc:=adr.out (b-a) a m9 b dk wr (agl _) (by omega) S1.out (by omega) (by omega) jR
       have lS:=HP.out.trans (ja (lt:=ltOf cf) (b-a) dk a m9 b (by omega) (by omega) (by omega))
       rw[show dk.size=n by omega] at hc
       have aax:=Wi (lt:=ltOf cf) (f:=u) (a:=a) (bs:=bs) (d:=dk) jR
       rw[HR.out,←xu] at aax
       have lX:Hid (sB (ltOf cf) u (fV (ltOf cf) (b-a) dk a m9 b) b (b+b2) bs n=D2):=by
        show _=_
        rw[aax,kG.out]
       have HC:=aa hc
       have HP3:Aside (gM d _):=lS
       have w1:IntKind.i64.wrap ((b:Int)+(b2:Int))=(b:Int)+(b2:Int):=by rw[agD];omega
       have yL:n≤b+u:=by omega
       clear hc lS HR NY KT yr aax xu aaO Xi
       go_wp2_with (go_at_call 175;(with_reducible refine HC.out.mono ?_);rintro e w1 ⟨rfl,bj⟩)
       go_roundg u
       case measure=>omega
       case rel=>exact⟨b,b+b2,u,_,rfl,by go_num,rfl,jR,yL,agl _,HP3,bj,lX⟩
      ·have EI:¬(b:Int)≤(n:Int):=by omega
       have hst:=MN (lt:=ltOf cf) (f:=t3) (a:=a) (b:=b) (bs:=bs) (d:=dk) jR adR
       rw[HR.out,←xu] at hst
       by_cases hmn:m9<n
       ·have adW:(m9:Int)<(n:Int):=by omega
        rw[if_pos hmn] at hst
        have hc:=adr.out (n-a) a m9 n dk wr (agl _) (by omega) S1.out (by omega) hmn (agl _)
        rw[show dk.size=n by omega,←hst] at hc
        have HC:=aa hc
        have yL:n≤b2+f:=by omega
        have Jt:b2≤2*n+20∧0<b2:=by omega
        clear hc hst HR NY KT yr xu aaO Xi
        go_wp2_with (go_at_call 175;(with_reducible refine HC.out.mono ?_);rintro e w1 ⟨rfl,bj⟩)
        go_roundg f
        case measure=>omega
        case rel=>exact⟨b2,f,D2,rfl,Jt.2,Jt.1,yL,agl _,PS,bj,by rw[kG.out];exact yu.out.symm⟩
       ·have adW:¬(m9:Int)<(n:Int):=by omega
        rw[if_neg hmn] at hst
        have HST:=aa hst
        have yL:n≤b2+f:=by omega
        have Jt:b2≤2*n+20∧0<b2:=by omega
        clear hst HR NY KT yr xu aaO Xi
        go_wp2_with fail
        go_roundg f
        case measure=>omega
        case rel=>exact⟨b2,f,D2,rfl,Jt.2,Jt.1,yL,agl _,PS,by rw[HST.out];exact S1,by rw[kG.out];exact yu.out.symm⟩
    ·have ad1:¬(bs:Int)<(n:Int):=by omega
     go_wp2_with fail
     go_end0
     rw[←HR.out,GX Su]
     exact⟨rfl,S1.out⟩
end
end Go.Proofs.YtbhfpehgacaidaaGreatDoor
