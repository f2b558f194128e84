/- A part of the proof of the given statement TopRight. Conditions: none. -/
import Derived.Laws.MakeOwn
import Derived.Test.YtbhfpehgacaidaaGreatDoorQAG
namespace Go.Proofs.YtbhfpehgacaidaaGreatDoor
set_option linter.unusedVariables false
set_option linter.unusedSimpArgs false
set_option maxRecDepth 100000
set_option maxHeartbeats 8000000
section
open Go.RowKit
def iA:rG Pk where
 enc p A c:=[.int .i64 p.stream,.int .i64 p.pat,.int .i64 p.plen,.bool p.key,.bool p.hid,.slice A p.data.length c]
 dat p:=p.data
 k:=6
 pos:=by omega
 len _ _ _:=rfl
 one p A c v hv:=by
  simp only[List.mem_cons,List.not_mem_nil,or_false] at hv
  rcases hv with rfl | rfl | rfl | rfl | rfl | rfl <;> rfl
def byK:rG (List Int) where
 enc l A c:=[.slice A l.length c]
 dat l:=l
 k:=1
 pos:=by omega
 len _ _ _:=rfl
 one p A c v hv:=by
  simp only[List.mem_cons,List.not_mem_nil,or_false] at hv
  rw[hv];rfl
theorem kh{w:World}{B:Nat}{A:Option Addr}{E:List (El Pk)}(h:iE iA w B A E){i:Nat}(hi:i<E.length):
 ∃b off,A=some ⟨b,off,none⟩∧b<B∧w.cell? ⟨b,off+i*6,none⟩=some (.int .i64 E[i].1.stream)∧w.cell? ⟨b,off+i*6+1,none⟩=some (.int .i64 E[i].1.pat)∧w.cell? ⟨b,off+i*6+2,none⟩=some (.int .i64 E[i].1.plen)∧
  w.cell? ⟨b,off+i*6+3,none⟩=some (.bool E[i].1.key)∧w.cell? ⟨b,off+i*6+4,none⟩=some (.bool E[i].1.hid)∧w.cell? ⟨b,off+i*6+5,none⟩=some (.slice E[i].2.1 E[i].1.data.length E[i].2.2):=by
 obtain⟨b,off,e,hb,hc⟩:=h.at_ hi
 exact⟨b,off,e,hb,hc 0 _ rfl,hc 1 _ rfl,hc 2 _ rfl,hc 3 _ rfl,hc 4 _ rfl,hc 5 _ rfl⟩
theorem ac6{w:World}{B:Nat}{A:Option Addr}{E:List (El (List Int))}(h:iE byK w B A E){i:Nat}(hi:i<E.length):
 ∃b off,A=some ⟨b,off,none⟩∧b<B∧w.cell? ⟨b,off+i,none⟩=some (.slice E[i].2.1 E[i].1.length E[i].2.2):=by
 obtain⟨b,off,e,hb,hc⟩:=h.at_ hi
 have:=hc 0 _ rfl
 exact⟨b,off,e,hb,by have h1:off+(i*byK.k+0)=off+i:=(by show off+(i*1+0)=_;omega);rwa[h1] at this⟩
theorem AL{α:Type}{K:rG α}(hk:K.k=1):∀(E:List (El α)) (i:Nat) (t:El α) (v:Value),K.enc t.1 t.2.1 t.2.2=[v]→aN K (E.set i t)=(aN K E).set i v
 |[],i,t,v,_=>by simp[aN]
 |u :: E,0,t,v,h=>by
  have h1:(K.enc u.1 u.2.1 u.2.2).length=1:=by rw[K.len,hk]
  obtain⟨x,hx⟩:=List.length_eq_one_iff.1 h1
  simp[aN,h,hx]
 |u :: E,i+1,t,v,h=>by
  have h1:(K.enc u.1 u.2.1 u.2.2).length=1:=by rw[K.len,hk]
  obtain⟨x,hx⟩:=List.length_eq_one_iff.1 h1
  have ih:=AL hk E i t v h
  simp only[aN,List.set_cons_succ,List.flatMap_cons,hx,List.singleton_append] at ih ⊢
  rw[ih]
theorem aV.set{α:Type}{K:rG α}(hk:K.k=1){ty:TypeId}{w:World}{B n c g:Nat}{E:List (El α)}(h:aV K ty w B (some ⟨g,0,none⟩) n c E)(i:Nat)(t:El α)(v:Value)(hv:K.enc t.1 t.2.1 t.2.2=[v])
 (hd:ag .u8 w w.heap.size t.2.1 (K.dat t.1)) (hs:∀q,aj t.2.1=some q→B≤q∧q<w.heap.size∧q≠g) (hc:(K.dat t.1).length≤t.2.2∧t.2.2≤maxLen):
 aV K ty (w.setCell ⟨g,i,none⟩ v) B (some ⟨g,0,none⟩) n c (E.set i t):=by
 have hz:(w.setCell ⟨g,i,none⟩ v).heap.size=w.heap.size:=by simp[World.setCell]
 have pL:∀u∈E.set i t,u∈E∨u=t:=fun u hu=>List.mem_or_eq_of_mem_set hu
 refine⟨by rw[AL hk E i t v hv];exact(World.ownsRow.stored h.row i v).1,by rw[List.length_set];exact h.len, ?_,fun u hu q hq=> ?_,fun u hu=> ?_⟩
 ·have h1:kH K w w.heap.size (E.set i t):=fun u hu=>by
   rcases pL u hu with h2 | rfl
   ·exact h.inn u h2
   ·exact hd
  rw[hz]
  refine h1.keep (fun u hu q hq=>agr _ _ _ _ ?_) (agl _)
  rcases pL u hu with h2 | rfl
  ·intro e
   exact(h.sep u h2 q hq).2.2 (by rw[show q=g from e];rfl)
  ·exact(hs q hq).2.2
 ·rw[hz]
  rcases pL u hu with h2 | rfl
  ·exact h.sep u h2 q hq
  ·exact⟨(hs q hq).1,(hs q hq).2.1,fun e=>(hs q hq).2.2 (by injection e with e;exact e.symm)⟩
 ·rcases pL u hu with h2 | rfl
  ·exact h.cap u h2
  ·exact hc
theorem Qn:(Tryz.prog.info? 22).map (fun i=>(i.zero,i.size,i.bytes))=some (some (.slice none 0 0),1,24):=by kernel_rfl
def Oz(n:Nat):Obj:=.cells (madeCells #[.slice none 0 0] (n*1)) 22
theorem VF(n:Nat)(hn:n≤65536)(w:World):(Instr.makeSlice 144 (.int .i64 (n:Int)) (.int .i64 (n:Int))).run Tryz.prog w= .ok (.slice (some ⟨w.heap.size,0,none⟩) n n) (w.alloc (Oz n)):=by
 obtain⟨i0,cw,hz0,hz1,hz2⟩:=info_parts Qn
 have h:=run_make (P:=Tryz.prog) w 144 22 i0 _ Tryz.underlying144 cw hz0 .i64 .i64 (n:Int) (n:Int) (by omega) (Int.le_refl _) (by rw[hz2];omega) (by omega)
 rw[hz1,Int.toNat_natCast] at h
 exact h
theorem AH:∀n,aN byK (List.replicate n (([]:List Int),(none:Option Addr),0))=List.replicate n (Value.slice none 0 0)
 |0=>rfl
 |n+1=>by
  have:=AH n
  simp only[List.replicate_succ,aN,List.flatMap_cons] at this ⊢
  rw[this];rfl
theorem VZ(w:World)(n:Nat)(hn:n≤65536):aV byK 22 (w.alloc (Oz n)) w.heap.size (some ⟨w.heap.size,0,none⟩) n n (List.replicate n ([],none,0)):=by
 have h:=ago w (Oz n)
 have e:Oz n= .cells (List.replicate n (Value.slice none 0 0)).toArray 22 (0,0):=by
  unfold Oz
  congr 1
  apply Array.toList_inj.1
  rw[toList_madeCells_one]
  simp
 rw[e] at h
 have pL:∀t∈List.replicate n (([]:List Int),(none:Option Addr),0),t=([],none,0):=fun t ht=>(List.mem_replicate.1 ht).2
 refine⟨?_,by simp,fun t ht=>by rw[pL t ht];exact ag.nil,fun t ht q hq=>(by rw[pL t ht] at hq;cases hq),fun t ht=>(by rw[pL t ht];exact⟨agl _,agw _⟩)⟩
 rw[e,AH]
 exact DU h (by simp) (agl _) (by simp only[maxLen];omega) (by simp) (agl _)
def VT(b:List Int)(sq k:Nat):Pg:=⟨((sq+k:Nat):Int),decide (k=0),decide (b.length≤252*(k+1)),false,(b.drop (252*k)).take 252⟩
def Tx(b:List Int):Nat:=(b.length+251)/252
def lM(b:List Int)(sq k:Nat):List Pg:=(List.range k).map (VT b sq)
def fj(bs:List (List Int)):List Pg:=bs.foldl (fun P b=>P++lM b P.length (Tx b)) []
def jh:List Pk→Int
 |[]=>0
 |p :: r=>if (iq p).2≠0 then(iq p).2 else jh r
def eM(L:List Pk):List Pg×Int:=if jh L≠0 then([],jh L)else(fj (L.map lc),0)
theorem IA(b:List Int)(sq k:Nat):lM b sq (k+1)=lM b sq k++[VT b sq k]:=by simp[lM,List.range_succ]
theorem My(b:List Int)(sq k:Nat):(lM b sq k).length=k:=by simp[lM]
theorem mF{bs:List (List Int)}{k:Nat}(h:k<bs.length):fj (bs.take (k+1))=fj (bs.take k)++lM bs[k] (fj (bs.take k)).length (Tx bs[k]):=by
 rw[agx h,fj,List.foldl_append];rfl
theorem vM{bs:List (List Int)}(hb:∀b∈bs,b.length≤65600):∀k,k≤bs.length→(fj (bs.take k)).length≤262*k
 |0,_=>by simp[fj]
 |k+1,hk=>by
  have h1:=vM hb k (by omega)
  have h2:=hb bs[k] (agt (by omega))
  rw[mF (by omega),List.length_append,My]
  unfold Tx;omega
theorem Nl{L:List Pk}:∀(i:Nat) (h:i<L.length),(∀j (hj:j<i),(iq (L[j]'(by omega))).2=0)→(iq L[i]).2≠0→jh L=(iq L[i]).2:=by
 induction L with
 |nil=>intro i h;simp at h
 |cons p L ih=>
  intro i h h0 h1
  cases i with
  |zero=>
   have h2:(iq p).2≠0:=h1
   rw[jh,if_pos h2];rfl
  |succ i=>
   have:=h0 0 (by omega)
   simp at this
   rw[jh,if_neg (by simpa using this)]
   exact ih i (by simpa using h) (fun j hj=>by have:=h0 (j+1) (by omega);simpa using this) (by simpa using h1)
theorem D8{L:List Pk}(h:∀j (hj:j<L.length),(iq L[j]).2=0):jh L=0:=by
 induction L with
 |nil=>rfl
 |cons p L ih=>
  have:=h 0 (by simp)
  simp at this
  rw[jh,if_neg (by simpa using this)]
  exact ih fun j hj=>by have:=h (j+1) (by simpa using hj);simpa using this
theorem Wo{p:Pk}(h:(iq p).2=0):(iq p).1=lc p:=by
 unfold iq at h ⊢
 split at h
 ·simp at h
 ·split at h
  ·simp at h
  ·rename_i h1 h2
   rw[if_neg h1,if_neg h2]
theorem D9(p:Pk):(lc p).length=18+p.data.length:=by simp[lc,aS];omega
theorem Re(p:Pk):(iq p).1.length≤18+p.data.length:=by
 unfold iq
 split
 ·simp
 ·split
  ·simp
  ·rw[D9];exact agl _
def abh(E:List (El Pk)):Prop:=∀t∈E,t.1.data.length≤65540
theorem zf(E:List (El Pk))(n:Nat)(hn:n=E.length)(hm:n≤300)(hs:abh E)(A:Option Addr)(B c:Nat)(w:World)(hB:B≤w.heap.size)(ha:iE iA w B A E):
 Calls Tryz.prog 24 #[.slice A n c,.int .i64 0] w (yb (eM (E.map (·.1))) w):=by
 have Hn:=aa hn
 have nS:(E.map (·.1)).length=n:=by simp[hn]
 clear hn
 obtain⟨P,hP⟩:∃P,P=E.map (·.1):=⟨_,rfl⟩
 rw[←hP] at nS ⊢
 have HP:=aa hP
 have pZ:=aa nS
 clear hP nS
 have lT:=VF n (by omega) w
 have hown:=VZ w n (by omega)
 obtain⟨w1,bj⟩:∃w1,w1=w.alloc (Oz n):=⟨_,rfl⟩
 obtain⟨g,hg⟩:∃g,g=w.heap.size:=⟨_,rfl⟩
 have B1:Hid (Below w.heap.size w w1):=by rw[bj];exact aa (ak (ac w) _)
 rw[←bj,←hg] at lT hown
 have Hg:=aa hg
 have HO0:Hid (aV byK 22 w1 w.heap.size (some ⟨g,0,none⟩) n n (List.replicate n ([],none,0))):=by rw[←hg];exact aa hown
 clear bj hg hown
 go_enter Tryz.func24,Tryz.ntmps24
 go_wp2_with fail
 clear lT
 go_loopw [7,8,9,10,28] (fun _ _ _ _ iv wr=>(∃(i:Nat) (E':List (El (List Int))),i≤n∧iv= .int .i64 i∧aV byK 22 wr w.heap.size (some ⟨g,0,none⟩) n n E'∧E'.map (·.1)=(P.take i).map lc++List.replicate (n-i) []∧∀j (hj:j<P.length),j<i→(iq P[j]).2=0)∧Below w.heap.size w wr) (fun _ _ _ _ iv _=>n-(intOf iv).toNat)
 case atStart=>exact⟨⟨0,_,agw _,rfl,HO0.out,by simp,fun j _ hj=>absurd hj (by omega)⟩,B1.out⟩
 case round=>
  obtain⟨⟨i,E',hi,rfl,hO,hE,hL⟩,hb⟩:=hrel
  obtain⟨wo,rfl⟩:∃wo:World,wo=wr:=⟨_,rfl⟩
  have HO:=aa hO
  have HE:=aa hE
  have HL:=aa hL
  have HB:=aa hb
  clear hO hE hL hb HO0 B1
  by_cases hlt:i<n
  ·have dv:i<E.length:=by have:=Hn.out;omega
   have Gp:i<P.length:=by have:=pZ.out;omega
   have hI:(i:Int)<(n:Int):=by omega
   have kJ:B≤wo.heap.size:=agm hB HB.out.size
   have ha2:=ha.below (HB.out.mono hB)
   obtain⟨b,off,rfl,sQ,x0,x1,x2,x3,x4,x5⟩:=kh ha2 dv
   have hsm:=hs _ (agt dv)
   have iC:=ha2.2 _ (agt dv)
   have qd:P[i]=E[i].1:=by simp[HP.out]
   have aW:=Nl (L:=P) i Gp (fun j hj=>HL.out j (by omega) hj)
   have sM:Hid (∀(t:El (List Int)),t.1=lc P[i]→(E'.set i t).map (·.1)=(P.take (i+1)).map lc++List.replicate (n-(i+1)) []):=fun t ht=>by
    rw[List.map_set,HE.out,ht,agx Gp,List.map_append,List.append_assoc]
    rw[List.set_append_right _ _ (by simp;omega)]
    have h1:i-((P.take i).map lc).length=0:=by simp;omega
    rw[h1,show n-i=(n-(i+1))+1 by omega,List.replicate_succ]
    rfl
   rw[qd] at aW sM
   have RH:Hid ((iq E[i].1).2=0→∀j (hj:j<P.length),j<i+1→(iq P[j]).2=0):=fun h0 j hj hji=>by
    by_cases e:j=i
    ·subst e;rw[qd];exact h0
    ·exact HL.out j hj (by omega)
   generalize E[i]=t at*
   obtain⟨⟨st,dV,ln,ky,hd,dt⟩,Ad,cd⟩:=t
   dsimp only at*
   have hcon:=fun W (h:Below wo.heap.size wo W)=>KD ⟨st,dV,ln,ky,hd,dt⟩ Ad B cd W (agm kJ h.size) (ag.below (xs:=dt) iC (h.mono kJ)) (show dt.length≤80000 by omega)
   unfold Ga dF at hcon
   dsimp only at hcon
   have dU:=Wo (p:=⟨st,dV,ln,ky,hd,dt⟩)
   have CR:=Re ⟨st,dV,ln,ky,hd,dt⟩
   generalize iq ⟨st,dV,ln,ky,hd,dt⟩=R at*
   obtain⟨R1,R2⟩:=R
   dsimp only at*
   have cC:=aa hcon
   clear hcon iC ha2 qd
   by_cases h0:R2=0
   ·subst h0
    have yO:=dU rfl
    have hz2:=aa (RH.out rfl)
    have Yz:=aa (sM.out)
    rw[←yO] at Yz
    have hwg:g<wo.heap.size:=(HO.out.row.lt g rfl).2
    have hgi:(i:Int).toNat=i:=by omega
    have aeb:i<(aN byK E').length:=by rw[cA];show i<E'.length*1;have:=HO.out.len;omega
    clear aW dU RH sM yO
    go_wp2_with (go_at_call 72;(with_reducible refine(cC.out _ (ak (ac wo) _)).mono ?_);rintro e w2 ⟨A3,c3,rfl,bF,b2⟩;have B2:=af (ak (ac wo) _) b2;have O2:=HO.out.below B2 (agl _);have f1:=World.ownsRow.frozenAt O2.row i;obtain⟨d0,d1⟩:∃v,w2.cell? ⟨g,i,none⟩=some v:=⟨_,(World.ownsRow.cellAt O2.row i (by show i<n*1;omega)).trans (List.getElem?_eq_getElem aeb)⟩)
    have sO:w.heap.size≤g:=(HO.out.row.lt g rfl).1
    refine⟨⟨⟨i+1,E'.set i (R1,A3,c3),by omega,by go_num,aV.set rfl O2 i (R1,A3,c3) _ rfl bF.ints (fun q hq=>by
     have h7:=agB bF q (by rw[ae];exact hq)
     have h8:=HB.out.size
     simp at h7
     exact⟨by omega,h7.2,by omega⟩) (bJ bF),Yz.out _ rfl,hz2.out⟩,(af HB.out B2).setCell (p:=⟨g,i,none⟩) sO _⟩,by simp[intOf];omega⟩
   ·have h02:(R2 != 0)=true:=bne_iff_ne.2 h0
    have Hr:Hid (eM P=([],R2)):=by
     show _=_
     have:=aW h0
     unfold eM;rw[this,if_pos h0]
    clear aW dU RH sM
    go_wp2_with (go_at_call 72;(with_reducible refine(cC.out _ (ak (ac wo) _)).mono ?_);rintro e w2 ⟨A3,c3,rfl,bF,b2⟩)
    go_ret2
    rw[Hr.out]
    exact⟨none,0,[],rfl,aV.nil _ _,rfl,af HB.out (af (ak (ac wo) _) b2)⟩
  ·obtain rfl:i=n:=by omega
   have hI:¬((i:Int)<(i:Int)):=by omega
   have hR:eM P=(fj (P.map lc),0):=by
    unfold eM
    rw[D8 fun j hj=>HL.out j hj (by have:=pZ.out;omega)]
    rfl
   have hE2:E'.map (·.1)=P.map lc:=by
    have:=HE.out
    rw[List.take_of_length_le (by rw[pZ.out];exact agl _),Nat.sub_self,List.replicate_zero,List.append_nil] at this
    exact this
   obtain⟨bs,PF⟩:∃bs,bs=P.map lc:=⟨_,rfl⟩
   have hbl:bs.length=i:=by rw[PF,List.length_map];exact pZ.out
   have aaN:∀b∈bs,18≤b.length∧b.length≤65600:=fun b hb=>by
    rw[PF] at hb
    obtain⟨p,hp,rfl⟩:=List.mem_map.1 hb
    rw[HP.out] at hp
    obtain⟨t,ht,rfl⟩:=List.mem_map.1 hp
    rw[D9]
    have:=hs t ht
    omega
   rw[←PF] at hR hE2
   have HR:=aa hR
   have Pl:=aa hE2
   have qg:=aa hbl
   have aeP:=aa aaN
   have HSl:=aa (vM (fun b hb=>(aaN b hb).2))
   clear hR hE2 PF hbl aaN HE HL hlt hi
   go_wp2_with fail
   go_loopw [11,13,14,15,16,48] (fun pv _ _ _ _ jv wr=>(∃(j k c2:Nat) (A2:Option Addr) (E2:List (El Pg)),j≤i∧jv= .int .i64 j∧pv= .slice A2 k c2∧ik wr wo.heap.size A2 k c2 E2∧E2.map (·.1)=fj (bs.take j))∧Below wo.heap.size wo wr) (fun _ _ _ _ _ jv _=>i-(intOf jv).toNat)
   case atStart=>exact⟨⟨0,0,0,none,[],agw _,rfl,rfl,aV.nil _ _,rfl⟩,ac wo⟩
   case round=>
    obtain⟨⟨j,k,c2,A2,E2,hj,rfl,rfl,hO2,hE2⟩,hb⟩:=hrel
    obtain⟨wp,rfl⟩:∃wp:World,wp=wr:=⟨_,rfl⟩
    have Uz:=aa hO2
    have Gz:=aa hE2
    have kG:=aa hb
    clear hO2 hE2 hb
    by_cases hlt:j<i
    ·have Jh:j<E'.length:=by have:=HO.out.len;omega
     have hjb:j<bs.length:=by have:=qg.out;omega
     have ES:(j:Int)<(i:Int):=by omega
     have kx:=HO.out.rd.below kG.out
     obtain⟨gb,go,e,hgb,x0⟩:=ac6 kx Jh
     injection e with e;injection e with e1 e2;subst e1;subst e2
     have iC:=HO.out.rd.2 _ (agt Jh)
     have Jr:=HO.out.cap _ (agt Jh)
     have hbj:E'[j].1=bs[j]:=by
      have h1:(E'.map (·.1))[j]'(by simpa using Jh)=bs[j]:=by simp only[Pl.out]
      simpa using h1
     have hb6:=aeP.out bs[j] (agt hjb)
     have hst:=mF hjb
     have jV:(fj (bs.take j)).length=k:=by rw[←Gz.out,List.length_map];exact Uz.out.len
     have hk3:=HSl.out j (by have:=qg.out;omega)
     rw[jV] at hst hk3
     rw[←hbj] at hst hb6
     generalize E'[j]=t at*
     obtain⟨bd,Ad,cd⟩:=t
     dsimp only at*
     have acS:bd.length≤cd:=Jr.1
     obtain⟨bb,bo,rfl,_,_⟩:=(show ag .u8 wo wo.heap.size Ad bd from iC).lt (by omega)
     have C6:=aa (show ag .u8 wo wo.heap.size (some ⟨bb,bo,none⟩) bd from iC)
     have fG:=aa hst
     have Hkl:=aa jV
     obtain⟨m,xu⟩:∃m,m=bd.length:=⟨_,rfl⟩
     rw[←xu] at hb6 acS x0
     rw[Nat.zero_add] at x0
     have Hm9:=aa xu
     clear iC hst kx hbj Jr jV xu
     go_wp2_with fail
     go_loopw [11,14,15,16] (fun pv av _ _ wr=>(∃(a q c3:Nat) (A3:Option Addr) (E3:List (El Pg)),a=252*q∧a<m+252∧av= .int .i64 a∧pv= .slice A3 (k+q) c3∧ik wr wo.heap.size A3 (k+q) c3 E3∧E3.map (·.1)=fj (bs.take j)++lM bd k q)∧Below wo.heap.size wo wr) (fun _ av _ _ _=>m+252-(intOf av).toNat)
     case atStart=>exact⟨⟨0,0,c2,A2,E2,rfl,by omega,rfl,rfl,Uz.out,by simpa [lM] using Gz.out⟩,kG.out⟩
     case round=>
      obtain⟨⟨a,q,c3,A3,E3,haq,Xm,rfl,rfl,ER,YY⟩,hb3⟩:=hrel
      obtain⟨wq,rfl⟩:∃wq:World,wq=wr:=⟨_,rfl⟩
      have oD:=aa ER
      have HS3:=aa YY
      have kL:=aa hb3
      have Haq:=aa haq
      have aeX:q≤262:=by omega
      clear ER YY hb3 haq Uz Gz kG
      by_cases hla:a<m
      ·have hI3:(a:Int)<(m:Int):=by omega
       have i2:=agp ((a:Int)+252) (by omega)
       obtain⟨sn,yl⟩:∃sn,sn=k+q:=⟨_,rfl⟩
       obtain⟨en,hen⟩:∃en,en=min m (a+252):=⟨_,rfl⟩
       have hks:(k:Int)+(q:Int)=(sn:Int):=by omega
       have i1:=agp (sn:Int) (by omega)
       have afn:¬(2147483647:Int)<(sn:Int):=by omega
       obtain⟨f1,hf1⟩:∃f1,f1=decide (q=0):=⟨_,rfl⟩
       obtain⟨f2,hf2⟩:∃f2,f2=decide (m≤252*(q+1)):=⟨_,rfl⟩
       have hb1:((a:Int) == 0)=f1:=by
        rw[hf1]
        by_cases h:q=0
        ·rw[decide_eq_true h,beq_iff_eq];have:=Haq.out;omega
        ·rw[decide_eq_false h,beq_eq_false_iff_ne];have:=Haq.out;omega
       have hb2:((en:Int) == (m:Int))=f2:=by
        rw[hf2]
        by_cases h:m≤252*(q+1)
        ·rw[decide_eq_true h,beq_iff_eq];have:=Haq.out;omega
        ·rw[decide_eq_false h,beq_eq_false_iff_ne];have:=Haq.out;omega
       obtain⟨L,hL⟩:∃L,L=(bd.drop a).take 252:=⟨_,rfl⟩
       have PG:L.length=en-a:=by rw[hL,List.length_take,List.length_drop,←Hm9.out];omega
       have YF:VT bd k q=⟨(sn:Int),f1,f2,false,L⟩:=by unfold VT;rw[←Hm9.out,←Haq.out,←hL,←hf1,←hf2,←yl]
       have Pw:Hid (lM bd k (q+1)=lM bd k q++[⟨(sn:Int),f1,f2,false,L⟩]):=by show _=_;rw[IA,YF]
       have qP:=fun W (h:Below wq.heap.size wq W)=>nW L (en-a) PG.symm (by omega) (some ⟨bb,bo+a,none⟩) wo.heap.size (cd-a) W (agm kL.out.size h.size) (by
        have h1:=ag.below (xs:=bd) C6.out (kL.out.trans (h.mono kL.out.size))
        rw[hL]
        have:=bZ (p:=a) (s:=en-a) h1 (by have:=Hm9.out;omega)
        have e1:(bd.drop a).take (en-a)=(bd.drop a).take 252:=by
         have h9:=Hm9.out
         by_cases h8:a+252≤m
         ·rw[show en-a=252 by omega]
         ·rw[List.take_of_length_le (by rw[List.length_drop];omega),List.take_of_length_le (by rw[List.length_drop];omega)]
        rwa[e1] at this) (fun h=>by cases h)
       have Hcl:=aa qP
       have Hen:=aa hen
       have Xo:a≤en:=by omega
       have hec:en≤cd:=by omega
       have PC:¬(cd-a=0):=by omega
       have Pi:=aa PG
       have hif:(if (m:Int)<(a:Int)+252 then(m:Int)else(a:Int)+252)=(en:Int):=by split <;> omega
       clear qP YF hL hf1 hf2 yl hen PG
       go_wp2_with (first
        |(go_at_call 73;(with_reducible refine(Hcl.out _ (ac _)).mono ?_);rintro e w5 ⟨A5,c5,rfl,bT,b5⟩;have O5:=oD.out.below b5 (agl _);rw[←Pi.out] at bT)
        |(at_builtin;refine JZ w5 rfl (.tmp 69) (.tmp 83) rfl wo A3 (k+q) c3 E3 rfl O5 ⟨(sn:Int),f1,f2,false,L⟩ A5 _ c5 bT kL.out.size (vV oD.out bT) _ (by rw[←Pi.out];rfl) _ rfl (by omega) (af kL.out b5) ?_;intro A6 c6 w6 dC b6))
       refine⟨⟨⟨a+252,q+1,c6,A6,E3++[(⟨(sn:Int),f1,f2,false,L⟩,A5,c5)],by have:=Haq.out;omega,by omega,by go_num,rfl,dC, ?_⟩,b6⟩,by simp[intOf];omega⟩
       rw[List.map_append,HS3.out,Pw.out,List.append_assoc];rfl
      ·have hI3:¬((a:Int)<(m:Int)):=by omega
       have hqc:q=Tx bd:=by unfold Tx;rw[←Hm9.out];have:=Haq.out;omega
       have iu:Hid (E3.map (·.1)=fj (bs.take (j+1))):=by show _=_;rw[HS3.out,fG.out,hqc]
       clear hqc
       go_wp2_with fail
       exact⟨⟨⟨j+1,k+q,c3,A3,E3,by omega,by go_num,rfl,oD.out,iu.out⟩,kL.out⟩,by simp[intOf];omega⟩
    ·obtain rfl:j=i:=by omega
     have ES:¬((j:Int)<(j:Int)):=by omega
     have iu:fj bs=E2.map (·.1):=by
      rw[Gz.out,List.take_of_length_le (by rw[qg.out];exact agl _)]
     have hl2:(E2.map (·.1)).length=k:=by rw[List.length_map];exact Uz.out.len
     have Pd:=aa iu
     have Hl2:=aa hl2
     clear iu hl2
     go_wp2_with fail
     go_ret2
     rw[HR.out,Pd.out]
     refine⟨A2,c2,E2, ?_, ?_,rfl,HB.out.trans (kG.out.mono HB.out.size)⟩
     ·show _=Ending.returned (.tuple #[.slice A2 (E2.map (·.1)).length c2,.int .i64 0])
      rw[Hl2.out];rfl
     ·show ik _ _ A2 (E2.map (·.1)).length c2 E2
      rw[Hl2.out];exact aV.base Uz.out HB.out.size
abbrev Mk:=Int×Int×Int
def fY(L:List Mk):List Value:=L.flatMap fun h=>[.int .i64 h.1,.int .i64 h.2.1,.int .i64 h.2.2]
theorem Og(L M:List Mk):fY (L++M)=fY L++fY M:=by simp[fY]
theorem Oe(L:List Mk):(fY L).length=L.length*3:=by
 induction L with
 |nil=>rfl
 |cons a L ih=>simp only[fY,List.flatMap_cons,List.length_append,List.length_cons] at ih ⊢;rw[ih];simp;omega
theorem AJ:∀(L:List Mk) (i:Nat) (h:i<L.length),(fY L)[i*3]? =some (.int .i64 L[i].1)∧(fY L)[i*3+1]? =some (.int .i64 L[i].2.1)∧(fY L)[i*3+2]? =some (.int .i64 L[i].2.2)
 |[],i,h=>by simp at h
 |a :: L,0,h=>by simp[fY]
 |a :: L,i+1,h=>by
  have:=AJ L i (by simpa using h)
  simp only[fY,List.flatMap_cons,List.getElem_cons_succ] at this ⊢
  rw[show (i+1)*3=i*3+3 by omega,show i*3+3+1=(i*3+1)+3 by omega,show i*3+3+2=(i*3+2)+3 by omega]
  exact this
def mg(w:World)(B:Nat)(A:Option Addr)(n c:Nat)(L:List Mk):Prop:=w.ownsRow B 211 3 (.slice A n c) n (fY L)∧L.length=n
theorem mg.nil(w:World)(B:Nat):mg w B none 0 0 []:=⟨World.ownsRow_nil _ _ _ _,rfl⟩
theorem mg.below{w w':World}{B B1 n c:Nat}{A:Option Addr}{L:List Mk}(h:mg w B A n c L)(hb:Below B1 w w')(hB:w.heap.size≤B1):mg w' B A n c L:=⟨aD h.1 hb hB,h.2⟩
theorem mg.base{w:World}{B B' n c:Nat}{A:Option Addr}{L:List Mk}(h:mg w B A n c L)(hB:B'≤B):mg w B' A n c L:=⟨aO h.1 hB,h.2⟩
theorem mg.alloc{w:World}{B n c:Nat}{A:Option Addr}{L:List Mk}(h:mg w B A n c L)(o:Obj):mg (w.alloc o) B A n c L:=⟨World.ownsRow.alloc h.1 o,h.2⟩
theorem mg.ne{w:World}{B n c q:Nat}{A:Option Addr}{L:List Mk}(h:mg w B A n c L)(hq:w.heap.size≤q):aj A≠some q:=fun e=>by
 have:=agB h.1 q (by rw[ae];exact e)
 omega
theorem MX:(Tryz.prog.info? 211).map (fun i=>(i.zero,i.size,i.bytes))=some (some (.agg #[.int .i64 0,.int .i64 0,.int .i64 0]),3,24):=by kernel_rfl
theorem aa7{ops:Array Oper}{rest:List Oper}{o:Oper}{a:Act}{Q:Exit→Act→World→Prop}(w2:World)(hgd:o.guard=none)(s x:Operand)
 (ho:o.op= .call {callee:=.builtin .append,args:=#[s,x],argTypes:=#[138,138]}) (W0:World) (A1:Option Addr) (n1 c1:Nat) (L:List Mk) (hs:a.eval s= .slice A1 n1 c1) (hown:mg w2 W0.heap.size A1 n1 c1 L)
 (h:Mk) (arr:Array Value) (fo:arr.toList=[.int .i64 h.1,.int .i64 h.2.1,.int .i64 h.2.2]) (ty:TypeId)
 (hx:a.eval x= .slice (some ⟨w2.heap.size,0,none⟩) 1 1) (hsz:n1+1≤100000) (hb:Below W0.heap.size W0 w2)
 (hK:∀A' c' w',mg w' W0.heap.size A' (n1+1) c' (L++[h])→Below W0.heap.size W0 w'→dl A1 w2 w'→wpList Tryz.prog ops Q rest (a.put o.dst (.slice A' (n1+1) c')) w'):wpList Tryz.prog ops Q (o :: rest) a (w2.alloc (.cells arr ty)):=by
 obtain⟨i0,cw,hz0,hz1,hz2⟩:=info_parts MX
 refine aP _ hgd s x 138 ho W0.heap.size 211 i0 _ 3 24 Tryz.underlying138 cw hz0 hz1 hz2 rfl (by omega) _ n1 _ hs (hown.alloc _).1 (w2.heap.size+1) _ 1 1 (fY [h]) hx rfl (dr w2 _ _ _ fo) (fun u hu=> ?_) (by simp only[maxLen];omega) (by omega) (ak hb _).size ?_
 ·simp[fY] at hu
  rcases hu with rfl | rfl | rfl <;> rfl
 ·intro A' c' w' h1 h2 h3
  exact hK A' c' w' ⟨by rw[Og];exact h1,by rw[List.length_append,hown.2];rfl⟩ (aI (ak hb _) (hown.alloc _).1 h2 (ak hb _).size) (dl.lit h2)
def ia(p:Pg):Option Mk:=
 if p.first=false∨p.guard=true∨p.body.length<18 then none
 else if cR p=false then none
 else if (dO (p.body.take 18)).2≠0∨(dO (p.body.take 18)).1.key=false then none
 else some ((dO (p.body.take 18)).1.stream,(dO (p.body.take 18)).1.pat,p.seq)
def om(P:List Pg):List Mk:=P.filterMap ia
theorem QV{P:List Pg}{k:Nat}(h:k<P.length):om (P.take (k+1))=om (P.take k)++(ia P[k]).toList:=by
 rw[agx h,om,List.filterMap_append]
 cases hm:ia P[k] <;> simp[om,hm]
def OfQ(L:List Mk)(w:World)(e:Ending)(w':World):Prop:=∃A c,e= .returned (.slice A L.length c)∧mg w' w.heap.size A L.length c L∧Below w.heap.size w w'
theorem QU(E:List (El Pg))(n:Nat)(hn:n=E.length)(hm:n≤400)(hs:dM E)(KZ:∀t∈E,t.1.body.length≤t.2.2∧t.2.2≤maxLen)(A:Option Addr)(B c:Nat)(w:World)(hB:B≤w.heap.size)(ha:iE gY w B A E):
 Calls Tryz.prog 68 #[.slice A n c] w (OfQ (om (E.map (·.1))) w):=by
 have Hn:=aa hn
 have nS:(E.map (·.1)).length=n:=by simp[hn]
 clear hn
 obtain⟨P,hP⟩:∃P,P=E.map (·.1):=⟨_,rfl⟩
 rw[←hP] at nS ⊢
 have HP:=aa hP
 have pZ:=aa nS
 clear hP nS
 go_enter Tryz.func68,Tryz.ntmps68
 go_wp2_with fail
 go_loopw [3,5,6,7,8,9,12] (fun ov _ _ _ _ _ iv wr=>(∃(i k:Nat) (A':Option Addr) (c':Nat),i≤n∧k≤i∧iv= .int .i64 i∧ov= .slice A' k c'∧mg wr w.heap.size A' k c' (om (P.take i)))∧Below w.heap.size w wr) (fun _ _ _ _ _ _ iv _=>n-(intOf iv).toNat)
 case atStart=>exact⟨⟨0,0,none,0,agw _,agw _,rfl,rfl,by simpa [om] using mg.nil _ _⟩,ac w⟩
 case round=>
  obtain⟨⟨i,k,A2,c2,hi,hki,rfl,rfl,hO⟩,hb⟩:=hrel
  obtain⟨wo,rfl⟩:∃wo:World,wo=wr:=⟨_,rfl⟩
  have HO:=aa hO
  have HB:=aa hb
  clear hO hb
  by_cases hlt:i<n
  ·have dv:i<E.length:=by have:=Hn.out;omega
   have Gp:i<P.length:=by have:=pZ.out;omega
   have hI:(i:Int)<(n:Int):=by omega
   have kJ:B≤wo.heap.size:=agm hB HB.out.size
   have ha2:=ha.below (HB.out.mono hB)
   obtain⟨b,off,rfl,sQ,x0,x1,x2,x3,x4⟩:=jb ha2 dv
   have hsm:=hs _ (agt dv)
   have iC:=ha2.2 _ (agt dv)
   have Jr:=KZ _ (agt dv)
   have hst:=QV Gp
   have qd:P[i]=E[i].1:=by simp[HP.out]
   rw[qd] at hst
   generalize E[i]=t at*
   obtain⟨⟨sq,f,l,gd,bd⟩,Ad,cd⟩:=t
   dsimp only at*
   have hbl:=hsm.2
   have hcon:=fun W (h:Below wo.heap.size wo W)=>kW ⟨sq,f,l,gd,bd⟩ Ad B cd W (agm kJ h.size) (show bd.length≤50000 by omega) (ag.below (xs:=bd) iC (h.mono kJ)) hsm.1
   unfold ju at hcon
   dsimp only at hcon
   have yO:=pS ⟨sq,f,l,gd,bd⟩
   have Mo:=aa (ago wo (.cells #[.int .i64 sq,.bool f,.bool l,.bool gd,.slice Ad bd.length cd] 124))
   have Pb:=aa hsm
   have C6:=aa (show ag .u8 wo B Ad bd from iC)
   obtain⟨acS,aeh⟩:=Jr
   clear iC hsm ha2 qd
   have fA:ia ⟨sq,f,l,gd,bd⟩=none→Hid (om (P.take (i+1))=om (P.take i)):=fun h=>by show _=_;rw[hst,h];simp
   cases f with
   |false=>
    have fG:=fA (by unfold ia;rw[if_pos (.inl rfl)])
    clear hcon yO hst fA
    go_wp2_with fail
    exact⟨⟨⟨i+1,k,A2,c2,by omega,by omega,by go_num,rfl,by rw[fG.out];exact HO.out.alloc _⟩,ak HB.out _⟩,by simp[intOf];omega⟩
   |true=>
    cases gd with
    |true=>
     have fG:=fA (by unfold ia;rw[if_pos (.inr (.inl rfl))])
     clear hcon yO hst fA
     go_wp2_with fail
     exact⟨⟨⟨i+1,k,A2,c2,by omega,by omega,by go_num,rfl,by rw[fG.out];exact HO.out.alloc _⟩,ak HB.out _⟩,by simp[intOf];omega⟩
    |false=>
     by_cases h18:bd.length<18
     ·have fG:=fA (by unfold ia;rw[if_pos (.inr (.inr h18))])
      have aeu:(bd.length:Int)<18:=by omega
      clear hcon yO hst fA
      go_wp2_with fail
      exact⟨⟨⟨i+1,k,A2,c2,by omega,by omega,by go_num,rfl,by rw[fG.out];exact HO.out.alloc _⟩,ak HB.out _⟩,by simp[intOf];omega⟩
     ·have aeu:¬(bd.length:Int)<18:=by omega
      have rM:¬((⟨sq,true,l,false,bd⟩:Pg).first=false∨(⟨sq,true,l,false,bd⟩:Pg).guard=true∨(⟨sq,true,l,false,bd⟩:Pg).body.length<18):=by
       rintro (h | h | h)
       ·cases h
       ·cases h
       ·exact h18 h
      generalize ez ⟨sq,true,l,false,bd⟩=R at hcon yO
      obtain⟨R1,R2⟩:=R
      dsimp only at yO
      cases hp:cR ⟨sq,true,l,false,bd⟩with
      |false=>
       rw[hp] at yO
       obtain rfl:R2=1:=by simpa using yO
       have cC:=aa hcon
       have fG:=fA (by unfold ia;rw[if_neg rM,if_pos hp])
       clear hcon yO hst fA hp
       go_wp2_with (go_at_call 70;(with_reducible refine(cC.out _ (ak (ac wo) _)).mono ?_);rintro e w2 ⟨A3,c3,rfl,bF,b2⟩;dsimp only at bF ⊢)
       exact⟨⟨⟨i+1,k,A2,c2,by omega,by omega,by go_num,rfl,by rw[fG.out];exact HO.out.below (af (ak (ac wo) _) b2) (agl _)⟩,af HB.out (af (ak (ac wo) _) b2)⟩,by simp[intOf];omega⟩
      |true=>
       rw[hp] at yO
       obtain rfl:R2=0:=by simpa using yO
       have cC:=aa hcon
       have lS:¬cR ⟨sq,true,l,false,bd⟩=false:=by rw[hp];decide
       have lT:ia ⟨sq,true,l,false,bd⟩=if (dO (bd.take 18)).2≠0∨(dO (bd.take 18)).1.key=false then none else some ((dO (bd.take 18)).1.stream,(dO (bd.take 18)).1.pat,sq):=by
        unfold ia;rw[if_neg rM,if_neg lS]
       obtain⟨ab,ao,rfl,_,_⟩:=C6.out.lt (by omega)
       have aev:(bd.take 18).length=18:=by rw[List.length_take];omega
       have hop:=fun W (h:Below wo.heap.size wo W)=>zH (bd.take 18) 18 aev (by omega) (fun x hx=>Pb.out.1 x (List.mem_of_mem_take hx)) (some ⟨ab,ao,none⟩) B cd (by omega) (agm aeh (by decide)) W (agm kJ h.size) (by
        have:=bZ (p:=0) (s:=18) (ag.below (xs:=bd) C6.out (h.mono kJ)) (by omega)
        simpa using this)
       unfold CK Ga at hop
       generalize dO (bd.take 18)=OP at hop lT
       obtain⟨⟨os,oa,ol,ok,oh,od⟩,oe⟩:=OP
       dsimp only at hop lT
       have Hop:=aa hop
       have aaI:18≤cd:=by omega
       clear hcon yO hop hp lS
       by_cases hoe:oe=0
       ·subst hoe
        cases ok with
        |false=>
         have fG:=fA (by rw[lT,if_pos (.inr rfl)])
         clear hst fA lT
         go_wp2_with (first
          |(go_at_call 70;(with_reducible refine(cC.out _ (ak (ac wo) _)).mono ?_);rintro e w2 ⟨A3,c3,rfl,bF,b2⟩;dsimp only at bF ⊢;have B2:=af (ak (ac wo) _) b2;obtain⟨⟨k0,k1,k2,k3,k4⟩,_⟩:=ay ((b2.block wo.heap.size (by simp)).trans Mo.out))
          |(go_at_call 120;(with_reducible refine(Hop.out _ B2).mono ?_);rintro e w3 ⟨A4,c4,rfl,bE,b3⟩;dsimp only at bE ⊢))
         exact⟨⟨⟨i+1,k,A2,c2,by omega,by omega,by go_num,rfl,by rw[fG.out];exact(HO.out.below (af B2 b3) (agl _)).alloc _⟩,ak (af HB.out (af B2 b3)) _⟩,by simp[intOf];omega⟩
        |true=>
         have fG:Hid (om (P.take (i+1))=om (P.take i)++[(os,oa,sq)]):=by
          show _=_
          rw[hst,lT,if_neg (by rintro (h | h);exact h rfl;cases h)];rfl
         clear hst fA lT
         go_wp2_with (first
          |(go_at_call 70;(with_reducible refine(cC.out _ (ak (ac wo) _)).mono ?_);rintro e w2 ⟨A3,c3,rfl,bF,b2⟩;dsimp only at bF ⊢;have B2:=af (ak (ac wo) _) b2;obtain⟨⟨k0,k1,k2,k3,k4⟩,_⟩:=ay ((b2.block wo.heap.size (by simp)).trans Mo.out))
          |(go_at_call 120;(with_reducible refine(Hop.out _ B2).mono ?_);rintro e w3 ⟨A4,c4,rfl,bE,b3⟩;dsimp only at bE ⊢;obtain⟨⟨m0,m1,m2,m3,m4⟩,_⟩:=ay (((b3.block wo.heap.size (by have:=b2.size;simp at this;omega)).trans (b2.block wo.heap.size (by simp))).trans Mo.out);have q0:=fun o=>later (ak (ac w3) o) m0;have O3:=HO.out.below (af B2 b3) (agl _);have B3:=af HB.out (af B2 b3))
          |(at_builtin;refine aa7 _ rfl (.tmp 50) (.tmp 58) rfl w A2 k c2 _ rfl (O3.alloc _) (os,oa,sq) _ rfl _ (by simp;rfl) (by omega) (ak B3 _) ?_;intro A5 c5 w5 bT b5 kp))
         exact⟨⟨⟨i+1,k+1,A5,c5,by omega,by omega,by go_num,rfl,by rw[fG.out];exact bT⟩,b5⟩,by simp[intOf];omega⟩
       ·have afj:(oe != 0)=true:=bne_iff_ne.2 hoe
        have fG:=fA (by rw[lT,if_pos (.inl hoe)])
        clear hst fA lT hoe
        go_wp2_with (first
         |(go_at_call 70;(with_reducible refine(cC.out _ (ak (ac wo) _)).mono ?_);rintro e w2 ⟨A3,c3,rfl,bF,b2⟩;dsimp only at bF ⊢;have B2:=af (ak (ac wo) _) b2;obtain⟨⟨k0,k1,k2,k3,k4⟩,_⟩:=ay ((b2.block wo.heap.size (by simp)).trans Mo.out))
         |(go_at_call 120;(with_reducible refine(Hop.out _ B2).mono ?_);rintro e w3 ⟨A4,c4,rfl,bE,b3⟩;dsimp only at bE ⊢))
        exact⟨⟨⟨i+1,k,A2,c2,by omega,by omega,by go_num,rfl,by rw[fG.out];exact(HO.out.below (af B2 b3) (agl _)).alloc _⟩,ak (af HB.out (af B2 b3)) _⟩,by simp[intOf];omega⟩
  ·obtain rfl:i=n:=by omega
   have hI:¬((i:Int)<(i:Int)):=by omega
   have qc:P.take i=P:=List.take_of_length_le (by rw[pZ.out];exact agl _)
   rw[qc] at HO
   have hl:(om P).length=k:=HO.out.2
   have Hl:=aa hl
   clear hl qc
   go_wp2_with fail
   go_ret
   refine⟨A2,c2, ?_, ?_,HB.out⟩
   ·rw[Hl.out];rfl
   ·rw[Hl.out];exact HO.out
end
end Go.Proofs.YtbhfpehgacaidaaGreatDoor
