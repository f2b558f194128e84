/- A part of the proof of the given statement TopRight. Conditions: none. -/
import Derived.Deep.AppendSrc
import Derived.Deep.Upon
import Derived.Test.YtbhfpehgacaidaaGreatDoorQAS
namespace Go.Proofs.YtbhfpehgacaidaaGreatDoor
set_option linter.unusedVariables false
set_option linter.unusedSimpArgs false
set_option maxRecDepth 100000
set_option maxHeartbeats 8000000
section
open Go.RowKit
structure fW (w:World) (B g n:Nat) (T:List fT):Prop where
 hp:w.heap[g]? =some (.cells (T.map pq).toArray 44 (0,0))
 len:T.length=n
 row:∀i (h:i<T.length),w.ownsRow B 52 6 (pq T[i]) T[i].1.length (aN iA T[i].1)
 ng:∀i (h:i<T.length),aj T[i].2.1≠some g
 dj:∀i j (hi:i<T.length) (hj:j<T.length),i≠j→∀q,aj T[i].2.1=some q→aj T[j].2.1≠some q
 dat:∀t∈T,kH iA w B t.1
 dg:∀t∈T,∀e∈t.1,e.1.data≠[]→aj e.2.1≠some g
theorem fW.lt{w:World}{B g n:Nat}{T:List fT}(h:fW w B g n T):g<w.heap.size:=(agn.1 h.hp).1
theorem fW.below{w w':World}{B g n:Nat}{T:List fT}(h:fW w B g n T)(hB:B≤w.heap.size)(hb:Below w.heap.size w w'):fW w' B g n T:=
 ⟨(hb.block g h.lt).trans h.hp,h.len,fun i hi=>aD (h.row i hi) hb (agl _),h.ng,h.dj,fun t ht e he=>ag.below (h.dat t ht e he) (hb.mono hB),h.dg⟩
theorem fW.alloc{w:World}{B g n:Nat}{T:List fT}(h:fW w B g n T)(hB:B≤w.heap.size)(o:Obj):fW (w.alloc o) B g n T:=h.below hB (ak (ac w) o)
theorem fW.drew{w:World}{B g n:Nat}{T:List fT}(h:fW w B g n T):fW w.drew B g n T:=⟨h.hp,h.len,h.row,h.ng,h.dj,h.dat,h.dg⟩
theorem fW.cell{w:World}{B g n:Nat}{T:List fT}(h:fW w B g n T){i:Nat}(hi:i<T.length):w.cell? ⟨g,i,none⟩=some (pq T[i]):=by
 rw[agu w g i _ _ _ h.hp]
 simp[hi]
theorem fW.frozen{w:World}{B g n:Nat}{T:List fT}(h:fW w B g n T)(i:Nat):w.frozen? ⟨g,i,none⟩=false:=agv w g i _ _ h.hp
theorem fW.rd{w:World}{B g n:Nat}{T:List fT}(h:fW w B g n T)(hB:B≤w.heap.size):OW w w.heap.size (some ⟨g,0,none⟩) T:=by
 refine⟨fun _=>⟨g,0,rfl,h.lt,fun i u hu=> ?_⟩,fun t ht=> ?_⟩
 ·rw[Nat.zero_add,agu w g i _ _ _ h.hp]
  simpa using hu
 ·obtain⟨i,hi,rfl⟩:=List.getElem_of_mem ht
  exact⟨ip (h.row i hi),fun e he=>ag.more (h.dat _ (agt hi) e he) hB⟩
theorem VQ:(Tryz.prog.info? 44).map (fun i=>(i.zero,i.size,i.bytes))=some (some (.slice none 0 0),1,24):=by kernel_rfl
def D7(n:Nat):Obj:=.cells (madeCells #[.slice none 0 0] (n*1)) 44
theorem Kl(n:Nat)(hn:n≤65536)(w:World):(Instr.makeSlice 28 (.int .i64 (n:Int)) (.int .i64 (n:Int))).run Tryz.prog w= .ok (.slice (some ⟨w.heap.size,0,none⟩) n n) (w.alloc (D7 n)):=by
 obtain⟨i0,cw,hz0,hz1,hz2⟩:=info_parts VQ
 have h:=run_make (P:=Tryz.prog) w 28 44 i0 _ Tryz.underlying28 cw hz0 .i64 .i64 (n:Int) (n:Int) (by omega) (Int.le_refl _) (by rw[hz2];omega) (by omega)
 rw[hz1,Int.toNat_natCast] at h
 exact h
theorem Kw(w:World)(n:Nat)(hn:n≤65536)(B:Nat):fW (w.alloc (D7 n)) B w.heap.size n (List.replicate n ([],none,0)):=by
 have h:=ago w (D7 n)
 have e:D7 n= .cells (List.replicate n (Value.slice none 0 0)).toArray 44 (0,0):=by
  unfold D7
  congr 1
  apply Array.toList_inj.1
  rw[toList_madeCells_one]
  simp
 rw[e] at h
 have Jk:∀i (h:i<(List.replicate n (([]:List (El Pk)),(none:Option Addr),0)).length),(List.replicate n (([]:List (El Pk)),(none:Option Addr),0))[i]=([],none,0):=fun i h=>by simp
 refine⟨by rw[e,h,List.map_replicate];rfl,by simp,fun i hi=> ?_,fun i hi=>by rw[Jk i hi];simp[aj],fun i j hi hj _ q hq=>(by rw[Jk i hi] at hq;cases hq),fun t ht=> ?_,fun t ht=> ?_⟩
 ·rw[Jk i hi]
  exact World.ownsRow_nil _ _ _ _
 ·rw[(List.mem_replicate.1 ht).2]
  exact fun x hx=>by cases hx
 ·rw[(List.mem_replicate.1 ht).2]
  exact fun x hx=>by cases hx
theorem fW.rebase{w:World}{B B' g n:Nat}(h:fW w B g n (List.replicate n ([],none,0))):fW w B' g n (List.replicate n ([],none,0)):=by
 have Jk:∀i (h:i<(List.replicate n (([]:List (El Pk)),(none:Option Addr),0)).length),(List.replicate n (([]:List (El Pk)),(none:Option Addr),0))[i]=([],none,0):=fun i h=>by simp
 refine⟨h.hp,h.len,fun i hi=> ?_,h.ng,h.dj,fun t ht=> ?_,h.dg⟩
 ·rw[Jk i hi]
  exact World.ownsRow_nil _ _ _ _
 ·rw[(List.mem_replicate.1 ht).2]
  exact fun x hx=>by cases hx
theorem Rv{k:IntKind}{w w':World}{B:Nat}{A:Option Addr}{l:List Int}(h:ag k w B A l)(hk:∀q,aj A=some q→q<B→w'.heap[q]? =w.heap[q]?):ag k w' B A l:=fun hn=>by
 obtain⟨b,off,e,hb,hc⟩:=h hn
 exact⟨b,off,e,hb,fun i u hu=>(agy (hk b (by rw[e];rfl) hb)).trans (hc i u hu)⟩
theorem fW.put{w w':World}{B g n:Nat}{T:List fT}(h:fW w B g n T)(hB:B≤w.heap.size){s:Nat}(hs:s<T.length){e:El Pk}(he:ag .u8 w B e.2.1 e.1.data)(heg:e.1.data≠[]→aj e.2.1≠some g){A':Option Addr}{c':Nat}
 (hr:w'.ownsRow B 52 6 (.slice A' (T[s].1.length+1) c') (T[s].1.length+1) (aN iA T[s].1++aN iA [e])) (hg:w.grownBy w' (aj T[s].2.1)) (hat:aj A'=aj T[s].2.1∨aj A'=some w.heap.size):
 fW (w'.setCell ⟨g,s,none⟩ (.slice A' (T[s].1.length+1) c')) B g n (T.set s (T[s].1++[e],A',c')):=by
 have UW:=h.lt
 have sO:w'.heap[g]? =w.heap[g]? :=hg.block g UW (fun e=>h.ng s hs e.symm)
 have hA:aj A'≠some g:=fun e=>by
  rcases hat with h1 | h1
  ·exact h.ng s hs (h1.symm.trans e)
  ·rw[h1] at e;injection e with e;omega
 have mR:∀q,q≠g→(w'.setCell ⟨g,s,none⟩ (.slice A' (T[s].1.length+1) c')).heap[q]? =w'.heap[q]? :=fun q hq=>agr _ _ _ _ hq
 have xo:∀i (hi:i<T.length) q,aj T[i].2.1=some q→B≤q∧q<w.heap.size:=fun i hi q hq=>agB (h.row i hi) q (by unfold pq;rw[ae];exact hq)
 have sM:∀i (hi:i<(T.set s (T[s].1++[e],A',c')).length),(T.set s (T[s].1++[e],A',c'))[i]=if s=i then(T[s].1++[e],A',c')else T[i]'(by simpa using hi):=fun i hi=>List.getElem_set ..
 refine⟨?_,by rw[List.length_set];exact h.len,fun i hi=> ?_,fun i hi=> ?_,fun i j hi hj uM q hq=> ?_,fun t ht=> ?_,fun t ht=> ?_⟩
 ·rw[agA _ g s _ _ _ (sO.trans h.hp)]
  congr 2
  rw[List.map_set]
  have:pq (T[s].1++[e],A',c')= .slice A' (T[s].1.length+1) c':=by simp[pq]
  rw[this,List.setIfInBounds_toArray]
 ·rw[sM i hi]
  by_cases hsi:s=i
  ·rw[if_pos hsi]
   have:(T[s].1++[e]).length=T[s].1.length+1:=by simp
   unfold pq
   dsimp only
   rw[kA,this]
   exact ap hr fun q hq=>mR q (fun e=>by rw[ae] at hq;rw[e] at hq;exact hA hq)
  ·rw[if_neg hsi]
   have hi':i<T.length:=by simpa using hi
   refine ap (h.row i hi') fun q hq=> ?_
   unfold pq at hq
   rw[ae] at hq
   rw[mR q (fun e=>h.ng i hi' (by rw[hq,e]))]
   exact hg.block q (xo i hi' q hq).2 (fun e=>h.dj i s hi' hs (fun x=>hsi x.symm) q hq e.symm)
 ·rw[sM i hi]
  by_cases hsi:s=i
  ·rw[if_pos hsi];exact hA
  ·rw[if_neg hsi];exact h.ng i (by simpa using hi)
 ·have hi':i<T.length:=by simpa using hi
  have hj':j<T.length:=by simpa using hj
  rw[sM i hi] at hq
  rw[sM j hj]
  by_cases hsi:s=i
  ·rw[if_pos hsi] at hq
   rw[if_neg (fun e=>uM (hsi.symm.trans e))]
   rcases hat with h1 | h1
   ·intro h9
    exact h.dj j s hj' hs (fun e=>uM (by omega)) q h9 (by rw[←h1];exact hq)
   ·intro h9
    have:=(xo j hj' q h9).2
    rw[h1] at hq;injection hq with hq;omega
  ·rw[if_neg hsi] at hq
   by_cases hsj:s=j
   ·rw[if_pos hsj]
    intro h9
    rcases hat with h1 | h1
    ·exact h.dj i s hi' hs (fun e=>hsi e.symm) q hq (by rw[←h1];exact h9)
    ·have:=(xo i hi' q hq).2
     dsimp only at h9
     rw[h1] at h9;injection h9 with h9;omega
   ·rw[if_neg hsj]
    exact h.dj i j hi' hj' uM q hq
 ·have Sv:∀x:El Pk,ag .u8 w B x.2.1 x.1.data→(x.1.data≠[]→aj x.2.1≠some g)→ag .u8 (w'.setCell ⟨g,s,none⟩ (.slice A' (T[s].1.length+1) c')) B x.2.1 x.1.data:=fun x hx hxg=>by
   by_cases hx0:x.1.data=[]
   ·rw[hx0];exact ag.nil
   have hxg:=hxg hx0
   refine Rv hx fun q hq hqB=> ?_
   rw[mR q (fun e=>hxg (by rw[hq,e]))]
   exact hg.block q (by omega) (fun e=>by have:=(xo s hs q e.symm).1;omega)
  obtain⟨i,hi,rfl⟩:=List.getElem_of_mem ht
  rw[sM i hi]
  by_cases hsi:s=i
  ·rw[if_pos hsi]
   intro x hx
   rcases agC.1 hx with h1 | h1
   ·exact Sv x (h.dat _ (agt hs) x h1) (h.dg _ (agt hs) x h1)
   ·rw[List.mem_singleton] at h1;subst h1;exact Sv x he heg
  ·rw[if_neg hsi]
   exact fun x hx=>Sv x (h.dat _ (agt _) x hx) (h.dg _ (agt _) x hx)
 ·obtain⟨i,hi,rfl⟩:=List.getElem_of_mem ht
  rw[sM i hi]
  by_cases hsi:s=i
  ·rw[if_pos hsi]
   intro x hx
   rcases agC.1 hx with h1 | h1
   ·exact h.dg _ (agt hs) x h1
   ·rw[List.mem_singleton] at h1;subst h1;exact heg
  ·rw[if_neg hsi]
   exact fun x hx=>h.dg _ (agt _) x hx
theorem fW.put_below{w0 w w':World}{B g n:Nat}{T:List fT}(h:fW w B g n T)(hB:B≤w.heap.size){s:Nat}(hs:s<T.length){B0:Nat}(PH:B0≤B)(hg0:B0≤g)(hb:Below B0 w0 w)(hg:w.grownBy w' (aj T[s].2.1))(v:Value):Below B0 w0 (w'.setCell ⟨g,s,none⟩ v):=by
 refine Below.setCell (p:=⟨g,s,none⟩) (aI hb (aO (h.row s hs) PH) ?_ (by omega)) hg0 v
 unfold pq
 rw[ae]
 exact hg
def fU(k:Nat)(L:List Pk)(T:List fT):Prop:=T.length=k∧∀i (h:i<T.length),T[i].1.map (·.1)=L.filter fun p=>decide (p.stream=(i:Int))
theorem fU.nam{k:Nat}{L:List Pk}{T:List fT}(h:fU k L T):DX T=cV k L:=by
 unfold DX cV
 apply List.ext_getElem
 ·simp[h.1]
 ·intro i h1 h2
  simp only[List.getElem_map,List.getElem_range]
  exact h.2 i (by simpa using h1)
theorem xq(k:Nat):fU k [] (List.replicate k ([],none,0)):=⟨by simp,fun i h=>by simp⟩
theorem fU.put{k:Nat}{L:List Pk}{T:List fT}(h:fU k L T){p:Pk}{s:Nat}(hs:s<T.length)(hp:p.stream=(s:Int))(A':Option Addr)(c':Nat)(A:Option Addr)(c:Nat):fU k (L++[p]) (T.set s (T[s].1++[(p,A,c)],A',c')):=by
 refine⟨by rw[List.length_set];exact h.1,fun i hi=> ?_⟩
 have hi':i<T.length:=by simpa using hi
 rw[List.getElem_set,List.filter_append]
 by_cases hsi:s=i
 ·subst hsi
  rw[if_pos rfl,List.map_append,h.2 s hs]
  simp[hp]
 ·rw[if_neg hsi,h.2 i hi']
  have:¬p.stream=(i:Int):=by omega
  simp[this]
theorem fU.skip{k:Nat}{L:List Pk}{T:List fT}(h:fU k L T){p:Pk}(hp:¬(0≤p.stream∧p.stream<(k:Int))):fU k (L++[p]) T:=by
 refine⟨h.1,fun i hi=> ?_⟩
 rw[List.filter_append,h.2 i hi]
 have:¬p.stream=(i:Int):=by have:=h.1;omega
 simp[this]
def TB(T:List fT):Prop:=∀t∈T,∀e∈t.1,e.1.data.length≤e.2.2∧e.2.2≤maxLen
theorem TB.put{T:List fT}(h:TB T){s:Nat}(hs:s<T.length){e:El Pk}(he:e.1.data.length≤e.2.2∧e.2.2≤maxLen)(A':Option Addr)(c':Nat):TB (T.set s (T[s].1++[e],A',c')):=by
 intro t ht x hx
 rcases List.mem_or_eq_of_mem_set ht with h1 | rfl
 ·exact h t h1 x hx
 ·rcases agC.1 hx with h2 | h2
  ·exact h _ (agt hs) x h2
  ·rw[List.mem_singleton] at h2
   subst h2
   exact he
def Kd(I:List eC)(H:List Hl)(L:List Pk)(w:World)(e:Ending)(w':World):Prop:=
 ∃A1 c1 g T A3 c3,e= .returned (.tuple #[.slice A1 I.length c1,.slice (some ⟨g,0,none⟩) I.length I.length,.slice A3 H.length c3,.int .i64 0])∧ij w' w.heap.size A1 I.length c1 I∧OW w' w'.heap.size (some ⟨g,0,none⟩) T∧fU I.length L T∧Below w.heap.size w w'∧TB T
theorem Bw{fn:Func}{t u v x:Tmp}(h:fn.results=#[.tmp t,.tmp u,.tmp v,.tmp x])(tmps:Array Value)(P:Program)(w:World):
 (results fn tmps).run P w= .ok (.tuple #[tmps.getD t undef,tmps.getD u undef,tmps.getD v undef,tmps.getD x undef]) w:=by
 simp[results,h]
theorem XA{k:Nat}{L:List Pk}(h:fX k L=false){p:Pk}(hp:p∈L):∃s:Nat,p.stream=(s:Int)∧s<k:=by
 unfold fX at h
 rw[List.any_eq_false] at h
 have:=h p hp
 simp only[decide_eq_true_eq] at this
 exact⟨p.stream.toNat,by omega,by omega⟩
theorem AE(l:List Int)(n:Nat)(hn:l.length=n)(hm:n≤3000)(hby:aH l)(A:Option Addr)(B c:Nat)(hc:n≤c)(cK:c≤9223372036854775807)(w:World)(hB:B≤w.heap.size)(ha:ag .u8 w B A l)
 (I:List eC) (a:Nat) (hh:dh l=(I,(a:Int),0)) (han:a<n) (hI4:I.length≤4) (P:List Pg) (H:List Hl) (hP:CO (l.drop a)=(P,H)) (L:List Pk) (hL:dB P=L) (li:fX I.length L=false) (hL3:L.length≤1000):
 Calls Tryz.prog 7 #[.slice A n c] w (Kd I H L w):=by
 have ml:=xB l n hn hm hby A B c hc cK w hB ha
 rw[hh] at ml
 unfold FX at ml
 dsimp only at ml
 have Gy:=aa ml
 have Ha:=aa ha
 obtain⟨ba,oa,rfl,xF,_⟩:=ha.lt (by omega)
 obtain⟨k,hk⟩:∃k,k=I.length:=⟨_,rfl⟩
 have Uq:=aa li
 have HL:=aa hL
 rw[←hk] at Gy hI4 Uq
 have Hk:=aa hk
 have hac:a≤c:=by omega
 have af4:a≤n:=by omega
 have PC:¬c-a=0:=by omega
 have hD:=hP
 have HP:=aa hP
 clear ml ha hh li hL hk hP hD
 go_enter Tryz.func7,Tryz.ntmps7
 go_upto_region 4 with (go_at_call 14;(with_reducible refine Gy.out.mono ?_);rintro e w1 ⟨A1,c1,rfl,cM,b1⟩;dsimp only at cM ⊢)
 have hz:=b1.size
 have dp:=Ha.out.below (b1.mono hB)
 have xt:=kt dp a
 obtain⟨D,hD⟩:∃D,D=l.drop a:=⟨_,rfl⟩
 have hDl:D.length=n-a:=by rw[hD,List.length_drop];omega
 have Gs:aH D:=by rw[hD];exact hby.drop a
 have uI:=mI D (n-a) hDl (by omega) Gs (some ⟨ba,oa+a,none⟩) B (c-a) (by omega) (by omega) w1 (agm hB hz) (by rw[hD];exact xt)
 have bQ:=qK Gs (by omega)
 have hp9:=HP.out
 rw[←hD] at hp9
 rw[hp9] at uI bQ
 unfold XR Bf at uI
 dsimp only at uI bQ
 have abo:=aa uI
 have B1:=aa b1
 have O1:=aa cM
 have hjn:=fun (E:List (El Pg)) (hE:E.map (·.1)=P) (w2:World) (A2:Option Addr) (c2 B2:Nat) (YZ:B2≤w2.heap.size) (ho:iE gY w2 B2 A2 E)=>wW E P.length (by rw[←hE];simp) (by omega) (by rw[hE];exact bQ.1) (by rw[hE];exact bQ.2.1) (by rw[hE];omega) A2 B2 c2 w2 YZ ho
 have Hjn:=aa hjn
 clear uI hjn bQ dp xt hD hDl Gs b1 hz cM Gy hp9 HP
 go_upto_region 5 with (go_at_call 30;(with_reducible refine abo.out.mono ?_);rintro e w2 ⟨A2,c2,E2,A3,c3,rfl,cD,yq,bF,b2⟩)
 have lT:=Kl k (by omega) w2
 obtain⟨w3,hw3⟩:∃w3,w3=w2.alloc (D7 k):=⟨_,rfl⟩
 obtain⟨g,hg⟩:∃g,g=w2.heap.size:=⟨_,rfl⟩
 have b3:Below w2.heap.size w2 w3:=by rw[hw3];exact ak (ac w2) _
 have WS:=Kw w2 k (by omega) w2.heap.size
 rw[←hw3,←hg] at lT WS
 have hj:=Hjn.out E2 yq w3 A2 c2 w2.heap.size b3.size (cD.rd.below b3)
 rw[yq,HL.out] at hj
 have Hmk:=aa lT
 have HmL:=aa WS
 have Hj:=aa hj
 have B3:=aa b3
 have B2:=aa b2
 have O2:=aa cD
 have Hg:=aa hg
 have HA1:Hid (∀q,aj A1=some q→q<g):=fun q hq=>by have:=(O1.out.lt hq).2;have:=b2.size;omega
 have O1':=aa ((O1.out.below b2 (agl _)).below b3 (agl _))
 have hg3:g<w3.heap.size:=WS.lt
 clear hj WS hw3 b2 b3 cD yq Hjn hg bF O2 lT
 have lT:=Hmk.out
 go_upto_region 6 with fail
 clear lT
 go_wp2_with (go_at_call 31;(with_reducible refine Hj.out.mono ?_);rintro e w4 ⟨A4,c4,E4,rfl,bE,Gr,b4⟩)
 obtain⟨n4,hn4⟩:∃n4,n4=E4.length:=⟨_,rfl⟩
 have afs:n4≤1000:=by
  rw[hn4,←List.length_map (f:=fun x:El Pk=>x.1),Gr];exact hL3
 rw[←hn4] at bE ⊢
 have aeG:=aa ((HmL.out.below (by have:=B3.out.size;have:=Hg.out;omega) b4).rebase (B':=w4.heap.size))
 have B04:Hid (Below w.heap.size w w4):=aa (B1.out.trans ((B2.out.trans ((B3.out.trans (b4.mono B3.out.size)).mono B2.out.size)).mono B1.out.size))
 have O14:=aa (O1'.out.below b4 (agl _))
 have O4:=aa bE
 have HE4:=aa Gr
 have Hn4:=aa hn4
 have hg4:g<w4.heap.size:=by have:=b4.size;omega
 have hbg:w.heap.size≤g:=by have:=Hg.out;have:=B2.out.size;have:=B1.out.size;omega
 have hdg:Hid (∀e∈E4,aj e.2.1≠some g):=fun e he h=>by
  have:=(bE.sep e he g h).1
  omega
 clear hn4 Gr bE b4 Hj HmL O1' O1 B1 B2 B3 Hmk
 go_loopw [13,36] (fun _ iv wr=>(∃(i:Nat) (T:List fT),i≤n4∧iv= .int .i64 i∧fW wr w4.heap.size g k T∧fU k (L.take i) T∧TB T)∧Below w.heap.size w wr∧(∀q,q<w4.heap.size→q≠g→wr.heap[q]? =w4.heap[q]?)∧w4.heap.size≤wr.heap.size) (fun _ iv _=>n4-(intOf iv).toNat)
 case atStart=>exact⟨⟨0,List.replicate k ([],none,0),agw _,rfl,aeG.out,by rw[List.take_zero];exact xq k,fun t ht e he=>by rw[List.eq_of_mem_replicate ht] at he;cases he⟩,B04.out,fun _ _ _=>rfl,agl _⟩
 case round=>
  obtain⟨⟨i,T,hi,rfl,hO,hH⟩,hb,hkp,hsz⟩:=hrel
  obtain⟨wo,rfl⟩:∃wo:World,wo=wr:=⟨_,rfl⟩
  have HO:=aa hO
  have HH:=aa hH
  have HB:=aa hb
  have HKp:=aa hkp
  clear hO hH hb hkp
  by_cases hlt:i<n4
  ·have dv:i<E4.length:=by have:=Hn4.out;omega
   have nQ:(i:Int)<(n4:Int):=by omega
   have kx:iE iA wo w4.heap.size A4 E4:=by
    have h4:=O4.out.rd
    have UO:∀q,aj A4=some q→wo.heap[q]? =w4.heap[q]? :=fun q hq=>by
     have:=agB O4.out.row q (by rw[ae];exact hq)
     exact HKp.out q this.2 (by omega)
    refine⟨fun h0=> ?_,h4.2.keep (fun t ht q hq=>HKp.out q (O4.out.sep t ht q hq).2.1 (fun e=>hdg.out t ht (by rw[hq,e]))) (agl _)⟩
    obtain⟨b,off,e,hb,hcc⟩:=h4.1 h0
    exact⟨b,off,e,hb,fun j u hu=>(agy (UO b (by rw[e];rfl))).trans (hcc j u hu)⟩
   obtain⟨b,off,rfl,sQ,x0,x1,x2,x3,x4,x5⟩:=kh kx dv
   have iC:=kx.2 _ (agt dv)
   have SI:=hdg.out _ (agt dv)
   have acQ:=O4.out.cap _ (agt dv)
   have CT:i<L.length:=by rw[←HE4.out,List.length_map];exact dv
   have hpL:L[i]=E4[i].1:=by
    have h1:(E4.map (·.1))[i]'(by simpa using dv)=L[i]:=by simp only[HE4.out]
    simpa using h1.symm
   obtain⟨s,hs,hsk⟩:=XA Uq.out (agt CT)
   have qc:Hid (L.take (i+1)=L.take i++[E4[i].1]):=by show _=_;rw[agx CT,hpL]
   rw[hpL] at hs
   generalize E4[i]=t at*
   obtain⟨⟨st,dV,ln,ky,hd,dt⟩,Ad,cd⟩:=t
   dsimp only at*
   subst hs
   have uH:s<T.length:=by have:=HO.out.len;omega
   have afd:(s:Int)<(k:Int):=by omega
   have afi:(s:Int)≥0:=by omega
   go_upto_region 10 with fail
   obtain⟨wb,ig⟩:∃wb,wb=wo.alloc (.cells #[.int .i64 (s:Int),.int .i64 dV,.int .i64 ln,.bool ky,.bool hd,.slice Ad dt.length cd] 52):=⟨_,rfl⟩
   have Mo:wb.heap[wo.heap.size]? =some (.cells #[.int .i64 (s:Int),.int .i64 dV,.int .i64 ln,.bool ky,.bool hd,.slice Ad dt.length cd] 52 (0,0)):=by rw[ig];exact ago wo _
   have bb:Below wo.heap.size wo wb:=by rw[ig];exact ak (ac wo) _
   have yt:=HO.out.below hsz bb
   have oK:wo.heap.size<wb.heap.size:=(agn.1 Mo).1
   rw[←ig]
   clear ig
   obtain⟨⟨k0,k1,k2,k3,k4,k5⟩,_⟩:=bH Mo
   have CW:=yt.cell uH
   have Xa:=yt.frozen s
   have sO:=yt.lt
   have NR:=yt.ng s uH
   have xn:=(HO.out.below hsz (ac wo)).row s uH
   have hrow:=(yt.alloc (agm hsz bb.size) (.cells #[.int .i64 (s:Int),.int .i64 dV,.int .i64 ln,.bool ky,.bool hd,.slice Ad dt.length cd] 52)).row s uH
   have Sq:T[s].1.length≤1000:=by
    have h1:=HH.out.1.2 s uH
    have h2:(T[s].1.map (·.1)).length≤(L.take i).length:=by rw[h1];exact List.length_filter_le _ _
    rw[List.length_map,List.length_take] at h2
    omega
   have uJ:=agB (yt.row s uH)
   unfold pq at CW hrow uJ xn
   have hput:=fun (w':World) (A':Option Addr) (c':Nat) hr hg hat=>(yt.alloc (agm hsz bb.size) (.cells #[.int .i64 (s:Int),.int .i64 dV,.int .i64 ln,.bool ky,.bool hd,.slice Ad dt.length cd] 52)).put (w':=w') (by have:=bb.size;simp;omega) uH (e:=(⟨(s:Int),dV,ln,ky,hd,dt⟩,Ad,cd)) (ag.below (xs:=dt) iC ((ak bb _).mono hsz)) (fun _=>SI) (A':=A') (c':=c') hr hg hat
   have xE:=fun (w':World) hg v=>(yt.alloc (agm hsz bb.size) (.cells #[.int .i64 (s:Int),.int .i64 dV,.int .i64 ln,.bool ky,.bool hd,.slice Ad dt.length cd] 52)).put_below (w0:=w) (w':=w') (by have:=bb.size;simp;omega) uH (B0:=w.heap.size) (by have:=B04.out.size;omega) hbg ((ak (af HB.out bb) _)) hg v
   have hHp:=fun A' c'=>And.intro (HH.out.1.put (p:=⟨(s:Int),dV,ln,ky,hd,dt⟩) uH rfl A' c' Ad cd) (HH.out.2.put (e:=(⟨(s:Int),dV,ln,ky,hd,dt⟩,Ad,cd)) uH acQ A' c')
   clear acQ
   rw[←qc.out] at hHp
   have Ge:=HO.out.len
   have hkq:∀q,q<w4.heap.size→q≠g→wb.heap[q]? =w4.heap[q]? :=fun q h1 h2=>(bb.block q (by omega)).trans (HKp.out q h1 h2)
   have HKq:=aa hkq
   clear HO HH hkq kx x0 x1 x2 x3 x4 x5 yt HKp
   generalize T[s]=ts at*
   obtain⟨Es,As,cs⟩:=ts
   dsimp only at*
   obtain⟨m,xu⟩:∃m,m=Es.length:=⟨_,rfl⟩
   rw[←xu] at CW hrow hput Sq uJ
   rw[ae] at uJ
   have sP:aj As≠some wo.heap.size:=fun e=>by
    have:=(agB xn wo.heap.size (by rw[ae];exact e)).2
    omega
   have Ux:=aa hrow
   have abs:=aa hput
   have abv:=aa xE
   have HHp:=aa hHp
   have Hm9:=aa xu
   have s1:(s:Int)<(k:Int):=by omega
   have s2:(0:Int)≤(s:Int):=by omega
   obtain⟨i0,cw,hz0,hz1,hz2⟩:=info_parts uZ
   clear hrow hput xE hHp xu xn
   refine fH 12 (fun w'=>w'.cell? ⟨wo.heap.size,0,none⟩=some (.int .i64 (s:Int))∧w'.cell? ⟨wo.heap.size,1,none⟩=some (.int .i64 dV)∧w'.cell? ⟨wo.heap.size,2,none⟩=some (.int .i64 ln)∧w'.cell? ⟨wo.heap.size,3,none⟩=some (.bool ky)∧w'.cell? ⟨wo.heap.size,4,none⟩=some (.bool hd)∧w'.cell? ⟨wo.heap.size,5,none⟩=some (.slice Ad dt.length cd)∧w'.cell? ⟨g,s,none⟩=some (.slice As m cs)) (by kernel_rfl) (by kernel_rfl) (⟨k0,k1,k2,k3,k4,k5,CW⟩) (fun hHeld=> ?_)
   simp only[List.pop_toArray,List.dropLast_cons_cons,List.dropLast_singleton]
   refine wpAnyH_take (i:=0) (oi:= ?o0) (v:= ?v0) ?cw (by kernel_rfl) (by kernel_rfl) (by kernel_rfl) ?Pu (Or.inl ⟨?hw0, ?xk⟩) (by assumption) ?rest0
   case cw=>(simp only[List.getElem?_toArray,List.getElem?_cons_zero,List.getElem?_cons_succ];exact rfl)
   case hw0=>rfl
   case Pu=>exact fun _ _ _ h=>h
   case xk=>(intro wv hSw;(try dsimp only at hSw);go_simp;try with_reducible rfl)
   try simp only[Act.put,List.setIfInBounds_toArray,List.set_cons_zero,List.set_cons_succ]
   refine wpAnyH_take (i:=1) (oi:= ?o1) (v:= ?v1) ?yo (by kernel_rfl) (by kernel_rfl) (by kernel_rfl) ?Jf (Or.inl ⟨?bj, ?Aa⟩) (by assumption) ?rest1
   case yo=>(simp only[List.getElem?_toArray,List.getElem?_cons_zero,List.getElem?_cons_succ];exact rfl)
   case bj=>rfl
   case Jf=>exact fun _ _ _ h=>h
   case Aa=>(intro wv hSw;(try dsimp only at hSw);go_simp;try with_reducible rfl)
   try simp only[Act.put,List.setIfInBounds_toArray,List.set_cons_zero,List.set_cons_succ]
   refine wpAnyH_take (i:=2) (oi:= ?o2) (v:= ?v2) ?Jj (by kernel_rfl) (by kernel_rfl) (by kernel_rfl) ?yJ (Or.inl ⟨?hw2, ?Ce⟩) (by assumption) ?rest2
   case Jj=>(simp only[List.getElem?_toArray,List.getElem?_cons_zero,List.getElem?_cons_succ];exact rfl)
   case hw2=>rfl
   case yJ=>exact fun _ _ _ h=>h
   case Ce=>(intro wv hSw;(try dsimp only at hSw);go_simp;try with_reducible rfl)
   try simp only[Act.put,List.setIfInBounds_toArray,List.set_cons_zero,List.set_cons_succ]
   refine wpAnyH_take (i:=3) (oi:= ?o3) (v:= ?v3) ?WV (by kernel_rfl) (by kernel_rfl) (by kernel_rfl) ?hq3 (Or.inl ⟨?hw3, ?hy3⟩) (by assumption) ?rest3
   case WV=>(simp only[List.getElem?_toArray,List.getElem?_cons_zero,List.getElem?_cons_succ];exact rfl)
   case hw3=>rfl
   case hq3=>exact fun _ _ _ h=>h
   case hy3=>(intro wv hSw;(try dsimp only at hSw);go_simp;try with_reducible rfl)
   try simp only[Act.put,List.setIfInBounds_toArray,List.set_cons_zero,List.set_cons_succ]
   refine wpAnyH_take (i:=4) (oi:= ?o4) (v:= ?v4) ?xx (by kernel_rfl) (by kernel_rfl) (by kernel_rfl) ?hq4 (Or.inl ⟨?hw4, ?hy4⟩) (by assumption) ?rest4
   case xx=>(simp only[List.getElem?_toArray,List.getElem?_cons_zero,List.getElem?_cons_succ];exact rfl)
   case hw4=>rfl
   case hq4=>exact fun _ _ _ h=>h
   case hy4=>(intro wv hSw;(try dsimp only at hSw);go_simp;try with_reducible rfl)
   try simp only[Act.put,List.setIfInBounds_toArray,List.set_cons_zero,List.set_cons_succ]
   refine wpAnyH_take (i:=5) (oi:= ?o5) (v:= ?v5) ?hi5 (by kernel_rfl) (by kernel_rfl) (by kernel_rfl) ?hq5 (Or.inl ⟨?qb, ?hy5⟩) (by assumption) ?rest5
   case hi5=>(simp only[List.getElem?_toArray,List.getElem?_cons_zero,List.getElem?_cons_succ];exact rfl)
   case qb=>rfl
   case hq5=>exact fun _ _ _ h=>h
   case hy5=>(intro wv hSw;(try dsimp only at hSw);go_simp;try with_reducible rfl)
   try simp only[Act.put,List.setIfInBounds_toArray,List.set_cons_zero,List.set_cons_succ]
   refine wpAnyH_take (i:=6) (oi:= ?o6) (v:= ?v6) ?hi6 (by kernel_rfl) (by kernel_rfl) (by kernel_rfl) ?hq6 (Or.inl ⟨?lZ, ?hy6⟩) (by assumption) ?rest6
   case hi6=>(simp only[List.getElem?_toArray,List.getElem?_cons_zero,List.getElem?_cons_succ];exact rfl)
   case lZ=>rfl
   case hq6=>exact fun _ _ _ h=>h
   case hy6=>(intro wv hSw;(try dsimp only at hSw);go_simp;try with_reducible rfl)
   try simp only[Act.put,List.setIfInBounds_toArray,List.set_cons_zero,List.set_cons_succ]
   refine wpAnyH_take (i:=7) (oi:= ?o7) (v:= ?v7) ?hi7 (by kernel_rfl) (by kernel_rfl) (by kernel_rfl) ?YD (Or.inl ⟨?Cg, ?hy7⟩) (by assumption) ?rest7
   case hi7=>(simp only[List.getElem?_toArray,List.getElem?_cons_zero,List.getElem?_cons_succ];exact rfl)
   case Cg=>rfl
   case YD=>exact fun _ _ _ h=>h
   case hy7=>(intro wv hSw;(try dsimp only at hSw);go_simp;try with_reducible rfl)
   try simp only[Act.put,List.setIfInBounds_toArray,List.set_cons_zero,List.set_cons_succ]
   refine wpAnyH_take (i:=8) (oi:= ?o8) (v:= ?v8) ?hi8 (by kernel_rfl) (by kernel_rfl) (by kernel_rfl) ?YC (Or.inl ⟨?NC, ?hy8⟩) (by assumption) ?rest8
   case hi8=>(simp only[List.getElem?_toArray,List.getElem?_cons_zero,List.getElem?_cons_succ];exact rfl)
   case NC=>rfl
   case YC=>exact fun _ _ _ h=>h
   case hy8=>(intro wv hSw;(try dsimp only at hSw);go_simp;try with_reducible rfl)
   try simp only[Act.put,List.setIfInBounds_toArray,List.set_cons_zero,List.set_cons_succ]
   refine wpAnyH_ready (rs:=[9]) (by kernel_rfl) (by simp) ?_
   refine AllReadyH.cons (o:= ?o9) ?Sz (fun K hK=> ?rest9) AllReadyH.nil
   case Sz=>(simp only[List.getElem?_toArray,List.getElem?_cons_zero,List.getElem?_cons_succ];exact rfl)
   go_simp
   refine hK.out _ _ (⟨later (ak (ac wb) _) k0,later (ak (ac wb) _) k1,later (ak (ac wb) _) k2,later (ak (ac wb) _) k3,later (ak (ac wb) _) k4,later (ak (ac wb) _) k5,later (ak (ac wb) _) CW⟩) (fun hHeld=> ?_)
   clear hK K
   try simp only[Act.put,List.setIfInBounds_toArray,List.set_cons_zero,List.set_cons_succ]
   refine wpAnyH_ready (rs:=[10]) (by kernel_rfl) (by simp) ?_
   refine AllReadyH.cons (o:= ?o10) ?SC (fun K hK=> ?rest10) AllReadyH.nil
   case SC=>(simp only[List.getElem?_toArray,List.getElem?_cons_zero,List.getElem?_cons_succ];exact rfl)
   refine mD _ rfl (.tmp 57) (.tmp 59) 44 rfl w4.heap.size 52 i0 _ 6 56 Tryz.underlying44 cw hz0 hz1 hz2 rfl (by omega) (.slice As m cs) m _ rfl (by first | exact Ux.out | exact sw Ux.out 1) _ _ 1 1 (aN iA [(⟨(s:Int),dV,ln,ky,hd,dt⟩,Ad,cd)]) rfl rfl (by first | exact Rd.drew (dr wb _ _ _ rfl) | exact dr wb _ _ _ rfl) (fp iA _) (by simp only[maxLen];omega) (by omega) (by simp;omega) ?_
   intro A6 k6 w5 bE hg4 sS
   rw[ae] at hg4
   rw[ae,ae] at sS
   have IZ:∀q,q<wb.heap.size→aj As≠some q→w5.heap[q]? =wb.heap[q]? :=(fun q h1 h2=>(hg4.block q (by simp;omega) (fun e=>h2 e.symm)).trans (ags _ _ _ h1))
   have Wq:aj As≠some wo.heap.size:=sP
   have IY:∀i v,wb.cell? ⟨wo.heap.size,i,none⟩=some v→w5.cell? ⟨wo.heap.size,i,none⟩=some v:=fun i v h=>(agy (IZ wo.heap.size oK Wq)).trans h
   have q5:w5.cell? ⟨g,s,none⟩=some (.slice As m cs):=(agy (IZ g sO NR)).trans CW
   have q6:w5.frozen? ⟨g,s,none⟩=false:=(World.frozen?_of_block (IZ g sO NR)).trans Xa
   refine hK.out _ _ (⟨IY _ _ k0,IY _ _ k1,IY _ _ k2,IY _ _ k3,IY _ _ k4,IY _ _ k5,q5⟩) (fun hHeld=> ?_)
   clear hK K
   try simp only[Act.put,List.setIfInBounds_toArray,List.set_cons_zero,List.set_cons_succ]
   refine wpAnyH_take (i:=11) (oi:= ?o11) (v:= ?v11) ?SB (by kernel_rfl) (by kernel_rfl) (by kernel_rfl) ?Sa (Or.inl ⟨?RL, ?RI⟩) (by assumption) ?rest11
   case SB=>(simp only[List.getElem?_toArray,List.getElem?_cons_zero,List.getElem?_cons_succ];exact rfl)
   case RL=>rfl
   case Sa=>exact fun _ _ _ h=>h
   case RI=>(intro wv hSw;(try dsimp only at hSw);go_simp;try with_reducible rfl)
   try simp only[Act.put,List.setIfInBounds_toArray,List.set_cons_zero,List.set_cons_succ]
   refine wpAnyH_done (by kernel_rfl) ?_ _
   refine nJ (o:= ?o12) ?SA (fun K hK=> ?rest12)
   case SA=>(simp only[List.getElem?_toArray,List.getElem?_cons_zero,List.getElem?_cons_succ];exact rfl)
   go_simp
   refine hK _ _ ?_
   clear hK K
   have NS:(wb.alloc (.cells #[.int .i64 (s:Int),.int .i64 dV,.int .i64 ln,.bool ky,.bool hd,.slice Ad dt.length cd] 52)).grownBy w5 (aj As):=⟨hg4.os,hg4.tape,hg4.output,hg4.size,hg4.block⟩
   have xH:=abs.out w5 A6 k6 bE NS sS
   have hB9:=abv.out w5 NS (.slice A6 (m+1) k6)
   have hK9:∀q,q<w4.heap.size→q≠g→(w5.setCell ⟨g,s,none⟩ (.slice A6 (m+1) k6)).heap[q]? =w4.heap[q]? :=fun q h1 h2=>by
    rw[agr _ _ _ _ h2,IZ q (by omega) (fun e=>by have:=(uJ q e).1;omega)]
    exact HKq.out q h1 h2
   have Z6:w4.heap.size≤(w5.setCell ⟨g,s,none⟩ (.slice A6 (m+1) k6)).heap.size:=by
    have:=NS.size
    simp at this ⊢
    omega
   obtain⟨w6,lZ⟩:∃w6,w6=w5.setCell ⟨g,s,none⟩ (.slice A6 (m+1) k6):=⟨_,rfl⟩
   rw[←lZ] at xH hB9 hK9 Z6 ⊢
   have Da:=aa xH
   have HB9:=aa hB9
   have LA:=aa hK9
   clear xH hB9 hK9 lZ NS q5 q6 IY Wq IZ sS hg4 bE hHeld k0 k1 k2 k3 k4 k5 CW Xa uJ sP NR
   go_wp2_with fail
   exact⟨⟨⟨i+1,_,by omega,by go_num,Da.out,(HHp.out A6 k6).1,(HHp.out A6 k6).2⟩,HB9.out,LA.out,Z6⟩,by simp[intOf];omega⟩
  ·obtain rfl:i=n4:=by omega
   have nQ:¬(i:Int)<(i:Int):=by omega
   have hLn:L.length=i:=by rw[←HE4.out,List.length_map,Hn4.out]
   have Xt:=HH.out
   rw[List.take_of_length_le (by omega)] at Xt
   have HH9:=aa Xt
   have hI9:ij wo w.heap.size A1 k c1 I:=O14.out.kept fun q hq=>HKp.out q (O14.out.lt hq).2 (by have:=HA1.out q hq;omega)
   have HI9:=aa hI9
   have FZ:=aa (HO.out.rd hsz)
   clear hLn Xt hI9
   go_wp2_with fail
   (try simp only[Exit.inBlock,Exit.then]);refine bodyPost_ret (Bw rfl _ _ _) rfl ?_
   have Gm:=Hk.out
   refine⟨A1,c1,g,T,A3,c3, ?_, ?_,FZ.out, ?_,HB.out,HH9.out.2⟩
   ·rw[←Gm];rfl
   ·rw[←Gm];exact HI9.out
   ·rw[←Gm];exact HH9.out.1
def Dr(cur:List Value)(o:Nat):List Value→List Value
 |[]=>cur
 |v :: r=>Dr (cur.set o v) (o+1) r
theorem Dq:∀(vs cur:List Value) (o:Nat),(Dr cur o vs).length=cur.length
 |[],cur,o=>rfl
 |v :: r,cur,o=>by rw[Dr,Dq r];simp
theorem zh:∀(vs cur:List Value) (o:Nat),o+vs.length≤cur.length→(Dr cur o vs).take (o+vs.length)=cur.take o++vs
 |[],cur,o,h=>by simp[Dr]
 |v :: r,cur,o,h=>by
  have h1:o+1+r.length≤(cur.set o v).length:=by simp at h ⊢;omega
  have:=zh r (cur.set o v) (o+1) h1
  rw[Dr,show o+(v :: r).length=o+1+r.length by simp;omega,this]
  rw[agx (by simp at h ⊢;omega),List.getElem_set_self,List.take_set_of_le (agl _),List.append_assoc]
  rfl
theorem oF(g:Nat):∀(vs:List Value) (o:Nat) (w:World),(w.setCells g o vs).tape=w.tape
 |[],o,w=>rfl
 |v :: r,o,w=>by rw[World.setCells,oF g r];rfl
theorem jG(g:Nat)(t:TypeId):∀(vs:List Value) (o:Nat) (w:World) (cur:List Value),w.heap[g]? =some (.cells cur.toArray t (0,0))→(w.setCells g o vs).heap[g]? =some (.cells (Dr cur o vs).toArray t (0,0))
 |[],o,w,cur,h=>h
 |v :: r,o,w,cur,h=>by
  rw[World.setCells,Dr]
  refine jG g t r (o+1) _ _ ?_
  rw[agA _ g o _ _ _ h,List.setIfInBounds_toArray]
theorem Dw{P:Program}(w:World)(B:Nat)(t tx ty e:TypeId)(i:TypeInfo)(z:Value)(ht:P.underlying t=some (.slice e))(htx:P.underlying tx=some .string)(hi:P.info? e=some i)(hz:i.zero=some z)
 (hsize:i.size=1) (hby:i.bytes=1) (hzs:z.cells.size=1)
 (A:Option Addr) (n c:Nat) (xs:List Value) (hown:w.ownsRow B e 1 (.slice A n c) n xs) (s:ByteArray) (hs0:0<s.size) (h63:n+s.size≤1000000) (hbase:B≤w.heap.size):
 ∃A' c' w',(Builtin.append_ #[t,tx] ty #[.slice A n c,.string s]).run P w= .ok (.slice A' (n+s.size) c') w'∧w'.ownsRow B e 1 (.slice A' (n+s.size) c') (n+s.size) (xs++byteCells s)∧w.grownBy w' (aj A)∧
  (aj A'=aj A∨aj A'=some w.heap.size):=by
 have WI:Src P i.size tx (.string s) s.size (byteCells s) w:=by rw[hsize];exact Src.ofString w htx s
 have hbl:(byteCells s).length=s.size:=byteCells_length s
 have hlen:(xs++byteCells s).length=(n+s.size)*1:=by rw[List.length_append,hown.1,hbl];omega
 by_cases hroom:n+s.size≤c
 ·rcases hown.2 with ⟨hv,hn⟩ | ⟨g,cap,cur,hv,hB,hg,UT,hcm,hcs,ht9⟩
  ·injection hv with h1 h2 h3;omega
  ·injection hv with h1 h2 h3
   subst h1;subst h3
   have hcell:∀j,j<(byteCells s).length→(w.cell? ⟨g,0+n*i.size+j,none⟩).isSome=true:=fun j hj=>by
    rw[hsize,agu w g _ _ _ _ hg,Array.getElem?_eq_getElem (by omega)];rfl
   have Xa:∀j,j<(byteCells s).length→w.frozen? ⟨g,0+n*i.size+j,none⟩=false:=fun j hj=>agv w g _ _ _ hg
   have hr:=run_append_room_src (P:=P) w t tx ty e i ht hi g 0 n c (.string s) s.size (byteCells s) WI hroom hcell Xa
   have mn:w.heap[g]? =some (.cells cur.toList.toArray e (0,0)):=by simpa using hg
   refine⟨_,_,_,hr,⟨hlen,.inr ⟨g,c,_,rfl,hB,jG g e _ _ _ _ mn,hroom,hcm,by rw[List.size_toArray,Dq];simpa using hcs, ?_⟩⟩,⟨by rw[World.os_setCells],oF _ _ _ _,by rw[World.output_setCells],by rw[Go.Sort.size_setCells];exact agl _,fun q hq hne=>World.heap_setCells_other w g _ _ hq (fun e=>hne (by rw[e];rfl))⟩,.inl rfl⟩
   rw[hsize,Nat.zero_add]
   have:=zh (byteCells s) cur.toList n (by rw[hbl,Array.length_toList,hcs];omega)
   rw[hbl] at this
   simp only[Nat.mul_one] at ht9 ⊢
   rw[this,ht9]
 ·have hold:(Builtin.firstCells i.size n (.slice A n c)).run P w.drew= .ok xs.toArray w.drew:=by
   rcases hown.2 with ⟨hv,hn⟩ | ⟨g,cap,cur,hv,hB,hg,UT,hcm,hcs,ht9⟩
   ·injection hv with h1 h2 h3
    subst h1;subst h2;subst h3
    have hx:xs=[]:=List.eq_nil_of_length_eq_zero (by have:=hown.1;simpa using this)
    rw[hx]
    exact run_firstCells_none w.drew i.size 0 0 0
   ·injection hv with h1 h2 h3
    subst h1;subst h3
    rw[hsize]
    exact run_firstCells_some w.drew 1 n _ n c xs hown.1 (fun j u hu=>by
     have:=hown.cells (g:=g) rfl j u hu
     simpa using this)
  have mn:=growslice_fits (old:=c) (need:=n+s.size) (bytes:=1) (by omega) (by omega)
  have hr:=run_append_grow_src (P:=P) w t tx ty e i z ht hi hz A n c xs hold (.string s) s.size (byteCells s) WI (by omega) (by omega) (by rw[hby];exact mn)
  have WX:=grownCap_ge w (n+s.size) c e
  have hcm:grownCap w (n+s.size) c e≤maxLen:=grownCap_le_maxLen w (n+s.size) c e (by simp only[maxLen];omega)
  refine⟨_,_,_,hr,⟨hlen,.inr ⟨w.heap.size,_,_,rfl,hbase,ago w.drew _,WX,hcm, ?_, ?_⟩⟩,⟨rfl,rfl,rfl,by simp,fun k hk _=>heap_alloc_old w.drew _ hk⟩,.inr rfl⟩
  ·simp only[Array.size_append,List.size_toArray,size_zeroCells,hzs,hlen]
   omega
  ·simp only[Array.toList_append]
   rw[←hlen]
   exact List.take_left
theorem Lr{ops:Array Oper}{rest:List Oper}{o:Oper}{a:Act}{Q:Exit→Act→World→Prop}(w:World)(hgd:o.guard=none)(x y:Operand)
 (ho:o.op= .call {callee:=.builtin .append,args:=#[x,y],argTypes:=#[22,9]}) (W0:World) (A1:Option Addr) (n c1:Nat) (xs:List Int) (hs:a.eval x= .slice A1 n c1) (hown:aq w W0.heap.size A1 n c1 xs)
 (s:ByteArray) (hy:a.eval y= .string s) (hs0:0<s.size) (news:List Int) (Sm:byteCells s=news.map (.int .u8)) (hsz:n+s.size≤1000000) (hb:Below W0.heap.size W0 w)
 (h:∀A' c' w',aq w' W0.heap.size A' (n+s.size) c' (xs++news)→Below W0.heap.size W0 w'→wpList Tryz.prog ops Q rest (a.put o.dst (.slice A' (n+s.size) c')) w'):wpList Tryz.prog ops Q (o :: rest) a w:=by
 obtain⟨i0,cw,hz0,hz1,hz2⟩:=info_parts fD
 obtain⟨A',c',w',hrun,h2,h3,h4⟩:=Dw (P:=Tryz.prog) w W0.heap.size 22 9 o.type 5 i0 _ Tryz.underlying22 Tryz.underlying9 cw hz0 hz1 hz2 rfl A1 n c1 _ hown s hs0 hsz hb.size
 refine wpList_plain hgd fun _ hK=> ?_
 unfold Oper.wp execOp
 simp only[ho,resolve,invoke,builtin,Sem.run_bind,Sem.run_pure,Result.andThen_ok,List.map_toArray,List.map_cons,List.map_nil,hs,hy,hrun]
 refine hK _ _ (h A' c' w' ?_ ?_)
 ·exact(by unfold aq;rw[List.map_append,←Sm];exact h2)
 ·exact aI hb hown (by rw[ae];exact h3) hb.size
end
end Go.Proofs.YtbhfpehgacaidaaGreatDoor
