/- A part of the proof of the given statement TopRight. Conditions: none. -/
import Derived.Test.YtbhfpehgacaidaaGreatDoorQAV
namespace Go.Proofs.YtbhfpehgacaidaaGreatDoor
set_option linter.unusedVariables false
set_option linter.unusedSimpArgs false
set_option maxRecDepth 100000
set_option maxHeartbeats 8000000
section
open Go.RowKit
theorem Nd(s:MS)(p:Pg):(cU s p).1.length+(cU s p).2.1.length≤s.1.length+s.2.1.length+1:=by
 unfold cU
 split
 ·omega
 ·split
  ·split
   ·simp;omega
   ·omega
  ·split
   ·omega
   ·simp;omega
theorem zP:∀(P:List Pg) (s:MS),(P.foldl cU s).1.length+(P.foldl cU s).2.1.length≤s.1.length+s.2.1.length+P.length
 |[],s=>by simp
 |p :: P,s=>by
  have h1:=zP P (cU s p)
  have h2:=Nd s p
  rw[List.foldl_cons,List.length_cons]
  omega
theorem N6(O:List Pg)(g:Pg):(jp O g).length≤O.length+1:=by
 unfold jp
 split
 ·split
  ·simp
  ·omega
 ·omega
theorem AC:∀(G O:List Pg),(G.foldl jp O).length≤O.length+G.length
 |[],O=>by simp
 |g :: G,O=>by
  have h1:=AC G (jp O g)
  have h2:=N6 O g
  rw[List.foldl_cons,List.length_cons]
  omega
theorem zO(P:List Pg):(cT P).1.length≤P.length∧(cT P).2.length≤P.length+1:=by
 have h1:=zP P ([],[], -1)
 have h2:=AC (fL P).2.1 (fL P).1
 have h3:(cT P).1.length=(yQ (fL P).1 (fL P).2.1).length:=(oX _).length_eq
 have h4:(cT P).1.length≤P.length:=by
  rw[h3]
  have e1:yQ (fL P).1 (fL P).2.1=(fL P).2.1.foldl jp (fL P).1:=rfl
  have e2:fL P=P.foldl cU ([],[], -1):=rfl
  rw[e1]
  rw[←e2] at h1
  simp only[List.length_nil] at h1
  omega
 refine⟨h4, ?_⟩
 have h5:=xp (cT P).1 0
 show (jQ (cT P).1 (fL P).2.2).length≤_
 unfold jQ
 rw[List.length_append]
 split
 ·simp only[List.length_cons,List.length_nil];omega
 ·simp only[List.length_nil];omega
theorem IJ(b:List Int)(hb:aH b):aH (dO b).1.data∧(dO b).1.data.length≤b.length:=by
 have hz:aH UI.data∧UI.data.length≤b.length:=⟨rc,agw _⟩
 unfold dO
 split
 ·exact hz
 ·split
  ·exact hz
  ·split
   ·exact hz
   ·exact⟨hb.drop 18,by show (b.drop 18).length≤_;rw[List.length_drop];omega⟩
theorem Nu{s:JS}{p:Pg}{q:Pk}(h:(ot s p).2=some q)(hs:aH s.bd)(hp:aH p.body):aH q.data∧q.data.length≤s.bd.length+p.body.length:=by
 have h1:=KJ s p
 have h2:=Eh (p:=p) hs
 unfold ot at h
 generalize sG s p=t at*
 unfold jE at h
 split at h
 ·simp at h
 ·dsimp only at h
  split at h
  ·simp at h
  ·split at h
   ·simp at h
   ·split at h
    ·simp at h
    ·simp only[Option.some.injEq] at h
     have hb:aH (t.bd++p.body):=fun x hx=>(agC.1 hx).elim (h2 x) (hp x)
     have h3:=IJ _ hb
     rw[h] at h3
     refine⟨h3.1, ?_⟩
     have:=h3.2
     rw[List.length_append] at this
     omega
theorem qI{P:List Pg}(hf:yU P)(ha:Asc P):∀i,i≤P.length→(kr (P.take i)).2.length≤i∧∀q∈(kr (P.take i)).2,aH q.data∧q.data.length≤ce P
 |0,_=>⟨by show 0≤0;omega,fun q hq=>by simp[kr] at hq⟩
 |i+1,hi=>by
  have hlt:i<P.length:=by omega
  obtain⟨h1,h2⟩:=qI hf ha i (by omega)
  obtain⟨_,_,h3,_,_,h4⟩:=wX hf ha i (by omega)
  have h5:=(hf _ (agt hlt)).2.2
  have h6:=pT hlt
  have h7:=FC P (i+1)
  rw[sH hlt]
  unfold Ej
  dsimp only
  refine⟨?_,fun q hq=> ?_⟩
  ·rw[List.length_append]
   have:=zY (kr (P.take i)).1 P[i]
   omega
  ·rcases agC.1 hq with h | h
   ·exact h2 q h
   ·have h8:(ot (kr (P.take i)).1 P[i]).2=some q:=by
     rw[Option.mem_toList] at h
     exact h
    have h9:=Nu h8 h4 h5
    exact⟨h9.1,by omega⟩
theorem tX{P:List Pg}(hf:yU P)(ha:Asc P):(dB P).length≤P.length∧∀q∈dB P,aH q.data∧q.data.length≤ce P:=by
 have h:=qI hf ha P.length (agl _)
 rw[List.take_length] at h
 exact h
theorem aaZ{l f:List Int}{k:Nat}(h1:l.length≤k)(h2:f.length≤k):(Bc l f).length≤k:=by
 rw[Cz];omega
theorem EZ:∀(P:List Pg) (s:List Int),aH s→s.length≤252→(∀p∈P,aH p.body∧p.body.length≤252)→aH (P.foldl (fun s p=>Bc s p.body) s)∧(P.foldl (fun s p=>Bc s p.body) s).length≤252
 |[],s,h1,h2,h3=>⟨h1,h2⟩
 |p :: P,s,h1,h2,h3=>EZ P (Bc s p.body) (Lk h1 (h3 p (by simp)).1) (aaZ h2 (h3 p (by simp)).2) fun q hq=>h3 q (by simp[hq])
theorem vr{P:List Pg}(hf:yU P):∀p∈P,aH p.body∧p.body.length≤252:=fun p hp=>⟨(hf p hp).2.2,DM (hf p hp).1 (hf p hp).2.1⟩
theorem Cn{P:List Pg}(hP:∀p∈P,aH p.body∧p.body.length≤252)(h8:P.length≤8)(sq:Int):aH (jo P sq).body∧(jo P sq).body.length≤255:=by
 have h1:=EZ P [] rc (by simp) hP
 have h2:=qV wQ P 0 ⟨by decide,by decide⟩
 have h3:=qV (fun p=>(p.body.length:Int)) P 0 ⟨by decide,by decide⟩
 refine⟨fun x hx=> ?_, ?_⟩
 ·have hx2:x∈[(P.length:Int),oN P,oM P]++mX P:=hx
  rcases agC.1 hx2 with h | h
  ·simp only[List.mem_cons,List.not_mem_nil,or_false] at h
   rcases h with rfl | rfl | rfl
   ·omega
   ·exact h2
   ·exact h3
  ·exact h1.1 x h
 ·show ([(P.length:Int),oN P,oM P]++mX P).length≤255
  rw[List.length_append]
  have:(mX P).length≤252:=h1.2
  simp only[List.length_cons,List.length_nil]
  omega
theorem yP{P:List Pg}(hf:yU P):∀p∈(cz P).1,aH p.body∧p.body.length≤255:=by
 unfold cz
 split
 ·intro p hp
  unfold Gt at hp
  obtain⟨j,_,h⟩:=List.mem_flatMap.1 hp
  have hg:∀q∈lj P j,q∈P:=fun q hq=>List.mem_of_mem_drop (List.mem_of_mem_take hq)
  rcases agC.1 h with h | h
  ·have:=vr hf p (hg p h)
   exact⟨this.1,by omega⟩
  ·rw[List.mem_singleton] at h
   subst h
   exact Cn (fun q hq=>vr hf q (hg q hq)) (by rw[Td];omega) _
 ·intro p hp;simp at hp
theorem vL{bs:List (List Int)}(hb:∀b∈bs,aH b):∀k,k≤bs.length→∀p∈fj (bs.take k),aH p.body∧p.body.length≤252
 |0,_,p,hp=>by simp[fj] at hp
 |k+1,hk,p,hp=>by
  have hlt:k<bs.length:=by omega
  rw[mF hlt] at hp
  rcases agC.1 hp with h | h
  ·exact vL hb k (by omega) p h
  ·unfold lM at h
   obtain⟨j,_,rfl⟩:=List.mem_map.1 h
   exact⟨fun x hx=>hb _ (agt hlt) x (List.mem_of_mem_drop (List.mem_of_mem_take hx)),by show ((bs[k].drop (252*j)).take 252).length≤252;rw[List.length_take];omega⟩
theorem Rf{p:Pk}(h:(iq p).2=0)(hb:aH p.data):aH (lc p):=by
 have dU:zV p=true:=by
  unfold iq at h
  split at h
  ·simp at h
  ·rename_i h1;simpa using h1
 have hf:=QK p
 intro x hx
 unfold lc at hx
 rcases agC.1 hx with hx | hx
 ·rcases agC.1 hx with hx | hx
  ·rcases agC.1 hx with hx | hx
   ·simp only[List.mem_cons,List.not_mem_nil,or_false] at hx
    rcases hx with rfl | rfl
    ·unfold zV at dU
     simp at dU
     omega
    ·omega
   ·exact kE _ _ x hx
  ·exact kE _ _ x hx
 ·exact hb x hx
theorem tW:∀{L:List Pk},jh L=0→∀p∈L,(iq p).2=0
 |[],_,p,hp=>by simp at hp
 |q :: L,h,p,hp=>by
  unfold jh at h
  split at h
  ·rename_i h1;exact absurd h h1
  ·rename_i h1
   rcases List.mem_cons.1 hp with rfl | h2
   ·omega
   ·exact tW h p h2
theorem Bt{L:List Pk}(hb:∀p∈L,aH p.data):∀p∈(eM L).1,aH p.body∧p.body.length≤255:=by
 unfold eM
 split
 ·intro p hp;simp at hp
 ·rename_i h0
  intro p hp
  have h0:jh L=0:=by omega
  have h1:∀b∈L.map lc,aH b:=fun b hb2=>by
   obtain⟨q,hq,rfl⟩:=List.mem_map.1 hb2
   exact Rf (tW h0 q hq) (hb q hq)
  have h2:=vL h1 (L.map lc).length (agl _) p (by rw[List.take_length];exact hp)
  exact⟨h2.1,by omega⟩
theorem tK{P:List Pg}(h4:P.length≤400)(hb:∀p∈P,aH p.body):aH (dy P)∧(dy P).length≤60*P.length+40∧1≤(dy P).length:=by
 have h1:=pK (BI hb) (agm (Ky P) h4)
 refine⟨fun x hx=> ?_,vE P h4 hb, ?_⟩
 ·unfold dy at hx
  rcases agC.1 hx with hx | hx
  ·rcases agC.1 hx with hx | hx
   ·unfold iI at hx
    obtain⟨c,hc,h2⟩:=List.mem_flatMap.1 hx
    have:=h1.1 c hc
    simp only[List.mem_cons,List.not_mem_nil,or_false] at h2
    rcases h2 with rfl | rfl <;> omega
   ·exact kE _ _ x hx
  ·simp only[List.mem_cons,List.not_mem_nil,or_false] at hx
   rcases hx with rfl | rfl | rfl | rfl <;> decide
 ·unfold dy
  simp only[List.length_append,List.length_cons,List.length_nil]
  omega
theorem GY(P:List Pk):(lI P).Perm P:=by
 have hp:=sf (Vu P) (Array.range P.length)
 have h1:=hp.2.2
 rw[Array.extract_eq_self_of_le (by rw[hp.1];exact agl _),Array.extract_eq_self_of_le (agl _)] at h1
 have h2:=h1.map (oH P)
 rw[Array.toList_range,Wj] at h2
 exact h2
theorem T4{k:Nat}{L R:List Pk}{e:Int}(h:nu (cV k L)=(R,e)):∀p∈R,p∈L:=by
 unfold nu at h
 intro p hp
 split at h
 ·injection h with h1 h2;rw[←h1] at hp;simp at hp
 ·split at h
  ·injection h with h1 h2;rw[←h1] at hp;simp at hp
  ·split at h
   ·injection h with h1 h2;rw[←h1] at hp;simp at hp
   ·injection h with h1 h2
    rw[←h1] at hp
    have:=(GY _).mem_iff.1 hp
    rw[List.mem_flatten] at this
    obtain⟨l,hl,hpl⟩:=this
    unfold cV at hl
    obtain⟨s,_,rfl⟩:=List.mem_map.1 hl
    exact(List.mem_filter.1 hpl).1
theorem V7(E:List (El Pk))(n:Nat)(hn:n=E.length)(hm:n≤400)(hby:∀t∈E,aH t.1.data∧t.1.data.length≤60000)(A:Option Addr)(B c:Nat)(w:World)(hB:B≤w.heap.size)(ha:iE iA w B A E):
 Calls Tryz.prog 25 #[.slice A n c] w fun e w'=>e= .returned (.bool (yB (E.map (·.1))))∧Below w.heap.size w w':=by
 obtain⟨RR,cN⟩:∃RR,RR=yB (E.map (·.1)):=⟨_,rfl⟩
 obtain⟨L,hL⟩:∃L,L=E.map (·.1):=⟨_,rfl⟩
 have Hn:=aa hn
 rw[←cN]
 rw[←hL] at cN
 have HR:=aa cN
 have HL:=aa hL
 have PG:L.length=n:=by rw[hL,List.length_map];omega
 have Pi:=aa PG
 clear hn cN hL PG
 have lT:(Instr.makeSlice 28 (.int .i64 4) (.int .i64 4)).run Tryz.prog w= .ok (.slice (some ⟨w.heap.size,0,none⟩) 4 4) (w.alloc (D7 4)):=Kl 4 (by omega) w
 obtain⟨w4,hw4⟩:∃w4,w4=w.alloc (D7 4):=⟨_,rfl⟩
 obtain⟨g,hg⟩:∃g,g=w.heap.size:=⟨_,rfl⟩
 have b4:Hid (Below w.heap.size w w4):=by rw[hw4];exact aa (ak (ac w) _)
 have WS:=Kw w 4 (by omega) w4.heap.size
 rw[←hw4,←hg] at lT WS
 have HmL:=aa WS
 have Hg:=aa hg
 have hg4:=WS.lt
 clear WS hw4 hg
 go_enter Tryz.func25,Tryz.ntmps25
 go_wp2_with fail
 clear lT
 go_loopw [5,14] (fun _ iv wr=>(∃(i:Nat) (T:List fT),i≤n∧iv= .int .i64 i∧fW wr w4.heap.size g 4 T∧fU 4 (L.take i) T∧∀p∈L.take i,0≤p.stream∧p.stream<4)∧Below w.heap.size w wr∧w4.heap.size≤wr.heap.size) (fun _ iv _=>n-(intOf iv).toNat)
 case atStart=>exact⟨⟨0,List.replicate 4 ([],none,0),agw _,rfl,HmL.out,by rw[List.take_zero];exact xq 4,fun p hp=>by simp at hp⟩,b4.out,agl _⟩
 case round=>
  obtain⟨⟨i,T,hi,rfl,hO,hH,hS⟩,hb,hsz⟩:=hrel
  obtain⟨wo,rfl⟩:∃wo:World,wo=wr:=⟨_,rfl⟩
  have HO:=aa hO
  have HH:=aa hH
  have HB:=aa hb
  have HS:=aa hS
  clear hO hH hb hS
  by_cases hlt:i<n
  ·have dv:i<E.length:=by have:=Hn.out;omega
   have nQ:(i:Int)<(n:Int):=by omega
   have kx:=ha.below (HB.out.mono hB)
   obtain⟨b,off,rfl,sQ,x0,x1,x2,x3,x4,x5⟩:=kh kx dv
   have iC:=kx.2 _ (agt dv)
   have CT:i<L.length:=by have:=Pi.out;omega
   have hpL:L[i]=E[i].1:=by simp only[HL.out,List.getElem_map]
   have qc:Hid (L.take (i+1)=L.take i++[E[i].1]):=by show _=_;rw[agx CT,hpL]
   have aW:¬(0≤E[i].1.stream∧E[i].1.stream<4)→RR=false:=fun h=>by
    rw[HR.out]
    have:(L.all fun p=>decide (0≤p.stream∧p.stream<4))=false:=by
     rw[List.all_eq_false]
     exact⟨L[i],agt CT,by rw[hpL];simpa using h⟩
    unfold yB
    rw[this];rfl
   generalize E[i]=t at*
   obtain⟨⟨st,dV,ln,ky,hd,dt⟩,Ad,cd⟩:=t
   dsimp only at*
   have gQ:=aa aW
   clear aW
   by_cases h0:0≤st
   case neg=>
    have g1:st<0:=by omega
    go_wp2_with fail
    go_ret
    rw[gQ.out (by omega)]
    exact⟨rfl,ak HB.out _⟩
   by_cases h1:st<4
   case neg=>
    have g1:¬st<0:=by omega
    have g2:(4:Int)≤st:=by omega
    go_wp2_with fail
    go_ret
    rw[gQ.out (by omega)]
    exact⟨rfl,ak HB.out _⟩
   obtain⟨s,rfl⟩:∃s:Nat,st=(s:Int):=⟨st.toNat,by omega⟩
   have g1:¬(s:Int)<0:=by omega
   have g2:¬(4:Int)≤(s:Int):=by omega
   have uH:s<T.length:=by have:=HO.out.len;omega
   have s1:(s:Int)<4:=by omega
   have s2:(0:Int)≤(s:Int):=by omega
   go_upto_region 7 with fail
   obtain⟨wb,ig⟩:∃wb,wb=wo.alloc (.cells #[.int .i64 (s:Int),.int .i64 dV,.int .i64 ln,.bool ky,.bool hd,.slice Ad dt.length cd] 52):=⟨_,rfl⟩
   have Mo:wb.heap[wo.heap.size]? =some (.cells #[.int .i64 (s:Int),.int .i64 dV,.int .i64 ln,.bool ky,.bool hd,.slice Ad dt.length cd] 52 (0,0)):=by rw[ig];exact ago wo _
   have bb:Below wo.heap.size wo wb:=by rw[ig];exact ak (ac wo) _
   have yt:=HO.out.below hsz bb
   have oK:wo.heap.size<wb.heap.size:=(agn.1 Mo).1
   rw[←ig]
   clear ig
   obtain⟨⟨k0,k1,k2,k3,k4,k5⟩,_⟩:=bH Mo
   have CW:=yt.cell uH
   have Xa:=yt.frozen s
   have sO:=yt.lt
   have NR:=yt.ng s uH
   have xn:=(HO.out.below hsz (ac wo)).row s uH
   have hrow:=(yt.alloc (agm hsz bb.size) (.cells #[.int .i64 (s:Int),.int .i64 dV,.int .i64 ln,.bool ky,.bool hd,.slice Ad dt.length cd] 52)).row s uH
   have Sq:T[s].1.length≤400:=by
    have h1:=HH.out.2 s uH
    have h2:(T[s].1.map (·.1)).length≤(L.take i).length:=by rw[h1];exact List.length_filter_le _ _
    rw[List.length_map,List.length_take] at h2
    omega
   have uJ:=agB (yt.row s uH)
   unfold pq at CW hrow uJ xn
   have hbg:B≤g:=by have:=Hg.out;omega
   have SI:dt≠[]→aj Ad≠some g:=fun hne e=>by
    obtain⟨b9,o9,e9,hb9,_⟩:=ag.lt (xs:=dt) iC (List.length_pos_iff.2 hne)
    rw[e9] at e
    have:b9=g:=Option.some.inj e
    omega
   have hB4:B≤w4.heap.size:=agm hB b4.out.size
   have hput:=fun (w':World) (A':Option Addr) (c':Nat) hr hg hat=>(yt.alloc (agm hsz bb.size) (.cells #[.int .i64 (s:Int),.int .i64 dV,.int .i64 ln,.bool ky,.bool hd,.slice Ad dt.length cd] 52)).put (w':=w') (by have:=bb.size;simp;omega) uH (e:=(⟨(s:Int),dV,ln,ky,hd,dt⟩,Ad,cd)) (ag.more (xs:=dt) (ag.below (xs:=dt) iC ((ak bb _).mono (agm hB4 hsz))) hB4) SI (A':=A') (c':=c') hr hg hat
   have xE:=fun (w':World) hg v=>(yt.alloc (agm hsz bb.size) (.cells #[.int .i64 (s:Int),.int .i64 dV,.int .i64 ln,.bool ky,.bool hd,.slice Ad dt.length cd] 52)).put_below (w0:=w) (w':=w') (by have:=bb.size;simp;omega) uH (B0:=w.heap.size) b4.out.size (by have:=Hg.out;omega) ((ak (af HB.out bb) _)) hg v
   have hHp:=fun A' c'=>HH.out.put (p:=⟨(s:Int),dV,ln,ky,hd,dt⟩) uH rfl A' c' Ad cd
   have hSn:∀p∈L.take (i+1),0≤p.stream∧p.stream<4:=fun p hp=>by
    rw[qc.out] at hp
    rcases agC.1 hp with h9 | h9
    ·exact HS.out p h9
    ·rw[List.mem_singleton] at h9;subst h9;exact⟨s2,s1⟩
   rw[←qc.out] at hHp
   have Ge:=HO.out.len
   have HSn:=aa hSn
   have agj:=aa SI
   clear HO HH kx x0 x1 x2 x3 x4 x5 yt hSn SI
   generalize T[s]=ts at*
   obtain⟨Es,As,cs⟩:=ts
   dsimp only at*
   obtain⟨m,xu⟩:∃m,m=Es.length:=⟨_,rfl⟩
   rw[←xu] at CW hrow hput Sq uJ
   rw[ae] at uJ
   have sP:aj As≠some wo.heap.size:=fun e=>by
    have:=(agB xn wo.heap.size (by rw[ae];exact e)).2
    omega
   have Ux:=aa hrow
   have abs:=aa hput
   have abv:=aa xE
   have HHp:=aa hHp
   have Hm9:=aa xu
   obtain⟨i0,cw,hz0,hz1,hz2⟩:=info_parts uZ
   clear hrow hput xE hHp xu xn
   refine fH 12 (fun w'=>w'.cell? ⟨wo.heap.size,0,none⟩=some (.int .i64 (s:Int))∧w'.cell? ⟨wo.heap.size,1,none⟩=some (.int .i64 dV)∧w'.cell? ⟨wo.heap.size,2,none⟩=some (.int .i64 ln)∧w'.cell? ⟨wo.heap.size,3,none⟩=some (.bool ky)∧w'.cell? ⟨wo.heap.size,4,none⟩=some (.bool hd)∧w'.cell? ⟨wo.heap.size,5,none⟩=some (.slice Ad dt.length cd)∧w'.cell? ⟨g,s,none⟩=some (.slice As m cs)) (by kernel_rfl) (by kernel_rfl) (⟨k0,k1,k2,k3,k4,k5,CW⟩) (fun hHeld=> ?_)
   simp only[List.pop_toArray,List.dropLast_cons_cons,List.dropLast_singleton]
   refine wpAnyH_take (i:=0) (oi:= ?o0) (v:= ?v0) ?cw (by kernel_rfl) (by kernel_rfl) (by kernel_rfl) ?Pu (Or.inl ⟨?hw0, ?xk⟩) (by assumption) ?rest0
   case cw=>(simp only[List.getElem?_toArray,List.getElem?_cons_zero,List.getElem?_cons_succ];exact rfl)
   case hw0=>rfl
   case Pu=>exact fun _ _ _ h=>h
   case xk=>(intro wv hSw;(try dsimp only at hSw);go_simp;try with_reducible rfl)
   try simp only[Act.put,List.setIfInBounds_toArray,List.set_cons_zero,List.set_cons_succ]
   refine wpAnyH_take (i:=1) (oi:= ?o1) (v:= ?v1) ?yo (by kernel_rfl) (by kernel_rfl) (by kernel_rfl) ?Jf (Or.inl ⟨?bj, ?Aa⟩) (by assumption) ?rest1
   case yo=>(simp only[List.getElem?_toArray,List.getElem?_cons_zero,List.getElem?_cons_succ];exact rfl)
   case bj=>rfl
   case Jf=>exact fun _ _ _ h=>h
   case Aa=>(intro wv hSw;(try dsimp only at hSw);go_simp;try with_reducible rfl)
   try simp only[Act.put,List.setIfInBounds_toArray,List.set_cons_zero,List.set_cons_succ]
   refine wpAnyH_take (i:=2) (oi:= ?o2) (v:= ?v2) ?Jj (by kernel_rfl) (by kernel_rfl) (by kernel_rfl) ?yJ (Or.inl ⟨?hw2, ?Ce⟩) (by assumption) ?rest2
   case Jj=>(simp only[List.getElem?_toArray,List.getElem?_cons_zero,List.getElem?_cons_succ];exact rfl)
   case hw2=>rfl
   case yJ=>exact fun _ _ _ h=>h
   case Ce=>(intro wv hSw;(try dsimp only at hSw);go_simp;try with_reducible rfl)
   try simp only[Act.put,List.setIfInBounds_toArray,List.set_cons_zero,List.set_cons_succ]
   refine wpAnyH_take (i:=3) (oi:= ?o3) (v:= ?v3) ?WV (by kernel_rfl) (by kernel_rfl) (by kernel_rfl) ?hq3 (Or.inl ⟨?hw3, ?hy3⟩) (by assumption) ?rest3
   case WV=>(simp only[List.getElem?_toArray,List.getElem?_cons_zero,List.getElem?_cons_succ];exact rfl)
   case hw3=>rfl
   case hq3=>exact fun _ _ _ h=>h
   case hy3=>(intro wv hSw;(try dsimp only at hSw);go_simp;try with_reducible rfl)
   try simp only[Act.put,List.setIfInBounds_toArray,List.set_cons_zero,List.set_cons_succ]
   refine wpAnyH_take (i:=4) (oi:= ?o4) (v:= ?v4) ?xx (by kernel_rfl) (by kernel_rfl) (by kernel_rfl) ?hq4 (Or.inl ⟨?hw4, ?hy4⟩) (by assumption) ?rest4
   case xx=>(simp only[List.getElem?_toArray,List.getElem?_cons_zero,List.getElem?_cons_succ];exact rfl)
   case hw4=>rfl
   case hq4=>exact fun _ _ _ h=>h
   case hy4=>(intro wv hSw;(try dsimp only at hSw);go_simp;try with_reducible rfl)
   try simp only[Act.put,List.setIfInBounds_toArray,List.set_cons_zero,List.set_cons_succ]
   refine wpAnyH_take (i:=5) (oi:= ?o5) (v:= ?v5) ?hi5 (by kernel_rfl) (by kernel_rfl) (by kernel_rfl) ?hq5 (Or.inl ⟨?qb, ?hy5⟩) (by assumption) ?rest5
   case hi5=>(simp only[List.getElem?_toArray,List.getElem?_cons_zero,List.getElem?_cons_succ];exact rfl)
   case qb=>rfl
   case hq5=>exact fun _ _ _ h=>h
   case hy5=>(intro wv hSw;(try dsimp only at hSw);go_simp;try with_reducible rfl)
   try simp only[Act.put,List.setIfInBounds_toArray,List.set_cons_zero,List.set_cons_succ]
   refine wpAnyH_take (i:=6) (oi:= ?o6) (v:= ?v6) ?hi6 (by kernel_rfl) (by kernel_rfl) (by kernel_rfl) ?hq6 (Or.inl ⟨?lZ, ?hy6⟩) (by assumption) ?rest6
   case hi6=>(simp only[List.getElem?_toArray,List.getElem?_cons_zero,List.getElem?_cons_succ];exact rfl)
   case lZ=>rfl
   case hq6=>exact fun _ _ _ h=>h
   case hy6=>(intro wv hSw;(try dsimp only at hSw);go_simp;try with_reducible rfl)
   try simp only[Act.put,List.setIfInBounds_toArray,List.set_cons_zero,List.set_cons_succ]
   refine wpAnyH_take (i:=7) (oi:= ?o7) (v:= ?v7) ?hi7 (by kernel_rfl) (by kernel_rfl) (by kernel_rfl) ?YD (Or.inl ⟨?Cg, ?hy7⟩) (by assumption) ?rest7
   case hi7=>(simp only[List.getElem?_toArray,List.getElem?_cons_zero,List.getElem?_cons_succ];exact rfl)
   case Cg=>rfl
   case YD=>exact fun _ _ _ h=>h
   case hy7=>(intro wv hSw;(try dsimp only at hSw);go_simp;try with_reducible rfl)
   try simp only[Act.put,List.setIfInBounds_toArray,List.set_cons_zero,List.set_cons_succ]
   refine wpAnyH_take (i:=8) (oi:= ?o8) (v:= ?v8) ?hi8 (by kernel_rfl) (by kernel_rfl) (by kernel_rfl) ?YC (Or.inl ⟨?NC, ?hy8⟩) (by assumption) ?rest8
   case hi8=>(simp only[List.getElem?_toArray,List.getElem?_cons_zero,List.getElem?_cons_succ];exact rfl)
   case NC=>rfl
   case YC=>exact fun _ _ _ h=>h
   case hy8=>(intro wv hSw;(try dsimp only at hSw);go_simp;try with_reducible rfl)
   try simp only[Act.put,List.setIfInBounds_toArray,List.set_cons_zero,List.set_cons_succ]
   refine wpAnyH_ready (rs:=[9]) (by kernel_rfl) (by simp) ?_
   refine AllReadyH.cons (o:= ?o9) ?Sz (fun K hK=> ?rest9) AllReadyH.nil
   case Sz=>(simp only[List.getElem?_toArray,List.getElem?_cons_zero,List.getElem?_cons_succ];exact rfl)
   go_simp
   refine hK.out _ _ (⟨later (ak (ac wb) _) k0,later (ak (ac wb) _) k1,later (ak (ac wb) _) k2,later (ak (ac wb) _) k3,later (ak (ac wb) _) k4,later (ak (ac wb) _) k5,later (ak (ac wb) _) CW⟩) (fun hHeld=> ?_)
   clear hK K
   try simp only[Act.put,List.setIfInBounds_toArray,List.set_cons_zero,List.set_cons_succ]
   refine wpAnyH_ready (rs:=[10]) (by kernel_rfl) (by simp) ?_
   refine AllReadyH.cons (o:= ?o10) ?SC (fun K hK=> ?rest10) AllReadyH.nil
   case SC=>(simp only[List.getElem?_toArray,List.getElem?_cons_zero,List.getElem?_cons_succ];exact rfl)
   refine mD _ rfl (.tmp 35) (.tmp 37) 44 rfl w4.heap.size 52 i0 _ 6 56 Tryz.underlying44 cw hz0 hz1 hz2 rfl (by omega) (.slice As m cs) m _ rfl (by first | exact Ux.out | exact sw Ux.out 1) _ _ 1 1 (aN iA [(⟨(s:Int),dV,ln,ky,hd,dt⟩,Ad,cd)]) rfl rfl (by first | exact Rd.drew (dr wb _ _ _ rfl) | exact dr wb _ _ _ rfl) (fp iA _) (by simp only[maxLen];omega) (by omega) (by simp;omega) ?_
   intro A6 k6 w5 bE hg4 sS
   rw[ae] at hg4
   rw[ae,ae] at sS
   have IZ:∀q,q<wb.heap.size→aj As≠some q→w5.heap[q]? =wb.heap[q]? :=(fun q h1 h2=>(hg4.block q (by simp;omega) (fun e=>h2 e.symm)).trans (ags _ _ _ h1))
   have Wq:aj As≠some wo.heap.size:=sP
   have IY:∀i v,wb.cell? ⟨wo.heap.size,i,none⟩=some v→w5.cell? ⟨wo.heap.size,i,none⟩=some v:=fun i v h=>(agy (IZ wo.heap.size oK Wq)).trans h
   have q5:w5.cell? ⟨g,s,none⟩=some (.slice As m cs):=(agy (IZ g sO NR)).trans CW
   have q6:w5.frozen? ⟨g,s,none⟩=false:=(World.frozen?_of_block (IZ g sO NR)).trans Xa
   refine hK.out _ _ (⟨IY _ _ k0,IY _ _ k1,IY _ _ k2,IY _ _ k3,IY _ _ k4,IY _ _ k5,q5⟩) (fun hHeld=> ?_)
   clear hK K
   try simp only[Act.put,List.setIfInBounds_toArray,List.set_cons_zero,List.set_cons_succ]
   refine wpAnyH_take (i:=11) (oi:= ?o11) (v:= ?v11) ?SB (by kernel_rfl) (by kernel_rfl) (by kernel_rfl) ?Sa (Or.inl ⟨?RL, ?RI⟩) (by assumption) ?rest11
   case SB=>(simp only[List.getElem?_toArray,List.getElem?_cons_zero,List.getElem?_cons_succ];exact rfl)
   case RL=>rfl
   case Sa=>exact fun _ _ _ h=>h
   case RI=>(intro wv hSw;(try dsimp only at hSw);go_simp;try with_reducible rfl)
   try simp only[Act.put,List.setIfInBounds_toArray,List.set_cons_zero,List.set_cons_succ]
   refine wpAnyH_done (by kernel_rfl) ?_ _
   refine nJ (o:= ?o12) ?SA (fun K hK=> ?rest12)
   case SA=>(simp only[List.getElem?_toArray,List.getElem?_cons_zero,List.getElem?_cons_succ];exact rfl)
   go_simp
   refine hK _ _ ?_
   clear hK K
   have NS:(wb.alloc (.cells #[.int .i64 (s:Int),.int .i64 dV,.int .i64 ln,.bool ky,.bool hd,.slice Ad dt.length cd] 52)).grownBy w5 (aj As):=⟨hg4.os,hg4.tape,hg4.output,hg4.size,hg4.block⟩
   have xH:=abs.out w5 A6 k6 bE NS sS
   have hB9:=abv.out w5 NS (.slice A6 (m+1) k6)
   have Z6:w4.heap.size≤(w5.setCell ⟨g,s,none⟩ (.slice A6 (m+1) k6)).heap.size:=by
    have:=NS.size
    simp at this ⊢
    omega
   obtain⟨w6,lZ⟩:∃w6,w6=w5.setCell ⟨g,s,none⟩ (.slice A6 (m+1) k6):=⟨_,rfl⟩
   rw[←lZ] at xH hB9 Z6 ⊢
   have Da:=aa xH
   have HB9:=aa hB9
   clear xH hB9 lZ NS q5 q6 IY Wq IZ sS hg4 bE hHeld k0 k1 k2 k3 k4 k5 CW Xa uJ sP NR
   go_wp2_with fail
   exact⟨⟨⟨i+1,_,by omega,by go_num,Da.out,HHp.out A6 k6,HSn.out⟩,HB9.out,Z6⟩,by simp[intOf];omega⟩
  ·obtain rfl:i=n:=by omega
   have nQ:¬(i:Int)<(i:Int):=by omega
   have Yv:L.take i=L:=List.take_of_length_le (by rw[Pi.out];exact agl _)
   have Xt:=HH.out
   have hS9:=HS.out
   rw[Yv] at Xt hS9
   have hall:=Lt T 4 Xt.1.symm (fun t ht=>by
    obtain⟨j,hj,rfl⟩:=List.getElem_of_mem ht
    have h1:=Xt.2 j hj
    refine⟨?_,fun e he=> ?_⟩
    ·have h2:(T[j].1.map (·.1)).length≤L.length:=by rw[h1];exact List.length_filter_le _ _
     rw[List.length_map,Pi.out] at h2
     omega
    ·have h2:e.1∈T[j].1.map (·.1):=List.mem_map.2 ⟨e,he,rfl⟩
     rw[h1] at h2
     have h3:=(List.mem_filter.1 h2).1
     rw[HL.out] at h3
     obtain⟨t9,ht9,e9⟩:=List.mem_map.1 h3
     rw[←e9]
     exact(hby t9 ht9).2) (some ⟨g,0,none⟩) wo.heap.size 4 wo (agl _) (HO.out.rd hsz) (by omega)
   rw[Xt.nam] at hall
   obtain⟨⟨R1,R2⟩,hR12⟩:∃R,R=nu (cV 4 L):=⟨_,rfl⟩
   have pL:=T4 hR12.symm
   have hr2:RR=(decide (R2=0) && decide (R1=L)):=by
    rw[HR.out]
    unfold yB
    rw[List.all_eq_true.2 fun p hp=>decide_eq_true (hS9 p hp),←hR12,Bool.true_and]
   rw[←hR12] at hall
   unfold abC at hall
   dsimp only at hall
   have lX:=aa hr2
   have uR:=aa hall
   have Un:=aa pL
   clear hr2 hall pL hR12 hS9 Xt Yv HO HH HS HmL
   by_cases h0:R2=0
   case neg=>
    have h0b:(R2 != 0)=true:=bne_iff_ne.2 h0
    have hr3:Hid (RR=false):=by show _=_;rw[lX.out,decide_eq_false h0];rfl
    go_wp2_with (go_at_call 33;(with_reducible refine uR.out.mono ?_);rintro e w2 ⟨A9,c9,E9,rfl,lh,NV,b9⟩)
    go_ret
    rw[hr3.out]
    exact⟨rfl,af HB.out b9⟩
   subst h0
   obtain⟨k,hk⟩:∃k,k=R1.length:=⟨_,rfl⟩
   rw[←hk] at uR
   have Ve:=aa hk
   clear hk
   by_cases hki:k=i
   case neg=>
    have hkb:((k:Int) != (i:Int))=true:=by rw[bne_iff_ne];omega
    have hr3:Hid (RR=false):=by
     show _=_
     rw[lX.out,decide_eq_false (fun e:R1=L=>hki (by rw[Ve.out,e,Pi.out]))];rfl
    go_wp2_with (go_at_call 33;(with_reducible refine uR.out.mono ?_);rintro e w2 ⟨A9,c9,E9,rfl,lh,NV,b9⟩)
    go_ret
    rw[hr3.out]
    exact⟨rfl,af HB.out b9⟩
   subst hki
   have hkb:((k:Int) != (k:Int))=false:=by simp
   have hr3:RR=decide (R1=L):=by rw[lX.out];simp
   have mo:=aa hr3
   clear hr3
   go_wp2_with (go_at_call 33;(with_reducible refine uR.out.mono ?_);rintro e w2 ⟨A9,c9,F,rfl,lh,NV,b9⟩)
   have Da:=aa lh
   have HE9:=aa NV
   have Dc:=aa (af HB.out b9)
   have hbF:Hid (∀t∈F,aH t.1.data):=fun t ht=>by
    have h1:=Un.out t.1 (by rw[←NV];exact List.mem_map.2 ⟨t,ht,rfl⟩)
    rw[HL.out] at h1
    obtain⟨t9,ht9,e9⟩:=List.mem_map.1 h1
    rw[←e9]
    exact(hby t9 ht9).1
   clear lh NV b9 HB
   go_loopw [8,9,10,57] (fun _ _ _ iv wr=>(∃i:Nat,i≤k∧iv= .int .i64 i∧∀j,j<i→oH L j=oH R1 j)∧Below w2.heap.size w2 wr) (fun _ _ _ iv _=>k-(intOf iv).toNat)
   case atStart=>exact⟨⟨0,agw _,rfl,fun j h=>absurd h (by omega)⟩,ac w2⟩
   case round=>
    obtain⟨⟨i,hi,rfl,hR⟩,hb9⟩:=hrel
    obtain⟨qj,rfl⟩:∃qj:World,qj=wr:=⟨_,rfl⟩
    have HB:=aa hb9
    have HRR:=aa hR
    clear hb9 hR
    by_cases hlt:i<k
    ·have dv:i<E.length:=by have:=Hn.out;omega
     have hiF:i<F.length:=by have:=Da.out.len;omega
     have nQ:(i:Int)<(k:Int):=by omega
     have ha2:=ha.below ((af Dc.out HB.out).mono hB)
     have hb2:=Da.out.rd.below HB.out
     obtain⟨b,off,rfl,sQ,x0,x1,x2,x3,x4,x5⟩:=kh ha2 dv
     obtain⟨b',wL,rfl,aer,y0,y1,y2,y3,y4,y5⟩:=kh hb2 hiF
     have qf:=ha2.2 _ (agt dv)
     have Az:=hb2.2 _ (agt hiF)
     have hs1:=hby _ (agt dv)
     have RT:=hbF.out _ (agt hiF)
     have Ac:oH L i=E[i].1:=by rw[pB (by have:=Pi.out;omega)];simp[HL.out]
     have lS:oH R1 i=F[i].1:=by rw[pB (by have:=Ve.out;omega)];simp[←HE9.out]
     have aW:E[i].1≠F[i].1→R1≠L:=fun h e=>h (by rw[←Ac,←lS,e])
     have ue:E[i].1=F[i].1→∀j,j<i+1→oH L j=oH R1 j:=fun h j hj=>by
      by_cases e:j=i
      ·rw[e,Ac,lS,h]
      ·exact HRR.out j (by omega)
     generalize E[i]=t at*
     generalize F[i]=u at*
     obtain⟨⟨s1,a1,l1,k1,h1,d1⟩,A3,c3⟩:=t
     obtain⟨⟨s2,a2,l2,k2,h2,d2⟩,A4,c4⟩:=u
     dsimp only at*
     have gQ:=aa aW
     have FT:=aa ue
     obtain⟨wb,ig⟩:∃wb,wb=(qj.alloc (.cells #[.int .i64 s1,.int .i64 a1,.int .i64 l1,.bool k1,.bool h1,.slice A3 d1.length c3] 52)).alloc (.cells #[.int .i64 s2,.int .i64 a2,.int .i64 l2,.bool k2,.bool h2,.slice A4 d2.length c4] 52):=⟨_,rfl⟩
     have Bb:Hid (Below qj.heap.size qj wb):=by rw[ig];exact aa (ak (ak (ac qj) _) _)
     have m1:wb.heap[qj.heap.size]? =some (.cells #[.int .i64 s1,.int .i64 a1,.int .i64 l1,.bool k1,.bool h1,.slice A3 d1.length c3] 52 (0,0)):=by
      rw[ig,heap_alloc_old _ _ (by simp)];exact ago qj _
     have m2:wb.heap[qj.heap.size+1]? =some (.cells #[.int .i64 s2,.int .i64 a2,.int .i64 l2,.bool k2,.bool h2,.slice A4 d2.length c4] 52 (0,0)):=by
      have h9:=ago (qj.alloc (.cells #[.int .i64 s1,.int .i64 a1,.int .i64 l1,.bool k1,.bool h1,.slice A3 d1.length c3] 52)) (.cells #[.int .i64 s2,.int .i64 a2,.int .i64 l2,.bool k2,.bool h2,.slice A4 d2.length c4] 52)
      rw[World.size_alloc] at h9
      rw[ig];exact h9
     have heq:=vv d1 d2 d1.length d2.length rfl rfl hs1.1 RT A3 A4 B w2.heap.size c3 c4 wb (ag.below (xs:=d1) qf (Bb.out.mono (agm hB (af Dc.out HB.out).size))) (ag.below (xs:=d2) Az (Bb.out.mono HB.out.size))
     obtain⟨⟨j0,j1,j2,j3,j4,j5⟩,_⟩:=bH m1
     obtain⟨⟨k0,k1',k2',k3,k4,k5⟩,_⟩:=bH m2
     have C5:=aa heq
     clear heq qf Az hs1 RT Ac lS aW ue m1 m2 ha2 hb2
     have Gc:=ak (ac qj) (.cells #[.int .i64 s1,.int .i64 a1,.int .i64 l1,.bool k1,.bool h1,.slice A3 d1.length c3] 52)
     have z0:=later Gc y0
     have z1:=later Gc y1
     have z2:=later Gc y2
     have z3:=later Gc y3
     have z4:=later Gc y4
     have z5:=later Gc y5
     have LT1:=aa Gc
     clear Gc
     go_upto_region 16 with fail
     rw[←ig]
     clear ig x0 x1 x2 x3 x4 x5 y0 y1 y2 y3 y4 y5 z0 z1 z2 z3 z4 z5
     by_cases hx0:s1=s2
     ·have hb0:(s1 != s2)=false:=by simp[hx0]
      have Hx0:=aa hx0
      clear hx0
      by_cases hx1:a1=a2
      ·have hb1:(a1 != a2)=false:=by simp[hx1]
       have Hx1:=aa hx1
       clear hx1
       by_cases hx2:l1=l2
       ·have hb2:(l1 != l2)=false:=by simp[hx2]
        have Hx2:=aa hx2
        clear hx2
        by_cases hx3:k1=k2
        ·have hb3:(k1 != k2)=false:=by simp[hx3]
         have Hx3:=aa hx3
         clear hx3
         by_cases Ys:h1=h2
         ·have hb4:(h1 != h2)=false:=by simp[Ys]
          have Hx4:=aa Ys
          clear Ys
          cases Xc:decide (d1=d2)with
          |false=>
           rw[Xc] at C5
           have hx5:¬d1=d2:=of_decide_eq_false Xc
           have hne:R1≠L:=fun e=>gQ.out (fun e2=>hx5 (by injection e2)) e
           have yT:=aa hne
           clear hne
           go_wp2_with (go_at_call 21;(with_reducible refine C5.out.mono ?_);rintro e w' ⟨rfl,rfl⟩)
           go_ret
           rw[mo.out,decide_eq_false yT.out]
           exact⟨rfl,af Dc.out (af HB.out Bb.out)⟩
          |true=>
           rw[Xc] at C5
           have Hx5:Hid (d1=d2):=aa (of_decide_eq_true Xc)
           clear Xc
           go_wp2_with (go_at_call 21;(with_reducible refine C5.out.mono ?_);rintro e w' ⟨rfl,rfl⟩)
           refine⟨⟨⟨i+1,by omega,by go_num,FT.out (by rw[Hx0.out,Hx1.out,Hx2.out,Hx3.out,Hx4.out,Hx5.out])⟩,af HB.out Bb.out⟩,by simp[intOf];omega⟩
         ·have hb4:(h1 != h2)=true:=bne_iff_ne.2 Ys
          have hne:R1≠L:=fun e=>gQ.out (fun e2=>Ys (by injection e2)) e
          have yT:=aa hne
          clear hne
          go_wp2_with (go_at_call 21;(with_reducible refine C5.out.mono ?_);rintro e w' ⟨rfl,rfl⟩)
          go_ret
          rw[mo.out,decide_eq_false yT.out]
          exact⟨rfl,af Dc.out (af HB.out Bb.out)⟩
        ·have hb3:(k1 != k2)=true:=bne_iff_ne.2 hx3
         have hne:R1≠L:=fun e=>gQ.out (fun e2=>hx3 (by injection e2)) e
         have yT:=aa hne
         clear hne
         go_wp2_with (go_at_call 21;(with_reducible refine C5.out.mono ?_);rintro e w' ⟨rfl,rfl⟩)
         go_ret
         rw[mo.out,decide_eq_false yT.out]
         exact⟨rfl,af Dc.out (af HB.out Bb.out)⟩
       ·have hb2:(l1 != l2)=true:=bne_iff_ne.2 hx2
        have hne:R1≠L:=fun e=>gQ.out (fun e2=>hx2 (by injection e2)) e
        have yT:=aa hne
        clear hne
        go_wp2_with (go_at_call 21;(with_reducible refine C5.out.mono ?_);rintro e w' ⟨rfl,rfl⟩)
        go_ret
        rw[mo.out,decide_eq_false yT.out]
        exact⟨rfl,af Dc.out (af HB.out Bb.out)⟩
      ·have hb1:(a1 != a2)=true:=bne_iff_ne.2 hx1
       have hne:R1≠L:=fun e=>gQ.out (fun e2=>hx1 (by injection e2)) e
       have yT:=aa hne
       clear hne
       go_wp2_with (go_at_call 21;(with_reducible refine C5.out.mono ?_);rintro e w' ⟨rfl,rfl⟩)
       go_ret
       rw[mo.out,decide_eq_false yT.out]
       exact⟨rfl,af Dc.out (af HB.out Bb.out)⟩
     ·have hb0:(s1 != s2)=true:=bne_iff_ne.2 hx0
      have hne:R1≠L:=fun e=>gQ.out (fun e2=>hx0 (by injection e2)) e
      have yT:=aa hne
      clear hne
      go_wp2_with (go_at_call 21;(with_reducible refine C5.out.mono ?_);rintro e w' ⟨rfl,rfl⟩)
      go_ret
      rw[mo.out,decide_eq_false yT.out]
      exact⟨rfl,af Dc.out (af HB.out Bb.out)⟩
    ·obtain rfl:i=k:=by omega
     have nQ:¬(i:Int)<(i:Int):=by omega
     have hpq:Hid (R1=L):=(VR (by rw[Pi.out,←Ve.out]) fun j hj=>HRR.out j (by have:=Pi.out;omega)).symm
     go_wp2_with fail
     go_ret
     rw[mo.out,decide_eq_true hpq.out]
     exact⟨rfl,af Dc.out HB.out⟩
end
end Go.Proofs.YtbhfpehgacaidaaGreatDoor
