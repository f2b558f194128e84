/- A part of the proof of the given statement TopRight. Conditions: none. -/
import Derived.StillTail
import Derived.Test.YtbhfpehgacaidaaGreatDoorQAR
namespace Go.Proofs.YtbhfpehgacaidaaGreatDoor
set_option linter.unusedVariables false
set_option linter.unusedSimpArgs false
set_option maxRecDepth 100000
set_option maxHeartbeats 8000000
section
open Go.RowKit
theorem Fj(E:List (El Pk))(d:Array Nat):(Go.Sort.flatK (nh E) 6 d).toList=aN iA (d.toList.map (xR E)):=by
 have hl:(aN iA (d.toList.map (xR E))).length=d.size*6:=by rw[cA];simp[iA]
 apply List.ext_getElem
 ·rw[hl];simp
 ·intro t h1 h2
  have ht:t<d.size*6:=by rw[hl] at h2;exact h2
  have hi:t/6<d.size:=by omega
  have e1:(Go.Sort.flatK (nh E) 6 d).toList[t]=(nh E d[t/6]!)[t%6]! :=by
   have:=Go.Sort.get_flatK (nh E) 6 d t ht
   rw[getElem!_pos (Go.Sort.flatK (nh E) 6 d) t (by simpa using ht)] at this
   simpa using this
  have e2:=nU iA (d.toList.map (xR E)) (t/6) (t%6) (by simpa using hi) (show t%6<6 by omega)
  have e3:t/6*iA.k+t%6=t:=by show t/6*6+t%6=t;omega
  rw[e3,List.getElem?_eq_getElem h2] at e2
  rw[e1]
  apply Option.some.inj
  rw[e2]
  have e4:(d.toList.map (xR E))[t/6]'(by simpa using hi)=xR E (d[t/6]!):=by simp[hi]
  rw[e4]
  have e5:t%6<(nh E d[t/6]!).length:=by show t%6<(iA.enc _ _ _).length;rw[iA.len];show _<6;omega
  rw[getElem!_pos (nh E d[t/6]!) (t%6) e5]
  exact(List.getElem?_eq_getElem e5).symm
theorem Wk(E:List (El Pk)):(List.range E.length).map (xR E)=E:=by
 apply List.ext_getElem (by simp)
 intro i h1 h2
 simp[aaT h2]
theorem LW(P:List Pk):(lI P).length=P.length:=by
 unfold lI
 rw[List.length_map,Array.length_toList,(sf (Vu P) (Array.range P.length)).1]
 simp
theorem LV:lI []=[]:=List.eq_nil_of_length_eq_zero (LW [])
def abg(E:List (El Pk))(n c B:Nat)(A:Option Addr)(w:World)(e:Ending)(w':World):Prop:=
 e= .returned (.tuple #[])∧∃E',E'.Perm E∧E'.map (·.1)=lI (E.map (·.1))∧aV iA 52 w' B A n c E'∧Below B w w'
theorem Vx(A:Option Addr)(n c:Nat)(w:World)(hn:n≤100000)(Q:Ending→World→Prop)
 (h:Calls Tryz.prog 127 #[.slice A n c,.int .i64 n,.func (.func 81) #[] #[]] w fun e w'=>e= .returned (.tuple #[])∧Q (.returned (.tuple #[])) w'):
 Calls Tryz.prog 80 #[.slice A n c,.func (.func 81) #[] #[]] w Q:=by
 have H:=aa h
 clear h
 go_enter Tryz.func80,Tryz.ntmps80
 go_wp2_with (go_at_call 127;(with_reducible refine H.out.mono ?_);rintro e w' ⟨rfl,hq⟩)
 go_end0
 exact hq
theorem L1(E:List (El Pk))(n c B:Nat)(A:Option Addr)(w:World)(hB:B≤w.heap.size)(ho:aV iA 52 w B A n c E)(hm:n≤100000):
 Calls Tryz.prog 80 #[.slice A n c,.func (.func 81) #[] #[]] w (abg E n c B A w):=by
 have hlen:=ho.len
 refine Vx A n c w hm _ ?_
 by_cases h0:n=0
 ·subst h0
  obtain rfl:E=[]:=List.eq_nil_of_length_eq_zero hlen
  refine(G0 A c 81 w).mono ?_
  rintro e w' ⟨rfl,rfl⟩
  exact⟨rfl,rfl,[],List.Perm.refl _,LV.symm,ho,Below.refl _ _⟩
 ·obtain⟨g,rfl,SF,CU⟩:=eW ho.row (by omega)
  obtain⟨d,hd⟩:∃d,d=Array.range n:=⟨_,rfl⟩
  have rN:d.toList.map (xR E)=E:=by
   rw[hd,Array.toList_range,←hlen]
   exact Wk E
  have yr:d.size=n:=by rw[hd];simp
  have eg:∀args w,(callFunc 81 args).run Tryz.prog w= .ok (.enter 81 args) w:=enters_of Tryz.func81 (by kernel_rfl) rfl
  have xw:∀x,(nh E x).length=6:=fun x=>iA.len _ _ _
  have hH:Go.Sort.HoldsK (nh E) 6 w g 0 d:=by
   intro j hj
   have hj':j<n*6:=by rw[Go.Sort.size_flatK,yr] at hj;exact hj
   have kx:=World.ownsRow.cellAt ho.row j (by show j<n*6;exact hj')
   have li:(Go.Sort.flatK (nh E) 6 d)[j]! =(aN iA E)[j]'(by rw[cA,hlen];exact hj'):=by
    have:=Fj E d
    rw[rN] at this
    rw[getElem!_pos (Go.Sort.flatK (nh E) 6 d) j hj]
    have h3:(Go.Sort.flatK (nh E) 6 d)[j]=(Go.Sort.flatK (nh E) 6 d).toList[j]'(by simpa using hj):=by simp
    rw[h3]
    simp only[this]
   refine⟨?_, ?_⟩
   ·rw[Nat.zero_add,li,kx]
    exact List.getElem?_eq_getElem _
   ·rw[Nat.zero_add]
    exact World.ownsRow.frozenAt ho.row j
  have iy:Go.Proofs.CmpLays Tryz.prog 81 #[] (nh E) 6 (XH (E.map (·.1))) g 0 d.size w:=fun m os dk _ x y=>by
   have:=T6 (xR E x).1 (xR E y).1 (xR E x).2.1 (xR E y).2.1 (xR E x).2.2 (xR E y).2.2 (Go.Proofs.sortWorldK (nh E) 6 w g 0 m dk os)
   unfold XH
   rw[←Cs,←Cs]
   exact this
  have hcon:=GW (P:=Tryz.prog) abG Z5 (nh E) (XH (E.map (·.1))) (Vu _) 81 eg g 0 c d w iy ⟨xw,fun x v hv=>iA.one _ _ _ v hv,hH,CU⟩ (by omega)
  rw[yr] at hcon
  refine hcon.mono ?_
  rintro e w' ⟨rfl,m,os,rfl⟩
  refine⟨rfl,rfl, ?_⟩
  have hp:=sf (Vu (E.map (·.1))) d
  have hst:lI (E.map (·.1))=(Go.Proofs.YtbhfpehgacaidaaGreatDoor.stabP (Go.Proofs.ltOf (XH (E.map (·.1)))) d).toList.map (oH (E.map (·.1))):=by
   unfold lI
   rw[List.length_map,hlen,←hd]
  generalize Go.Proofs.YtbhfpehgacaidaaGreatDoor.stabP (Go.Proofs.ltOf (XH (E.map (·.1)))) d=d' at*
  have hsz:d'.size=n:=by rw[hp.1,yr]
  have CQ:d'.toList.Perm d.toList:=by
   have:=hp.2.2
   rw[Array.extract_eq_self_of_le (by rw[hsz];omega),Array.extract_eq_self_of_le (agl _)] at this
   exact this
  refine⟨d'.toList.map (xR E),by have:=CQ.map (xR E);rw[rN] at this;exact this, ?_, ?_, ?_⟩
  ·rw[hst,List.map_map]
   exact List.map_congr_left fun i _=>Cs E i
  ·refine aV.perm ho (by have:=CQ.map (xR E);rw[rN] at this;exact this) ?_ (wC _ _ _ _ _ _) fun q hq hne=>kV w g m 0 q _ os hq (fun e=>hne (by rw[e];rfl))
   have:=Kv ho.row m (Go.Sort.flatK (nh E) 6 d') (by rw[Go.Sort.size_flatK,hsz];rfl) os
   rw[Fj] at this
   exact this
  ·exact put_below SF hB m 0 _ os
theorem Dx{fn:Func}(h:fn.results=#[.cell 2 52])(tmps:Array Value)(w:World){g:Nat}{v0 v1 v2 v3 v4 v5:Value}(ht:tmps.getD 2 undef= .pointer (some ⟨g,0,none⟩))
 (hc:w.cell? ⟨g,0,none⟩=some v0∧w.cell? ⟨g,1,none⟩=some v1∧w.cell? ⟨g,2,none⟩=some v2∧w.cell? ⟨g,3,none⟩=some v3∧w.cell? ⟨g,4,none⟩=some v4∧w.cell? ⟨g,5,none⟩=some v5):
 (results fn tmps).run Tryz.prog w= .ok (.agg #[v0,v1,v2,v3,v4,v5]) w:=by
 obtain⟨c0,c1,c2,c3,c4,c5⟩:=hc
 have key:(results fn tmps).run Tryz.prog w=((asAddr (tmps.getD 2 undef)).run Tryz.prog w).andThen fun a w₁=>(loadVar 52 a).run Tryz.prog w₁:=by
  simp only[results,h]
  simp[Sem.run_bind,Result.andThen]
 rw[key,ht]
 simp[go_sem,c0,c1,c2,c3,c4,c5]
theorem Nw{k:IntKind}{w:World}{B:Nat}{A:Option Addr}{l:List Int}(h:ag k w B A l):A=none→l=[]:=fun e=>by
 by_cases h0:0<l.length
 ·obtain⟨b,off,h1,_⟩:=h.lt h0
  rw[e] at h1;cases h1
 ·exact List.eq_nil_of_length_eq_zero (by omega)
def abz(p:Pk)(w:World)(e:Ending)(w':World):Prop:=∃A c,e= .returned (Ga p A c)∧aq w' w.heap.size A p.data.length c p.data∧Below w.heap.size w w'
theorem GM(p:Pk)(A:Option Addr)(B c:Nat)(w:World)(hB:B≤w.heap.size)(ha:ag .u8 w B A p.data)(hl:p.data.length≤60000):
 Calls Tryz.prog 79 #[Ga p A c] w (abz p w):=by
 obtain⟨st,tm,ln,ky,hd,d⟩:=p
 unfold Ga abz
 dsimp only at*
 obtain⟨o1,cM⟩:∃o1,o1=Obj.cells #[.int .i64 st,.int .i64 tm,.int .i64 ln,.bool ky,.bool hd,.slice A d.length c] 52:=⟨_,rfl⟩
 obtain⟨o2,cD⟩:∃o2,o2=Obj.cells #[.int .i64 0,.int .i64 0,.int .i64 0,.bool false,.bool false,.slice none 0 0] 52:=⟨_,rfl⟩
 have B1:=aa (ak (ak (ac w) o1) o2)
 obtain⟨w1,bj⟩:∃w1,w1=(w.alloc o1).alloc o2:=⟨_,rfl⟩
 have hz1:Hid (w1.heap.size=w.heap.size+2):=by show _=_;rw[bj];simp
 have M2:Hid (w1.heap[w.heap.size+1]? =some (.cells #[.int .i64 0,.int .i64 0,.int .i64 0,.bool false,.bool false,.slice none 0 0] 52 (0,0))):=by
  show _=_
  have:=ago (w.alloc o1) o2
  rw[World.size_alloc] at this
  rw[bj,this,cD]
 have M1:Hid (w1.heap[w.heap.size]? =some (.cells #[.int .i64 st,.int .i64 tm,.int .i64 ln,.bool ky,.bool hd,.slice A d.length c] 52 (0,0))):=by
  show _=_;rw[bj,ags _ _ _ (by simp),ago w o1,cM]
 rw[←bj] at B1
 have Ha:=aa (ha.below (B1.out.mono hB))
 have Hc:=aa (nW d d.length rfl hl A B c w1 (agm hB B1.out.size) Ha.out (Nw Ha.out))
 rw[cM,cD] at bj
 obtain⟨⟨k0,k1,k2,k3,k4,k5⟩,_⟩:=bH M1.out
 clear ha cM cD
 go_enter Tryz.func79,Tryz.ntmps79
 go_upto_region 1 with fail
 rw[←bj]
 clear bj
 go_wp2_with (go_at_call 73;(with_reducible refine Hc.out.mono ?_);rintro e w2 ⟨A2,c2,rfl,cD,b2⟩;obtain⟨K,f0,f1,f2,f3,f4,f5⟩:=bH ((b2.block w.heap.size (by have:=hz1.out;omega)).trans M1.out);obtain⟨j0,j1,j2,j3,j4,j5⟩:=K;obtain⟨K2,g0,g1,g2,g3,g4,g5⟩:=bH ((b2.block (w.heap.size+1) (by have:=hz1.out;omega)).trans M2.out);obtain⟨i0,i1,i2,i3,i4,i5⟩:=K2)
 have hne:w.heap.size+1≠w.heap.size:=by omega
 have HS:=(bH (W:=w2.setCell ⟨w.heap.size,5,none⟩ (.slice A2 d.length c2)) ((agr w2 ⟨w.heap.size,5,none⟩ _ _ hne).trans ((b2.block (w.heap.size+1) (by have:=hz1.out;omega)).trans M2.out))).1
 refine bodyPost_ret (Dx rfl _ _ rfl (rW HS _ _ _ _ _ _)) rfl ?_
 refine⟨A2,c2,rfl, ?_, ?_⟩
 ·refine aq.of_other (aq.base cD (by have:=hz1.out;omega)) fun q hq=> ?_
  have yJ:=(agB cD q hq).1
  exact(vP (by have:=hz1.out;omega) _ _ _ _ _ _).trans (agr _ _ _ _ (by have:=hz1.out;show q≠w.heap.size;omega))
 ·exact oZ ((B1.out.trans (b2.mono B1.out.size)).setCell (p:=⟨w.heap.size,5,none⟩) (agl _) _) (by omega) _ _ _ _ _ _
abbrev fT:=List (El Pk)×Option Addr×Nat
def pq(t:fT):Value:=.slice t.2.1 t.1.length t.2.2
def OW(w:World)(B:Nat)(A:Option Addr)(T:List fT):Prop:=Rd w B A (T.map pq)∧∀t∈T,iE iA w B t.2.1 t.1
def DX(T:List fT):List (List Pk):=T.map fun t=>t.1.map (·.1)
theorem OW.below{w w':World}{B:Nat}{A:Option Addr}{T:List fT}(h:OW w B A T)(hb:Below B w w'):OW w' B A T:=⟨Rd.below h.1 hb,fun t ht=>(h.2 t ht).below hb⟩
theorem OW.more{w:World}{B B':Nat}{A:Option Addr}{T:List fT}(h:OW w B A T)(hb:B≤B'):OW w B' A T:=⟨Rd.more h.1 hb,fun t ht=>(h.2 t ht).more hb⟩
theorem H7{w:World}{B:Nat}{A:Option Addr}{T:List fT}(h:OW w B A T){i:Nat}(hi:i<T.length):∃b off,A=some ⟨b,off,none⟩∧b<B∧w.cell? ⟨b,off+i,none⟩=some (pq T[i]):=by
 obtain⟨b,off,e,hb,hc⟩:=h.1 (by simp;omega)
 exact⟨b,off,e,hb,hc i _ (by simp[hi])⟩
abbrev CL (w:World) (B:Nat) (A:Option Addr) (n c:Nat) (E:List (El Pk)):Prop:=aV iA 52 w B A n c E
theorem JY{ops:Array Oper}{rest:List Oper}{o:Oper}{a:Act}{Q:Exit→Act→World→Prop}(w2:World)(hgd:o.guard=none)(s x:Operand)
 (ho:o.op= .call {callee:=.builtin .append,args:=#[s,x],argTypes:=#[44,44]}) (W0:World) (A1:Option Addr) (n1 c1:Nat) (E:List (El Pk)) (hs:a.eval s= .slice A1 n1 c1) (hown:CL w2 W0.heap.size A1 n1 c1 E)
 (p:Pk) (A3:Option Addr) (B3 c3:Nat) (h3:aq w2 B3 A3 p.data.length c3 p.data) (hB3:W0.heap.size≤B3) (Jc:∀q,aj A3=some q→aj A1≠some q) (arr:Array Value) (fo:arr.toList=iA.enc p A3 c3) (ty:TypeId)
 (hx:a.eval x= .slice (some ⟨w2.heap.size,0,none⟩) 1 1) (hsz:n1+1≤100000) (hb:Below W0.heap.size W0 w2)
 (h:∀A' c' w',CL w' W0.heap.size A' (n1+1) c' (E++[(p,A3,c3)])→Below W0.heap.size W0 w'→wpList Tryz.prog ops Q rest (a.put o.dst (.slice A' (n1+1) c')) w'):wpList Tryz.prog ops Q (o :: rest) a (w2.alloc (.cells arr ty)):=by
 obtain⟨i0,cw,hz0,hz1,hz2⟩:=info_parts uZ
 have cD:=hown.alloc (.cells arr ty)
 refine aP _ hgd s x 44 ho W0.heap.size 52 i0 _ 6 56 Tryz.underlying44 cw hz0 hz1 hz2 rfl (by omega) _ n1 _ hs cD.row (w2.heap.size+1) _ 1 1 (aN iA [(p,A3,c3)]) hx (by rw[cA];rfl) (dr w2 _ _ _ (by rw[fo,iQ])) (fp iA _) (by simp only[maxLen];omega) (by omega) (ak hb _).size ?_
 intro A' c' w' h1 h2 h4
 refine h A' c' w' (cD.push (fun t ht=> ?_) (fun t ht q hq=> ?_) (fun t ht=>by rw[List.mem_singleton] at ht;subst ht;exact bJ h3) rfl h1 h2 h4) (aI (ak hb _) cD.row h2 (ak hb _).size)
 ·rw[List.mem_singleton] at ht
  subst ht
  exact(h3.ints.below (ak (ac w2) _)).more (ak (ac w2) _).size
 ·rw[List.mem_singleton] at ht
  subst ht
  have h1:=agB h3 q (by rw[ae];exact hq)
  exact⟨by omega,by simp;omega,Jc q hq⟩
theorem Yk{wo w2:World}{B k c n3 c3:Nat}{A1 A3:Option Addr}{E:List (El Pk)}{l3:List Int}(h:CL wo B A1 k c E)(h3:aq w2 wo.heap.size A3 n3 c3 l3):∀q,aj A3=some q→aj A1≠some q:=fun q hq e=>by
 have h1:=agB h3 q (by rw[ae];exact hq)
 have h2:=agB h.row q (by rw[ae];exact e)
 omega
def abC(r:List Pk×Int)(w:World)(e:Ending)(w':World):Prop:=
 ∃A c E,e= .returned (.tuple #[.slice A r.1.length c,.int .i64 r.2])∧CL w' w.heap.size A r.1.length c E∧E.map (·.1)=r.1∧Below w.heap.size w w'
theorem rA{x:Int}{w w':World}(h:Below w.heap.size w w'):abC ([],x) w (.returned (.tuple #[.slice none 0 0,.int .i64 x])) w':=⟨none,0,[],rfl,aV.nil _ _,rfl,h⟩
theorem zM{T:List fT}{s:Nat}(h:s<T.length):(DX T).getD s []=T[s].1.map (·.1):=by simp[DX,h]
def ru(s:Nat)(p:Pk):Bool:=decide ((iq p).2≠0∨p.stream≠(s:Int))
theorem Nn{LL:List (List Pk)}{s:Nat}(h:s<LL.length){i:Nat}(hi:i<(LL.getD s []).length)(hb:ru s ((LL.getD s [])[i])=true):ji LL=true:=by
 unfold ji
 rw[List.any_eq_true]
 refine⟨s,List.mem_range.2 h, ?_⟩
 rw[List.any_eq_true]
 exact⟨_,agt hi,hb⟩
theorem IU{LL:List (List Pk)}(h:∀s,s<LL.length→∀i (hi:i<(LL.getD s []).length),ru s ((LL.getD s [])[i])=false):ji LL=false:=by
 unfold ji
 rw[List.any_eq_false]
 intro s hs
 rw[List.mem_range] at hs
 rw[Bool.not_eq_true,List.any_eq_false]
 intro p hp
 obtain⟨i,hi,rfl⟩:=List.getElem_of_mem hp
 have:=h s hs i hi
 unfold ru at this
 rw[this];simp
def nj(L:List Pk)(i:Nat):Bool:=decide (0<i∧(oH L i).pat<(oH L (i-1)).pat)
theorem XF{L:List Pk}{i:Nat}(h:i<L.length)(hb:nj L i=true):qY L=true:=by
 unfold qY
 rw[List.any_eq_true]
 exact⟨i,List.mem_range.2 h,hb⟩
theorem Tt{L:List Pk}(h:∀i,i<L.length→nj L i=false):qY L=false:=by
 unfold qY
 rw[List.any_eq_false]
 intro i hi
 have:=h i (List.mem_range.1 hi)
 unfold nj at this
 rw[this];simp
theorem xO{LL:List (List Pk)}{s:Nat}(h:s<LL.length):(LL.take (s+1)).flatten=(LL.take s).flatten++LL.getD s []:=by
 rw[agx h,List.flatten_append]
 simp[h]
theorem Lt(T:List fT)(k:Nat)(hk:k=T.length)(hT:∀t∈T,t.1.length≤400∧∀e∈t.1,e.1.data.length≤60000)(A:Option Addr)(B c:Nat)(w:World)(hB:B≤w.heap.size)(ha:OW w B A T)(hk0:k≤1000):
 Calls Tryz.prog 33 #[.slice A k c] w (abC (nu (DX T)) w):=by
 obtain⟨LL,hLL⟩:∃LL,LL=DX T:=⟨_,rfl⟩
 have hLk:LL.length=k:=by rw[hLL,hk];simp[DX]
 obtain⟨RR,cN⟩:∃RR,RR=nu LL:=⟨_,rfl⟩
 rw[←hLL,←cN]
 have HR:=aa cN
 have F2:=aa hLk
 have HLL:=aa hLL
 have Hk:=aa hk
 by_cases jx:k<1
 ·have hr:RR=([],1):=by rw[cN];unfold nu;rw[if_pos (.inl (by omega))]
  have lX:=aa hr
  have hI:(k:Int)<1:=by omega
  clear hr cN hLk hLL hk HR
  go_enter Tryz.func33,Tryz.ntmps33
  go_wp2_with fail
  go_ret2
  rw[lX.out]
  exact rA (ac w)
 ·have YW:¬(k:Int)<1:=by omega
  by_cases hk4:4<k
  ·have hr:RR=([],1):=by rw[cN];unfold nu;rw[if_pos (.inr (by omega))]
   have lX:=aa hr
   have hI:(4:Int)<(k:Int):=by omega
   clear hr cN hLk hLL hk HR
   go_enter Tryz.func33,Tryz.ntmps33
   go_wp2_with fail
   go_ret2
   rw[lX.out]
   exact rA (ac w)
  ·have hI:¬(4:Int)<(k:Int):=by omega
   have hr:RR=if ji LL then([],1)else if LL.any qY then([],12)else(lI LL.flatten,0):=by rw[cN];unfold nu;rw[if_neg (by omega)]
   have lX:=aa hr
   clear hr cN hLk hLL hk HR
   go_enter Tryz.func33,Tryz.ntmps33
   go_wp2_with fail
   go_loopw [4,5,7,8,9,25,32] (fun _ _ _ _ _ sv _ wr=>(∃s:Nat,s≤k∧sv= .int .i64 s∧∀j,j<s→∀i (hi:i<(LL.getD j []).length),ru j ((LL.getD j [])[i])=false)∧Below w.heap.size w wr) (fun _ _ _ _ _ sv _ _=>k-(intOf sv).toNat)
   case atStart=>exact⟨⟨0,agw _,rfl,fun j h=>absurd h (by omega)⟩,ac w⟩
   case round=>
    obtain⟨⟨s,hs,rfl,aW⟩,hb⟩:=hrel
    obtain⟨wo,rfl⟩:∃wo:World,wo=wr:=⟨_,rfl⟩
    have HB:=aa hb
    have abw:=aa aW
    clear hb aW
    by_cases hlt:s<k
    ·have uH:s<T.length:=by have:=Hk.out;omega
     have YA:(s:Int)<(k:Int):=by omega
     have ha2:=ha.below (HB.out.mono hB)
     obtain⟨b,off,rfl,sQ,x0⟩:=H7 ha2 uH
     have hrow:=ha2.2 _ (agt uH)
     have hsm:=hT _ (agt uH)
     have hnm:LL.getD s []=T[s].1.map (·.1):=by rw[HLL.out];exact zM uH
     generalize T[s]=t at*
     obtain⟨E,As,cs⟩:=t
     obtain⟨n,hn⟩:∃n,n=E.length:=⟨_,rfl⟩
     unfold pq at x0
     dsimp only at*
     rw[←hn] at x0 hsm
     have lD:=aa hrow
     have Pb:=aa hsm
     have XX:=aa hnm
     have Hn:=aa hn
     have hn4:=hsm.1
     clear hrow hsm hnm hn ha2
     go_wp2_with fail
     go_loopw [7,8,9,32] (fun _ _ _ iv wr=>(∃i:Nat,i≤n∧iv= .int .i64 i∧∀j (hj:j<(LL.getD s []).length),j<i→ru s ((LL.getD s [])[j])=false)∧Below wo.heap.size wo wr) (fun _ _ _ iv _=>n-(intOf iv).toNat)
     case atStart=>exact⟨⟨0,agw _,rfl,fun j _ h=>absurd h (by omega)⟩,ac wo⟩
     case round=>
      obtain⟨⟨i,hi,rfl,aW⟩,hb⟩:=hrel
      obtain⟨wp,rfl⟩:∃wp:World,wp=wr:=⟨_,rfl⟩
      have kG:=aa hb
      have Zm:=aa aW
      clear hb aW
      by_cases jR:i<n
      ·have dv:i<E.length:=by have:=Hn.out;omega
       have nQ:(i:Int)<(n:Int):=by omega
       have kJ:B≤wp.heap.size:=agm hB (agm HB.out.size kG.out.size)
       have hrow:=lD.out.below (kG.out.mono (agm hB HB.out.size))
       obtain⟨b2,abR,rfl,aeq,y0,y1,y2,y3,y4,y5⟩:=kh hrow dv
       have iC:=hrow.2 _ (agt dv)
       have hd6:=Pb.out.2 _ (agt dv)
       have CT:i<(LL.getD s []).length:=by rw[XX.out,List.length_map];exact dv
       have hpe:(LL.getD s [])[i]=E[i].1:=by simp only[XX.out,List.getElem_map]
       have lW:ru s E[i].1=true→ji LL=true:=fun e=>Nn (by have:=F2.out;omega) CT (by rw[hpe];exact e)
       have l8:ru s E[i].1=false→∀j (hj:j<(LL.getD s []).length),j<i+1→ru s ((LL.getD s [])[j])=false:=fun e j hj hji=>by
        by_cases h9:j=i
        ·subst h9;rw[hpe];exact e
        ·exact Zm.out j hj (by omega)
       generalize E[i]=t at*
       obtain⟨⟨st,dV,ln,ky,hd,dt⟩,Ad,cd⟩:=t
       dsimp only at*
       have hcon:=fun W (h:Below wp.heap.size wp W)=>KD ⟨st,dV,ln,ky,hd,dt⟩ Ad B cd W (agm kJ h.size) (ag.below (xs:=dt) iC (h.mono kJ)) (show dt.length≤80000 by omega)
       unfold Ga dF at hcon
       dsimp only at hcon
       unfold ru at lW l8
       dsimp only at lW l8
       generalize iq ⟨st,dV,ln,ky,hd,dt⟩=R at*
       obtain⟨R1,R2⟩:=R
       dsimp only at*
       have Mo:=aa (ago wp (.cells #[.int .i64 st,.int .i64 dV,.int .i64 ln,.bool ky,.bool hd,.slice Ad dt.length cd] 52))
       have cC:=aa hcon
       have Hbd:=aa lW
       have XW:=aa l8
       clear hcon iC lW l8 hpe hrow
       by_cases h0:R2=0
       ·subst h0
        by_cases hst:st=(s:Int)
        ·have adH:(st != (s:Int))=false:=by simp[hst]
         have fG:=aa hst
         clear hst
         go_wp2_with (go_at_call 72;(with_reducible refine(cC.out _ (ak (ac wp) _)).mono ?_);rintro e w2 ⟨A3,c3,rfl,bF,b2⟩;obtain⟨⟨k0,k1,k2,k3,k4,k5⟩,_⟩:=bH ((b2.block wp.heap.size (by simp)).trans Mo.out))
         exact⟨⟨⟨i+1,by omega,by go_num,XW.out (by rw[fG.out];simp)⟩,af kG.out (af (ak (ac wp) _) b2)⟩,by simp[intOf];omega⟩
        ·have adH:(st != (s:Int))=true:=bne_iff_ne.2 hst
         have hr:=lX.out
         rw[if_pos (Hbd.out (by simp[hst]))] at hr
         have mo:=aa hr
         clear hr
         go_wp2_with (go_at_call 72;(with_reducible refine(cC.out _ (ak (ac wp) _)).mono ?_);rintro e w2 ⟨A3,c3,rfl,bF,b2⟩;obtain⟨⟨k0,k1,k2,k3,k4,k5⟩,_⟩:=bH ((b2.block wp.heap.size (by simp)).trans Mo.out))
         go_ret2
         rw[mo.out]
         exact rA (af HB.out (af kG.out (af (ak (ac wp) _) b2)))
       ·have h02:(R2 != 0)=true:=bne_iff_ne.2 h0
        have hr:=lX.out
        rw[if_pos (Hbd.out (by simp[h0]))] at hr
        have mo:=aa hr
        clear hr
        go_wp2_with (go_at_call 72;(with_reducible refine(cC.out _ (ak (ac wp) _)).mono ?_);rintro e w2 ⟨A3,c3,rfl,bF,b2⟩;obtain⟨⟨k0,k1,k2,k3,k4,k5⟩,_⟩:=bH ((b2.block wp.heap.size (by simp)).trans Mo.out))
        go_ret2
        rw[mo.out]
        exact rA (af HB.out (af kG.out (af (ak (ac wp) _) b2)))
      ·obtain rfl:i=n:=by omega
       have nQ:¬(i:Int)<(i:Int):=by omega
       go_wp2_with fail
       refine⟨⟨⟨s+1,by omega,by go_num,fun j hj t ht=> ?_⟩,af HB.out kG.out⟩,by simp[intOf];omega⟩
       by_cases e:j=s
       ·subst e
        exact Zm.out t ht (by have:=Hn.out;rw[XX.out,List.length_map] at ht;omega)
       ·exact abw.out j (by omega) t ht
    ·obtain rfl:s=k:=by omega
     have YA:¬(s:Int)<(s:Int):=by omega
     have UU:ji LL=false:=IU fun j hj=>abw.out j (by have:=F2.out;omega)
     have hr:=lX.out
     rw[UU] at hr
     simp only[Bool.false_eq_true,if_false] at hr
     have mo:=aa hr
     clear hr UU abw lX
     go_wp2_with fail
     go_loopw [10,12,13,14,53,59] (fun ov _ _ _ sv _ wr=>(∃(j m c2:Nat) (A2:Option Addr) (E2:List (El Pk)),j≤s∧sv= .int .i64 j∧ov= .slice A2 m c2∧m≤400*j∧CL wr wo.heap.size A2 m c2 E2∧E2.map (·.1)=(LL.take j).flatten∧∀t,t<j→qY (LL.getD t [])=false)∧Below wo.heap.size wo wr) (fun _ _ _ _ sv _ _=>s-(intOf sv).toNat)
     case atStart=>exact⟨⟨0,0,0,none,[],agw _,rfl,rfl,agl _,aV.nil _ _,by simp,fun t h=>absurd h (by omega)⟩,ac wo⟩
     case round=>
      obtain⟨⟨j,m,c2,A2,E2,hj,rfl,rfl,hm,hO,hE,hde⟩,hb⟩:=hrel
      obtain⟨wp,rfl⟩:∃wp:World,wp=wr:=⟨_,rfl⟩
      have HO:=aa hO
      have HE:=aa hE
      have HD:=aa hde
      have kG:=aa hb
      clear hO hE hde hb
      by_cases jR:j<s
      ·have hjT:j<T.length:=by have:=Hk.out;omega
       have hjI:(j:Int)<(s:Int):=by omega
       have ha2:=ha.below ((HB.out.trans (kG.out.mono HB.out.size)).mono hB)
       obtain⟨b,off,rfl,sQ,x0⟩:=H7 ha2 hjT
       have hrow:=ha.2 _ (agt hjT)
       have hsm:=hT _ (agt hjT)
       have hnm:LL.getD j []=T[j].1.map (·.1):=by rw[HLL.out];exact zM hjT
       generalize T[j]=t at*
       obtain⟨E,As,cs⟩:=t
       obtain⟨n,hn⟩:∃n,n=E.length:=⟨_,rfl⟩
       unfold pq at x0
       dsimp only at*
       rw[←hn] at x0 hsm
       have lD:=aa hrow
       have Pb:=aa hsm
       have XX:=aa hnm
       have Hn:=aa hn
       have hn4:=hsm.1
       have hts:Hid ((LL.take (j+1)).flatten=(LL.take j).flatten++E.map (·.1)):=by show _=_;rw[xO (by have:=F2.out;omega),XX.out]
       clear hrow hsm hnm hn ha2
       go_wp2_with fail
       go_loopw [10,13,14,59] (fun ov _ _ iv wr=>(∃(i c3:Nat) (A3:Option Addr) (E3:List (El Pk)),i≤n∧iv= .int .i64 i∧ov= .slice A3 (m+i) c3∧CL wr wo.heap.size A3 (m+i) c3 E3∧E3.map (·.1)=(LL.take j).flatten++(E.map (·.1)).take i∧∀t,t<i→nj (LL.getD j []) t=false)∧Below wo.heap.size wo wr) (fun _ _ _ iv _=>n-(intOf iv).toNat)
       case atStart=>exact⟨⟨0,c2,A2,E2,agw _,rfl,rfl,HO.out,by simpa using HE.out,fun t h=>absurd h (by omega)⟩,kG.out⟩
       case round=>
        obtain⟨⟨i,c3,A3,E3,hi,rfl,rfl,ER,YY,hde⟩,hb3⟩:=hrel
        obtain⟨wq,rfl⟩:∃wq:World,wq=wr:=⟨_,rfl⟩
        have oD:=aa ER
        have PT:=aa YY
        have HD3:=aa hde
        have kL:=aa hb3
        clear ER YY hde hb3 HO HE kG
        by_cases hlt3:i<n
        ·have dv:i<E.length:=by have:=Hn.out;omega
         have nQ:(i:Int)<(n:Int):=by omega
         have hBq:B≤wq.heap.size:=agm hB (agm HB.out.size kL.out.size)
         have hrow:=lD.out.below ((HB.out.trans (kL.out.mono HB.out.size)).mono hB)
         obtain⟨b2,abR,rfl,aeq,y0,y1,y2,y3,y4,y5⟩:=kh hrow dv
         have iC:=hrow.2 _ (agt dv)
         have hd6:=Pb.out.2 _ (agt dv)
         have CT:i<(LL.getD j []).length:=by rw[XX.out,List.length_map];exact dv
         have qc:Hid ((E.map (·.1)).take (i+1)=(E.map (·.1)).take i++[E[i].1]):=by
          show _=_
          rw[agx (by simpa using dv)];simp
         have WL:oH (LL.getD j []) i=E[i].1:=by rw[pB CT];simp only[XX.out,List.getElem_map]
         have qM:i≠0→∃v:Int,(oH (LL.getD j []) (i-1)).pat=v∧wq.cell? ⟨b2,abR+(i-1)*6+1,none⟩=some (.int .i64 v):=fun h0=>by
          obtain⟨b',wL,e,_,_,z1,_⟩:=kh hrow (i:=i-1) (by omega)
          injection e with e;injection e with e1 e2;subst e1;subst e2
          refine⟨_,rfl, ?_⟩
          have e1:oH (LL.getD j []) (i-1)=E[i-1].1:=by rw[pB (by omega)];simp only[XX.out,List.getElem_map]
          rw[e1];exact z1
         have SH:nj (LL.getD j []) i=decide (0<i∧E[i].1.pat<(oH (LL.getD j []) (i-1)).pat):=by rw[nj,WL]
         generalize E[i]=t at*
         obtain⟨⟨st,dV,ln,ky,hd,dt⟩,Ad,cd⟩:=t
         dsimp only at*
         have hcon:=fun W (h:Below wq.heap.size wq W)=>GM ⟨st,dV,ln,ky,hd,dt⟩ Ad B cd W (agm hBq h.size) (ag.below (xs:=dt) iC (h.mono hBq)) hd6
         unfold Ga abz at hcon
         dsimp only at hcon
         have Mo:=aa (ago wq (.cells #[.int .i64 st,.int .i64 dV,.int .i64 ln,.bool ky,.bool hd,.slice Ad dt.length cd] 52))
         have cC:=aa hcon
         clear hcon iC WL hrow hd6
         by_cases h0:i=0
         ·have Hds:Hid (nj (LL.getD j []) i=false):=by show _=_;rw[SH,decide_eq_false (by omega)]
          have d1:decide (0<i)=false:=decide_eq_false (by omega)
          clear qM SH h0
          go_wp2_with fail
          go_quiet (fail)
          go_wp2_with (first
           |(go_at_call 79;(with_reducible refine(cC.out _ (below_drewN (ak (ac wq) _) _)).mono ?_);rintro e w2 ⟨A4,c4,rfl,bE,b2⟩;dsimp only[Ga] at bE ⊢;have B2:=af (below_drewN (ak (ac wq) _) _) b2;have O2:=oD.out.below B2 (agl _))
           |(at_builtin;refine JY w2 rfl (.tmp 77) (.tmp 80) rfl wo A3 (m+i) c3 E3 rfl O2 ⟨st,dV,ln,ky,hd,dt⟩ A4 _ c4 bE (agm kL.out.size (below_drewN (ak (ac wq) _) _).size) (Yk (oD.out.below (below_drewN (ak (ac wq) _) _) (agl _)) bE) _ rfl _ rfl (by omega) (af kL.out B2) ?_;intro A5 c5 w5 bT b5))
          refine⟨⟨⟨i+1,c5,A5,E3++[(⟨st,dV,ln,ky,hd,dt⟩,A4,c4)],by omega,by go_num,rfl,bT, ?_,fun t ht=> ?_⟩,b5⟩,by simp[intOf];omega⟩
          ·rw[List.map_append,PT.out,qc.out,←List.append_assoc];rfl
          ·by_cases e:t=i
           ·rw[e];exact Hds.out
           ·exact HD3.out t (by omega)
         ·obtain⟨v,RM,hv2⟩:=qM h0
          have d1:decide (0<i)=true:=decide_eq_true (by omega)
          have j1:=agp ((i:Int)-1) (by omega)
          have j3:((i:Int)-1).toNat=i-1:=by omega
          have j4:(0:Int)≤(i:Int)-1:=by omega
          have j5:(i:Int)-1<(n:Int):=by omega
          rw[RM] at SH
          have Hds:=aa SH
          have y9:=later (ak (ac wq) (.cells #[.int .i64 st,.int .i64 dV,.int .i64 ln,.bool ky,.bool hd,.slice Ad dt.length cd] 52)) hv2
          clear qM SH RM hv2
          by_cases uJ:dV<v
          ·have hr:=mo.out
           rw[if_pos (List.any_eq_true.2 ⟨LL.getD j [],by rw[show LL.getD j []=LL[j]'(by have:=F2.out;omega)by simp[show j<LL.length by have:=F2.out;omega]];exact agt _,XF CT (by rw[Hds.out];exact decide_eq_true ⟨by omega,uJ⟩)⟩)] at hr
           have yf:=aa hr
           clear hr
           go_wp2_with fail
           go_quiet (fail)
           go_wp2_with fail
           go_ret2
           rw[yf.out]
           exact rA (HB.out.trans ((below_drewN (ak kL.out _) _).mono HB.out.size))
          ·have aeO:Hid (nj (LL.getD j []) i=false):=by show _=_;rw[Hds.out,decide_eq_false (by omega)]
           go_wp2_with fail
           go_quiet (fail)
           go_wp2_with (first
            |(go_at_call 79;(with_reducible refine(cC.out _ (below_drewN (ak (ac wq) _) _)).mono ?_);rintro e w2 ⟨A4,c4,rfl,bE,b2⟩;dsimp only[Ga] at bE ⊢;have B2:=af (below_drewN (ak (ac wq) _) _) b2;have O2:=oD.out.below B2 (agl _))
            |(at_builtin;refine JY w2 rfl (.tmp 77) (.tmp 80) rfl wo A3 (m+i) c3 E3 rfl O2 ⟨st,dV,ln,ky,hd,dt⟩ A4 _ c4 bE (agm kL.out.size (below_drewN (ak (ac wq) _) _).size) (Yk (oD.out.below (below_drewN (ak (ac wq) _) _) (agl _)) bE) _ rfl _ rfl (by omega) (af kL.out B2) ?_;intro A5 c5 w5 bT b5))
           refine⟨⟨⟨i+1,c5,A5,E3++[(⟨st,dV,ln,ky,hd,dt⟩,A4,c4)],by omega,by go_num,rfl,bT, ?_,fun t ht=> ?_⟩,b5⟩,by simp[intOf];omega⟩
           ·rw[List.map_append,PT.out,qc.out,←List.append_assoc];rfl
           ·by_cases e:t=i
            ·rw[e];exact aeO.out
            ·exact HD3.out t (by omega)
        ·obtain rfl:i=n:=by omega
         have nQ:¬(i:Int)<(i:Int):=by omega
         have iu:Hid ((E.map (·.1)).take i=E.map (·.1)):=by
          show _=_
          rw[List.take_of_length_le (by rw[List.length_map,←Hn.out];exact agl _)]
         have hdd:Hid (qY (LL.getD j [])=false):=Tt fun t ht=>HD3.out t (by rw[XX.out,List.length_map] at ht;have:=Hn.out;omega)
         go_wp2_with fail
         refine⟨⟨⟨j+1,m+i,c3,A3,E3,by omega,by go_num,rfl,by omega,oD.out,by rw[PT.out,iu.out,hts.out],fun t ht=> ?_⟩,kL.out⟩,by simp[intOf];omega⟩
         by_cases e:t=j
         ·rw[e];exact hdd.out
         ·exact HD.out t (by omega)
      ·obtain rfl:j=s:=by omega
       have hjI:¬(j:Int)<(j:Int):=by omega
       have hnd:LL.any qY=false:=by
        rw[List.any_eq_false]
        intro L hL
        obtain⟨t,ht,rfl⟩:=List.getElem_of_mem hL
        have:=HD.out t (by have:=F2.out;omega)
        rw[show LL.getD t []=LL[t] by simp[ht]] at this
        rw[this];simp
       have hr:=mo.out
       rw[hnd] at hr
       simp only[Bool.false_eq_true,if_false] at hr
       have yf:=aa hr
       have li:E2.map (·.1)=LL.flatten:=by rw[HE.out,List.take_of_length_le (by rw[F2.out];exact agl _)]
       have Uq:=aa li
       have EB:=L1 E2 m c2 wo.heap.size A2 wp kG.out.size HO.out (by omega)
       have Hso:=aa EB
       clear hr hnd mo HD li EB
       go_wp2_with (go_at_call 80;(with_reducible refine Hso.out.mono ?_);rintro e w3 ⟨rfl,E4,Sh,Gr,bE,b4⟩)
       go_ret2
       rw[yf.out]
       rw[Uq.out] at Gr
       have Sq:(lI LL.flatten).length=m:=by rw[←Gr,List.length_map,Sh.length_eq];exact HO.out.len
       refine⟨A2,c2,E4, ?_, ?_,Gr,HB.out.trans ((kG.out.trans b4).mono HB.out.size)⟩
       ·show _=Ending.returned (.tuple #[.slice A2 (lI LL.flatten).length c2,.int .i64 0])
        rw[Sq];rfl
       ·show CL _ _ A2 (lI LL.flatten).length c2 E4
        rw[Sq];exact aV.base bE HB.out.size
section
variable {P : Program} {ops : Array Oper} {Q : Exit → Act → World → Prop} {S : World → Prop} {n : Nat}
theorem PW{o:Oper}{a:Act}{w:World}{K:Act→World→Prop}{Q':Exit→Act→World→Prop}(hp:∀c a w,Q' (.panic c) a w→Q (.panic c) a w)(ho:LetsOut Q'→LetsOut Q)(h:o.wp P a w K Q'):o.wp P a w K Q:=by
 unfold Oper.wp at*
 generalize (execOp a.eval o).run P w=r at*
 cases r with
 |ok k w'=>
  cases k with
  |enter f args=>
   refine Calls.mono h fun e w'' he=> ?_
   cases e with
   |returned u=>exact he
   |panicked c=>exact hp _ _ _ he
   |outgrown=>exact ho he
  |_=>exact h
 |halt x w'=>
  cases x with
  |panic u=>exact hp _ _ _ h
  |_=>exact h
def VP(P:Program)(ops:Array Oper)(n:Nat)(Q:Exit→Act→World→Prop):Exit→Act→World→Prop
 |.normal,a,w=>wpOp P ops Q n (Q .normal) a w
 |e,a,w=>Q e a w
theorem nJ{o:Oper}{a:Act}{w:World}(ho:ops[n]? =some o)
 (h:∀K':Act→World→Prop,(∀a w,Q .normal a w→K' a w)→if Region.wanted o (yielded ops a.tmps)=true then Oper.wp P o a w K' Q else K' (a.put o.dst undef) w):VP P ops n Q .normal a w:=wpOp_step ho h
def lR(ops:Array Oper)(n:Nat):Bool:=
 decide (ops.size=n+1) &&
 ((List.range (n+1)).all fun j=>match ops[j]? with
   |some o=>(o.after.all fun e=> !Region.binds .any e || decide (e.on<j)) && (match o.guard with | none=>true | some (g,_)=>decide (g<n))
   |none=>false) &&
 (List.range n).all fun i=>Region.waitsFor .any ops n i
theorem gJ(h:lR ops n=true):ops.size=n+1:=by
 simp only[lR,Bool.and_eq_true,decide_eq_true_eq] at h;exact h.1.1
theorem mP(h:lR ops n=true){j:Nat}{o:Oper}(hj:j<n+1)(ho:ops[j]? =some o):(∀e∈o.after,Region.binds .any e=true→e.on<j)∧∀g b,o.guard=some (g,b)→g<n:=by
 simp only[lR,Bool.and_eq_true] at h
 have h1:=List.all_eq_true.1 h.1.2 j (List.mem_range.2 hj)
 rw[ho] at h1
 simp only[Bool.and_eq_true] at h1
 refine⟨fun e he hb=> ?_,fun g b hg=> ?_⟩
 ·have:=Array.all_eq_true'.1 h1.1 e he
  simpa [hb] using this
 ·have:=h1.2
  rw[hg] at this
  simpa using this
theorem Ec(h:lR ops n=true){i:Nat}(hi:i<n):∃o,ops[n]? =some o∧∃e∈o.after,Region.binds .any e=true∧e.on=i:=by
 simp only[lR,Bool.and_eq_true] at h
 exact Region.waitsFor_spec (List.all_eq_true.1 h.2 i (List.mem_range.2 hi))
theorem BA(hs:ops.size=n+1){i:Nat}(hi:i<n):ops.pop[i]? =ops[i]? :=by
 rw[Array.getElem?_pop,if_pos (by omega)]
theorem PX(h:lR ops n=true){i:Nat}(hi:i<n){K:Act→World→Prop}{a:Act}{w:World}(hh:wpOp P ops.pop (VP P ops n Q) i K a w):wpOp P ops Q i K a w:=by
 have hs:=gJ h
 unfold wpOp at*
 rw[BA hs hi] at hh
 cases ho:ops[i]? with
 |none=>rw[ho] at hh;exact hh
 |some o=>
  rw[ho] at hh
  simp only at hh ⊢
  have hw:Region.wanted o (yielded ops.pop a.tmps)=Region.wanted o (yielded ops a.tmps):=by
   unfold Region.wanted
   cases hg:o.guard with
   |none=>rfl
   |some q=>
    obtain⟨g,b⟩:=q
    have:=(mP h (by omega) ho).2 g b hg
    simp only
    unfold yielded
    rw[BA hs this]
  rw[hw] at hh
  split
  ·rename_i hw'
   rw[if_pos hw'] at hh
   rcases hh with hh | ⟨h1,h2⟩
   ·exact .inl (PW (fun _ _ _ h=>h) (fun h=>h) hh)
   ·exact .inr ⟨h1,h2⟩
  ·rename_i hw'
   rw[if_neg hw'] at hh
   exact hh
theorem ke{listed:Array Bool}(hl:listed.size=n){j:Nat}(hj:j<n)(d:Bool):(listed.push false).getD j d=listed.getD j d:=by
 simp[Array.getD_eq_getD_getElem?,Array.getElem?_push,hl,Nat.ne_of_lt hj]
theorem J0(h:lR ops n=true){listed:Array Bool}(hl:listed.size=n)(hr:Region.ready .any ops.pop listed=[]):∀i,i<n→listed.getD i false=true:=by
 have hs:=gJ h
 intro i
 induction i using Nat.strongRecOn with
 |_ i ih=>
  intro hi
  cases hb:listed.getD i false with
  |true=>rfl
  |false=>
   exfalso
   obtain⟨o,ho⟩:∃o,ops[i]? =some o:=⟨ops[i]'(by omega),Array.getElem?_eq_getElem (by omega)⟩
   have hm:i∈Region.ready .any ops.pop listed:=mem_ready.2 ⟨getD_in (by omega) hb,o,(BA hs hi).trans ho,fun e he hb'=>ih e.on ((mP h (by omega) ho).1 e he hb') (by have:=(mP h (by omega) ho).1 e he hb';omega)⟩
   rw[hr] at hm
   cases hm
theorem zr(h:lR ops n=true){listed:Array Bool}(hl:listed.size=n){i:Nat}(hi:i<n):i∈Region.ready .any ops.pop listed↔i∈Region.ready .any ops (listed.push false):=by
 have hs:=gJ h
 rw[mem_ready,mem_ready,ke hl hi,BA hs hi]
 refine and_congr Iff.rfl (exists_congr fun o=>and_congr_right fun ho=>forall_congr' fun e=>forall_congr' fun he=>forall_congr' fun hb=> ?_)
 have:=(mP h (by omega) ho).1 e he hb
 rw[ke hl (by omega)]
theorem LH{md:Region.Mode}{listed:Array Bool}{a:Act}{w:World}(hr:Region.ready md ops listed=[])(h:Q .normal a w):∀f,wpAny P md ops Q f listed a w
 |0=>⟨hr,h⟩
 |_+1=>⟨fun _=>h,by rw[hr];simp⟩
theorem vB(h:lR ops n=true){listed:Array Bool}(hl:listed.size=n)(hr:Region.ready .any ops.pop listed=[]){a:Act}{w:World}(hq:wpOp P ops Q n (Q .normal) a w)(f:Nat):wpAny P .any ops Q (f+1) (listed.push false) a w:=by
 have hs:=gJ h
 have hall:=J0 h hl hr
 obtain⟨o,ho⟩:∃o,ops[n]? =some o:=⟨ops[n]'(by omega),Array.getElem?_eq_getElem (by omega)⟩
 have hn:n∈Region.ready .any ops (listed.push false):=mem_ready.2 ⟨by rw[Array.getD_eq_getD_getElem?,←hl,Array.getElem?_push_size];rfl,o,ho,fun e he hb=>by
  have:=(mP h (by omega) ho).1 e he hb
  rw[ke hl this];exact hall _ this⟩
 refine⟨fun h0=>(by rw[h0] at hn;cases hn),fun i hi=> ?_⟩
 obtain⟨Pt,oi,hoi,_⟩:=mem_ready.1 hi
 have dp:i<n+1:=by have:=(agn.1 hoi).1;omega
 have:i=n:=by
  rcases Nat.lt_or_ge i n with hlt | WX
  ·have h1:=hall i hlt
   rw[ke hl hlt] at Pt
   have:=getD_in (listed:=listed) (i:=i) (by omega) (by
    cases hb:listed.getD i false with
    |false=>rfl
    |true=>simp[hl,hlt] at Pt hb;rw[Pt] at hb;cases hb)
   simp[hl,hlt] at h1 Pt
   rw[Pt] at h1;cases h1
  ·omega
 subst this
 refine wpOp_mono (fun a' w' hq'=>LH ?_ hq' f) hq
 apply List.eq_nil_iff_forall_not_mem.2
 intro k hk
 obtain⟨WG,ok,dU,_⟩:=mem_ready.1 hk
 have yN:k<i+1:=by have:=(agn.1 dU).1;omega
 by_cases e:k=i
 ·subst e
  simp[hl] at WG
 ·have hlt:k<i:=by omega
  have h1:=hall k hlt
  rw[getD_set_ne true (Ne.symm e),ke hl hlt] at WG
  simp[hl,hlt] at h1 WG
  rw[WG] at h1;cases h1
theorem za(h:lR ops n=true):∀(f:Nat) (listed:Array Bool) (a:Act) (w:World),listed.size=n→wpAny P .any ops.pop (VP P ops n Q) f listed a w→wpAny P .any ops Q (f+1) (listed.push false) a w
 |0,listed,a,w,hl,hh=>vB h hl hh.1 hh.2 0
 |f+1,listed,a,w,hl,hh=>by
  by_cases hr:Region.ready .any ops.pop listed=[]
  ·exact vB h hl hr (hh.1 hr) (f+1)
  ·obtain⟨i0,cw⟩:=List.exists_mem_of_ne_nil _ hr
   have hsz:=gJ h
   have lt0:∀i,i∈Region.ready .any ops.pop listed→i<n:=fun i hi=>by
    obtain⟨_,o,ho,_⟩:=mem_ready.1 hi
    have:=(agn.1 ho).1
    simp[hsz] at this;exact this
   refine⟨fun h0=> ?_,fun i hi=> ?_⟩
   ·have:=(zr h hl (lt0 i0 cw)).1 cw
    rw[h0] at this;cases this
   ·rcases Nat.lt_or_ge i n with hlt | WX
    ·refine wpOp_mono (fun a' w' h3=> ?_) (PX h hlt (hh.2 i ((zr h hl hlt).2 hi)))
     have:=za h f (listed.setIfInBounds i true) a' w' (by simp[hl]) h3
     have e:(listed.push false).setIfInBounds i true=(listed.setIfInBounds i true).push false:=by
      apply Array.ext_getElem?
      intro k
      simp only[Array.getElem?_setIfInBounds,Array.getElem?_push,Array.size_push,Array.size_setIfInBounds,hl]
      by_cases e:i=k
      ·subst e;simp[hlt,Nat.ne_of_lt hlt];omega
      ·simp[e]
     rw[e];exact this
    ·exfalso
     obtain⟨_,oi,hoi,hall⟩:=mem_ready.1 hi
     have dp:i=n:=by have:=(agn.1 hoi).1;omega
     subst dp
     have hl0:=lt0 i0 cw
     obtain⟨o',ua,e,he,hb,Gi⟩:=Ec h hl0
     have:o'=oi:=Option.some.inj (ua.symm.trans hoi)
     subst this
     have h1:=hall e he hb
     rw[Gi,ke hl hl0] at h1
     have h2:=(mem_ready.1 cw).1
     simp[hl,hl0] at h1 h2
     rw[h1] at h2;cases h2
theorem fH{id:Nat}{a:Act}{w:World}(n:Nat)(S:World→Prop)(hm:P.follows .mixedOrders=true)(h:lR ops n=true)(hS:S w.drew)
 (hh:S w.drew→wpAnyH P .any ops.pop (VP P ops n Q) S n (Array.replicate n false) a w.drew):(Code.region id ops true).wp P Q a w:=by
 refine wp_region_any hm ?_
 have:=za h n _ a w.drew (by simp) (wpAny_of_held _ _ _ _ (hh hS))
 rw[gJ h,Array.replicate_succ]
 exact this
end
end
end Go.Proofs.YtbhfpehgacaidaaGreatDoor
