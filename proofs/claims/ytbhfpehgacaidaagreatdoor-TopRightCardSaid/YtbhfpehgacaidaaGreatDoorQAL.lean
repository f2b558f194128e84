/- A part of the proof of the given statement TopRight. Conditions: none. -/
import Derived.Test.YtbhfpehgacaidaaGreatDoorQAJ
import Derived.Test.YtbhfpehgacaidaaGreatDoorQAK
namespace Go.Proofs.YtbhfpehgacaidaaGreatDoor
set_option linter.unusedVariables false
set_option linter.unusedSimpArgs false
set_option maxRecDepth 100000
set_option maxHeartbeats 8000000
section
open Go.RowKit
def lO(P:List Pg)(k:Int):Option Pg:=P.find? fun p=>decide (p.seq=k)
def eL(P:List Pg)(s:Int):Nat→Nat×Int×List Pg
 |0=>(0,0,[])
 |k+1=>match lO P (s+k)with
  |some t=>((eL P s k).1,(eL P s k).2.1,(eL P s k).2.2++[t])
  |none=>((eL P s k).1+1,s+k,(eL P s k).2.2)
theorem D5(E:List (El Pg))(k:Int):lO (E.map (·.1)) k=(jg E k).map (·.1):=by
 induction E with
 |nil=>rfl
 |cons t E ih=>
  simp only[lO,jg,List.map_cons,List.find?_cons] at ih ⊢
  by_cases h:t.1.seq=k
  ·simp[h]
  ·simp only[h,decide_false];exact ih
theorem Ed(E:List (El Pg))(s:Int):∀k,eL (E.map (·.1)) s k=((bD E s k).1,(bD E s k).2.1,(bD E s k).2.2.map (·.1))
 |0=>rfl
 |k+1=>by
  have ih:=Ed E s k
  have hl:=D5 E (s+k)
  cases h:jg E (s+k)with
  |none=>
   rw[h] at hl
   rw[ie h,eL,hl,ih]
   rfl
  |some t=>
   rw[h] at hl
   rw[ic h,eL,hl,ih]
   simp
abbrev MS:=List Pg×List Pg×Int
def cU(s:MS)(p:Pg):MS:=
 if cR p=false then s
 else if p.guard then(if yG p then(s.1,s.2.1++[p],max s.2.2 (p.seq+ix p.body 0-1))else s)
 else if (lO s.1 p.seq).isSome then s else(s.1++[p],s.2.1,max s.2.2 p.seq)
def fL(P:List Pg):MS:=P.foldl cU ([],[], -1)
theorem Nh{P:List Pg}{k:Nat}(h:k<P.length):fL (P.take (k+1))=cU (fL (P.take k)) P[k]:=by
 rw[agx h,fL,List.foldl_append];rfl
def jp(O:List Pg)(g:Pg):List Pg:=
 if (eL O g.seq (ix g.body 0).toNat).1=1 then
  (if (iY g (eL O g.seq (ix g.body 0).toNat).2.2 (eL O g.seq (ix g.body 0).toNat).2.1).2 then O++[(iY g (eL O g.seq (ix g.body 0).toNat).2.2 (eL O g.seq (ix g.body 0).toNat).2.1).1] else O)
 else O
def yQ(O G:List Pg):List Pg:=G.foldl jp O
theorem N8{O G:List Pg}{k:Nat}(h:k<G.length):yQ O (G.take (k+1))=jp (yQ O (G.take k)) G[k]:=by
 rw[agx h,yQ,List.foldl_append];rfl
def cT(P:List Pg):List Pg×List Hl:=
 (iU (yQ (fL P).1 (fL P).2.1),jQ (iU (yQ (fL P).1 (fL P).2.1)) (fL P).2.2)
theorem wS{E:List (El Pg)}{s:Int}:∀k,1≤(bD E s k).1→jg E (bD E s k).2.1=none
 |0,h=>by simp[bD] at h
 |k+1,h=>by
  cases hl:jg E (s+k)with
  |none=>rw[ie hl];exact hl
  |some t=>
   rw[ic hl] at h ⊢
   exact wS k h
theorem DA{g:Pg}{P:List Pg}{sq:Int}(h:(iY g P sq).2=true):(iY g P sq).1.seq=sq∧cR (iY g P sq).1=true∧(iY g P sq).1.guard=false:=by
 unfold iY at h ⊢
 split at h
 ·cases h
 ·rename_i h1
  rw[if_neg h1]
  split at h
  ·cases h
  ·rename_i h2
   rw[if_neg h2]
   exact⟨rfl,h,rfl⟩
theorem zo{g:Pg}{P:List Pg}{sq:Int}(hg:aH g.body)(hP:∀p∈P,aH p.body):aH (iY g P sq).1.body:=by
 have hz:aH yi.body:=fun x hx=>by simp[yi] at hx
 unfold iY
 split
 ·exact hz
 ·split
  ·exact hz
  ·exact fun x hx=>DC (hg.drop 3) hP x (List.mem_of_mem_take hx)
theorem fK{p:Pg}(h:cR p=true):1≤p.body.length∧p.body.length≤255∧0≤p.seq∧p.seq≤2147483647:=by
 have:=of_decide_eq_true h
 have hm:fy p.guard≤255:=by unfold fy;split <;> omega
 omega
structure Vk (E:List (El Pg)):Prop where
 ok:∀t∈E,cR t.1=true∧aH t.1.body
 one:(E.map (·.1.seq)).Nodup
theorem Vk.nil:Vk []:=⟨fun t h=>by simp at h,by simp⟩
theorem Vk.more{E:List (El Pg)}(h:Vk E){t:El Pg}(ht:cR t.1=true∧aH t.1.body)(hl:jg E t.1.seq=none):Vk (E++[t]):=by
 refine⟨fun u hu=> ?_, ?_⟩
 ·rcases agC.1 hu with h1 | h1
  ·exact h.ok u h1
  ·rw[List.mem_singleton.1 h1];exact ht
 ·rw[List.map_append,List.nodup_append]
  refine⟨h.one,by simp,fun a ha b hb=> ?_⟩
  obtain⟨u,hu,rfl⟩:=List.mem_map.1 ha
  simp at hb
  subst hb
  intro e
  have:=List.find?_eq_none.1 hl u hu
  simp at this
  exact this e
theorem Vk.small{E:List (El Pg)}(h:Vk E):dM E:=fun t ht=>⟨(h.ok t ht).2,(fK (h.ok t ht).1).2.1⟩
structure nw (w wr:World) (r B:Nat) (Ag:Option Addr) (kg cg:Nat) (Eg:List (El Pg)) (Ao:Option Addr) (ko co:Nat) (Eo Em:List (El Pg)):Prop where
 map:kF wr r Em
 rw_:w.heap.size≤r
 gr:gN wr w.heap.size Ag kg cg Eg
 ou:ik wr w.heap.size Ao ko co Eo
 i1:∀q,aj Ag=some q→aj Ao≠some q
 i2:∀t∈Eo,∀q,aj t.2.1=some q→aj Ag≠some q∧q≠r
 i3:∀t∈Em,∀q,aj t.2.1=some q→q<wr.heap.size∧aj Ao≠some q∧aj Ag≠some q∧q≠r
 dm:kH gY wr wr.heap.size Em
 dg:kH gY wr B Eg
 bl:Below w.heap.size w wr
section
variable {w wr w2 : World} {r B kg cg ko co : Nat} {Ag Ao : Option Addr} {Eg Eo Em : List (El Pg)}
theorem nw.below(h:nw w wr r B Ag kg cg Eg Ao ko co Eo Em)(hB:B≤w.heap.size)(hb:Below wr.heap.size wr w2):nw w w2 r B Ag kg cg Eg Ao ko co Eo Em where
 map:=h.map.keep (hb.block r h.map.lt)
 rw_:=h.rw_
 gr:=h.gr.below hb (agl _)
 ou:=aV.below h.ou hb (agl _)
 i1:=h.i1
 i2:=h.i2
 i3 t ht q hq:=by have:=h.i3 t ht q hq;exact⟨agz this.1 hb.size,this.2⟩
 dm:=h.dm.below hb hb.size
 dg:=h.dg.below (hb.mono (agm hB h.bl.size)) (agl _)
 bl:=h.bl.trans (hb.mono h.bl.size)
theorem nw.guard(h:nw w wr r B Ag kg cg Eg Ao ko co Eo Em)(hB:B≤w.heap.size){A':Option Addr}{c':Nat}{t:El Pg}(ho:gN w2 w.heap.size A' (kg+1) c' (Eg++[t]))(hb:Below w.heap.size w w2)(hk:dl Ag wr w2)
 (hd:aj A'=aj Ag∨aj A'=some (wr.heap.size+1)) (ht:ag .u8 wr B t.2.1 t.1.body):nw w w2 r B A' (kg+1) c' (Eg++[t]) Ao ko co Eo Em where
 map:=h.map.keep (hk.1 r h.map.lt (h.map.ne h.gr.1))
 rw_:=h.rw_
 gr:=ho
 ou:=by
  have acd:∀q,aj Ao=some q→w2.heap[q]? =wr.heap[q]? :=fun q hq=>hk.1 q (agB h.ou.row q (by rw[ae];exact hq)).2 (fun e=>h.i1 q e hq)
  have aed:∀u∈Eo,∀q,aj u.2.1=some q→w2.heap[q]? =wr.heap[q]? :=fun u hu q hq=>hk.1 q (h.ou.sep u hu q hq).2.1 (h.i2 u hu q hq).1
  exact⟨ap h.ou.row fun q hq=>acd q (by rw[←ae Ao ko co];exact hq),h.ou.len,h.ou.inn.keep aed hk.2,fun u hu q hq=>by have:=h.ou.sep u hu q hq;exact⟨this.1,by have:=hk.2;omega,this.2.2⟩,h.ou.cap⟩
 i1 q hq:=by
  rcases hd with e | e
  ·exact h.i1 q (by rw[←e];exact hq)
  ·intro h9
   have:=(agB h.ou.row q (by rw[ae];exact h9)).2
   rw[hq] at e;injection e with e;omega
 i2 u hu q hq:=by
  refine⟨fun h9=> ?_,(h.i2 u hu q hq).2⟩
  rcases hd with e | e
  ·exact(h.i2 u hu q hq).1 (by rw[←e];exact h9)
  ·have:=(h.ou.sep u hu q hq).2.1
   rw[h9] at e;injection e with e;omega
 i3 u hu q hq:=by
  obtain⟨a1,a2,a3,a4⟩:=h.i3 u hu q hq
  refine⟨agz a1 hk.2,a2,fun h9=> ?_,a4⟩
  rcases hd with e | e
  ·exact a3 (by rw[←e];exact h9)
  ·rw[h9] at e;injection e with e;omega
 dm:=h.dm.keep (fun u hu q hq=>hk.1 q (h.i3 u hu q hq).1 (h.i3 u hu q hq).2.2.1) hk.2
 dg u hu:=by
  have Jt:∀q,q<B→w2.heap[q]? =wr.heap[q]? :=fun q hq=>(hb.block q (by omega)).trans (h.bl.block q (by omega)).symm
  rcases agC.1 hu with h1 | h1
  ·exact(h.dg u h1).block_keep Jt
  ·rw[List.mem_singleton.1 h1];exact Rd.block_keep ht Jt
 bl:=hb
theorem nw.put(h:nw w wr r B Ag kg cg Eg Ao ko co Eo Em)(hB:B≤w.heap.size){t:El Pg}(hm:kF w2 r (Em++[t]))(hg:wr.grownBy w2 (some r))(hs:w2.heap.size=wr.heap.size)
 (ht:ag .u8 wr wr.heap.size t.2.1 t.1.body) (hq:∀q,aj t.2.1=some q→q<wr.heap.size∧aj Ao≠some q∧aj Ag≠some q∧q≠r):nw w w2 r B Ag kg cg Eg Ao ko co Eo (Em++[t]):=by
 have hblk:∀q,q<wr.heap.size→q≠r→w2.heap[q]? =wr.heap[q]? :=fun q h1 h2=>hg.block q h1 (fun e=>h2 (Option.some.inj e))
 have hd:∀u∈Em++[t],ag .u8 wr wr.heap.size u.2.1 (gY.dat u.1)∧∀q,aj u.2.1=some q→q<wr.heap.size∧aj Ao≠some q∧aj Ag≠some q∧q≠r:=fun u hu=>by
  rcases agC.1 hu with h1 | h1
  ·exact⟨h.dm u h1,h.i3 u h1⟩
  ·rw[List.mem_singleton.1 h1];exact⟨ht,hq⟩
 refine {map:=hm,rw_:=h.rw_,gr:=h.gr.kept fun q e=>hblk q (h.gr.lt e).2 (fun e2=>h.map.ne h.gr.1 (by rw[e,e2])),ou:= ?_,i1:=h.i1,i2:=h.i2,i3:=fun u hu q e=>by rw[hs];exact(hd u hu).2 q e,dm:= ?_,dg:= ?_,bl:= ?_}
 ·exact⟨ap h.ou.row fun q e=>hblk q (agB h.ou.row q e).2 (fun e2=>h.map.ne h.ou.row (by rw[←ae Ao ko co,e,e2])),h.ou.len,h.ou.inn.keep (fun u hu q e=>hblk q (h.ou.sep u hu q e).2.1 (h.i2 u hu q e).2) (by omega),fun u hu q e=>by rw[hs];exact h.ou.sep u hu q e,h.ou.cap⟩
 ·rw[hs]
  exact kH.keep (fun u hu=>(hd u hu).1) (fun u hu q e=>hblk q ((hd u hu).2 q e).1 ((hd u hu).2 q e).2.2.2) (agl _)
 ·exact fun u hu=>(h.dg u hu).block_keep fun q e=>hblk q (by have:=h.bl.size;omega) (by have:=h.rw_;omega)
 ·exact h.bl.grown hg h.bl.size fun k e=>by injection e with e;rw[←e];exact h.rw_
theorem nw.copy(h:nw w wr r B Ag kg cg Eg Ao ko co Eo Em)(hB:B≤w.heap.size){A':Option Addr}{c':Nat}{t:El Pg}(ho:ik w2 w.heap.size A' (ko+1) c' (Eo++[t]))(hb:Below w.heap.size w w2)(hk:dl Ao wr w2)
 (hd:aj A'=aj Ao∨aj A'=some (wr.heap.size+1)) (ht:∀q,aj t.2.1=some q→aj Ag≠some q∧q≠r):nw w w2 r B Ag kg cg Eg A' (ko+1) c' (Eo++[t]) Em where
 map:=h.map.keep (hk.1 r h.map.lt (h.map.ne h.ou.row))
 rw_:=h.rw_
 gr:=h.gr.kept fun q e=>hk.1 q (h.gr.lt e).2 (h.i1 q e)
 ou:=ho
 i1 q hq h9:=by
  rcases hd with e | e
  ·exact h.i1 q hq (by rw[←e];exact h9)
  ·have:=(h.gr.lt hq).2
   rw[h9] at e;injection e with e;omega
 i2 u hu q hq:=by
  rcases agC.1 hu with h1 | h1
  ·exact h.i2 u h1 q hq
  ·rw[List.mem_singleton.1 h1] at hq;exact ht q hq
 i3 u hu q hq:=by
  obtain⟨a1,a2,a3,a4⟩:=h.i3 u hu q hq
  refine⟨agz a1 hk.2,fun h9=> ?_,a3,a4⟩
  rcases hd with e | e
  ·exact a2 (by rw[←e];exact h9)
  ·rw[h9] at e;injection e with e;omega
 dm:=h.dm.keep (fun u hu q hq=>hk.1 q (h.i3 u hu q hq).1 (h.i3 u hu q hq).2.1) hk.2
 dg u hu:=(h.dg u hu).block_keep fun q hq=>(hb.block q (by omega)).trans (h.bl.block q (by omega)).symm
 bl:=hb
end
def Bf(r:List Pg×List Hl)(w:World)(e:Ending)(w':World):Prop:=
 ∃A c E A2 c2,e= .returned (.tuple #[.slice A r.1.length c,.slice A2 r.2.length c2])∧ik w' w.heap.size A r.1.length c E∧E.map (·.1)=r.1∧gP w' w.heap.size A2 r.2.length c2 r.2∧Below w.heap.size w w'
theorem Ng{s:MS}{p:Pg}(h:cR p=false):cU s p=s:=by unfold cU;rw[if_pos h]
theorem Wl{s:MS}{p:Pg}(h:cR p=true)(hg:p.guard=true)(hb:yG p=true):cU s p=(s.1,s.2.1++[p],max s.2.2 (p.seq+ix p.body 0-1)):=by
 unfold cU;rw[if_neg (by rw[h];decide),if_pos hg,if_pos hb]
theorem Ra{s:MS}{p:Pg}(h:cR p=true)(hg:p.guard=true)(hb:yG p=false):cU s p=s:=by
 unfold cU;rw[if_neg (by rw[h];decide),if_pos hg,if_neg (by rw[hb];decide)]
theorem Nb{s:MS}{p:Pg}(h:cR p=true)(hg:p.guard=false)(hl:(lO s.1 p.seq).isSome=true):cU s p=s:=by
 unfold cU;rw[if_neg (by rw[h];decide),if_neg (by rw[hg];decide),if_pos hl]
theorem Nc{s:MS}{p:Pg}(h:cR p=true)(hg:p.guard=false)(hl:(lO s.1 p.seq).isSome=false):cU s p=(s.1++[p],s.2.1,max s.2.2 p.seq):=by
 unfold cU;rw[if_neg (by rw[h];decide),if_neg (by rw[hg];decide),if_neg (by rw[hl];decide)]
theorem KL{p:Pg}(h:yG p=true):3<p.body.length∧1≤ix p.body 0∧ix p.body 0≤8:=by
 unfold yG at h
 simp only[Bool.and_eq_true] at h
 exact of_decide_eq_true h.2
theorem DZ(E:List (El Pg))(n:Nat)(hn:n=E.length)(hm:n≤300)(hs:dM E)(KZ:∀t∈E,t.1.body.length≤t.2.2)(A:Option Addr)(B c:Nat)(w:World)(hB:B≤w.heap.size)(ha:iE gY w B A E):
 Calls Tryz.prog 16 #[.slice A n c] w (Bf (cT (E.map (·.1))) w):=by
 have Hn:=aa hn
 have nS:(E.map (·.1)).length=n:=by simp[hn]
 clear hn
 obtain⟨P,hP⟩:∃P,P=E.map (·.1):=⟨_,rfl⟩
 rw[←hP] at nS ⊢
 have HP:=aa hP
 have pZ:=aa nS
 clear hP nS
 obtain⟨r,hr⟩:∃r,r=w.heap.size:=⟨_,rfl⟩
 have Hr:=aa hr
 obtain⟨w1,bj⟩:∃w1,w1=w.alloc (.map #[] 0):=⟨_,rfl⟩
 have LD:Hid (nw w w1 r B none 0 0 [] none 0 0 [] []):=by
  show _
  rw[bj,hr]
  exact⟨QI w,agl _,gN.nil _ _,aV.nil _ _,fun q h=>by simp[aj] at h,fun t h=>by simp at h,fun t h=>by simp at h,fun t h=>by simp at h,fun t h=>by simp at h,ak (ac w) _⟩
 have yL:(Instr.makeMap 127 none).run Tryz.prog w= .ok (.map (some r)) w1:=by rw[bj,hr];rfl
 clear bj hr
 go_enter Tryz.func16,Tryz.ntmps16
 go_wp2_with fail
 clear yL
 go_loopw [5,6,7,9,10,11,22] (fun gv ov tv _ _ _ iv wr=>∃(i kg ko cg co:Nat) (Ag Ao:Option Addr) (Eg Eo Em:List (El Pg)) (qo:Int),i≤n∧kg+ko≤i∧gv= .slice Ag kg cg∧ov= .slice Ao ko co∧tv= .int .i64 qo∧iv= .int .i64 i∧
  nw w wr r B Ag kg cg Eg Ao ko co Eo Em∧Vk Em∧Eo.map (·.1)=Em.map (·.1)∧fL (P.take i)=(Em.map (·.1),Eg.map (·.1),qo)∧ -1≤qo∧qo≤2200000000∧∀t∈Eg,yG t.1=true∧cR t.1=true∧aH t.1.body∧t.1.body.length≤t.2.2) (fun _ _ _ _ _ _ iv _=>n-(intOf iv).toNat)
 case atStart=>exact⟨0,0,0,0,0,none,none,[],[],[], -1,agw _,agw _,rfl,rfl,rfl,rfl,LD.out,Vk.nil,rfl,rfl,by omega,by omega,fun t h=>by simp at h⟩
 case round=>
  obtain⟨i,kg,ko,cg,co,Ag,Ao,Eg,Eo,Em,qo,hi,hk,rfl,rfl,rfl,rfl,hI,hF,hE,hS,ht0,CP,hG⟩:=hrel
  obtain⟨wo,rfl⟩:∃wo:World,wo=wr:=⟨_,rfl⟩
  have HI:=aa hI
  have HF:=aa hF
  have HE:=aa hE
  have HS:=aa hS
  have HG:=aa hG
  clear hI hF hE hS hG LD
  by_cases hlt:i<n
  ·have dv:i<E.length:=by have:=Hn.out;omega
   have Gp:i<P.length:=by have:=pZ.out;omega
   have YW:(i:Int)<(n:Int):=by omega
   have kJ:B≤wo.heap.size:=agm hB HI.out.bl.size
   have ha2:=ha.below (HI.out.bl.mono hB)
   obtain⟨b,off,rfl,sQ,x0,x1,x2,x3,x4⟩:=jb ha2 dv
   have hsm:=hs _ (agt dv)
   have iC:=ha2.2 _ (agt dv)
   have hdw:=ha.2 _ (agt dv)
   have Jr:=KZ _ (agt dv)
   have hst:=Nh Gp
   have qd:P[i]=E[i].1:=by simp[HP.out]
   rw[qd,HS.out] at hst
   generalize E[i]=t at*
   obtain⟨⟨sq,f,l,gd,bd⟩,Ad,cd⟩:=t
   dsimp only at*
   have hcon:=fun W (h:Below wo.heap.size wo W)=>lC ⟨sq,f,l,gd,bd⟩ Ad B cd W (agm kJ h.size) (show bd.length≤50000 by omega) (ag.below (xs:=bd) iC (h.mono kJ)) hsm.1
   unfold ju at hcon
   dsimp only at hcon
   have Mo:=aa (ago wo (.cells #[.int .i64 sq,.bool f,.bool l,.bool gd,.slice Ad bd.length cd] 124))
   have Pb:=aa hsm
   have C6:=aa (show ag .u8 wo B Ad bd from iC)
   have Hdw:=aa (show ag .u8 w B Ad bd from hdw)
   have hbl:=hsm.2
   clear iC hdw hsm ha2 qd
   cases hp:cR ⟨sq,f,l,gd,bd⟩with
   |false=>
    rw[hp] at hcon
    have cC:=aa hcon
    have fG:Hid (fL (P.take (i+1))=_):=hst.trans (Ng hp)
    clear hcon hp hst
    go_wp2_with (go_at_call 59;(with_reducible refine(cC.out _ (ak (ac wo) _)).mono ?_);rintro e w2 ⟨rfl,b2⟩)
    exact⟨⟨i+1,kg,ko,cg,co,Ag,Ao,Eg,Eo,Em,qo,by omega,by omega,rfl,rfl,rfl,by go_num,HI.out.below hB (af (ak (ac wo) _) b2),HF.out,HE.out,fG.out,ht0,CP,HG.out⟩,by simp[intOf];omega⟩
   |true=>
    rw[hp] at hcon
    have cC:=aa hcon
    have Hp:=aa hp
    obtain⟨hb1,hb2,Pu,Jf⟩:=fK hp
    dsimp only at hb1 hb2 Pu Jf
    clear hcon hp
    cases gd with
    |true=>
     have nR:=fun W (h:Below wo.heap.size wo W)=>Ep ⟨sq,f,l,true,bd⟩ Ad B cd W (agm kJ h.size) (ag.below (xs:=bd) C6.out (h.mono kJ)) (show bd.length≤50000 by omega)
     unfold ju at nR
     dsimp only at nR
     cases hgb:yG ⟨sq,f,l,true,bd⟩with
     |false=>
      rw[hgb] at nR
      have Hcg:=aa nR
      have fG:Hid (fL (P.take (i+1))=_):=hst.trans (Ra Hp.out rfl hgb)
      clear nR hgb hst
      go_wp2_with (first
       |(go_at_call 59;(with_reducible refine(cC.out _ (ak (ac wo) _)).mono ?_);rintro e w2 ⟨rfl,b2⟩;have B2:=af (ak (ac wo) _) b2;obtain⟨⟨k0,k1,k2,k3,k4⟩,_⟩:=ay ((b2.block wo.heap.size (by simp)).trans Mo.out))
       |(go_at_call 60;(with_reducible refine(Hcg.out _ B2).mono ?_);rintro e w3 ⟨rfl,b3⟩))
      exact⟨⟨i+1,kg,ko,cg,co,Ag,Ao,Eg,Eo,Em,qo,by omega,by omega,rfl,rfl,rfl,by go_num,HI.out.below hB (af B2 b3),HF.out,HE.out,fG.out,ht0,CP,HG.out⟩,by simp[intOf];omega⟩
     |true=>
      rw[hgb] at nR
      have Hcg:=aa nR
      have fG:Hid (fL (P.take (i+1))=_):=hst.trans (Wl Hp.out rfl hgb)
      have hix:=KL hgb
      dsimp only at hix
      have Zf:=aa hgb
      clear nR hgb hst
      obtain⟨bb,oo,rfl,Jt,hcc⟩:=Hdw.out.lt (by omega)
      have SK:(0:Int)<(bd.length:Int):=by omega
      have hc0:=hcc 0 (by omega)
      rw[Nat.add_zero] at hc0
      have Hc0:=aa hc0
      obtain⟨x,hx⟩:∃x,x=ix bd 0:=⟨_,rfl⟩
      have Hx:=aa hx
      rw[←hx] at hix Hc0
      have u1:=agp x (by omega)
      have u2:=agp (sq+x) (by omega)
      have u3:=agp (sq+x-1) (by omega)
      clear hcc hc0 hx
      go_upto_region 11 with (first
       |(go_at_call 59;(with_reducible refine(cC.out _ (ak (ac wo) _)).mono ?_);rintro e w2 ⟨rfl,b2⟩;have B2:=af (ak (ac wo) _) b2;obtain⟨⟨k0,k1,k2,k3,k4⟩,_⟩:=ay ((b2.block wo.heap.size (by simp)).trans Mo.out))
       |(go_at_call 60;(with_reducible refine(Hcg.out _ B2).mono ?_);rintro e w3 ⟨rfl,b3⟩;obtain⟨⟨m0,m1,m2,m3,m4⟩,_⟩:=ay (((b3.block wo.heap.size (by have:=b2.size;simp at this;omega)).trans (b2.block wo.heap.size (by simp))).trans Mo.out);have I3:=HI.out.below hB (af B2 b3))
       |(at_builtin;refine TQ w3 rfl (.tmp 33) (.tmp 35) rfl w Ag kg cg Eg rfl I3.gr (⟨sq,f,l,true,bd⟩,some ⟨bb,oo,none⟩,cd) _ rfl _ rfl (by omega) I3.bl ?_;intro A5 c5 w5 bT b5 kp kd))
      have hne:aj Ag≠some wo.heap.size:=fun e=>by have:=(HI.out.gr.lt e).2;omega
      obtain⟨⟨n0,n1,n2,n3,n4⟩,_⟩:=ay ((kp.1 wo.heap.size (by have:=b3.size;have:=b2.size;simp at this;omega) hne).trans (((b3.block wo.heap.size (by have:=b2.size;simp at this;omega)).trans (b2.block wo.heap.size (by simp))).trans Mo.out))
      have PE:=later b5 Hc0.out
      have I5:=I3.guard hB bT b5 kp kd (ag.below (xs:=bd) Hdw.out (I3.bl.mono hB))
      have HI5:=aa I5
      clear m0 m1 m2 m3 m4 k0 k1 k2 k3 k4 I3 I5 kp kd bT
      go_region
      go_wp2_with fail
      refine⟨⟨i+1,kg+1,ko,c5,co,A5,Ao,Eg++[(⟨sq,f,l,true,bd⟩,some ⟨bb,oo,none⟩,cd)],Eo,Em,max qo (sq+x-1),by omega,by omega,rfl,rfl,rfl,by go_num,HI5.out.below hB (ac w5).drew,HF.out,HE.out, ?_,by omega,by omega,fun t ht=> ?_⟩,by simp[intOf];omega⟩
      ·rw[fG.out,Hx.out,List.map_append];rfl
      ·rcases agC.1 ht with h1 | h1
       ·exact HG.out t h1
       ·rw[List.mem_singleton.1 h1];exact⟨Zf.out,Hp.out,Pb.out.1,Jr⟩
    |false=>
     have hlm:=D5 Em sq
     cases hl:jg Em sq with
     |some u=>
      rw[hl] at hlm
      have fG:Hid (fL (P.take (i+1))=_):=hst.trans (Nb Hp.out rfl (by show (lO (Em.map (·.1)) sq).isSome=true;rw[hlm];rfl))
      have hlk:=fun W (h:kF W r Em)=>zS h hl
      obtain⟨⟨us,uf,ul,ug,ub⟩,Au,cu⟩:=u
      unfold UN ju at hlk
      dsimp only at hlk
      have PO:=aa hlk
      clear hlm hst hl hlk
      go_wp2_with (go_at_call 59;(with_reducible refine(cC.out _ (ak (ac wo) _)).mono ?_);rintro e w2 ⟨rfl,b2⟩;have B2:=af (ak (ac wo) _) b2;have I2:=aa (HI.out.below hB B2);have hrun:=PO.out w2 I2.out.map;obtain⟨⟨k0,k1,k2,k3,k4⟩,_⟩:=ay ((b2.block wo.heap.size (by simp)).trans Mo.out))
      exact⟨⟨i+1,kg,ko,cg,co,Ag,Ao,Eg,Eo,Em,qo,by omega,by omega,rfl,rfl,rfl,by go_num,I2.out.below hB (ak (ac w2) _),HF.out,HE.out,fG.out,ht0,CP,HG.out⟩,by simp[intOf];omega⟩
     |none=>
      rw[hl] at hlm
      have fG:Hid (fL (P.take (i+1))=_):=hst.trans (Nc Hp.out rfl (by show (lO (Em.map (·.1)) sq).isSome=false;rw[hlm];rfl))
      have PO:=aa (fun W (h:kF W r Em)=>zT h hl)
      have Hl:=aa hl
      clear hlm hst hl
      have hcc:=fun W (h:Below wo.heap.size wo W)=>lm ⟨sq,f,l,false,bd⟩ Ad B cd W (agm kJ h.size) (ag.below (xs:=bd) C6.out (h.mono kJ)) (show bd.length≤50000 by omega)
      unfold ju Ke at hcc
      dsimp only at hcc
      have hrB:B≤r:=by rw[Hr.out];exact hB
      have hro:r<wo.heap.size:=HI.out.map.lt
      have hcw:=fun W (hw:wo.heap.size≤W.heap.size) (h:∀q,q<wo.heap.size→q≠r→W.heap[q]? =wo.heap[q]?)=>lm ⟨sq,f,l,false,bd⟩ Ad B cd W (agm kJ hw) (Rd.block_keep (vs:=bd.map (Value.int .u8)) C6.out fun q hq=>h q (by omega) (by omega)) (show bd.length≤50000 by omega)
      unfold ju Ke at hcw
      dsimp only at hcw
      have Hcw:=aa hcw
      clear hcc hcw
      obtain⟨ad,od,e0,had,_⟩:=C6.out.lt (by omega)
      have HA:=aa e0
      have mf:∀q,aj Ad=some q→q=ad:=fun q hq=>by rw[e0] at hq;injection hq with hq;exact hq.symm
      clear e0
      go_wp2_with (first
       |(go_at_call 59;(with_reducible refine(cC.out _ (ak (ac wo) _)).mono ?_);rintro e w2 ⟨rfl,b2⟩;have B2:=af (ak (ac wo) _) b2;have I2:=aa (HI.out.below hB B2);have hrun:=PO.out w2 I2.out.map;obtain⟨⟨k0,k1,k2,k3,k4⟩,_⟩:=ay ((b2.block wo.heap.size (by simp)).trans Mo.out);have q0:=fun o=>later (ak (ac w2) o) k0;have q1:=fun o=>later (ak (ac w2) o) k1;have q2:=fun o=>later (ak (ac w2) o) k2;have q3:=fun o=>later (ak (ac w2) o) k3;have q4:=fun o=>later (ak (ac w2) o) k4)
       |(at_mapUpdate;refine mr _ rfl (.tmp 56) (.tmp 58) (.tmp 59) rfl r Em (I2.out.map.keep (ags _ _ _ I2.out.map.lt)) (⟨sq,f,l,false,bd⟩,Ad,cd) Hl.out rfl rfl rfl ?_;intro w4 Sq hg4 Gg;have hz2:=B2.size;have hz3:=b2.size;have Pr:w4.heap.size=w2.heap.size+1:=(by rw[Gg];simp);have I4:=aa (nw.put (I2.out.below hB (ak (ac w2) _)) hB Sq hg4 Gg (ag.more (xs:=bd) (ag.below (xs:=bd) C6.out ((ak B2 _).mono kJ)) (by simp;omega)) (fun q hq=>by have:=mf q hq;subst this;exact⟨by simp;omega,fun e=>by have:=(agB I2.out.ou.row q (by rw[ae];exact e)).1;omega,fun e=>by have:=(I2.out.gr.lt e).1;omega,by omega⟩));have hk4:∀q,q<w2.heap.size→q≠r→w4.heap[q]? =w2.heap[q]? :=(fun q h1 h2=>(hg4.block q (by simp;omega) (fun e=>h2 (Option.some.inj e))).trans (ags _ _ _ h1));obtain⟨⟨m0,m1,m2,m3,m4⟩,_⟩:=ay (((hk4 wo.heap.size (by simp at hz3;omega) (by omega)).trans (b2.block wo.heap.size (by simp))).trans Mo.out))
       |(go_at_call 61;(with_reducible refine(Hcw.out _ (by omega) (fun q h1 h2=>(hk4 q (by omega) h2).trans (B2.block q h1))).mono ?_);rintro e w5 ⟨A5,c5,rfl,bT,b5⟩;dsimp only[ju] at bT ⊢;have I5:=aa (I4.out.below hB b5);obtain⟨⟨n0,n1,n2,n3,n4⟩,_⟩:=ay ((b5.block wo.heap.size (by omega)).trans (((hk4 wo.heap.size (by simp at hz3;omega) (by omega)).trans (b2.block wo.heap.size (by simp))).trans Mo.out)))
       |(at_builtin;refine TS w5 rfl (.tmp 60) (.tmp 63) rfl w Ao ko co Eo rfl I5.out.ou ⟨sq,f,l,false,bd⟩ A5 _ c5 bT (agm I4.out.bl.size (agl _)) (vV I4.out.ou bT) _ rfl _ rfl (by omega) I5.out.bl ?_;intro A6 c6 w6 dC b6 kp kd;have I6:=aa (I5.out.copy hB dC b6 kp kd (fun q hq=>by have h7:=agB bT q (by rw[ae];exact hq);exact⟨fun e=>by have:=(I4.out.gr.lt e).2;omega,by omega⟩));obtain⟨⟨p0,p1,p2,p3,p4⟩,_⟩:=ay ((kp.1 wo.heap.size (by have:=b5.size;omega) (fun e=>by have:=(agB HI.out.ou.row wo.heap.size (by rw[ae];exact e)).2;omega)).trans ((b5.block wo.heap.size (by omega)).trans (((hk4 wo.heap.size (by simp at hz3;omega) (by omega)).trans (b2.block wo.heap.size (by simp))).trans Mo.out)))))
      refine⟨⟨i+1,kg,ko+1,cg,c6,Ag,A6,Eg,Eo++[(⟨sq,f,l,false,bd⟩,A5,c5)],Em++[(⟨sq,f,l,false,bd⟩,Ad,cd)],max qo sq,by omega,by omega,rfl,rfl,rfl,by go_num,I6.out,HF.out.more ⟨Hp.out,Pb.out.1⟩ Hl.out, ?_, ?_,by omega,by omega,HG.out⟩,by simp[intOf];omega⟩
      ·rw[List.map_append,List.map_append,HE.out];rfl
      ·rw[fG.out,List.map_append];rfl
  ·obtain rfl:i=n:=by omega
   have YW:¬((i:Int)<(i:Int)):=by omega
   have hmA:fL P=(Em.map (·.1),Eg.map (·.1),qo):=by
    have:=HS.out
    rw[List.take_of_length_le (by rw[pZ.out];exact agl _)] at this
    exact this
   have HmA:=aa hmA
   have UW:Eg.length=kg:=HI.out.gr.2
   have Hgl:=aa UW
   clear hmA HS hi hlt UW
   go_wp2_with fail
   go_loopw [6,13,14,15,16,17,18,72] (fun ov _ _ _ _ _ _ jv wr=>∃(j k2 c2:Nat) (A2:Option Addr) (E2 M2:List (El Pg)),j≤kg∧k2≤ko+j∧ov= .slice A2 k2 c2∧jv= .int .i64 j∧
    nw w wr r B Ag kg cg Eg A2 k2 c2 E2 M2∧Vk M2∧E2.map (·.1)=M2.map (·.1)∧yQ (Em.map (·.1)) ((Eg.map (·.1)).take j)=M2.map (·.1)) (fun _ _ _ _ _ _ _ jv _=>kg-(intOf jv).toNat)
   case atStart=>exact⟨0,ko,co,Ao,Eo,Em,agw _,by omega,rfl,rfl,HI.out,HF.out,HE.out,rfl⟩
   case round=>
    obtain⟨j,k2,c2,A2,E2,M2,hj,hk2,rfl,rfl,hI,hF,hE,hS⟩:=hrel
    obtain⟨wo,rfl⟩:∃wo:World,wo=wr:=⟨_,rfl⟩
    have LC:=aa hI
    have Pj:=aa hF
    have Pl:=aa hE
    have Gz:=aa hS
    clear hI hF hE hS HI HF HE
    by_cases hlt:j<kg
    ·have Jh:j<Eg.length:=by have:=Hgl.out;omega
     have ES:(j:Int)<(kg:Int):=by omega
     have kJ:B≤wo.heap.size:=agm hB LC.out.bl.size
     have kx:iE gY wo wo.heap.size Ag Eg:=LC.out.gr.rd fun t ht=>(LC.out.dg t ht).more kJ
     obtain⟨b,off,rfl,sQ,x0,x1,x2,x3,x4⟩:=jb kx Jh
     obtain⟨hgb,hgo,hgy,mn⟩:=HG.out _ (agt Jh)
     have iC:=LC.out.dg _ (agt Jh)
     have hst:=N8 (O:=Em.map (·.1)) (G:=Eg.map (·.1)) (k:=j) (by simpa using Jh)
     rw[List.getElem_map,Gz.out] at hst
     generalize Eg[j]=t at*
     obtain⟨⟨sq,f,l,gd,bd⟩,Ad,cd⟩:=t
     dsimp only at*
     obtain⟨g3,gx1,gx8⟩:=KL hgb
     dsimp only at g3 gx1 gx8
     obtain⟨nb,UU⟩:=Int.eq_ofNat_of_zero_le (show 0≤ix bd 0 by omega)
     obtain⟨hb1,hb2,Pu,Jf⟩:=fK hgo
     dsimp only at hb1 hb2 Pu Jf
     have C6:=aa (show ag .u8 wo B Ad bd from iC)
     have hla:=fun W (h:Below wo.heap.size wo W)=>Rh ⟨sq,f,l,gd,bd⟩ nb M2 r W (LC.out.map.keep (h.block r LC.out.map.lt)) Ad B cd (agm kJ h.size) (ag.below (xs:=bd) C6.out (h.mono kJ)) (show 0<bd.length by omega) UU (by omega) ⟨Pu,Jf⟩
     unfold ju Za at hla
     dsimp only at hla
     have CU:jp (M2.map (·.1)) ⟨sq,f,l,gd,bd⟩=if (bD M2 sq nb).1=1 then(if (iY ⟨sq,f,l,gd,bd⟩ ((bD M2 sq nb).2.2.map (·.1)) (bD M2 sq nb).2.1).2 then M2.map (·.1)++[(iY ⟨sq,f,l,gd,bd⟩ ((bD M2 sq nb).2.2.map (·.1)) (bD M2 sq nb).2.1).1] else M2.map (·.1))else M2.map (·.1):=by
      unfold jp
      dsimp only
      rw[UU,Int.toNat_natCast,Ed]
     rw[CU] at hst
     have pL:=pH (E:=M2) (s:=sq) nb
     have Si:=wS (E:=M2) (s:=sq) nb
     have hlen:=pI (E:=M2) (s:=sq) nb
     generalize bD M2 sq nb=L at*
     obtain⟨m,q,O⟩:=L
     dsimp only at*
     have Hla:=aa hla
     have Mo:=aa (ago wo (.cells #[.int .i64 sq,.bool f,.bool l,.bool gd,.slice Ad bd.length cd] 124))
     clear hla iC kx CU
     by_cases rM:m=1
     ·rw[if_pos rM] at hst
      have qf:decide (m=1)=true:=decide_eq_true rM
      rw[qf] at Hla
      have hl0:=Si (by omega)
      have Un:=aa pL
      have Hl0:=aa hl0
      have Xp:O.length≤8:=by omega
      have hsO:dM O:=fun t ht=>Pj.out.small t (Un.out t ht)
      have Hgy:=aa hgy
      have hra:=fun W (Ao':Option Addr) (co':Nat) (h1:iE gY W W.heap.size Ao' O) (h2:ag .u8 W W.heap.size Ad bd)=>Qw ⟨sq,f,l,gd,bd⟩ O O.length rfl Xp hsO Ao' W.heap.size co' W (agl _) h1 Ad cd h2 (show 3<bd.length by omega) (show bd.length≤255 by omega) Hgy.out mn q
      unfold ju Uh at hra
      dsimp only at hra
      have UO:=DA (g:=⟨sq,f,l,gd,bd⟩) (P:=O.map (·.1)) (sq:=q)
      have hry:=zo (g:=⟨sq,f,l,gd,bd⟩) (P:=O.map (·.1)) (sq:=q) Hgy.out (fun p hp=>by obtain⟨t,ht,rfl⟩:=List.mem_map.1 hp;exact(hsO t ht).1)
      generalize iY ⟨sq,f,l,gd,bd⟩ (O.map (·.1)) q=R at*
      obtain⟨⟨ps,pf,pl,pg,pb⟩,ok⟩:=R
      dsimp only at*
      have Hra:=aa hra
      have Hry:=aa hry
      clear hra hry pL Si rM qf hl0 hgy
      cases ok with
      |false=>
       have fG:=aa hst
       clear hst UO
       go_wp2_with (first
        |(go_at_call 62;(with_reducible refine(Hla.out _ (ak (ac wo) _)).mono ?_);rintro e w2 ⟨A3,c3,rfl,bF,b2⟩;have B2:=af (ak (ac wo) _) b2;have I2:=aa (LC.out.below hB B2);obtain⟨⟨k0,k1,k2',k3,k4⟩,_⟩:=ay ((b2.block wo.heap.size (by simp)).trans Mo.out);have hr2:=Hra.out w2 A3 c3 (bF.rd fun t ht=>I2.out.dm t (Un.out t ht)) (ag.more (xs:=bd) (ag.below (xs:=bd) C6.out (B2.mono kJ)) (agm kJ B2.size)))
        |(go_at_call 63;(with_reducible refine hr2.mono ?_);rintro e w3 ⟨A4,c4,rfl,bE,b3⟩;dsimp only[ju] at bE ⊢))
       exact⟨⟨j+1,k2,c2,A2,E2,M2,by omega,by omega,rfl,by go_num,I2.out.below hB (ak b3 _),Pj.out,Pl.out,fG.out⟩,by simp[intOf];omega⟩
      |true=>
       obtain⟨rfl,hpo,rfl⟩:=UO rfl
       have fG:=aa hst
       have Hpo:=aa hpo
       obtain⟨pb1,pb2,pq0,pq1⟩:=fK hpo
       dsimp only at pb1 pb2 pq0 pq1
       have hcw:=fun W (A4:Option Addr) (c4:Nat) (h:ag .u8 W W.heap.size A4 pb)=>lm ⟨ps,pf,pl,false,pb⟩ A4 W.heap.size c4 W (agl _) h (show pb.length≤50000 by omega)
       unfold ju Ke at hcw
       dsimp only at hcw
       have Hcw:=aa hcw
       clear hst hpo hcw UO
       go_wp2_with (first
        |(go_at_call 62;(with_reducible refine(Hla.out _ (ak (ac wo) _)).mono ?_);rintro e w2 ⟨A3,c3,rfl,bF,b2⟩;have B2:=af (ak (ac wo) _) b2;have I2:=aa (LC.out.below hB B2);obtain⟨⟨k0,k1,k2',k3,k4⟩,_⟩:=ay ((b2.block wo.heap.size (by simp)).trans Mo.out);have hr2:=Hra.out w2 A3 c3 (bF.rd fun t ht=>I2.out.dm t (Un.out t ht)) (ag.more (xs:=bd) (ag.below (xs:=bd) C6.out (B2.mono kJ)) (agm kJ B2.size)))
        |(go_at_call 63;(with_reducible refine hr2.mono ?_);rintro e w3 ⟨A4,c4,rfl,bE,b3⟩;dsimp only[ju] at bE ⊢;have I3:=aa (I2.out.below hB b3);have M3:=aa (ago w3 (.cells #[.int .i64 ps,.bool pf,.bool pl,.bool false,.slice A4 pb.length c4] 124));have hz3:=b3.size)
        |(at_mapUpdate;refine mr _ rfl (.tmp 93) (.tmp 94) (.tmp 95) rfl r M2 (I3.out.map.keep (ags _ _ _ I3.out.map.lt)) (⟨ps,pf,pl,false,pb⟩,A4,c4) Hl0.out rfl rfl rfl ?_;intro w4 Sq hg4 Gg;have Pr:w4.heap.size=w3.heap.size+1:=(by rw[Gg];simp);have hr3:=I3.out.map.lt;have I4:=aa (nw.put (I3.out.below hB (ak (ac w3) _)) hB Sq hg4 Gg (ag.more (xs:=pb) (ag.below (xs:=pb) bE.ints (ak (ac w3) _)) (by simp)) (fun q hq=>by have h7:=agB bE q (by rw[ae];exact hq);exact⟨by simp;omega,fun e=>by have:=(agB I2.out.ou.row q (by rw[ae];exact e)).2;omega,fun e=>by have:=(I2.out.gr.lt e).2;omega,by have:=I2.out.map.lt;omega⟩));obtain⟨⟨m0,m1,m2,m3,m4⟩,_⟩:=ay ((hg4.block w3.heap.size (by simp) (fun e=>by injection e with e;omega)).trans M3.out);have xx:ag .u8 w4 w4.heap.size A4 pb:=I4.out.dm (⟨ps,pf,pl,false,pb⟩,A4,c4) (by simp))
        |(go_at_call 61;(with_reducible refine(Hcw.out _ A4 c4 xx).mono ?_);rintro e w5 ⟨A5,c5,rfl,bT,b5⟩;dsimp only[ju] at bT ⊢;have I5:=aa (I4.out.below hB b5))
        |(at_builtin;refine TS w5 rfl (.tmp 96) (.tmp 99) rfl w A2 k2 c2 E2 rfl I5.out.ou ⟨ps,pf,pl,false,pb⟩ A5 _ c5 bT (agm I4.out.bl.size (agl _)) (vV I4.out.ou bT) _ rfl _ rfl (by omega) I5.out.bl ?_;intro A6 c6 w6 dC b6 kp kd;have I6:=aa (I5.out.copy hB dC b6 kp kd (fun q hq=>by have h7:=agB bT q (by rw[ae];exact hq);exact⟨fun e=>by have:=(I4.out.gr.lt e).2;omega,by omega⟩))))
       refine⟨⟨j+1,k2+1,c6,A6,E2++[(⟨ps,pf,pl,false,pb⟩,A5,c5)],M2++[(⟨ps,pf,pl,false,pb⟩,A4,c4)],by omega,by omega,rfl,by go_num,I6.out,Pj.out.more ⟨Hpo.out,Hry.out⟩ Hl0.out, ?_, ?_⟩,by simp[intOf];omega⟩
       ·rw[List.map_append,List.map_append,Pl.out];rfl
       ·rw[fG.out,List.map_append];rfl
     ·rw[if_neg rM] at hst
      have qf:decide (m=1)=false:=decide_eq_false rM
      rw[qf] at Hla
      have fG:=aa hst
      clear hst pL Si rM qf
      go_wp2_with (go_at_call 62;(with_reducible refine(Hla.out _ (ak (ac wo) _)).mono ?_);rintro e w2 ⟨A3,c3,rfl,bF,b2⟩)
      exact⟨⟨j+1,k2,c2,A2,E2,M2,by omega,by omega,rfl,by go_num,LC.out.below hB (af (ak (ac wo) _) b2),Pj.out,Pl.out,fG.out⟩,by simp[intOf];omega⟩
    ·obtain rfl:j=kg:=by omega
     have ES:¬((j:Int)<(j:Int)):=by omega
     have NR:yQ (fL P).1 (fL P).2.1=M2.map (·.1):=by
      rw[HmA.out]
      have:=Gz.out
      rw[List.take_of_length_le (by simp[Hgl.out])] at this
      exact this
     have hR:cT P=(iU (M2.map (·.1)),jQ (iU (M2.map (·.1))) qo):=by
      unfold cT;rw[NR,HmA.out]
     have HR:=aa hR
     have hseq:∀t∈E2,0≤t.1.seq∧t.1.seq≤2147483647:=fun t ht=>by
      have h1:t.1∈M2.map (·.1):=by rw[←Pl.out];exact List.mem_map.2 ⟨t,ht,rfl⟩
      obtain⟨u,hu,e⟩:=List.mem_map.1 h1
      rw[←e]
      exact(fK (Pj.out.ok u hu).1).2.2
     have hnd:(E2.map (·.1.seq)).Nodup:=by
      have h1:E2.map (·.1.seq)=M2.map (·.1.seq):=by
       have:=congrArg (List.map (·.seq)) Pl.out
       simpa [List.map_map,Function.comp_def] using this
      rw[h1];exact Pj.out.one
     have EB:=Qk E2 k2 c2 w.heap.size A2 wo LC.out.bl.size LC.out.ou (by omega) hseq hnd
     have Hso:=aa EB
     have aeD:=aa hseq
     clear NR hR hseq hnd EB hlt
     go_wp2_with (first
      |(go_at_call 64;(with_reducible refine Hso.out.mono ?_);rintro e w2 ⟨rfl,E3,WM,hs3,bF,b3⟩;have hh:=NJ E3 k2 bF.len.symm (by omega) (fun t ht=>aeD.out t (WM.mem_iff.1 ht)) qo A2 w2.heap.size c2 w2 (agl _) bF.rd)
      |(go_at_call 66;(with_reducible refine hh.mono ?_);rintro e w3 ⟨A4,c4,rfl,bE,b4⟩))
     go_ret2
     have Py:(E3.map (·.1)).length=k2:=by rw[List.length_map];exact bF.len
     rw[HR.out,←Pl.out,←hs3]
     refine⟨A2,c2,E3,A4,c4, ?_, ?_,rfl,bE.base (agm LC.out.bl.size b3.size),(LC.out.bl.trans b3).trans (b4.mono (agm LC.out.bl.size b3.size))⟩
     ·show _=Ending.returned (.tuple #[.slice A2 (E3.map (·.1)).length c2,.slice A4 (jQ (E3.map (·.1)) qo).length c4])
      rw[Py];rfl
     ·show ik _ _ A2 (E3.map (·.1)).length c2 E3
      rw[Py]
      exact aV.below bF b4 (agl _)
def UK(P:List Pg):Nat:=(P.map fun p=>12+p.body.length).sum
theorem vA(p:Pg)(P:List Pg):UK (p :: P)=12+p.body.length+UK P:=by simp[UK]
theorem Mp{d:List Int}(h:(bL d).2.2=0):(bL d).2.1=12+(bL d).1.body.length:=by
 unfold bL at h ⊢
 split at h
 ·simp at h
 ·split at h
  ·simp at h
  ·split at h
   ·simp at h
   ·split at h
    ·simp at h
    ·split at h
     ·simp at h
     ·split at h
      ·simp at h
      ·rename_i h1 h2 h3 h4 h5 h6
       rw[if_neg h1,if_neg h2,if_neg h3,if_neg h4,if_neg h5,if_neg h6]
       have hl:((d.take (8+qa d)).drop 8).length=qa d:=by simp;omega
       show 8+qa d+4=12+((d.take (8+qa d)).drop 8).length
       omega
theorem iM:∀(n:Nat) (d:List Int),d.length≤n→aH d→UK (cm d).1≤d.length∧∀p∈(cm d).1,cR p=true∧aH p.body
 |0,d,hn,hb=>by
  have:d=[]:=List.length_eq_zero_iff.1 (by omega)
  subst this
  rw[rY]
  exact⟨by simp[UK],fun p hp=>by simp at hp⟩
 |n+1,d,hn,hb=>by
  by_cases h0:d=[]
  ·subst h0
   rw[rY]
   exact⟨by simp[UK],fun p hp=>by simp at hp⟩
  ·have hl:=List.length_pos_iff.2 h0
   by_cases he:(bL d).2.2=0
   ·obtain⟨q1,q2,q3,q4,q5⟩:=wB he
    have q6:=Mp he
    obtain⟨i1,i2⟩:=iM n (d.drop (bL d).2.1) (by simp;omega) (hb.drop _)
    rw[Dv h0 he]
    refine⟨?_,fun p hp=> ?_⟩
    ·dsimp only
     rw[vA]
     rw[List.length_drop] at i1
     omega
    ·rcases List.mem_cons.1 hp with rfl | h1
     ·exact⟨q3,q4 hb⟩
     ·exact i2 p h1
   ·obtain⟨i1,i2⟩:=iM n (d.drop 1) (by simp;omega) (hb.drop _)
    rw[zj h0 he]
    exact⟨by rw[List.length_drop] at i1;dsimp only;omega,i2⟩
theorem Oy:ce []=0:=rfl
theorem AY(p:Pg):ce [p]=p.body.length:=by simp[ce]
theorem JP{P Q:List Pg}(h:P.Perm Q):ce P=ce Q:=by
 induction h with
 |nil=>rfl
 |cons x h ih=>simp only[ce,List.map_cons,List.sum_cons] at*;omega
 |swap x y l=>simp only[ce,List.map_cons,List.sum_cons];omega
 |trans h1 h2 ih1 ih2=>exact ih1.trans ih2
def rL(P:List Pg):Prop:=yU P∧(P.map (·.seq)).Nodup
theorem rL.nil:rL []:=⟨fun p h=>by simp at h,by simp⟩
theorem rL.more{P:List Pg}(h:rL P){p:Pg}(hp:cR p=true∧p.guard=false∧aH p.body)(hl:lO P p.seq=none):rL (P++[p]):=by
 refine⟨fun u hu=> ?_, ?_⟩
 ·rcases agC.1 hu with h1 | h1
  ·exact h.1 u h1
  ·rw[List.mem_singleton.1 h1];exact hp
 ·rw[List.map_append,List.nodup_append]
  refine⟨h.2,by simp,fun a ha b hb=> ?_⟩
  obtain⟨u,hu,rfl⟩:=List.mem_map.1 ha
  simp at hb
  subst hb
  intro e
  have:=List.find?_eq_none.1 hl u hu
  simp at this
  exact this e
theorem zW{P:List Pg}{s:Int}:∀k,1≤(eL P s k).1→lO P (eL P s k).2.1=none
 |0,h=>by simp[eL] at h
 |k+1,h=>by
  cases hl:lO P (s+k)with
  |none=>rw[eL,hl];exact hl
  |some t=>
   rw[eL,hl] at h ⊢
   exact zW k h
theorem sD{P:List Pg}{s:Int}:∀k,∀t∈(eL P s k).2.2,t∈P
 |0,t,ht=>by simp[eL] at ht
 |k+1,t,ht=>by
  cases h:lO P (s+k)with
  |none=>rw[eL,h] at ht;exact sD k t ht
  |some u=>
   rw[eL,h] at ht
   rcases agC.1 ht with h1 | h1
   ·exact sD k t h1
   ·rw[List.mem_singleton.1 h1];exact List.mem_of_find?_eq_some h
theorem DM{p:Pg}(h:cR p=true)(hg:p.guard=false):p.body.length≤252:=by
 have:=(of_decide_eq_true h).2.2.2
 rw[hg] at this
 exact this
def UE(G:List Pg):Prop:=∀g∈G,aH g.body
theorem Nf{s:MS}{p:Pg}(h:rL s.1)(hg:UE s.2.1)(hp:aH p.body):rL (cU s p).1∧UE (cU s p).2.1∧ce (cU s p).1+252*(cU s p).2.1.length≤ce s.1+252*s.2.1.length+16*(12+p.body.length):=by
 unfold cU
 split
 ·exact⟨h,hg,by omega⟩
 ·rename_i h1
  split
  ·rename_i h2
   split
   ·rename_i h3
    refine⟨h,fun g hg2=> ?_, ?_⟩
    ·rcases agC.1 hg2 with h4 | h4
     ·exact hg g h4
     ·rw[List.mem_singleton.1 h4];exact hp
    ·unfold yG at h3
     rw[Bool.and_eq_true] at h3
     have h5:=(of_decide_eq_true h3.2).1
     dsimp only
     rw[List.length_append]
     simp only[List.length_singleton]
     omega
   ·exact⟨h,hg,by omega⟩
  ·rename_i h2
   split
   ·exact⟨h,hg,by omega⟩
   ·rename_i h3
    refine⟨h.more ⟨by simpa using h1,by simpa using h2,hp⟩ (by simpa using h3),hg, ?_⟩
    dsimp only
    rw[nY,AY]
    omega
theorem zQ:∀(P:List Pg) (s:MS),rL s.1→UE s.2.1→(∀p∈P,aH p.body)→rL (P.foldl cU s).1∧UE (P.foldl cU s).2.1∧ce (P.foldl cU s).1+252*(P.foldl cU s).2.1.length≤ce s.1+252*s.2.1.length+16*UK P
 |[],s,h,hg,hp=>⟨h,hg,by simp[UK]⟩
 |p :: P,s,h,hg,hp=>by
  obtain⟨a1,a2,a3⟩:=Nf h hg (hp p (by simp))
  obtain⟨b1,b2,b3⟩:=zQ P (cU s p) a1 a2 fun q hq=>hp q (by simp[hq])
  rw[List.foldl_cons]
  refine⟨b1,b2, ?_⟩
  rw[vA]
  omega
theorem N7{O:List Pg}{g:Pg}(h:rL O)(hg:aH g.body):rL (jp O g)∧ce (jp O g)≤ce O+252:=by
 unfold jp
 split
 ·rename_i h1
  split
  ·rename_i h2
   obtain⟨r1,r2,r3⟩:=DA h2
   refine⟨h.more ⟨r2,r3,zo hg fun p hp=>(h.1 p (sD _ p hp)).2.2⟩ ?_, ?_⟩
   ·rw[r1]
    exact zW _ (by omega)
   ·rw[nY,AY]
    have:=DM r2 r3
    omega
  ·exact⟨h,by omega⟩
 ·exact⟨h,by omega⟩
theorem AD:∀(G O:List Pg),rL O→UE G→rL (G.foldl jp O)∧ce (G.foldl jp O)≤ce O+252*G.length
 |[],O,h,hg=>⟨h,by simp⟩
 |g :: G,O,h,hg=>by
  obtain⟨a1,a2⟩:=N7 h (hg g (by simp))
  obtain⟨b1,b2⟩:=AD G (jp O g) a1 fun q hq=>hg q (by simp[hq])
  rw[List.foldl_cons]
  refine⟨b1, ?_⟩
  rw[List.length_cons]
  omega
theorem oX(P:List Pg):(iU P).Perm P:=List.mergeSort_perm _ _
theorem Bu(P:List Pg):(iU P).Pairwise (fun a b=>a.seq≤b.seq):=by
 have:=List.pairwise_mergeSort (le:=fun a b:Pg=>decide (a.seq≤b.seq)) (fun a b c h1 h2=>by simp at*;omega) (fun a b=>by simp;omega) P
 exact this.imp fun h=>by simpa using h
theorem LZ{P:List Pg}(h:(P.map (·.seq)).Nodup):Asc (iU P):=fun i hi=>by
 have h1:=List.pairwise_iff_getElem.1 (Bu P) i (i+1) (by omega) hi (by omega)
 have h2:((iU P).map (·.seq)).Nodup:=((oX P).map (·.seq)).nodup_iff.2 h
 have h3:=List.pairwise_iff_getElem.1 h2 i (i+1) (by simp;omega) (by simpa using hi) (by omega)
 simp only[List.getElem_map] at h3
 omega
theorem MT{P:List Pg}(hP:∀p∈P,aH p.body):yU (cT P).1∧Asc (cT P).1∧ce (cT P).1≤16*UK P:=by
 obtain⟨a1,a2,a3⟩:=zQ P ([],[], -1) rL.nil (fun g hg=>by simp at hg) hP
 obtain⟨b1,b2⟩:=AD _ _ a1 a2
 have hp:=oX (yQ (fL P).1 (fL P).2.1)
 refine⟨fun p h=>b1.1 p (hp.mem_iff.1 h),LZ b1.2, ?_⟩
 show ce (iU _)≤_
 rw[JP hp]
 simp only[Oy,List.length_nil] at a3
 exact agm b2 (by omega)
theorem Vn(P:List Pg):12*P.length≤UK P:=by
 induction P with
 |nil=>simp
 |cons p P ih=>rw[vA,List.length_cons];omega
theorem Tn{P:List Pg}(h:yU P):P.length≤ce P:=by
 induction P with
 |nil=>simp
 |cons p P ih=>
  have h1:=(iP (h p (by simp)).1).1
  have h2:=ih fun q hq=>h q (by simp[hq])
  have h3:ce (p :: P)=p.body.length+ce P:=by simp[ce]
  rw[h3,List.length_cons]
  omega
def CO(d:List Int):List Pg×List Hl:=cT (cm d).1
theorem qK{d:List Int}(hb:aH d)(hl:d.length≤3000):yU (CO d).1∧Asc (CO d).1∧ce (CO d).1≤48000∧(CO d).1.length≤48000∧(cm d).1.length≤250:=by
 obtain⟨h1,h2⟩:=iM _ d (agl _) hb
 obtain⟨h3,h4,h5⟩:=MT (P:=(cm d).1) fun p hp=>(h2 p hp).2
 have h6:=Tn h3
 have h7:=Vn (cm d).1
 exact⟨h3,h4,by unfold CO;omega,by unfold CO;omega,by omega⟩
end
end Go.Proofs.YtbhfpehgacaidaaGreatDoor
