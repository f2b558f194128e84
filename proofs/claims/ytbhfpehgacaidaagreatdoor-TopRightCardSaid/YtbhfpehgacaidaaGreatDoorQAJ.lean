/- A part of the proof of the given statement TopRight. Conditions: none. -/
import Derived.MapKept
import Derived.Test.YtbhfpehgacaidaaGreatDoorQAI
namespace Go.Proofs.YtbhfpehgacaidaaGreatDoor
set_option linter.unusedVariables false
set_option linter.unusedSimpArgs false
set_option maxRecDepth 100000
set_option maxHeartbeats 8000000
section
open Go.RowKit
def Ej(r:JS×List Pk)(p:Pg):JS×List Pk:=((ot r.1 p).1,r.2++(ot r.1 p).2.toList)
def kr(P:List Pg):JS×List Pk:=P.foldl Ej (⟨0,false,[],0⟩,[])
def dB(P:List Pg):List Pk:=(kr P).2
theorem sH{P:List Pg}{i:Nat}(h:i<P.length):kr (P.take (i+1))=Ej (kr (P.take i)) P[i]:=by
 unfold kr
 rw[agx h,List.foldl_append]
 rfl
def Asc(P:List Pg):Prop:=∀i (h:i+1<P.length),P[i].seq<P[i+1].seq
theorem Wx(s:JS)(p:Pg):(sG s p).nx=p.seq+1:=by
 unfold sG qH
 dsimp only
 split <;> rfl
theorem KJ(s:JS)(p:Pg):(sG s p).bd.length≤s.bd.length:=by
 have h1:(if s.nx<p.seq then qH s else s).bd.length≤s.bd.length:=by
  split
  ·exact qF s
  ·exact agl _
 unfold sG
 dsimp only
 split
 ·exact agm (qF _) h1
 ·exact h1
theorem Wy(s:JS)(p:Pg):s.br≤(sG s p).br∧(sG s p).br≤s.br+2:=by
 have h1:s.br≤(if s.nx<p.seq then qH s else s).br∧(if s.nx<p.seq then qH s else s).br≤s.br+1:=by
  split
  ·exact wV s
  ·omega
 unfold sG
 dsimp only
 split
 ·have h2:=wV {(if s.nx<p.seq then qH s else s)with nx:=p.seq+1}
  dsimp only at h2 ⊢
  omega
 ·dsimp only
  omega
theorem Eh{s:JS}{p:Pg}(h:aH s.bd):aH (sG s p).bd:=by
 have h1:aH (if s.nx<p.seq then qH s else s).bd:=by
  split
  ·exact qG h
  ·exact h
 unfold sG
 dsimp only
 split
 ·exact qG (s:={(if s.nx<p.seq then qH s else s)with nx:=p.seq+1}) h1
 ·exact h1
theorem rc:aH []:=fun x hx=>by simp at hx
theorem Nv(s:JS)(p:Pg):(jE s p).1.nx=s.nx∧(jE s p).1.bd.length≤s.bd.length+p.body.length∧(s.br≤(jE s p).1.br∧(jE s p).1.br≤s.br+1)∧(aH s.bd→aH p.body→aH (jE s p).1.bd):=by
 have hb:aH s.bd→aH p.body→aH (s.bd++p.body):=fun h1 h2 x hx=>(agC.1 hx).elim (h1 x) (h2 x)
 have hj:=wV {s with bd:=s.bd++p.body}
 have hl:=qF {s with bd:=s.bd++p.body}
 have hy:aH s.bd→aH p.body→aH (qH {s with bd:=s.bd++p.body}).bd:=fun h1 h2=>qG (s:={s with bd:=s.bd++p.body}) (hb h1 h2)
 dsimp only at hj hl
 rw[List.length_append] at hl
 unfold jE
 split
 ·exact⟨rfl,by dsimp only;omega,⟨by dsimp only;omega,by dsimp only;omega⟩,fun h _=>h⟩
 ·dsimp only
  split
  ·exact⟨rfl,hl,hj,hy⟩
  ·split
   ·exact⟨rfl,by dsimp only;rw[List.length_append];exact agl _,⟨by dsimp only;omega,by dsimp only;omega⟩,hb⟩
   ·split
    ·exact⟨rfl,hl,hj,hy⟩
    ·exact⟨rfl,by simp,⟨by dsimp only;omega,by dsimp only;omega⟩,fun _ _=>rc⟩
theorem Rs(s:JS)(p:Pg):(ot s p).1.nx=p.seq+1∧(ot s p).1.bd.length≤s.bd.length+p.body.length∧(s.br≤(ot s p).1.br∧(ot s p).1.br≤s.br+3)∧(aH s.bd→aH p.body→aH (ot s p).1.bd):=by
 obtain⟨h1,h2,h3,h4⟩:=Nv (sG s p) p
 have h5:=KJ s p
 have h6:=Wy s p
 exact⟨by rw[←Wx s p];exact h1,by show (jE _ _).1.bd.length≤_;omega,⟨by show _≤(jE _ _).1.br;omega,by show (jE _ _).1.br≤_;omega⟩,fun a b=>h4 (Eh a) b⟩
def ce(P:List Pg):Nat:=(P.map (·.body.length)).sum
theorem nY(P Q:List Pg):ce (P++Q)=ce P+ce Q:=by simp[ce]
theorem pT{P:List Pg}{i:Nat}(h:i<P.length):ce (P.take (i+1))=ce (P.take i)+P[i].body.length:=by
 rw[agx h,nY]
 simp[ce]
theorem FC(P:List Pg)(i:Nat):ce (P.take i)≤ce P:=by
 have:=nY (P.take i) (P.drop i)
 rw[List.take_append_drop] at this
 omega
def yU(P:List Pg):Prop:=∀p∈P,cR p=true∧p.guard=false∧aH p.body
theorem wX{P:List Pg}(hf:yU P)(ha:Asc P):∀i,i≤P.length→0≤(kr (P.take i)).1.nx∧(∀h:i<P.length,(kr (P.take i)).1.nx≤P[i].seq)∧(kr (P.take i)).1.bd.length≤ce (P.take i)∧0≤(kr (P.take i)).1.br∧(kr (P.take i)).1.br≤3*i∧aH (kr (P.take i)).1.bd
 |0,_=>by
  refine⟨by show (0:Int)≤0;omega,fun h=> ?_,by show 0≤_;omega,by show (0:Int)≤0;omega,by show (0:Int)≤_;omega,rc⟩
  have:=(iP (hf _ (agt h)).1).2.2.1
  show (0:Int)≤_
  omega
 |i+1,hi=>by
  have h:i<P.length:=by omega
  obtain⟨h1,h2,h3,h4,h5,h6⟩:=wX hf ha i (by omega)
  obtain⟨j1,j2,j3,j4⟩:=Rs (kr (P.take i)).1 P[i]
  have hp:=hf _ (agt h)
  have hq:=(iP hp.1).2.2.1
  rw[sH h]
  unfold Ej
  dsimp only
  refine⟨by omega,fun h7=> ?_,by rw[pT h];omega,by omega,by omega,j4 h6 hp.2.2⟩
  have:=ha i h7
  omega
theorem aV.of_{α:Type}{K:rG α}{ty:TypeId}{w w':World}{B n c:Nat}{A:Option Addr}{E:List (El α)}(h:aV K ty w B A n c E)(hs:w.heap.size≤w'.heap.size)(hr:∀q,aj A=some q→w'.heap[q]? =w.heap[q]?)(hd:∀t∈E,∀q,aj t.2.1=some q→w'.heap[q]? =w.heap[q]?):aV K ty w' B A n c E:=
 ⟨ap h.row (fun q hq=>hr q (by rw[←ae A n c];exact hq)),h.len,h.inn.keep hd hs,fun t ht q hq=>⟨(h.sep t ht q hq).1,agz (h.sep t ht q hq).2.1 hs,(h.sep t ht q hq).2.2⟩,h.cap⟩
structure JL (wx wr:World) (g:Nat) (Aj:Option Addr) (cj:Nat) (s:JS) (A:Option Addr) (k c:Nat) (E:List (El Pk)):Prop where
 jn:jJ wr g wx.heap.size Aj cj s
 ow:aV iA 52 wr wx.heap.size A k c E
 sr:∀q,aj A=some q→q≠g∧aj Aj≠some q
 sd:∀t∈E,∀q,aj t.2.1=some q→q≠g∧aj Aj≠some q
 bl:Below wx.heap.size wx wr
section
variable {wx wr w5 w6 : World} {g cj k c : Nat} {Aj A : Option Addr} {s : JS} {E : List (El Pk)}
theorem JL.row_lt(h:JL wx wr g Aj cj s A k c E){q:Nat}(hq:aj A=some q):wx.heap.size≤q∧q<wr.heap.size:=agB h.ow.row q (by rw[ae];exact hq)
theorem JL.j_lt(h:JL wx wr g Aj cj s A k c E){q:Nat}(hq:aj Aj=some q):wx.heap.size≤q∧q<wr.heap.size:=agB h.jn.2.1 q (by rw[ae];exact hq)
theorem JL.below(h:JL wx wr g Aj cj s A k c E)(hb:Below wr.heap.size wr w5):JL wx w5 g Aj cj s A k c E:=
 ⟨h.jn.below hb (agl _),h.ow.below hb (agl _),h.sr,h.sd,h.bl.trans (hb.mono h.bl.size)⟩
theorem JL.put(h:JL wx wr g Aj cj s A k c E){Aj':Option Addr}{cj':Nat}{s':JS}(hj:jJ w5 g wx.heap.size Aj' cj' s')(ha:∀q,aj Aj'=some q→aj Aj=some q∨wr.heap.size≤q)(hk:Kp (fun q=>q=g∨aj Aj=some q) wr w5):JL wx w5 g Aj' cj' s' A k c E:=by
 have hne:∀q,q<wr.heap.size→aj Aj≠some q→aj Aj'≠some q:=fun q hq hn e=>by
  rcases ha q e with h1 | h1
  ·exact hn h1
  ·omega
 have hB:=h.jn.2.2.1
 refine⟨hj,h.ow.of_ hk.size (fun q hq=>hk.block q (h.row_lt hq).2 (fun e=>e.elim (h.sr q hq).1 (h.sr q hq).2)) (fun t ht q hq=>hk.block q (h.ow.sep t ht q hq).2.1 (fun e=>e.elim (h.sd t ht q hq).1 (h.sd t ht q hq).2)),fun q hq=>⟨(h.sr q hq).1,hne q (h.row_lt hq).2 (h.sr q hq).2⟩,fun t ht q hq=>⟨(h.sd t ht q hq).1,hne q (h.ow.sep t ht q hq).2.1 (h.sd t ht q hq).2⟩,h.bl.trans (hk.below (fun q e=>e.elim (fun e=>by rw[e];exact hB) (fun e=>(h.j_lt e).1)) h.bl.size)⟩
theorem JL.app(h:JL wx w5 g Aj cj s A k c E){A2:Option Addr}{c2 B2:Nat}{E2:List (El Pk)}(ho:aV iA 52 w5 B2 A2 E2.length c2 E2)(hA:∀q,aj A=some q→q<B2)(SF:g<B2)(hB:wx.heap.size≤B2)(hn:E2≠[]→Aj=none){A':Option Addr}{c':Nat}
 (hr:w6.ownsRow wx.heap.size 52 6 (.slice A' (k+E2.length) c') (k+E2.length) (aN iA E++aN iA E2)) (hg:w5.grownBy w6 (Value.slice A k c).ownBlock) (hat:(Value.slice A' (k+E2.length) c').ownBlock=(Value.slice A k c).ownBlock∨(Value.slice A' (k+E2.length) c').ownBlock=some w5.heap.size):JL wx w6 g Aj cj s A' (k+E2.length) c' (E++E2):=by
 have hp:=h.ow.push ho.inn (fun t ht q hq=>⟨by have:=(ho.sep t ht q hq).1;omega,(ho.sep t ht q hq).2.1,fun e=>by have h1:=hA q e;have h2:=(ho.sep t ht q hq).1;omega⟩) ho.cap rfl hr hg hat
 rw[ae] at hg
 rw[ae,ae] at hat
 have UW:=h.jn.lt
 refine⟨⟨(hg.block g UW (fun e=>(h.sr g e.symm).1 rfl)).trans h.jn.1,aq.of_other h.jn.2.1 (fun q hq=> ?_),h.jn.2.2.1,h.jn.2.2.2⟩,hp,fun q hq=> ?_,fun t ht q hq=> ?_,⟨hg.os.trans h.bl.os,hg.tape.trans h.bl.tape,hg.output.trans h.bl.output,agm h.bl.size hg.size,fun q hq=>(hg.block q (agz hq h.bl.size) (fun e=>by have:=(h.row_lt e.symm).1;omega)).trans (h.bl.block q hq)⟩⟩
 ·rw[ae] at hq
  exact hg.block q (h.j_lt hq).2 (fun e=>(h.sr q e.symm).2 hq)
 ·rcases hat with h1 | h1
  ·exact h.sr q (h1.symm.trans hq)
  ·rw[h1] at hq
   injection hq with hq
   subst hq
   exact⟨by omega,fun e=>by have:=(h.j_lt e).2;omega⟩
 ·rcases agC.1 ht with h1 | h1
  ·exact h.sd t h1 q hq
  ·have h2:=ho.sep t h1 q hq
   refine⟨by omega, ?_⟩
   rw[hn (fun e=>by rw[e] at h1;simp at h1)]
   simp[aj]
end
theorem uZ:(Tryz.prog.info? 52).map (fun i=>(i.zero,i.size,i.bytes))=some (some (.agg #[.int .i64 0,.int .i64 0,.int .i64 0,.bool false,.bool false,.slice none 0 0]),6,56):=by kernel_rfl
theorem aa8{ops:Array Oper}{rest:List Oper}{o:Oper}{a:Act}{Q:Exit→Act→World→Prop}(w5:World)(hgd:o.guard=none)(sl x:Operand)
 (ho:o.op= .call {callee:=.builtin .append,args:=#[sl,x],argTypes:=#[44,44]}) {wx:World} {g cj k c:Nat} {Aj A:Option Addr} {s:JS} {E:List (El Pk)} (hs:a.eval sl= .slice A k c) (h:JL wx w5 g Aj cj s A k c E)
 {A2:Option Addr} {c2 B2:Nat} {E2:List (El Pk)} (hx:a.eval x= .slice A2 E2.length c2) (hw:aV iA 52 w5 B2 A2 E2.length c2 E2) (hA:∀q,aj A=some q→q<B2) (SF:g<B2) (hB:wx.heap.size≤B2) (hn:E2≠[]→Aj=none) (hsz:k+E2.length≤100000)
 (hh:∀A' c' w6,JL wx w6 g Aj cj s A' (k+E2.length) c' (E++E2)→wpList Tryz.prog ops Q rest (a.put o.dst (.slice A' (k+E2.length) c')) w6):wpList Tryz.prog ops Q (o :: rest) a w5:=by
 obtain⟨i0,cw,hz0,hz1,hz2⟩:=info_parts uZ
 refine aP w5 hgd sl x 44 ho wx.heap.size 52 i0 _ 6 56 Tryz.underlying44 cw hz0 hz1 hz2 rfl (by omega) _ k _ hs h.ow.row w5.heap.size A2 E2.length c2 (aN iA E2) hx (by rw[cA];rfl) hw.rd.1 (fp iA E2) (by simp only[maxLen];omega) (by omega) h.bl.size ?_
 intro A' c' w' h1 h2 h3
 exact hh A' c' w' (h.app hw hA SF hB hn h1 h2 h3)
def XT(L:List Pk)(w:World)(e:Ending)(w':World):Prop:=
 ∃A c E,e= .returned (.slice A E.length c)∧aV iA 52 w' w.heap.size A E.length c E∧E.map (·.1)=L∧Below w.heap.size w w'
theorem zY(s:JS)(p:Pg):(ot s p).2.toList.length≤1:=by cases (ot s p).2 <;> simp
theorem QJ{E2:List (El Pk)}{r:Option Pk}(h:E2.map (·.1)=r.toList)(hs:r.toList.length≤1):E2.length≤1:=by
 rw[←List.length_map (f:=(·.1)),h]
 exact hs
theorem wW(E:List (El Pg))(n:Nat)(hn:n=E.length)(hm:n≤50000)(hf:yU (E.map (·.1)))(ha:Asc (E.map (·.1)))(hb:ce (E.map (·.1))≤50000)(A:Option Addr)(B c:Nat)(w:World)(hB:B≤w.heap.size)(kx:iE gY w B A E):
 Calls Tryz.prog 31 #[.int .i64 0,.slice A n c] w (XT (dB (E.map (·.1))) w):=by
 have Hn:=aa hn
 have nS:(E.map (·.1)).length=n:=by simp[hn]
 clear hn
 obtain⟨P,hP⟩:∃P,P=E.map (·.1):=⟨_,rfl⟩
 rw[←hP] at nS hf ha hb ⊢
 have HP:=aa hP
 have pZ:=aa nS
 have Hb:=aa hb
 clear hP nS hb
 go_enter Tryz.func31,Tryz.ntmps31
 go_upto_region 2 with (go_at_call 75;(with_reducible refine(Ei w).mono ?_);rintro e w1 ⟨rfl,YL,b1⟩)
 obtain⟨g,hg⟩:∃g,g=w.heap.size:=⟨_,rfl⟩
 have hJ1:∃Aj cj,jJ w1 g w.heap.size Aj cj ⟨0,false,[],0⟩:=by
  obtain⟨Aj,cj,q1,q2,q3,q4⟩:=YL
  rw[hg]
  exact⟨Aj,cj,q1,q2,q3,fun e=>q4 _ e rfl⟩
 obtain⟨Aj,cj,hJ2⟩:=hJ1
 have HL1:Hid (JL w w1 g Aj cj ⟨0,false,[],0⟩ none 0 0 []):=aa ⟨hJ2,aV.nil _ _,fun q hq=>by simp[aj] at hq,fun t ht=>by simp at ht,b1⟩
 rw[←hg]
 clear YL hJ2 b1 hg
 go_wp2_with fail
 go_loopw [6,8,9,10,15] (fun ov _ _ _ iv wr=>∃(i k:Nat) (A':Option Addr) (c':Nat) (L:List (El Pk)) (Aq:Option Addr) (cq:Nat),i≤n∧k≤i∧iv= .int .i64 i∧ov= .slice A' k c'∧JL w wr g Aq cq (kr (P.take i)).1 A' k c' L∧L.map (·.1)=(kr (P.take i)).2) (fun _ _ _ _ iv _=>n-(intOf iv).toNat)
 case atStart=>exact⟨0,0,none,0,[],Aj,cj,agw _,agw _,rfl,rfl,HL1.out,rfl⟩
 case round=>
  obtain⟨i,k,A2,c2,L,Aq,cq,hi,hki,rfl,rfl,hL,hLm⟩:=hrel
  obtain⟨wo,rfl⟩:∃wo:World,wo=wr:=⟨_,rfl⟩
  have HL:=aa hL
  have HM:=aa hLm
  clear hL hLm HL1
  by_cases hlt:i<n
  ·have dv:i<E.length:=by have:=Hn.out;omega
   have Gp:i<P.length:=by have:=pZ.out;omega
   have hI:(i:Int)<(n:Int):=by omega
   have ha2:=kx.below (HL.out.bl.mono hB)
   obtain⟨b,off,rfl,sQ,x0,x1,x2,x3,x4⟩:=jb ha2 dv
   have qd:P[i]=E[i].1:=by simp[HP.out]
   have hinv:=wX hf ha i (by omega)
   have hfi:=hf _ (agt Gp)
   have hst:=sH Gp
   have uO:=pT Gp
   have aem:=FC P (i+1)
   have l8:=hinv.2.1 Gp
   have iC:=kx.2 _ (agt dv)
   rw[qd] at hfi hst uO l8
   have EB:=zY (kr (P.take i)).1 E[i].1
   generalize hS:kr (P.take i)=S at*
   obtain⟨s,O⟩:=S
   generalize E[i]=t at*
   obtain⟨⟨sq,f,l,gd,bd⟩,Ad,cd⟩:=t
   unfold Ej at hst
   dsimp only at*
   have Jt:=Hb.out
   have hput:=Rq ⟨sq,f,l,gd,bd⟩ hfi.1 hfi.2.1 hfi.2.2 s hinv.2.2.2.2.2 (by dsimp only;omega) hinv.1 l8 hinv.2.2.2.1 (by have:=hinv.2.2.2.2.1;omega) g Aq cq Ad cd w (wo.alloc (.cells #[.int .i64 sq,.bool f,.bool l,.bool gd,.slice Ad bd.length cd] 124))
    (HL.out.below (ak (ac wo) _)).jn (ak HL.out.bl _) (iC.more hB)
   have hzo:(wo.alloc (.cells #[.int .i64 sq,.bool f,.bool l,.bool gd,.slice Ad bd.length cd] 124)).heap.size=wo.heap.size+1:=by simp
   obtain⟨RR,cN⟩:∃RR,RR=ot s ⟨sq,f,l,gd,bd⟩:=⟨_,rfl⟩
   rw[←cN] at hput hst EB
   obtain⟨s',r'⟩:=RR
   dsimp only at hst EB
   have abn:=aa hput
   have fG:=aa hst
   unfold ju Lx at abn
   dsimp only at abn
   clear hput hst cN hinv hfi uO aem l8 iC ha2 qd Jt
   go_wp2_with (first
    |(go_at_call 76;(with_reducible refine abn.out.mono ?_);rintro e w5 ⟨A3,c3,E2,hv,Aj5,cj5,rfl,bT,KV,hj5,hn5,ha5,qN⟩;have HL5:=(HL.out.below (ak (ac wo) _)).put hj5 ha5 qN)
    |(at_builtin;refine aa8 _ rfl (.tmp 25) (.tmp 26) rfl rfl HL5 rfl bT (fun q hq=>by have:=(HL.out.row_lt hq).2;omega) (by have:=HL.out.jn.lt;omega) (by have:=HL.out.bl.size;omega) (fun hne=>hn5 (fun e=>hne (by rw[e] at KV;simpa using KV))) (agm (Nat.add_le_add_left (QJ KV EB) k) (by omega)) ?_;intro A6 c6 w6 h6))
   have hc:E2.length≤1:=QJ KV EB
   refine⟨⟨i+1,k+E2.length,A6,c6,L++E2,Aj5,cj5,by omega,by omega,by go_num,rfl,by rw[fG.out];exact h6,by rw[fG.out,List.map_append,HM.out,KV]⟩,by simp[intOf];omega⟩
  ·obtain rfl:i=n:=by omega
   have hI:¬((i:Int)<(i:Int)):=by omega
   have hM:=HM.out
   rw[List.take_of_length_le (by rw[pZ.out];exact agl _)] at hM
   have hl:L.length=k:=HL.out.ow.len
   have Hl:=aa hl
   have Ph:=aa hM
   clear hl hM HM
   go_wp2_with fail
   go_ret
   refine⟨A2,c2,L, ?_, ?_,Ph.out,HL.out.bl⟩
   ·rw[Hl.out];rfl
   ·rw[Hl.out]
    exact HL.out.ow
def UN(t:El Pg):Value:=ju t.1 t.2.1 t.2.2
def kF(w:World)(r:Nat)(E:List (El Pg)):Prop:=
 ∃(es:Array MapEntry) (clock:Nat),w.heap[r]? =some (.map es clock)∧es.toList.map (fun e=>(e.key,e.val))=E.map fun t=>((Value.int .i64 t.1.seq,UN t):Value×Value)
def jg(E:List (El Pg))(k:Int):Option (El Pg):=E.find? fun t=>decide (t.1.seq=k)
theorem qW(k:Int):∀(l:List MapEntry) (E:List (El Pg)) (i:Nat),l.map (fun e=>(e.key,e.val))=E.map (fun t=>((Value.int .i64 t.1.seq,UN t):Value×Value))→
 (jg E k=none∧Instr.findNow (.int .i64) (.int .i64 k) l i=some none)∨∃t j,jg E k=some t∧Instr.findNow (.int .i64) (.int .i64 k) l i=some (some (j,UN t))
 |[],[],i,_=>.inl ⟨rfl,rfl⟩
 |[],t :: E,i,h=>by simp at h
 |e :: l,[],i,h=>by simp at h
 |e :: l,t :: E,i,h=>by
  simp only[List.map_cons,List.cons.injEq,Prod.mk.injEq] at h
  obtain⟨⟨hk,hv⟩,ht⟩:=h
  have hs:Instr.sameNow (.int .i64) (.int .i64 k) e.key=some (k == t.1.seq):=by rw[hk];simp[Instr.sameNow]
  by_cases he:t.1.seq=k
  ·refine .inr ⟨t,i, ?_, ?_⟩
   ·simp[jg,he]
   ·rw[Instr.findNow,hs,he,beq_self_eq_true,hv]
  ·have hb:(k == t.1.seq)=false:=beq_eq_false_iff_ne.2 (fun h=>he h.symm)
   have hl:jg (t :: E) k=jg E k:=by simp[jg,he]
   rw[hl,Instr.findNow,hs,hb]
   exact qW k l E (i+1) ht
section
variable {w w' : World} {r : Nat} {E : List (El Pg)}
theorem kF.keep(h:kF w r E)(hk:w'.heap[r]? =w.heap[r]?):kF w' r E:=by
 obtain⟨es,clock,h1,h2⟩:=h
 exact⟨es,clock,hk.trans h1,h2⟩
theorem kF.lt(h:kF w r E):r<w.heap.size:=by
 obtain⟨es,clock,h1,_⟩:=h
 exact(agn.1 h1).1
theorem kF.ne{B n c:Nat}{A:Option Addr}{k:Nat}{e:TypeId}{xs:List Value}(h:kF w r E)(ho:w.ownsRow B e k (.slice A n c) n xs):aj A≠some r:=fun he=>by
 obtain⟨es,clock,h1,_⟩:=h
 rcases ho.2 with ⟨hv,_⟩ | ⟨g,cap,cur,hv,_,hg,_⟩
 ·injection hv with hv;rw[hv] at he;cases he
 ·injection hv with hv
  rw[hv] at he
  injection he with he
  subst he
  rw[h1] at hg
  cases hg
theorem zT(h:kF w r E){k:Int}(hl:jg E k=none):(Instr.lookup 127 (.map (some r)) (.int .i64 k) true).run Tryz.prog w= .ok (.tuple #[.agg #[.int .i64 0,.bool false,.bool false,.bool false,.slice none 0 0],.bool false]) w:=by
 obtain⟨es,clock,h1,h2⟩:=h
 have hf:Instr.findNow (.int .i64) (.int .i64 k) es.toList 0=some none:=by
  rcases qW k es.toList E 0 h2 with ⟨_,h⟩ | ⟨t,j,h,_⟩
  ·exact h
  ·rw[hl] at h;cases h
 simp[Instr.lookup,run_underlying Tryz.underlying127,Result.andThen,MapKept.run_getObj_map h1,MapKept.run_checkKey Tryz.underlying3 (k:=.int .i64 k) (by simp[MapKept.IsKey]) es.isEmpty 9999,MapKept.run_findKey Tryz.underlying3 hf,Tryz.zeroValue124]
theorem zS(h:kF w r E){k:Int}{t:El Pg}(hl:jg E k=some t):(Instr.lookup 127 (.map (some r)) (.int .i64 k) true).run Tryz.prog w= .ok (.tuple #[UN t,.bool true]) w:=by
 obtain⟨es,clock,h1,h2⟩:=h
 obtain⟨j,hf⟩:∃j,Instr.findNow (.int .i64) (.int .i64 k) es.toList 0=some (some (j,UN t)):=by
  rcases qW k es.toList E 0 h2 with ⟨h,_⟩ | ⟨t',j,h,hf⟩
  ·rw[hl] at h;cases h
  ·rw[hl] at h;injection h with h;subst h;exact⟨j,hf⟩
 simp[Instr.lookup,run_underlying Tryz.underlying127,Result.andThen,MapKept.run_getObj_map h1,MapKept.run_checkKey Tryz.underlying3 (k:=.int .i64 k) (by simp[MapKept.IsKey]) es.isEmpty 9999,MapKept.run_findKey Tryz.underlying3 hf]
theorem VM(h:kF w r E)(t:El Pg)(hl:jg E t.1.seq=none):∃w',(Instr.mapUpdate 127 (.map (some r)) (.int .i64 t.1.seq) (UN t)).run Tryz.prog w= .ok () w'∧kF w' r (E++[t])∧w.grownBy w' (some r)∧w'.heap.size=w.heap.size:=by
 obtain⟨es,clock,h1,h2⟩:=h
 have hf:Instr.findNow (.int .i64) (.int .i64 t.1.seq) es.toList 0=some none:=by
  rcases qW t.1.seq es.toList E 0 h2 with ⟨_,h⟩ | ⟨t',j,h,_⟩
  ·exact h
  ·rw[hl] at h;cases h
 refine⟨{w with heap:=w.heap.setIfInBounds r (.map (es.push {key:=.int .i64 t.1.seq,val:=UN t,born:=clock}) (clock+1))}, ?_,⟨_,_,(MapKept.heap_set h1).1, ?_⟩,⟨rfl,rfl,rfl,by simp,fun k hk hne=>(MapKept.heap_set h1).2 k (fun e=>hne (by rw[e]))⟩,by simp⟩
 ·simp[Instr.mapUpdate,run_underlying Tryz.underlying127,Result.andThen,MapKept.run_getObj_map h1,MapKept.run_checkKey Tryz.underlying3 (k:=.int .i64 t.1.seq) (by simp[MapKept.IsKey]) false 9999,MapKept.run_findKey Tryz.underlying3 hf,MapKept.run_setObj_map _ h1]
 ·simp[h2]
end
theorem QI(w:World):kF (w.alloc (.map #[] 0)) w.heap.size []:=⟨#[],0,(MapKept.heap_alloc w _).1,rfl⟩
theorem mr{ops:Array Oper}{rest:List Oper}{o:Oper}{a:Act}{Q:Exit→Act→World→Prop}(w:World)(hg:o.guard=none)(m x v:Operand)(ho:o.op=Op.mapUpdate 127 m x v)(r:Nat)(E:List (El Pg))(h:kF w r E)(t:El Pg)(hl:jg E t.1.seq=none)
 (hm:a.eval m= .map (some r)) (hx:a.eval x= .int .i64 t.1.seq) (hv:a.eval v=UN t)
 (hK:∀w',kF w' r (E++[t])→w.grownBy w' (some r)→w'.heap.size=w.heap.size→wpList Tryz.prog ops Q rest (a.put o.dst undef) w'):wpList Tryz.prog ops Q (o :: rest) a w:=by
 refine wpList_plain hg fun K' hK'=> ?_
 obtain⟨w',hrun,r1,r2,r3⟩:=VM h t hl
 unfold Oper.wp
 simp[execOp,ho,hm,hx,hv,hrun,Result.andThen]
 exact hK' _ _ (hK w' r1 r2 r3)
def gN(w:World)(B:Nat)(A:Option Addr)(n c:Nat)(E:List (El Pg)):Prop:=w.ownsRow B 124 5 (.slice A n c) n (aN gY E)∧E.length=n
theorem gN.nil(w:World)(B:Nat):gN w B none 0 0 []:=⟨World.ownsRow_nil _ _ _ _,rfl⟩
theorem gN.below{w w':World}{B B1 n c:Nat}{A:Option Addr}{E:List (El Pg)}(h:gN w B A n c E)(hb:Below B1 w w')(hB:w.heap.size≤B1):gN w' B A n c E:=⟨aD h.1 hb hB,h.2⟩
theorem gN.base{w:World}{B B' n c:Nat}{A:Option Addr}{E:List (El Pg)}(h:gN w B A n c E)(hB:B'≤B):gN w B' A n c E:=⟨aO h.1 hB,h.2⟩
theorem gN.alloc{w:World}{B n c:Nat}{A:Option Addr}{E:List (El Pg)}(h:gN w B A n c E)(o:Obj):gN (w.alloc o) B A n c E:=⟨World.ownsRow.alloc h.1 o,h.2⟩
theorem gN.rd{w:World}{B n c:Nat}{A:Option Addr}{E:List (El Pg)}(h:gN w B A n c E)(hd:kH gY w w.heap.size E):iE gY w w.heap.size A E:=⟨ip h.1,hd⟩
theorem gN.kept{w w':World}{B n c:Nat}{A:Option Addr}{E:List (El Pg)}(h:gN w B A n c E)(hk:∀q,aj A=some q→w'.heap[q]? =w.heap[q]?):gN w' B A n c E:=
 ⟨ap h.1 fun q hq=>hk q (by rw[←ae A n c];exact hq),h.2⟩
theorem gN.lt{w:World}{B n c q:Nat}{A:Option Addr}{E:List (El Pg)}(h:gN w B A n c E)(hq:aj A=some q):B≤q∧q<w.heap.size:=agB h.1 q (by rw[ae];exact hq)
theorem TQ{ops:Array Oper}{rest:List Oper}{o:Oper}{a:Act}{Q:Exit→Act→World→Prop}(w2:World)(hgd:o.guard=none)(s x:Operand)
 (ho:o.op= .call {callee:=.builtin .append,args:=#[s,x],argTypes:=#[57,57]}) (W0:World) (A1:Option Addr) (n1 c1:Nat) (E:List (El Pg)) (hs:a.eval s= .slice A1 n1 c1) (hown:gN w2 W0.heap.size A1 n1 c1 E)
 (t:El Pg) (arr:Array Value) (fo:arr.toList=gY.enc t.1 t.2.1 t.2.2) (ty:TypeId)
 (hx:a.eval x= .slice (some ⟨w2.heap.size,0,none⟩) 1 1) (hsz:n1+1≤100000) (hb:Below W0.heap.size W0 w2)
 (h:∀A' c' w',gN w' W0.heap.size A' (n1+1) c' (E++[t])→Below W0.heap.size W0 w'→dl A1 w2 w'→(aj A'=aj A1∨aj A'=some (w2.heap.size+1))→wpList Tryz.prog ops Q rest (a.put o.dst (.slice A' (n1+1) c')) w'):wpList Tryz.prog ops Q (o :: rest) a (w2.alloc (.cells arr ty)):=by
 obtain⟨i0,cw,hz0,hz1,hz2⟩:=info_parts su
 refine aP _ hgd s x 57 ho W0.heap.size 124 i0 _ 5 40 Tryz.underlying57 cw hz0 hz1 hz2 rfl (by omega) _ n1 _ hs (hown.alloc _).1 (w2.heap.size+1) _ 1 1 (aN gY [t]) hx rfl (dr w2 _ _ _ (by rw[fo,iQ])) (fp gY _) (by simp only[maxLen];omega) (by omega) (ak hb _).size ?_
 intro A' c' w' h1 h2 h4
 exact h A' c' w' ⟨by rw[kA];exact h1,by rw[List.length_append,hown.2];rfl⟩ (aI (ak hb _) (hown.alloc _).1 h2 (ak hb _).size) (dl.lit h2) (by rw[ae,ae,World.size_alloc] at h4;exact h4)
def bD(E:List (El Pg))(s:Int):Nat→Nat×Int×List (El Pg)
 |0=>(0,0,[])
 |k+1=>match jg E (s+k)with
  |some t=>((bD E s k).1,(bD E s k).2.1,(bD E s k).2.2++[t])
  |none=>((bD E s k).1+1,s+k,(bD E s k).2.2)
theorem ic{E:List (El Pg)}{s:Int}{k:Nat}{t:El Pg}(h:jg E (s+k)=some t):bD E s (k+1)=((bD E s k).1,(bD E s k).2.1,(bD E s k).2.2++[t]):=by rw[bD,h]
theorem ie{E:List (El Pg)}{s:Int}{k:Nat}(h:jg E (s+k)=none):bD E s (k+1)=((bD E s k).1+1,s+k,(bD E s k).2.2):=by rw[bD,h]
theorem pH{E:List (El Pg)}{s:Int}:∀k,∀t∈(bD E s k).2.2,t∈E
 |0,t,ht=>by simp[bD] at ht
 |k+1,t,ht=>by
  cases h:jg E (s+k)with
  |none=>rw[ie h] at ht;exact pH k t ht
  |some u=>
   rw[ic h] at ht
   rcases agC.1 ht with h1 | h1
   ·exact pH k t h1
   ·rw[List.mem_singleton.1 h1];exact List.mem_of_find?_eq_some h
theorem pI{E:List (El Pg)}{s:Int}:∀k,(bD E s k).2.2.length≤k∧(bD E s k).1≤k
 |0=>by simp[bD]
 |k+1=>by
  have:=pI (E:=E) (s:=s) k
  cases h:jg E (s+k)with
  |none=>rw[ie h];dsimp only;omega
  |some u=>rw[ic h];dsimp only;rw[List.length_append];simp;omega
def Za(r:Nat×Int×List (El Pg))(w:World)(e:Ending)(w':World):Prop:=
 ∃A c,e= .returned (.tuple #[.int .i64 r.2.1,.slice A r.2.2.length c,.bool (decide (r.1=1))])∧gN w' w.heap.size A r.2.2.length c r.2.2∧Below w.heap.size w w'
theorem Rh(g:Pg)(nb:Nat)(E:List (El Pg))(r:Nat)(w:World)(hr:kF w r E)(Ag:Option Addr)(B cg:Nat)(hB:B≤w.heap.size)(hg:ag .u8 w B Ag g.body)(hg3:0<g.body.length)(UU:ix g.body 0=(nb:Int))(afq:nb≤8)(Yw:0≤g.seq∧g.seq≤2147483647):
 Calls Tryz.prog 62 #[ju g Ag cg,.map (some r)] w (Za (bD E g.seq nb) w):=by
 obtain⟨gs,gf,gl,gg,gb⟩:=g
 unfold ju
 dsimp only at*
 obtain⟨w1,bj⟩:∃w1,w1=w.alloc (.cells #[.int .i64 gs,.bool gf,.bool gl,.bool gg,.slice Ag gb.length cg] 124):=⟨_,rfl⟩
 have M1:Hid (w1.heap[w.heap.size]? =some (.cells #[.int .i64 gs,.bool gf,.bool gl,.bool gg,.slice Ag gb.length cg] 124 (0,0))):=by
  show _=_;rw[bj];exact ago w _
 have B1:Hid (Below w.heap.size w w1):=by rw[bj];exact aa (ak (ac w) _)
 have hR1:Hid (kF w1 r E):=hr.keep (B1.out.block r hr.lt)
 obtain⟨bg,og,rfl,hc0⟩:=(hg.below (B1.out.mono hB)).at_ (i:=0) (by omega)
 rw[UU,Nat.add_zero] at hc0
 obtain⟨⟨k0,k1,k2,k3,k4⟩,_⟩:=ay M1.out
 have HL:=aa (pI (E:=E) (s:=gs))
 have i0:=agp (nb:Int) (by omega)
 have i1:=agp (gs+(nb:Int)) (by omega)
 have g0:(0:Int)<(gb.length:Int):=by omega
 have HR:=aa hR1.out
 have xo:r<w1.heap.size:=hR1.out.lt
 clear hr hg UU hR1
 go_enter Tryz.func62,Tryz.ntmps62
 go_upto_region 1 with fail
 rw[←bj]
 clear bj
 go_wp2_with fail
 go_loopw [7,8,9,10,11,12] (fun ov mv sv iv _ _ wr=>(∃(k m n:Nat) (A':Option Addr) (c':Nat) (q:Int) (O:List (El Pg)),k≤nb∧iv= .int .i64 (gs+(k:Int))∧mv= .int .i64 m∧sv= .int .i64 q∧ov= .slice A' n c'∧gN wr w1.heap.size A' n c' O∧bD E gs k=(m,q,O))∧Below w1.heap.size w1 wr) (fun _ _ _ iv _ _ _=>nb+gs.toNat-(intOf iv).toNat)
 case atStart=>exact⟨⟨0,0,0,none,0,0,[],agw _,by simp,rfl,rfl,rfl,gN.nil _ _,rfl⟩,ac w1⟩
 case round=>
  obtain⟨⟨k,m,n,A2,c2,q,O,hk,rfl,rfl,rfl,rfl,hO,hS⟩,hb⟩:=hrel
  obtain⟨wo,rfl⟩:∃wo:World,wo=wr:=⟨_,rfl⟩
  have HO:=aa hO
  have HB:=aa hb
  have HS:=aa hS
  have hnm:n≤8∧m≤8:=by
   have h1:=HL.out k
   have h2:=hO.2
   rw[hS] at h1
   dsimp only at h1
   omega
  have y0:=later hb k0
  have y4:=later hb k4
  have yc:=later hb hc0
  have HRo:=aa (HR.out.keep (hb.block r xo))
  clear hO hb hS
  by_cases hlt:k<nb
  ·have hI:gs+(k:Int)<gs+(nb:Int):=by omega
   have i2:=agp (gs+(k:Int)+1) (by omega)
   go_wp2_with fail
   go_quiet (fail)
   obtain⟨w2,hw2⟩:∃w2,w2=wo.drewN nq:=⟨_,rfl⟩
   have B2:Hid (Below wo.heap.size wo w2):=by rw[hw2];exact aa (below_drewN (ac wo) _)
   have lX:=aa (HRo.out.keep (B2.out.block r HRo.out.lt))
   rw[←hw2]
   clear hw2 y0 y4 yc k0 k1 k2 k3 k4 hc0
   cases hl:jg E (gs+(k:Int))with
   |none=>
    have hrun:=zT lX.out hl
    have HN:=aa (ie hl)
    have i3:=agp ((m:Int)+1) (by omega)
    clear hl
    go_wp2_with fail
    rw[HS.out] at HN
    refine⟨⟨⟨k+1,m+1,n,A2,c2,gs+(k:Int),O,by omega,congrArg (Value.int .i64) (by omega),by go_num,rfl,rfl,(HO.out.below B2.out (agl _)).alloc _,HN.out⟩,ak (af HB.out B2.out) _⟩,by simp[intOf];omega⟩
   |some t=>
    have hrun:=zS lX.out hl
    have HN:=aa (ic hl)
    obtain⟨⟨ts,tf,tl,tg,tb⟩,At,ct⟩:=t
    unfold UN ju at hrun
    dsimp only at hrun
    clear hl
    have O2:=HO.out.below B2.out (agl _)
    have O3:=O2.alloc (.cells #[.int .i64 ts,.bool tf,.bool tl,.bool tg,.slice At tb.length ct] 124)
    have B3:Hid (Below w1.heap.size w1 w2):=af HB.out B2.out
    go_wp2_with (at_builtin;refine TQ _ rfl (.tmp 34) (.tmp 36) rfl w1 A2 n c2 O rfl O3 (⟨ts,tf,tl,tg,tb⟩,At,ct) _ rfl _ (by simp;rfl) (by omega) (ak B3.out _) ?_;intro A5 c5 w5 bT b5 kp kd)
    rw[HS.out] at HN
    refine⟨⟨⟨k+1,m,n+1,A5,c5,q,_,by omega,congrArg (Value.int .i64) (by omega),rfl,rfl,rfl,bT,HN.out⟩,b5⟩, ?_⟩
    all_goals (simp[intOf];omega)
  ·obtain rfl:k=nb:=by omega
   have hI:¬(gs+(k:Int)<gs+(k:Int)):=by omega
   go_wp2_with fail
   go_quiet (fail)
   go_wp2_with fail
   rw[HS.out]
   go_ret3
   have NL:O.length=n:=HO.out.2
   have hb1:((m:Int) == 1)=decide (m=1):=by
    by_cases h:m=1
    ·subst h;rfl
    ·rw[decide_eq_false h,beq_eq_false_iff_ne];omega
   refine⟨A2,c2, ?_, ?_,below_drewN (B1.out.trans (HB.out.mono B1.out.size)) _⟩
   ·show _=Ending.returned (.tuple #[.int .i64 q,.slice A2 O.length c2,.bool (decide (m=1))])
    rw[NL,←hb1]
    rfl
   ·show gN _ _ A2 O.length c2 O
    rw[NL]
    exact(HO.out.below (below_drewN (ac wo) nq) (agl _)).base B1.out.size
end
end Go.Proofs.YtbhfpehgacaidaaGreatDoor
