/- A part of the proof of the given statement TopRight. Conditions: none. -/
import Derived.Test.YtbhfpehgacaidaaGreatDoorQAF
namespace Go.Proofs.YtbhfpehgacaidaaGreatDoor
set_option linter.unusedVariables false
set_option linter.unusedSimpArgs false
set_option maxRecDepth 100000
set_option maxHeartbeats 8000000
section
open Go.RowKit
def dl(A:Option Addr)(w w':World):Prop:=(∀q,q<w.heap.size→aj A≠some q→w'.heap[q]? =w.heap[q]?)∧w.heap.size≤w'.heap.size
theorem dl.of{A:Option Addr}{n c:Nat}{w w':World}(h:w.grownBy w' (Value.slice A n c).ownBlock):dl A w w':=⟨fun q hq hne=>h.block q hq (fun e=>hne (by rw[←ae A n c];exact e.symm)),h.size⟩
theorem dl.lit{A:Option Addr}{n c:Nat}{w2 w':World}{o:Obj}(h:(w2.alloc o).grownBy w' (Value.slice A n c).ownBlock):dl A w2 w':=⟨fun q hq hne=>((dl.of h).1 q (by simp;omega) hne).trans (ags _ _ _ hq),agm (by simp) h.size⟩
theorem TS{ops:Array Oper}{rest:List Oper}{o:Oper}{a:Act}{Q:Exit→Act→World→Prop}(w2:World)(hgd:o.guard=none)(s x:Operand)
 (ho:o.op= .call {callee:=.builtin .append,args:=#[s,x],argTypes:=#[57,57]}) (W0:World) (A1:Option Addr) (n1 c1:Nat) (E:List (El Pg)) (hs:a.eval s= .slice A1 n1 c1) (hown:ik w2 W0.heap.size A1 n1 c1 E)
 (p:Pg) (A3:Option Addr) (B3 c3:Nat) (h3:aq w2 B3 A3 p.body.length c3 p.body) (hB3:W0.heap.size≤B3) (Jc:∀q,aj A3=some q→aj A1≠some q) (arr:Array Value) (fo:arr.toList=gY.enc p A3 c3) (ty:TypeId)
 (hx:a.eval x= .slice (some ⟨w2.heap.size,0,none⟩) 1 1) (hsz:n1+1≤100000) (hb:Below W0.heap.size W0 w2)
 (h:∀A' c' w',ik w' W0.heap.size A' (n1+1) c' (E++[(p,A3,c3)])→Below W0.heap.size W0 w'→dl A1 w2 w'→(aj A'=aj A1∨aj A'=some (w2.heap.size+1))→wpList Tryz.prog ops Q rest (a.put o.dst (.slice A' (n1+1) c')) w'):wpList Tryz.prog ops Q (o :: rest) a (w2.alloc (.cells arr ty)):=by
 obtain⟨i0,cw,hz0,hz1,hz2⟩:=info_parts su
 have hF:kH gY (w2.alloc (.cells arr ty)) (w2.alloc (.cells arr ty)).heap.size [(p,A3,c3)]:=fun t ht=>by
  rw[List.mem_singleton] at ht
  subst ht
  exact(h3.ints.below (ak (ac w2) _)).more (ak (ac w2) _).size
 have YB:∀t∈[(p,A3,c3)],∀q,aj t.2.1=some q→W0.heap.size≤q∧q<(w2.alloc (.cells arr ty)).heap.size∧aj A1≠some q:=fun t ht q hq=>by
  rw[List.mem_singleton] at ht
  subst ht
  have h1:=agB h3 q (by rw[ae];exact hq)
  exact⟨by omega,by simp;omega,Jc q hq⟩
 refine aP _ hgd s x 57 ho W0.heap.size 124 i0 _ 5 40 Tryz.underlying57 cw hz0 hz1 hz2 rfl (by omega) _ n1 _ hs (hown.alloc _).row (w2.heap.size+1) _ 1 1 (aN gY [(p,A3,c3)]) hx rfl (dr w2 _ _ _ (by rw[fo,iQ])) (fp gY _) (by simp only[maxLen];omega) (by omega) (ak hb _).size ?_
 intro A' c' w' h1 h2 h4
 refine h A' c' w' ((hown.alloc _).push hF YB (fun t ht=>by rw[List.mem_singleton] at ht;subst ht;exact bJ h3) rfl h1 h2 h4) (aI (ak hb _) (hown.alloc _).row h2 (ak hb _).size) (dl.lit h2) ?_
 ·rw[ae,ae] at h4
  rw[World.size_alloc] at h4
  exact h4
abbrev Hl:=Int×Int
def jH(L:List Hl):List Value:=L.flatMap fun h=>[.int .i64 h.1,.int .i64 h.2]
theorem Ol(L M:List Hl):jH (L++M)=jH L++jH M:=by simp[jH]
theorem Oj(L:List Hl):(jH L).length=L.length*2:=by
 induction L with
 |nil=>rfl
 |cons a L ih=>simp only[jH,List.flatMap_cons,List.length_append,List.length_cons] at ih ⊢;rw[ih];simp;omega
def gP(w:World)(B:Nat)(A:Option Addr)(n c:Nat)(L:List Hl):Prop:=w.ownsRow B 68 2 (.slice A n c) n (jH L)∧L.length=n
theorem gP.nil(w:World)(B:Nat):gP w B none 0 0 []:=⟨World.ownsRow_nil _ _ _ _,rfl⟩
theorem gP.below{w w':World}{B B1 n c:Nat}{A:Option Addr}{L:List Hl}(h:gP w B A n c L)(hb:Below B1 w w')(hB:w.heap.size≤B1):gP w' B A n c L:=⟨aD h.1 hb hB,h.2⟩
theorem gP.base{w:World}{B B' n c:Nat}{A:Option Addr}{L:List Hl}(h:gP w B A n c L)(hB:B'≤B):gP w B' A n c L:=⟨aO h.1 hB,h.2⟩
theorem gP.alloc{w:World}{B n c:Nat}{A:Option Addr}{L:List Hl}(h:gP w B A n c L)(o:Obj):gP (w.alloc o) B A n c L:=⟨World.ownsRow.alloc h.1 o,h.2⟩
theorem gP.drew{w:World}{B n c:Nat}{A:Option Addr}{L:List Hl}(h:gP w B A n c L):gP w.drew B A n c L:=h
theorem Ai:(Tryz.prog.info? 68).map (fun i=>(i.zero,i.size,i.bytes))=some (some (.agg #[.int .i64 0,.int .i64 0]),2,16):=by kernel_rfl
theorem TR{ops:Array Oper}{rest:List Oper}{o:Oper}{a:Act}{Q:Exit→Act→World→Prop}(w2:World)(hgd:o.guard=none)(s x:Operand)
 (ho:o.op= .call {callee:=.builtin .append,args:=#[s,x],argTypes:=#[29,29]}) (W0:World) (A1:Option Addr) (n1 c1:Nat) (L:List Hl) (hs:a.eval s= .slice A1 n1 c1) (hown:gP w2 W0.heap.size A1 n1 c1 L)
 (h0 h9:Int) (arr:Array Value) (fo:arr.toList=[.int .i64 h0,.int .i64 h9]) (ty:TypeId)
 (hx:a.eval x= .slice (some ⟨w2.heap.size,0,none⟩) 1 1) (hsz:n1+1≤100000) (hb:Below W0.heap.size W0 w2)
 (h:∀A' c' w',gP w' W0.heap.size A' (n1+1) c' (L++[(h0,h9)])→Below W0.heap.size W0 w'→dl A1 w2 w'→wpList Tryz.prog ops Q rest (a.put o.dst (.slice A' (n1+1) c')) w'):wpList Tryz.prog ops Q (o :: rest) a (w2.alloc (.cells arr ty)):=by
 obtain⟨i0,cw,hz0,hz1,hz2⟩:=info_parts Ai
 refine aP _ hgd s x 29 ho W0.heap.size 68 i0 _ 2 16 Tryz.underlying29 cw hz0 hz1 hz2 rfl (by omega) _ n1 _ hs (hown.alloc _).1 (w2.heap.size+1) _ 1 1 (jH [(h0,h9)]) hx rfl (dr w2 _ _ _ fo) (fun u hu=> ?_) (by simp only[maxLen];omega) (by omega) (ak hb _).size ?_
 ·simp[jH] at hu
  rcases hu with rfl | rfl <;> rfl
 ·intro A' c' w' h1 h2 h3
  exact h A' c' w' ⟨by rw[Ol];exact h1,by rw[List.length_append,hown.2];rfl⟩ (aI (ak hb _) (hown.alloc _).1 h2 (ak hb _).size) (dl.lit h2)
theorem gP.ne{w:World}{B n c q:Nat}{A:Option Addr}{L:List Hl}(h:gP w B A n c L)(hq:w.heap.size≤q):aj A≠some q:=fun e=>by
 have:=agB h.1 q (by rw[ae];exact e)
 omega
def dK:List Pg→Int→List Hl×Int
 |[],nx=>([],nx)
 |p :: P,nx=>let r:=dK P (p.seq+1);((if nx<p.seq then [(nx,p.seq-1)] else [])++r.1,r.2)
def jQ(P:List Pg)(qo:Int):List Hl:=(dK P 0).1++(if (dK P 0).2≤qo then [((dK P 0).2,qo)] else [])
theorem t8:∀(P:List Pg) (p:Pg) (nx:Int),dK (P++[p]) nx=((dK P nx).1++(if (dK P nx).2<p.seq then [((dK P nx).2,p.seq-1)] else []),p.seq+1)
 |[],p,nx=>by
  simp only[List.nil_append,dK,List.append_nil]
  rfl
 |q :: P,p,nx=>by
  simp only[List.cons_append,dK,t8 P p,List.append_assoc]
  rfl
theorem xp:∀(P:List Pg) (nx:Int),(dK P nx).1.length≤P.length
 |[],nx=>by simp[dK]
 |q :: P,nx=>by
  have:=xp P (q.seq+1)
  simp only[dK,List.length_append,List.length_cons]
  split <;> simp <;> omega
theorem EF{P:List Pg}{k:Nat}(h:k<P.length):dK (P.take (k+1)) 0=((dK (P.take k) 0).1++(if (dK (P.take k) 0).2<P[k].seq then [((dK (P.take k) 0).2,P[k].seq-1)] else []),P[k].seq+1):=by
 rw[agx h,t8]
def abp(L:List Hl)(w:World)(e:Ending)(w':World):Prop:=∃A c,e= .returned (.slice A L.length c)∧gP w' w.heap.size A L.length c L∧Below w.heap.size w w'
theorem NJ(E:List (El Pg))(n:Nat)(hn:n=E.length)(hm:n≤400)(hs:∀t∈E,0≤t.1.seq∧t.1.seq≤2147483647)(qo:Int)(A:Option Addr)(B c:Nat)(w:World)(hB:B≤w.heap.size)(ha:iE gY w B A E):
 Calls Tryz.prog 66 #[.slice A n c,.int .i64 qo] w (abp (jQ (E.map (·.1)) qo) w):=by
 have Hn:=aa hn
 have nS:(E.map (·.1)).length=n:=by simp[hn]
 clear hn
 obtain⟨P,hP⟩:∃P,P=E.map (·.1):=⟨_,rfl⟩
 rw[←hP] at nS ⊢
 have HP:=aa hP
 have pZ:=aa nS
 clear hP nS
 go_enter Tryz.func66,Tryz.ntmps66
 go_wp2_with fail
 go_loopw [5,6,8,11] (fun ov nv _ iv wr=>(∃(i k:Nat) (nx:Int) (A':Option Addr) (c':Nat) (L:List Hl),i≤n∧k≤i∧iv= .int .i64 i∧ov= .slice A' k c'∧nv= .int .i64 nx∧0≤nx∧nx≤2147483648∧gP wr w.heap.size A' k c' L∧dK (P.take i) 0=(L,nx))∧Below w.heap.size w wr) (fun _ _ _ iv _=>n-(intOf iv).toNat)
 case atStart=>exact⟨⟨0,0,0,none,0,[],agw _,agw _,rfl,rfl,rfl,by omega,by omega,gP.nil _ _,rfl⟩,ac w⟩
 case round=>
  obtain⟨⟨i,k,nx,A2,c2,L,hi,hki,rfl,rfl,rfl,adQ,afk,hO,hR⟩,hb⟩:=hrel
  obtain⟨wo,rfl⟩:∃wo:World,wo=wr:=⟨_,rfl⟩
  have HO:=aa hO
  have HB:=aa hb
  have HR:=aa hR
  clear hO hb hR
  by_cases hlt:i<n
  ·have dv:i<E.length:=by have:=Hn.out;omega
   have Gp:i<P.length:=by have:=pZ.out;omega
   have hI:(i:Int)<(n:Int):=by omega
   have ha2:=ha.below (HB.out.mono hB)
   obtain⟨b,off,rfl,sQ,x0,x1,x2,x3,x4⟩:=jb ha2 dv
   have Yw:=hs _ (agt dv)
   have hst:=EF Gp
   have qd:P[i]=E[i].1:=by simp[HP.out]
   rw[qd,HR.out] at hst
   dsimp only at hst
   generalize E[i]=t at*
   obtain⟨⟨sq,f,l,gd,bd⟩,Ad,cd⟩:=t
   dsimp only at*
   have fG:=aa hst
   have i1:=agp (sq-1) (by omega)
   have i2:=agp (sq+1) (by omega)
   clear hst qd ha2
   by_cases hgt:nx<sq
   ·rw[if_pos hgt] at fG
    have acB:sq > nx:=hgt
    have Mo:=aa (ago wo (.cells #[.int .i64 sq,.bool f,.bool l,.bool gd,.slice Ad bd.length cd] 124))
    have hO2:=(HO.out.alloc (.cells #[.int .i64 sq,.bool f,.bool l,.bool gd,.slice Ad bd.length cd] 124))
    go_wp2_with (at_builtin;refine TR _ rfl (.tmp 19) (.tmp 25) rfl w A2 k c2 L rfl hO2 nx (sq-1) _ rfl _ (by simp;rfl) (by omega) (ak HB.out _) ?_;intro A5 c5 w5 bT b5 kp;obtain⟨⟨k0,k1,k2,k3,k4⟩,_⟩:=ay ((kp.1 wo.heap.size (by simp) (HO.out.ne (agl _))).trans Mo.out))
    refine⟨⟨⟨i+1,k+1,sq+1,A5,c5,L++[(nx,sq-1)],by omega,by omega,by go_num,rfl,rfl,by omega,by omega,bT,fG.out⟩,b5⟩,by simp[intOf];omega⟩
   ·rw[if_neg hgt,List.append_nil] at fG
    have acB:¬sq > nx:=hgt
    go_wp2_with fail
    refine⟨⟨⟨i+1,k,sq+1,A2,c2,L,by omega,by omega,by go_num,rfl,rfl,by omega,by omega,HO.out.alloc _,fG.out⟩,ak HB.out _⟩,by simp[intOf];omega⟩
  ·obtain rfl:i=n:=by omega
   have hI:¬((i:Int)<(i:Int)):=by omega
   have hR:=HR.out
   rw[List.take_of_length_le (by rw[pZ.out];exact agl _)] at hR
   have hf:jQ P qo=L++(if nx≤qo then [(nx,qo)] else []):=by unfold jQ;rw[hR]
   by_cases ht:nx≤qo
   ·have Gf:qo≥nx:=ht
    rw[if_pos ht] at hf
    have Hf:=aa hf
    have hl:Hid ((jQ P qo).length=k+1):=by show _=_;rw[hf,List.length_append,HO.out.2];rfl
    clear hf hR HR
    go_wp2_with (at_builtin;refine TR _ rfl (.tmp 34) (.tmp 38) rfl w A2 k c2 L rfl HO.out nx qo _ rfl _ rfl (by omega) HB.out ?_;intro A5 c5 w5 bT b5 kp)
    go_ret
    refine⟨A5,c5, ?_, ?_,b5⟩
    ·rw[hl.out];rfl
    ·rw[hl.out,Hf.out];exact bT
   ·have Gf:¬qo≥nx:=ht
    rw[if_neg ht,List.append_nil] at hf
    have Hf:=aa hf
    have hl:Hid ((jQ P qo).length=k):=by show _=_;rw[hf];exact HO.out.2
    clear hf hR HR
    go_wp2_with fail
    go_ret
    refine⟨A2,c2, ?_, ?_,HB.out⟩
    ·rw[hl.out];rfl
    ·rw[hl.out,Hf.out];exact HO.out
def oG(w:World)(g:Nat):Option Nat:=match w.cell? ⟨g,0,none⟩with | some (.slice A _ _)=>aj A | _=>none
def WB(w:World)(g:Nat)(bs:List Bool):Prop:=
 ∃A c,w.heap[g]? =some (.cells #[.slice A (aT bs).length c,.int .i64 (bs.length:Int)] 176 (0,0))∧aq w (g+1) A (aT bs).length c (aT bs)
structure WK (g:Nat) (w w':World):Prop where
 kp:Kp (fun q=>q=g∨oG w g=some q) w w'
 row:∀q,oG w' g=some q→oG w g=some q∨w.heap.size≤q
theorem WK.refl(g:Nat)(w:World):WK g w w:=⟨Kp.refl _ _,fun _ h=>.inl h⟩
theorem WK.trans{g:Nat}{w w1 w2:World}(h:WK g w w1)(k:WK g w1 w2):WK g w w2:=
 ⟨⟨k.kp.os.trans h.kp.os,k.kp.tape.trans h.kp.tape,k.kp.output.trans h.kp.output,agm h.kp.size k.kp.size,fun q hq hS=>(k.kp.block q (agz hq h.kp.size) fun e=>by
  rcases e with e | e
  ·exact hS (.inl e)
  ·rcases h.row q e with e | e
   ·exact hS (.inr e)
   ·omega).trans (h.kp.block q hq hS)⟩,
  fun q hq=>by
   rcases k.row q hq with e | e
   ·exact h.row q e
   ·exact .inr (agm h.kp.size e)⟩
theorem WK.drewN{g:Nat}{w w':World}(h:WK g w w')(n:Nat):WK g w (w'.drewN n):=⟨h.kp.drewN n,h.row⟩
theorem WB.drewN{g:Nat}{w:World}{bs:List Bool}(h:WB w g bs)(n:Nat):WB (w.drewN n) g bs:=h
theorem WB.lt{g:Nat}{w:World}{bs:List Bool}(h:WB w g bs):g<w.heap.size:=by
 obtain⟨A,c,h1,h2⟩:=h
 exact(agn.1 h1).1
theorem jZ{w:World}{g n c:Nat}{A:Option Addr}{x:Value}{t:TypeId}(h:w.heap[g]? =some (.cells #[.slice A n c,x] t (0,0))):oG w g=aj A:=by
 unfold oG;rw[agu _ _ _ _ _ _ h];rfl
theorem WB.row{g:Nat}{w:World}{bs:List Bool}(h:WB w g bs){q:Nat}(hq:oG w g=some q):g<q∧q<w.heap.size:=by
 obtain⟨A,c,h1,h2⟩:=h
 rw[jZ h1] at hq
 have:=agB h2 q (by rw[ae];exact hq)
 omega
theorem WK.below{g B:Nat}{w w':World}{bs:List Bool}(h:WK g w w')(hb:WB w g bs)(hB:B≤g):Below B w w':=
 h.kp.below (fun q hq=>by rcases hq with rfl | hq;exact hB;exact agm hB (Nat.le_of_lt (hb.row hq).1)) (agm hB (Nat.le_of_lt hb.lt))
structure F5 (w:World) (g b:Nat):Prop where
 ne:b≠g
 row:oG w g≠some b
 lt:b<w.heap.size
theorem F5.keep{w w':World}{g b:Nat}(h:F5 w g b)(k:WK g w w'):F5 w' g b∧w'.heap[b]? =w.heap[b]? :=
 ⟨⟨h.ne,fun e=>by
  rcases k.row b e with e | e
  ·exact h.row e
  ·have:=h.lt;omega,agz h.lt k.kp.size⟩,k.kp.block b h.lt fun e=>by rcases e with e | e;exact h.ne e;exact h.row e⟩
theorem WB.keep{w w':World}{g:Nat}{bs:List Bool}(h:WB w g bs)(hb:Below w.heap.size w w'):WB w' g bs:=by
 have hlt:=h.lt
 obtain⟨A,c,h1,h2⟩:=h
 exact⟨A,c,(hb.block g hlt).trans h1,h2.below hb (agl _)⟩
theorem wj{w w':World}{g:Nat}(hg:g<w.heap.size)(hb:Below w.heap.size w w'):oG w' g=oG w g:=by
 unfold oG;rw[hb.cell (p:=⟨g,0,none⟩) hg]
theorem WK.later{g:Nat}{w w1 w2:World}(h:WK g w w1)(hg:g<w1.heap.size)(hb:Below w1.heap.size w1 w2):WK g w w2:=
 h.trans ⟨Kp.of_below hb,fun q hq=>.inl (by rw[wj hg hb] at hq;exact hq)⟩
theorem WK.of_below{g:Nat}{w w2:World}(hg:g<w.heap.size)(hb:Below w.heap.size w w2):WK g w w2:=(WK.refl g w).later hg hb
def tG(g:Nat)(bs:List Bool)(v:Value)(w:World)(e:Ending)(w':World):Prop:=e= .returned v∧WB w' g bs∧WK g w w'
theorem aB{W:World}{g:Nat}{v0 v1:Value}{ty:TypeId}(h:W.heap[g]? =some (.cells #[v0,v1] ty (0,0))):
 (W.cell? ⟨g,0,none⟩=some v0∧W.cell? ⟨g,1,none⟩=some v1)∧W.frozen? ⟨g,0,none⟩=false∧W.frozen? ⟨g,1,none⟩=false:=
 ⟨⟨(agu _ _ _ _ _ _ h).trans rfl,(agu _ _ _ _ _ _ h).trans rfl⟩,agv W g 0 _ _ h,agv W g 1 _ _ h⟩
theorem TP{ops:Array Oper}{rest:List Oper}{o:Oper}{a:Act}{Q:Exit→Act→World→Prop}(w2:World)(hgd:o.guard=none)(s x:Operand)
 (ho:o.op= .call {callee:=.builtin .append,args:=#[s,x],argTypes:=#[22,22]}) (B:Nat) (A1:Option Addr) (n1 c1:Nat) (L:List Int) (hs:a.eval s= .slice A1 n1 c1) (hown:aq w2 B A1 n1 c1 L)
 (i:Int) (arr:Array Value) (fo:arr.toList=[.int .u8 i]) (ty:TypeId)
 (hx:a.eval x= .slice (some ⟨w2.heap.size,0,none⟩) 1 1) (hsz:n1+1≤1000000) (hB:B≤w2.heap.size)
 (h:∀A' c' w',aq w' B A' (n1+1) c' (L++[i])→dl A1 w2 w'→Below B w2 w'→(aj A'=aj A1∨aj A'=some (w2.heap.size+1))→wpList Tryz.prog ops Q rest (a.put o.dst (.slice A' (n1+1) c')) w'):wpList Tryz.prog ops Q (o :: rest) a (w2.alloc (.cells arr ty)):=by
 obtain⟨i0,cw,hz0,hz1,hz2⟩:=info_parts fD
 refine aP _ hgd s x 22 ho B 5 i0 _ 1 1 Tryz.underlying22 cw hz0 hz1 hz2 rfl (by omega) _ n1 _ hs (hown.alloc _) (w2.heap.size+1) _ 1 1 [.int .u8 i] hx (by rfl) (dr w2 _ _ _ fo) (fun u hu=>by rw[List.mem_singleton] at hu;subst hu;rfl) (by simp only[maxLen];omega) (by omega) (by simp;omega) ?_
 intro A' c' w' h1 h2 h3
 refine h A' c' w' ?_ (dl.lit h2) (aI ((ak (ac w2) _).mono hB) (hown.alloc _) h2 (by simp;omega)) ?_
 ·unfold aq
  rw[List.map_append]
  exact h1
 ·rw[ae,ae] at h3
  simpa using h3
theorem LJ(l l0:List Int)(s j r:Nat)(hr:r<8)(hs:s=8*j+r)(Gg:s≤4000000)(b:Bool)(xb:Nat)(Gd:xb<256)(hl0:l0=if r=0 then l++[0] else l)(hlen:l0.length=j+1)(hix:ix l0 j=(xb:Int))
 (Ae:bits .or .u8 (xb:Int) ((2 ^ (7-r)*b.toNat:Nat):Int)=((xb+2 ^ (7-r)*b.toNat:Nat):Int)) (g:Nat) (A:Option Addr) (c:Nat) (w:World)
 (hg:w.heap[g]? =some (.cells #[.slice A l.length c,.int .i64 (s:Int)] 176 (0,0))) (ho:aq w (g+1) A l.length c l):
 Calls Tryz.prog 148 #[.pointer (some ⟨g,0,none⟩),.int .u8 (bI b)] w fun e w'=>e= .returned (.tuple #[])∧(∃A' c',w'.heap[g]? =some (.cells #[.slice A' (j+1) c',.int .i64 ((s:Int)+1)] 176 (0,0))∧aq w' (g+1) A' (j+1) c' (l0.set j ((xb+2 ^ (7-r)*b.toNat:Nat):Int)))∧WK g w w':=by
 have UW:g<w.heap.size:=(agn.1 hg).1
 have Hg:=aa hg
 have HO:=aa ho
 have hrow:=aa (jZ hg)
 obtain⟨⟨c0,c1⟩,f0,f1⟩:=aB hg
 have e2:(s:Int)%8=(r:Int):=by omega
 have e1:(s:Int)/8=(j:Int):=by omega
 have t4:(s:Int).tmod 8=(r:Int):=by rw[Int.tmod_eq_emod_of_nonneg (by omega)];exact e2
 have HN:=aa hlen
 have HL:=aa hl0
 have HX:=aa hix
 have Hor:=aa Ae
 have Hs:=aa hs
 have Hlb:Hid (l.length+1≤1000000):=aa (by
  have:=hlen
  rw[hl0] at this
  split at this
  ·simp at this;omega
  ·omega)
 clear hg ho hlen hl0 hix Ae hs
 go_enter Tryz.func148,Tryz.ntmps148
 go_upto_if 9 with fail
 go_cut [10] (fun _ wx=>∃(A':Option Addr) (c':Nat),wx.heap[g]? =some (.cells #[.slice A' (j+1) c',.int .i64 (s:Int)] 176 (0,0))∧aq wx (g+1) A' (j+1) c' l0∧WK g w wx)
 case first=>
  go_wp2_with (at_builtin;refine TP w rfl (.tmp 14) (.tmp 15) rfl (g+1) A l.length c l rfl HO.out (0:Int) _ rfl _ rfl Hlb.out (by omega) ?_;intro A6 c6 w6 dC kp6 b6 at6;have M6:=(b6.block g (by omega)).trans Hg.out;obtain⟨⟨k0,k1⟩,z0,z1⟩:=aB M6)
  all_goals go_meet
  ·have h0:r=0:=by
    have h1:((r:Int) == 0)=true:=by assumption
    have:=eq_of_beq h1
    omega
   have hz:l0=l++[0]:=by rw[HL.out,if_pos h0]
   have hlj:l.length=j:=by have:=HN.out;rw[hz,List.length_append] at this;simpa using this
   rw[hz]
   rw[hlj] at dC M6 ⊢
   have hS:(w6.setCell ⟨g,0,none⟩ (.slice A6 (j+1) c6)).heap[g]? =some (.cells #[.slice A6 (j+1) c6,.int .i64 (s:Int)] 176 (0,0)):=by rw[agA _ g 0 _ _ _ M6];rfl
   have hq6:∀q,aj A6=some q→g<q∧q<w6.heap.size:=fun q hq=>by
    have:=agB dC q (by rw[ae];exact hq)
    omega
   refine⟨A6,c6,hS,ap dC fun q hq=>agr _ _ _ _ ?_,⟨⟨b6.os,b6.tape,b6.output,by simp[World.setCell];exact b6.size,fun q hq hS=> ?_⟩,fun q hq=> ?_⟩⟩
   ·rw[ae] at hq
    have:=(hq6 q hq).1
    show q≠g
    omega
   ·rw[hrow.out] at hS
    exact(agr _ _ _ _ (fun e=>hS (.inl e))).trans (kp6.1 q hq fun e=>hS (.inr e))
   ·rw[jZ hS] at hq
    rw[hrow.out]
    rcases at6 with e | e
    ·exact .inl (by rw[←e];exact hq)
    ·rw[e] at hq;injection hq with hq;exact .inr (by omega)
  ·rename_i h1
   have h0:r≠0:=fun h=>by subst h;exact absurd h1 (by decide)
   have hz:l0=l:=by rw[HL.out,if_neg h0]
   have hlj:=HN.out
   rw[hz] at hlj ⊢
   rw[←hlj]
   exact⟨A,c,Hg.out,HO.out,WK.refl _ _⟩
 case rest=>
  obtain⟨A',c',hg,ho,hwk⟩:=hcut
  have HG:=aa hg
  have Uz:=aa ho
  have HW:=aa hwk
  clear c0 c1 f0 f1
  obtain⟨⟨c0,c1⟩,f0,f1⟩:=aB hg
  obtain⟨ga,rfl,NQ,NP⟩:=nL ho (by omega)
  have d1:=kj ho (show j<j+1 by omega)
  rw[HX.out] at d1
  have d2:=World.ownsRow.frozenAt ho j
  have hne:ga≠g:=by omega
  have i1:=agp ((s:Int)+1) (by omega)
  have i2:IntKind.i64.wrap (7-(r:Int))=((7-r:Nat):Int):=by rw[agp _ (by omega)];omega
  obtain⟨q,hq⟩:∃q,q=7-r:=⟨_,rfl⟩
  rw[←hq] at i2
  have YD:q≤7:=by omega
  have HQ:=aa hq
  have t1:=agp (j:Int) (by omega)
  have t2:(0:Int)≤(j:Int):=by omega
  have t3:(j:Int).toNat=j:=by omega
  have t6:(j:Int)<((j+1:Nat):Int):=by omega
  obtain⟨n1,hn1⟩:∃n1,n1=j+1:=⟨_,rfl⟩
  rw[←hn1] at hg ho c0 HG Uz t6
  have t7:j<n1:=by omega
  have HN1:=aa hn1
  clear hg ho hwk hq hn1
  go_wp2_with fail
  go_still_tail 21,(by kernel_rfl)
  go_wp2_with fail
  go_end0
  have hp8:(2:Nat) ^ q≤128:=Nat.pow_le_pow_right (n:=2) (by omega) YD
  have YR:bI b*2 ^ q%256=((2 ^ (7-r)*b.toNat:Nat):Int):=by
   rw[←HQ.out]
   have e:(2:Int) ^ q=((2 ^ q:Nat):Int):=by simp
   rw[e]
   generalize (2:Nat) ^ q=z at*
   cases b
   ·simp[bI]
   ·simp only[bI,if_pos,Int.one_mul,Bool.toNat_true,Nat.mul_one];omega
  rw[YR,Hor.out]
  obtain⟨y,hy⟩:∃y,y=((xb+2 ^ (7-r)*b.toNat:Nat):Int):=⟨_,rfl⟩
  rw[←hy,←HN1.out]
  have hM:(wc.setCell ⟨ga,j,none⟩ (.int .u8 y)).heap[g]? =some (.cells #[.slice (some ⟨ga,0,none⟩) n1 c',.int .i64 (s:Int)] 176 (0,0)):=(agr wc ⟨ga,j,none⟩ _ g (Ne.symm hne)).trans HG.out
  have hM2:((wc.setCell ⟨ga,j,none⟩ (.int .u8 y)).setCell ⟨g,1,none⟩ (.int .i64 ((s:Int)+1))).drew.heap[g]? =some (.cells #[.slice (some ⟨ga,0,none⟩) n1 c',.int .i64 ((s:Int)+1)] 176 (0,0)):=(agA _ g 1 _ _ _ hM).trans rfl
  refine⟨rfl,⟨some ⟨ga,0,none⟩,c',hM2,ap (qC Uz.out j y) fun q hq=>agr _ _ _ _ (by have yJ:ga=q:=Option.some.inj hq;show q≠g;omega)⟩,HW.out.trans ⟨((Kp.refl _ wc).set_ (p:=⟨ga,j,none⟩) ?_ _ |>.set_ (p:=⟨g,1,none⟩) ?_ _).drew,fun q hq=>.inl ?_⟩⟩
  ·exact .inr (jZ HG.out)
  ·exact .inl rfl
  ·rw[jZ hM2] at hq
   rw[jZ HG.out]
   exact hq
theorem qm(bs:List Bool)(b:Bool)(hs:bs.length≤4000000)(g:Nat)(w:World)(h:WB w g bs):
 Calls Tryz.prog 148 #[.pointer (some ⟨g,0,none⟩),.int .u8 (bI b)] w (tG g (bs++[b]) (.tuple #[]) w):=by
 obtain⟨A,c,hg,ho⟩:=h
 obtain⟨j,r,hjr,hr⟩:∃j r,bs.length=8*j+r∧r<8:=⟨bs.length/8,bs.length%8,by omega,by omega⟩
 have acF:(aT (bs++[b])).length=j+1:=by rw[bP,List.length_append];simp only[List.length_cons,List.length_nil];omega
 refine(LJ (aT bs) _ bs.length j r hr hjr hs b (fE bs j) (ra bs j) rfl ?_ ?_ (V9 bs b j r hjr hr) g A c w hg ho).mono ?_
 ·split
  ·rw[List.length_append,bP];simp only[List.length_cons,List.length_nil];omega
  ·rw[bP];omega
 ·split
  ·rw[uD (by rw[bP];omega),Ow (by omega),bP,show j-(bs.length+7)/8=0 by omega];rfl
  ·rw[lu (by omega)]
 ·rintro e w' ⟨rfl,⟨A',c',h1,h2⟩,h3⟩
  refine⟨rfl,⟨A',c', ?_, ?_⟩,h3⟩
  ·rw[acF,List.length_append];exact h1
  ·rw[acF,Cw bs b j r hjr hr];exact h2
def eG(l:List Int)(p:Nat):Nat→Nat
 |0=>0
 |n+1=>2*eG l p n+FH l (p+n)
theorem Ll(l:List Int)(i:Nat):FH l i<2:=Nat.mod_lt _ (by decide)
theorem nT(l:List Int)(p:Nat):∀n,eG l p n<2 ^ n
 |0=>by simp[eG]
 |n+1=>by
  have h1:=nT l p n
  have h2:=Ll l (p+n)
  rw[eG,Nat.pow_succ]
  omega
theorem ZN{v b:Nat}(hv:v<4294967296)(hb:b<2):bits .or .u64 ((v:Int)*2) (b:Int)=((2*v+b:Nat):Int):=by
 have Ae:v*2 ||| b=v*2+b:=by
  have:=Nat.two_pow_add_eq_or_of_lt (show b<2 ^ 1 by omega) v
  rw[Nat.mul_comm v,show (2:Nat)=2 ^ 1 by rfl];exact this.symm
 show IntKind.u64.wrap ((BitVec.ofInt 64 ((v:Int)*2) ||| BitVec.ofInt 64 (b:Int)).toNat:Int)=_
 have e2:(v:Int)*2=((v*2:Nat):Int):=by simp
 rw[e2,BitVec.toNat_or,BitVec.ofInt_natCast,BitVec.ofInt_natCast,BitVec.toNat_ofNat,BitVec.toNat_ofNat,Nat.mod_eq_of_lt (by omega),Nat.mod_eq_of_lt (by omega),Ae]
 rw[IntKind.wrap_u64]
 omega
structure Kg (g:Nat) (w w':World):Prop where
 k:Kp (fun q=>q=g) w w'
 z:w'.cell? ⟨g,0,none⟩=w.cell? ⟨g,0,none⟩
theorem Kg.refl(g:Nat)(w:World):Kg g w w:=⟨Kp.refl _ w,rfl⟩
theorem Kg.trans{g:Nat}{w w' w'':World}(h:Kg g w w')(h2:Kg g w' w''):Kg g w w'':=⟨h.k.trans h2.k,h2.z.trans h.z⟩
theorem Kg.drewN{g:Nat}{w w':World}(h:Kg g w w')(n:Nat):Kg g w (w'.drewN n):=⟨h.k.drewN n,h.z⟩
theorem Kg.set1{g:Nat}{w w':World}(h:Kg g w w')(v:Value):Kg g w (w'.setCell ⟨g,1,none⟩ v):=
 ⟨h.k.set_ rfl _,(World.cell?_setCell_other _ _ _ _ (by intro e;simp only[Addr.mk.injEq] at e;omega)).trans h.z⟩
theorem Kg.of_below{g:Nat}{w w':World}(h:Below w.heap.size w w')(hg:g<w.heap.size):Kg g w w':=⟨Kp.of_below h,h.cell (p:=⟨g,0,none⟩) hg⟩
def UF(l:List Int)(p n g:Nat)(w:World)(e:Ending)(w':World):Prop:=
 e= .returned (.int .u64 (eG l p n:Int))∧cG w' g l (p+n) 0∧Kg g w w'
theorem Xw(l:List Int)(hby:aH l)(hl:l.length≤50000)(p n:Nat)(hn:n≤32)(WL:p+n≤8*l.length)(g:Nat)(w:World)(h:cG w g l p 0):
 Calls Tryz.prog 216 #[.pointer (some ⟨g,0,none⟩),.int .i64 (n:Int)] w (UF l p n g w):=by
 have H:=aa h
 have EJ:=aa (rq l p 0 g w h hl (by omega))
 have c1:¬(n:Int)<0:=by omega
 have c2:¬(64:Int)<(n:Int):=by omega
 have c3:¬8*(l.length:Int)-(p:Int)<(n:Int):=by omega
 obtain⟨A,c,h0,h1,h2,h3,h4,h5,h6,h7⟩:=h
 go_enter Tryz.func216,Tryz.ntmps216
 go_wp2_with (go_at_call 157;(with_reducible refine EJ.out.mono ?_);rintro e w1 ⟨rfl,q1,rfl⟩)
 have H1:Hid (cG (w.drewN q1) g l p 0):=aa (H.out.drewN q1)
 have K1:Hid (Kg g w (w.drewN q1)):=aa ((Kg.refl _ w).drewN q1)
 obtain⟨w1,bj⟩:∃w1,w1=w.drewN q1:=⟨_,rfl⟩
 rw[←bj] at H1 K1 ⊢
 clear bj H EJ h0 h1 h2 h3 h4 h5 h6 h7 c1 c2 c3
 go_loopw [5,28] (fun nv iv wr=>∃i:Nat,i≤n∧iv= .int .i64 (i:Int)∧nv= .int .u64 (eG l p i:Int)∧cG wr g l (p+i) 0∧Kg g w wr) (fun _ iv _=>n-(intOf iv).toNat)
 case atStart=>exact⟨0,agw _,rfl,rfl,H1.out,K1.out⟩
 case round=>
  obtain⟨i,hi,rfl,rfl,hO,hK⟩:=hrel
  obtain⟨wo,rfl⟩:∃wo:World,wo=wr:=⟨_,rfl⟩
  have HO:=aa hO
  have HK:=aa hK
  clear hO hK H1 K1
  by_cases hlt:i<n
  ·have nQ:(i:Int)<(n:Int):=by omega
   obtain⟨z,hz⟩:∃z,z=p+i:=⟨_,rfl⟩
   have hz1:Hid (p+(i+1)=z+1):=aa (by omega)
   obtain⟨v,hv⟩:∃v,v=eG l p i:=⟨_,rfl⟩
   have hlk:=D6 l z 0 g z hby hl (by omega) wo (by rw[hz];exact HO.out)
   have hvb:v<4294967296:=by
    rw[hv];exact agz (nT l p i) (show 2 ^ i≤2 ^ 32 from Nat.pow_le_pow_right (by omega) (by omega))
   have l8:Hid (eG l p (i+1)=2*v+FH l z):=by show _=_;rw[eG,hv,hz]
   have lW:=Ll l z
   have Ae:=ZN hvb lW
   have hO2:Hid (cG wo g l z 0):=by have:=HO.out;rw[←hz] at this;exact aa this
   generalize FH l z=bb at l8 lW Ae hlk
   have acp:=aa hlk
   obtain⟨A2,c2,h0,h1,h2,h3,h4,h5,h6,h7⟩:=hO2.out
   rw[←hv]
   have zw:=agp ((z:Int)+1) (by omega)
   have vw:=agq ((v:Int)*2) (by omega)
   have bw:=agq (bb:Int) (by omega)
   clear hz hv hlk HO
   go_wp2_with (go_at_call 202;(with_reducible refine acp.out.mono ?_);rintro e w2 ⟨rfl,q2,rfl⟩)
   refine⟨⟨i+1,by omega,by go_num, ?_, ?_, ?_⟩, ?_⟩
   ·rw[l8.out];first | rfl | exact congrArg _ Ae
   ·rw[hz1.out]
    exact(hO2.out.drewN q2).setP (z+1)
   ·exact(HK.out.drewN q2).set1 _
   ·simp[intOf];omega
  ·have e1:i=n:=by omega
   subst e1
   go_wp2_with fail
   go_ret
   exact⟨rfl,HO.out,HK.out⟩
theorem EX(l:List Int)(hby:aH l)(hl:l.length≤50000)(p n:Nat)(hn:n≤32)(WL:p+n≤8*l.length)(M:Int)(hM:(n:Int)=M)(g:Nat)(w:World)(h:cG w g l p 0):
 Calls Tryz.prog 216 #[.pointer (some ⟨g,0,none⟩),.int .i64 M] w (UF l p n g w):=by
 subst hM
 exact Xw l hby hl p n hn WL g w h
theorem Ie{fn:Func}{t u v x:Tmp}(h:fn.results=#[.tmp t,.tmp u,.tmp v,.tmp x])(tmps:Array Value)(P:Program)(w:World):
 (results fn tmps).run P w= .ok (.tuple #[tmps.getD t undef,tmps.getD u undef,tmps.getD v undef,tmps.getD x undef]) w:=by
 simp[results,h]
theorem wA{fn:Func}{t u v x y:Tmp}(h:fn.results=#[.tmp t,.tmp u,.tmp v,.tmp x,.tmp y])(tmps:Array Value)(P:Program)(w:World):
 (results fn tmps).run P w= .ok (.tuple #[tmps.getD t undef,tmps.getD u undef,tmps.getD v undef,tmps.getD x undef,tmps.getD y undef]) w:=by
 simp[results,h]
def Qj(l:List Int):Int×Int×Int×Int×Int:=
 if 8*l.length<18 then(0,0,0,0,3)else((eG l 0 6:Int)+1,(eG l 6 6:Int)+1,(eG l 12 4:Int)+1,(eG l 16 2:Int)+1,0)
theorem G6(l:List Int)(hby:aH l)(hl:l.length≤50000)(h18:18≤8*l.length)(g:Nat)(w:World)(h:cG w g l 0 0):
 Calls Tryz.prog 173 #[.pointer (some ⟨g,0,none⟩)] w fun e w'=>e= .returned (.tuple #[.int .i64 ((eG l 0 6:Int)+1),.int .i64 ((eG l 6 6:Int)+1),.int .i64 ((eG l 12 4:Int)+1),.int .i64 ((eG l 16 2:Int)+1)])∧Kp (fun q=>q=g) w w':=by
 have h1:=fun w h=>EX l hby hl 0 6 (by omega) (by omega) 6 rfl g w h
 have h2:=fun w h=>EX l hby hl 6 6 (by omega) (by omega) 6 rfl g w h
 have h3:=fun w h=>EX l hby hl 12 4 (by omega) (by omega) 4 rfl g w h
 have h4:=fun w h=>EX l hby hl 16 2 (by omega) (by omega) 2 rfl g w h
 have b1:=nT l 0 6
 have b2:=nT l 6 6
 have b3:=nT l 12 4
 have b4:=nT l 16 2
 unfold UF at h1 h2 h3 h4
 generalize eG l 0 6=v1 at*
 generalize eG l 6 6=v2 at*
 generalize eG l 12 4=v3 at*
 generalize eG l 16 2=v4 at*
 have i1:=agp (v1:Int) (by omega)
 have i2:=agp (v2:Int) (by omega)
 have i3:=agp (v3:Int) (by omega)
 have i4:=agp (v4:Int) (by omega)
 have j1:=agp ((v1:Int)+1) (by omega)
 have j2:=agp ((v2:Int)+1) (by omega)
 have j3:=agp ((v3:Int)+1) (by omega)
 have j4:=agp ((v4:Int)+1) (by omega)
 have H1:=aa (h1 w h)
 have H2:=aa h2
 have H3:=aa h3
 have H4:=aa h4
 clear h1 h2 h3 h4 h
 go_enter Tryz.func173,Tryz.ntmps173
 go_wp2_with fail
 (with_reducible refine H1.out.mono ?_);rintro e w1 ⟨rfl,o1,k1⟩
 go_wp2_with fail
 (with_reducible refine(H2.out w1 o1).mono ?_);rintro e w2 ⟨rfl,o2,k2⟩
 go_wp2_with fail
 (with_reducible refine(H3.out w2 o2).mono ?_);rintro e w3 ⟨rfl,o3,k3⟩
 go_wp2_with fail
 (with_reducible refine(H4.out w3 o3).mono ?_);rintro e w4 ⟨rfl,o4,k4⟩
 go_wp2_with fail
 (try simp only[Exit.inBlock,Exit.then]);refine bodyPost_ret (Ie rfl _ _ _) rfl ?_
 exact⟨rfl,(((k1.trans k2).trans k3).trans k4).k⟩
theorem lf{w W W':World}{g:Nat}(hb:Below w.heap.size w W)(hk:Kp (fun q=>q=g) W W')(hg:w.heap.size≤g):Below w.heap.size w W':=
 ⟨hk.os.trans hb.os,hk.tape.trans hb.tape,hk.output.trans hb.output,agm hb.size hk.size,fun q hq=>(hk.block q (agz hq hb.size) (by omega)).trans (hb.block q hq)⟩
def stV(r:Int×Int×Int×Int×Int):Value:=.tuple #[.int .i64 r.1,.int .i64 r.2.1,.int .i64 r.2.2.1,.int .i64 r.2.2.2.1,.int .i64 r.2.2.2.2]
theorem G5(l:List Int)(hby:aH l)(n:Nat)(hn:n=l.length)(hl:n≤50000)(A:Option Addr)(B c:Nat)(w:World)(ha:ag .u8 w B A l):
 Calls Tryz.prog 125 #[.slice A n c] w fun e w'=>e= .returned (stV (Qj l))∧Below w.heap.size w w':=by
 have i1:=agp ((n:Int)*8) (by omega)
 by_cases h:8*n<18
 ·have hr:Hid (Qj l=(0,0,0,0,3)):=aa (by unfold Qj;rw[if_pos (by omega)])
  have h8:(n:Int)*8<18:=by omega
  clear hn
  go_enter Tryz.func125,Tryz.ntmps125
  go_wp2_with fail
  (try simp only[Exit.inBlock,Exit.then]);refine bodyPost_ret (wA rfl _ _ _) rfl ?_
  exact⟨by rw[hr.out];rfl,ac w⟩
 ·have hr:Hid (Qj l=((eG l 0 6:Int)+1,(eG l 6 6:Int)+1,(eG l 12 4:Int)+1,(eG l 16 2:Int)+1,0)):=aa (by unfold Qj;rw[if_neg (by omega)])
  have h8:¬(n:Int)*8<18:=by omega
  have WR:=aa (FE l n hn.symm hl A B c w ha)
  have ml:=aa (fun g w h=>G6 l hby (by omega) (by omega) g w h)
  clear hn
  go_enter Tryz.func125,Tryz.ntmps125
  go_wp2_with fail
  (with_reducible refine WR.out.mono ?_);rintro e w1 ⟨g,rfl,hg,ho,hb⟩
  go_wp2_with fail
  (with_reducible refine(ml.out g w1 ho).mono ?_);rintro e w2 ⟨rfl,hk⟩
  go_wp2_with fail
  (try simp only[Exit.inBlock,Exit.then]);refine bodyPost_ret (wA rfl _ _ _) rfl ?_
  exact⟨by rw[hr.out];rfl,lf hb hk hg⟩
theorem VN{v m:Nat}(hv:v<18446744073709551616):bits .and .u64 ((v:Int)/2 ^ m) 1=bI (v.testBit m):=by
 have h2:(v:Int)/2 ^ m=((v/2 ^ m:Nat):Int):=by rw[Int.natCast_ediv];simp
 have h3:v/2 ^ m≤v:=Nat.div_le_self _ _
 rw[h2,aa2,Nat.testBit_eq_decide_div_mod_eq]
 generalize v/2 ^ m=q at*
 show IntKind.u64.wrap ((BitVec.ofInt 64 (q:Int) &&& BitVec.ofInt 64 1).toNat:Int)=_
 rw[BitVec.toNat_and,BitVec.ofInt_natCast,BitVec.toNat_ofNat,Nat.mod_eq_of_lt (by omega),show (BitVec.ofInt 64 1).toNat=1 from rfl,Nat.and_one_is_mod]
 rw[IntKind.wrap_u64]
 by_cases h:q%2=1
 ·rw[decide_eq_true h,h];rfl
 ·rw[decide_eq_false h,show q%2=0 by omega];rfl
theorem Wh(v n k:Nat)(hk:k<n):(nb v n).take (k+1)=(nb v n).take k++[v.testBit (n-1-k)]:=by
 rw[agx (by rw[cB];exact hk)]
 simp[nb]
theorem abF(b:Bool):IntKind.u8.wrap (bI b)=bI b:=by cases b <;> rfl
theorem qi(v n:Nat)(hv:v<18446744073709551616)(hn:n≤64)(hvn:v<2 ^ n)(bs:List Bool)(hs:bs.length+n≤4000000)(g:Nat)(w:World)(h:WB w g bs):
 Calls Tryz.prog 143 #[.pointer (some ⟨g,0,none⟩),.int .u64 (v:Int),.int .i64 (n:Int)] w (tG g (bs++nb v n) (.int .i64 0) w):=by
 have H:=aa h
 have c1:¬(n:Int)<0:=by omega
 have c2:¬(64:Int)<(n:Int):=by omega
 have c3:(v:Int)/2 ^ n=0:=by
  have h2:(v:Int)/2 ^ n=((v/2 ^ n:Nat):Int):=by rw[Int.natCast_ediv];simp
  rw[h2,Nat.div_eq_of_lt hvn];rfl
 have c4:=agp ((n:Int)-1) (by omega)
 have Hv:=aa hv
 clear h hvn hv
 go_enter Tryz.func143,Tryz.ntmps143
 go_wp2_with fail
 go_loopw [7] (fun iv wr=>∃q:Nat,q≤n∧iv= .int .i64 ((q:Int)-1)∧WB wr g (bs++(nb v n).take (n-q))∧WK g w wr) (fun iv _=>(intOf iv+1).toNat)
 case atStart=>exact⟨n,agl _,rfl,by rw[Nat.sub_self];simpa using H.out,WK.refl _ _⟩
 case round=>
  obtain⟨q,hq,rfl,hB,hK⟩:=hrel
  obtain⟨wo,rfl⟩:∃wo:World,wo=wr:=⟨_,rfl⟩
  have HB:=aa hB
  have HK:=aa hK
  clear hB hK H c1 c2 c3 c4
  cases q with
  |zero=>
   have e:((0:Nat):Int)-1= -1:=by rfl
   rw[e]
   go_wp2_with fail
   go_ret
   have:=HB.out
   rw[Nat.sub_zero,List.take_of_length_le (by rw[cB];exact agl _)] at this
   exact⟨rfl,this,HK.out⟩
  |succ m=>
   have e:((m+1:Nat):Int)-1=(m:Int):=by omega
   have l8:Hid ((nb v n).take (n-m)=(nb v n).take (n-(m+1))++[v.testBit m]):=aa (by
    have:=Wh v n (n-(m+1)) (by omega)
    rw[show n-(m+1)+1=n-m by omega,show n-1-(n-(m+1))=m by omega] at this
    exact this)
   have uO:=aa (qm (bs++(nb v n).take (n-(m+1))) (v.testBit m) (by rw[List.length_append,List.length_take,cB];omega) g wo HB.out)
   have UQ:=VN (m:=m) Hv.out
   have Sr:(0:Int)≤(m:Int):=by omega
   have i1:=agp ((m:Int)-1) (by omega)
   have hub:=abF (v.testBit m)
   rw[e]
   generalize v.testBit m=b at*
   clear e
   go_wp2_with (go_at_call 148;(with_reducible refine uO.out.mono ?_);rintro e w2 ⟨rfl,B2,K2⟩)
   refine⟨⟨m,by omega,rfl, ?_,HK.out.trans K2⟩, ?_⟩
   ·rw[l8.out,←List.append_assoc];exact B2
   ·simp[intOf]
theorem mq(v n:Nat)(V N:Int)(hV:V=(v:Int))(hN:N=(n:Int))(hv:v<18446744073709551616)(hn:n≤64)(hvn:v<2 ^ n)(bs:List Bool)(hs:bs.length+n≤4000000)(g:Nat)(w:World)(h:WB w g bs):
 Calls Tryz.prog 143 #[.pointer (some ⟨g,0,none⟩),.int .u64 V,.int .i64 N] w (tG g (bs++nb v n) (.int .i64 0) w):=by
 subst hV;subst hN
 exact qi v n hv hn hvn bs hs g w h
def jX(n:Nat):List Bool:=List.replicate n false++[true]
theorem jW(n:Nat):(jX n).length=n+1:=by simp[jX]
theorem vy(n:Nat)(hn:n≤4096)(bs:List Bool)(hs:bs.length+n+1≤4000000)(g:Nat)(w:World)(h:WB w g bs):
 Calls Tryz.prog 240 #[.pointer (some ⟨g,0,none⟩),.int .i64 (n:Int)] w (tG g (bs++jX n) (.int .i64 0) w):=by
 have H:=aa h
 have c1:¬(n:Int)<0:=by omega
 have c2:¬(4096:Int)<(n:Int):=by omega
 clear h
 go_enter Tryz.func240,Tryz.ntmps240
 go_wp2_with fail
 go_loopw [12] (fun iv wr=>∃i:Nat,i≤n∧iv= .int .i64 (i:Int)∧WB wr g (bs++List.replicate i false)∧WK g w wr) (fun iv _=>n-(intOf iv).toNat)
 case atStart=>exact⟨0,agw _,rfl,by simpa using H.out,WK.refl _ _⟩
 case round=>
  obtain⟨i,hi,rfl,hB,hK⟩:=hrel
  obtain⟨wo,rfl⟩:∃wo:World,wo=wr:=⟨_,rfl⟩
  have HB:=aa hB
  have HK:=aa hK
  clear hB hK H c1 c2
  by_cases hlt:i<n
  ·have nQ:(i:Int)<(n:Int):=by omega
   have uO:=aa (qm (bs++List.replicate i false) false (by rw[List.length_append,List.length_replicate];omega) g wo HB.out)
   unfold bI at uO
   rw[if_neg (by decide)] at uO
   have i1:=agp ((i:Int)+1) (by omega)
   go_wp2_with (go_at_call 148;(with_reducible refine uO.out.mono ?_);rintro e w2 ⟨rfl,B2,K2⟩)
   refine⟨⟨i+1,by omega,by go_num, ?_,HK.out.trans K2⟩, ?_⟩
   ·rw[List.replicate_succ',←List.append_assoc];exact B2
   ·simp[intOf];omega
  ·have e1:i=n:=by omega
   subst e1
   have uO:=aa (qm (bs++List.replicate i false) true (by rw[List.length_append,List.length_replicate];omega) g wo HB.out)
   unfold bI at uO
   rw[if_pos rfl] at uO
   go_wp2_with (go_at_call 148;(with_reducible refine uO.out.mono ?_);rintro e w2 ⟨rfl,B2,K2⟩)
   go_ret
   refine⟨rfl, ?_,HK.out.trans K2⟩
   unfold jX
   rw[←List.append_assoc];exact B2
def jd(bs:List Bool):List Bool:=bs++List.replicate ((8-bs.length%8)%8) false
theorem GP(bs:List Bool)(hs:bs.length≤3999900)(g:Nat)(w:World)(h:WB w g bs):
 Calls Tryz.prog 96 #[.pointer (some ⟨g,0,none⟩)] w (tG g (jd bs) (.tuple #[]) w):=by
 have H:=aa h
 clear h
 obtain⟨m,hm⟩:∃m,m=(8-bs.length%8)%8:=⟨_,rfl⟩
 go_enter Tryz.func96,Tryz.ntmps96
 have Hm:=aa hm
 clear hm
 go_wp2_with fail
 go_loopg [5] m (fun gh _ wr=>∃i:Nat,i+gh=m∧WB wr g (bs++List.replicate i false)∧WK g w wr)
 case atStart=>exact⟨0,by omega,by simpa using H.out,WK.refl _ _⟩
 case round=>
  obtain⟨i,hi,hB,hK⟩:=hrel
  obtain⟨wo,rfl⟩:∃wo:World,wo=wr:=⟨_,rfl⟩
  have HB:=aa hB
  have HK:=aa hK
  have Hi:=aa hi
  have him:i≤m:=by omega
  clear hB hK H hi
  obtain⟨A,c,h1,h2⟩:=HB.out
  obtain⟨⟨k0,k1⟩,z0,z1⟩:=aB h1
  have hl:(bs++List.replicate i false).length=bs.length+i:=by rw[List.length_append,List.length_replicate]
  rw[hl] at k1
  obtain⟨s,hs'⟩:∃s,s=bs.length+i:=⟨_,rfl⟩
  rw[←hs'] at k1
  have yL:=Hm.out
  clear h1 h2 k0
  by_cases him2:i=m
  ·have e2:(s:Int)%8=0:=by omega
   have t4:(s:Int).tmod 8=0:=by rw[Int.tmod_eq_emod_of_nonneg (by omega)];exact e2
   have aeN:Hid (WB wo g (jd bs)):=by
    unfold jd
    rw[←Hm.out,←him2]
    exact HB
   clear yL hl hs' him2 him
   go_wp2_with fail
   go_end0
   exact⟨rfl,aeN.out,HK.out⟩
  ·obtain⟨r,hr⟩:∃r,r=s%8:=⟨_,rfl⟩
   have e2:(s:Int)%8=(r:Int):=by omega
   have t4:(s:Int).tmod 8=(r:Int):=by rw[Int.tmod_eq_emod_of_nonneg (by omega)];exact e2
   have e3:((r:Int) == 0)=false:=by rw[beq_eq_false_iff_ne];omega
   have uO:=aa (qm (bs++List.replicate i false) false (by rw[hl];omega) g wo HB.out)
   unfold bI at uO
   rw[if_neg (by decide)] at uO
   clear yL hr hs' hl
   go_wp2_with (go_at_call 148;(with_reducible refine uO.out.mono ?_);rintro e w2 ⟨rfl,B2,K2⟩)
   go_roundg (m-(i+1))
   case measure=>have:=Hi.out;omega
   case rel=>exact⟨i+1,by omega,by rw[List.replicate_succ',←List.append_assoc];exact B2,HK.out.trans K2⟩
theorem GN(bs:List Bool)(hs:bs.length≤800000)(g:Nat)(w:World)(h:WB w g bs):
 Calls Tryz.prog 97 #[.pointer (some ⟨g,0,none⟩)] w fun e w'=>∃A c,e= .returned (.slice A (aT bs).length c)∧aq w' w.heap.size A (aT bs).length c (aT bs)∧Below w.heap.size w w':=by
 obtain⟨A,c,h1,h2⟩:=h
 obtain⟨⟨k0,k1⟩,z0,z1⟩:=aB h1
 have H2:=aa h2
 have hl:=bP bs
 have hl2:(aT bs).length≤100000:=by omega
 generalize aT bs=l at*
 clear h1 h2 hl
 go_enter Tryz.func97,Tryz.ntmps97
 go_wp2_with (at_builtin;refine jU w rfl (.const (.slice none 0 0)) (.tmp 6) rfl w none 0 rfl (aq.nil _ _) w.heap.size A l.length c l rfl rfl H2.out.ints hl2 (ac w) ?_;intro A4 c4 w4 bE hb4)
 go_ret
 exact⟨A4,c4,rfl,bE,hb4⟩
theorem De(bs:List Bool)(g:Nat)(w:World)(h:WB w g bs):
 Calls Tryz.prog 190 #[.pointer (some ⟨g,0,none⟩)] w fun e w'=>e= .returned (.int .i64 (bs.length:Int))∧∃q,w'=w.drewN q:=by
 obtain⟨A,c,h1,h2⟩:=h
 obtain⟨⟨k0,k1⟩,z0,z1⟩:=aB h1
 clear h1 h2
 go_enter Tryz.func190,Tryz.ntmps190
 go_wp2_with fail
 go_ret
 exact⟨rfl,0,rfl⟩
end
end Go.Proofs.YtbhfpehgacaidaaGreatDoor
