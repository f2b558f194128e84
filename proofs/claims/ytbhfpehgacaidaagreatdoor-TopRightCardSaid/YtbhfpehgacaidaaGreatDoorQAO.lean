/- A part of the proof of the given statement TopRight. Conditions: none. -/
import Derived.Test.YtbhfpehgacaidaaGreatDoorQAN
namespace Go.Proofs.YtbhfpehgacaidaaGreatDoor
set_option linter.unusedVariables false
set_option linter.unusedSimpArgs false
set_option maxRecDepth 100000
set_option maxHeartbeats 8000000
section
open Go.RowKit
def lQ(l:List Int):Nat→Nat→Int→List fF×Nat×Int
 |0,p,x=>([],p,x)
 |k+1,p,x=>
  let a:=aG l p x 7
  let b:=aG l a.2.1 a.2.2 7
  let c:=aG l b.2.1 b.2.2 2048
  let r:=lQ l k c.2.1 c.2.2
  (((a.1:Int),(b.1:Int),GF c.1) :: r.1,r.2)
def frT(l:List Int)(f:Fh)(y:Nat×Nat×Int):Fh×Int×Int×Int:=
 if y.2.2≠0 then(UJ,0,0,y.2.2)
 else if l.length-2-y.2.1<1 then(UJ,0,0,3)
 else if ((JK (l.take (y.2.1+2))).toNat:Int)≠ix l (y.2.1+2)then(UJ,0,0,5)
 else if frB f=false then(UJ,0,0,2)
 else(f,((y.2.1+2:Nat):Int)+1,(y.1:Int),0)
def JA(l:List Int):Fh×Int×Int×Int:=
 if l.length<2 then(UJ,0,0,3)
 else if ix l 0≠245∨ix l 1≠75 then(UJ,0,0,2)
 else
  let m:=l.drop 2
  let a1:=aG m 0 0 4194304
  let a2:=aG m a1.2.1 a1.2.2 4096
  let a3:=aG m a2.2.1 a2.2.2 1048576
  let a4:=aG m a3.2.1 a3.2.2 8
  let a5:=aG m a4.2.1 a4.2.2 24
  let k:=aG m a5.2.1 a5.2.2 16
  let r:=lQ m k.1 k.2.1 k.2.2
  frT l ⟨a1.1,a2.1,a3.1,a4.1,a5.1,r.1⟩ (aG m r.2.1 r.2.2 1048576)
def fg(w:World)(B:Nat)(A:Option Addr)(n c:Nat)(L:List fF):Prop:=w.ownsRow B 227 3 (.slice A n c) n (eY L)∧L.length=n
theorem fg.nil(w:World)(B:Nat):fg w B none 0 0 []:=⟨World.ownsRow_nil _ _ _ _,rfl⟩
theorem fg.base{w:World}{B B' n c:Nat}{A:Option Addr}{L:List fF}(h:fg w B A n c L)(hB:B'≤B):fg w B' A n c L:=⟨aO h.1 hB,h.2⟩
theorem fg.below{w w':World}{B B1 n c:Nat}{A:Option Addr}{L:List fF}(h:fg w B A n c L)(hb:Below B1 w w')(hB:w.heap.size≤B1):fg w' B A n c L:=⟨aD h.1 hb hB,h.2⟩
theorem fg.lt{w:World}{B n c q:Nat}{A:Option Addr}{L:List fF}(h:fg w B A n c L)(hq:aj A=some q):B≤q∧q<w.heap.size:=agB h.1 q (by rw[ae];exact hq)
theorem fg.kept{w w':World}{B n c:Nat}{A:Option Addr}{L:List fF}(h:fg w B A n c L)(hk:∀q,aj A=some q→w'.heap[q]? =w.heap[q]?):fg w' B A n c L:=
 ⟨ap h.1 fun q hq=>hk q (by rw[←ae A n c];exact hq),h.2⟩
theorem fg.lfts{w:World}{B n c:Nat}{A:Option Addr}{L:List fF}(h:fg w B A n c L):im w w.heap.size A L:=QM h.1
theorem fg.alloc{w:World}{B n c:Nat}{A:Option Addr}{L:List fF}(h:fg w B A n c L)(o:Obj):fg (w.alloc o) B A n c L:=⟨World.ownsRow.alloc h.1 o,h.2⟩
theorem aa6{ops:Array Oper}{rest:List Oper}{o:Oper}{a:Act}{Q:Exit→Act→World→Prop}(w2:World)(hgd:o.guard=none)(s x:Operand)
 (ho:o.op= .call {callee:=.builtin .append,args:=#[s,x],argTypes:=#[92,92]}) (B:Nat) (A1:Option Addr) (n1 c1:Nat) (L:List fF) (hs:a.eval s= .slice A1 n1 c1) (hown:fg w2 B A1 n1 c1 L)
 (i:fF) (arr:Array Value) (fo:arr.toList=eY [i]) (ty:TypeId)
 (hx:a.eval x= .slice (some ⟨w2.heap.size,0,none⟩) 1 1) (hsz:n1+1≤100000) (hB:B≤w2.heap.size)
 (h:∀A' c' w',fg w' B A' (n1+1) c' (L++[i])→dl A1 w2 w'→Below B w2 w'→wpList Tryz.prog ops Q rest (a.put o.dst (.slice A' (n1+1) c')) w'):wpList Tryz.prog ops Q (o :: rest) a (w2.alloc (.cells arr ty)):=by
 refine ac8 (w2.alloc (.cells arr ty)) hgd s x ho B A1 n1 c1 L hs (hown.alloc _).1 (w2.heap.size+1) _ 1 1 [i] hx rfl (Kq (dr w2 _ _ _ fo)) (by omega) (by simp;omega) ?_
 intro A' c' w' h1 h2 h3
 exact h A' c' w' ⟨h1,by rw[List.length_append,hown.2];rfl⟩ (dl.lit h2) (aI ((ak (ac w2) _).mono hB) (hown.alloc _).1 h2 (by simp;omega))
structure GD (w W:World) (g b B0:Nat) (m:List Int) (p:Nat) (x:Int) (a:Array Value):Prop where
 oc:cG W g m p x
 lo:W.heap[b]? =some (.cells a 95 (0,0))
 be:Below w.heap.size w W
 bw:w.heap.size≤b
 gw:w.heap.size≤g
 bB:b<B0
 gB:g<B0
 ne:b≠g
 sz:B0≤W.heap.size
 da:∃A c,W.cell? ⟨g,0,none⟩=some (.slice A m.length c)∧aj A≠some b
theorem wZ{k:IntKind}{w w':World}{B b:Nat}{A:Option Addr}{l:List Int}(h:ag k w B A l)(hA:aj A≠some b)(hk:∀q,q≠b→w'.heap[q]? =w.heap[q]?):ag k w' B A l:=fun h0=>by
 obtain⟨b',off,e,hb,hc⟩:=h h0
 subst e
 exact⟨b',off,rfl,hb,fun j u hu=>(agy (a:=⟨b',off+j,none⟩) (hk b' (fun e=>hA (congrArg some e)))).trans (hc j u hu)⟩
section
variable {w W W' : World} {g b B0 p p' : Nat} {m : List Int} {x x' : Int} {a a' : Array Value}
theorem GD.num(h:GD w W g b B0 m p x a)(ho:cG W' g m p' x')(hk:Kp (fun q=>q=g) W W')(h0:W'.cell? ⟨g,0,none⟩=W.cell? ⟨g,0,none⟩):GD w W' g b B0 m p' x' a:=by
 have h1:=h.bB
 have h2:=h.sz
 exact⟨ho,(hk.block _ (by omega) h.ne).trans h.lo,lf h.be hk h.gw,h.bw,h.gw,h.bB,h.gB,h.ne,agm h.sz hk.size,by rw[h0];exact h.da⟩
theorem GD.set(h:GD w W g b B0 m p x a)(j:Nat)(v:Value)(hv:a.setIfInBounds j v=a'):GD w (W.setCell ⟨b,j,none⟩ v) g b B0 m p x a':=by
 have hne:=h.ne
 have hB:=h.bB
 obtain⟨A,c,h0,h1,h2,h3,h4,h5,h6,h7⟩:=h.oc
 obtain⟨A9,c9,g0,g1⟩:=h.da
 rw[h0] at g0
 injection g0 with g0
 injection g0 with gA _ _
 subst gA
 have e0:=(agy (a:=⟨g,0,none⟩) (agr W ⟨b,j,none⟩ v _ (show g≠b by omega))).trans h0
 refine⟨⟨A,c,(agy (a:=⟨g,0,none⟩) (agr _ _ _ _ (show g≠b by omega))).trans h0,(agy (a:=⟨g,1,none⟩) (agr _ _ _ _ (show g≠b by omega))).trans h1,(agy (a:=⟨g,2,none⟩) (agr _ _ _ _ (show g≠b by omega))).trans h2,(World.frozen?_of_block (a:=⟨g,1,none⟩) (agr _ _ _ _ (show g≠b by omega))).trans h3,(World.frozen?_of_block (a:=⟨g,2,none⟩) (agr _ _ _ _ (show g≠b by omega))).trans h4, ?_,h6,h7⟩, ?_,h.be.setCell (p:=⟨b,j,none⟩) h.bw _,h.bw,h.gw,h.bB,h.gB,h.ne,by have:=h.sz;simpa [World.setCell] using this,A,c,e0,g1⟩
 ·exact wZ h5 g1 fun q hq=>agr _ _ _ _ hq
 ·rw[agA _ b j _ _ _ h.lo,hv]
theorem GD.kept(h:GD w W g b B0 m p x a)(hb:Below B0 W W'):GD w W' g b B0 m p x a:=by
 have h1:=h.bB
 have h2:=h.gB
 have h3:=h.bw
 exact⟨h.oc.keep fun q hq=>hb.block q (by omega),(hb.block b h1).trans h.lo,h.be.trans (hb.mono (by omega)),h.bw,h.gw,h.bB,h.gB,h.ne,agm h.sz hb.size,by rw[agy (a:=⟨g,0,none⟩) (hb.block g h2)];exact h.da⟩
end
theorem mY{W:World}{g:Nat}{a a':Array Value}(h:W.heap[g]? =some (.cells a 95 (0,0)))(j:Nat)(v:Value)(hv:a.setIfInBounds j v=a'):(W.setCell ⟨g,j,none⟩ v).heap[g]? =some (.cells a' 95 (0,0)):=by
 rw[agA _ g j _ _ _ h,hv]
def set7(W:World)(g:Nat)(x0 x1 x2 x3 x4 x5 x6:Value):World:=((((((W.setCell ⟨g,0,none⟩ x0).setCell ⟨g,1,none⟩ x1).setCell ⟨g,2,none⟩ x2).setCell ⟨g,3,none⟩ x3).setCell ⟨g,4,none⟩ x4).setCell ⟨g,5,none⟩ x5).setCell ⟨g,6,none⟩ x6
theorem dG{W:World}{g:Nat}{v0 v1 v2 v3 v4 v5 v6:Value}(h:W.heap[g]? =some (.cells #[v0,v1,v2,v3,v4,v5,v6] 95 (0,0)))(x0 x1 x2 x3 x4 x5 x6:Value):(set7 W g x0 x1 x2 x3 x4 x5 x6).heap[g]? =some (.cells #[x0,x1,x2,x3,x4,x5,x6] 95 (0,0)):=by
 exact mY (a:=#[x0,x1,x2,x3,x4,x5,v6]) (mY (a:=#[x0,x1,x2,x3,x4,v5,v6]) (mY (a:=#[x0,x1,x2,x3,v4,v5,v6]) (mY (a:=#[x0,x1,x2,v3,v4,v5,v6]) (mY (a:=#[x0,x1,v2,v3,v4,v5,v6]) (mY (a:=#[x0,v1,v2,v3,v4,v5,v6]) (mY h 0 x0 rfl) 1 x1 rfl) 2 x2 rfl) 3 x3 rfl) 4 x4 rfl) 5 x5 rfl) 6 x6 rfl
theorem dY{W:World}{g q:Nat}(hq:q≠g)(x0 x1 x2 x3 x4 x5 x6:Value):(set7 W g x0 x1 x2 x3 x4 x5 x6).heap[q]? =W.heap[q]? :=by
 have k:=fun (W:World) (j:Nat) (v:Value)=>agr W ⟨g,j,none⟩ v q hq
 unfold set7
 rw[k,k,k,k,k,k,k]
theorem bC{B g:Nat}{w W:World}(h:Below B w W)(hg:B≤g)(x0 x1 x2 x3 x4 x5 x6:Value):Below B w (set7 W g x0 x1 x2 x3 x4 x5 x6):=by
 unfold set7
 exact((((((h.setCell (p:=⟨g,0,none⟩) hg _).setCell (p:=⟨g,1,none⟩) hg _).setCell (p:=⟨g,2,none⟩) hg _).setCell (p:=⟨g,3,none⟩) hg _).setCell (p:=⟨g,4,none⟩) hg _).setCell (p:=⟨g,5,none⟩) hg _).setCell (p:=⟨g,6,none⟩) hg _
theorem ee{fn:Func}(h:fn.results=#[.cell 2 95,.tmp 3,.tmp 4,.tmp 5])(tmps:Array Value)(w:World){g:Nat}{v0 v1 v2 v3 v4 v5 v6:Value}(ht:tmps.getD 2 undef= .pointer (some ⟨g,0,none⟩))(hr:w.heap[g]? =some (.cells #[v0,v1,v2,v3,v4,v5,v6] 95 (0,0))):
 (results fn tmps).run Tryz.prog w= .ok (.tuple #[.agg #[v0,v1,v2,v3,v4,v5,v6],tmps.getD 3 undef,tmps.getD 4 undef,tmps.getD 5 undef]) w:=by
 obtain⟨⟨c0,c1,c2,c3,c4,c5,c6⟩,_⟩:=aw hr
 have key:(results fn tmps).run Tryz.prog w=((asAddr (tmps.getD 2 undef)).run Tryz.prog w).andThen fun a w₁=>((loadVar 95 a).run Tryz.prog w₁).andThen fun x w₂=>.ok (.tuple #[x,tmps.getD 3 undef,tmps.getD 4 undef,tmps.getD 5 undef]) w₂:=by
  simp only[results,h]
  simp[Sem.run_bind,Result.andThen]
 rw[key,ht]
 simp[go_sem,c0,c1,c2,c3,c4,c5,c6]
def fhV(f:Fh)(A:Option Addr)(k:Nat):Value:=.agg #[.int .i64 f.st,.int .i64 f.ln,.int .i64 f.r,.int .i64 f.c,.int .i64 f.bt,.slice A f.ls.length k,.slice none 0 0]
def FrQ(r:Fh×Int×Int×Int)(w:World)(e:Ending)(w':World):Prop:=
 ∃A k,e= .returned (.tuple #[fhV r.1 A k,.int .i64 r.2.1,.int .i64 r.2.2.1,.int .i64 r.2.2.2])∧fg w' w.heap.size A r.1.ls.length k r.1.ls∧Below w.heap.size w w'
def abx(r:Fh×Int×Int×Int)(w:World)(e:Ending)(w':World):Prop:=
 ∃A k,e= .returned (.tuple #[fhV r.1 A k,.int .i64 r.2.1,.int .i64 r.2.2.1,.int .i64 r.2.2.2])∧fg w' w.heap.size A r.1.ls.length k r.1.ls∧Below w.heap.size w w'∧(r.1.ls.length=0→A=none∧k=0)
theorem pP{x:Int}{w w':World}(h:Below w.heap.size w w'):abx (UJ,0,0,x) w (.returned (.tuple #[.agg #[.int .i64 0,.int .i64 0,.int .i64 0,.int .i64 0,.int .i64 0,.slice none 0 0,.slice none 0 0],.int .i64 0,.int .i64 0,.int .i64 x])) w':=⟨none,0,rfl,fg.nil _ _,h,fun _=>⟨rfl,rfl⟩⟩
theorem aex{P G:Prop}(h:P→G)(hp:P):G:=h hp
theorem uh(l:List Int)(n:Nat)(hn:n=l.length)(hm:n≤50000)(hby:aH l)(A:Option Addr)(B c:Nat)(hc:n≤c)(cK:c≤9223372036854775807)(w:World)(hB:B≤w.heap.size)(ha:ag .u8 w B A l):
 Calls Tryz.prog 154 #[.slice A n c] w (abx (JA l) w):=by
 obtain⟨RR,cN⟩:∃RR,RR=JA l:=⟨_,rfl⟩
 rw[←cN]
 unfold JA at cN
 have M0:Hid ((w.alloc (.cells #[.int .i64 0,.int .i64 0,.int .i64 0,.int .i64 0,.int .i64 0,.slice none 0 0,.slice none 0 0] 95)).heap[w.heap.size]? =some (.cells #[.int .i64 0,.int .i64 0,.int .i64 0,.int .i64 0,.int .i64 0,.slice none 0 0,.slice none 0 0] 95 (0,0))):=aa (ago w _)
 have K0:Hid (Below w.heap.size w (w.alloc (.cells #[.int .i64 0,.int .i64 0,.int .i64 0,.int .i64 0,.int .i64 0,.slice none 0 0,.slice none 0 0] 95))):=aa (ak (ac w) _)
 have Ha:=aa ha
 by_cases h2:n<2
 ·rw[if_pos (by omega)] at cN
  have HR:=aa cN
  have h2i:(n:Int)<2:=by omega
  clear cN hn ha
  go_enter Tryz.func154,Tryz.ntmps154
  go_upto_region 1 with fail
  obtain⟨W0,hW0⟩:∃W0,W0=w.alloc (.cells #[.int .i64 0,.int .i64 0,.int .i64 0,.int .i64 0,.int .i64 0,.slice none 0 0,.slice none 0 0] 95):=⟨_,rfl⟩
  obtain⟨b,sP⟩:∃b,b=w.heap.size:=⟨_,rfl⟩
  rw[←hW0] at M0 K0
  rw[←sP] at M0
  rw[←hW0,←sP]
  obtain⟨⟨c0,c1,c2,c3,c4,c5,c6⟩,fz⟩:=aw M0.out
  have Uw:=aa sP
  clear hW0 sP
  have z0:=fz 0
  have z1:=fz 1
  have z2:=fz 2
  have z3:=fz 3
  have z4:=fz 4
  have z5:=fz 5
  have z6:=fz 6
  clear fz
  go_wp2_with fail
  refine bodyPost_ret (ee rfl _ _ rfl (dG M0.out _ _ _ _ _ _ _)) rfl ?_
  rw[HR.out]
  exact pP (bC K0.out (by have:=Uw.out;omega) _ _ _ _ _ _ _)
 ·rw[if_neg (by omega)] at cN
  obtain⟨ba,oa,rfl,xF,hc0⟩:=ha.lt (by omega)
  have YQ:ba<w.heap.size:=agz xF hB
  have hce:=fun (i:Nat) (hi:i<n)=>hc0 i (by omega)
  have d0:=hce 0 (by omega)
  have d1:=hce 1 (by omega)
  have h2i:¬(n:Int)<2:=by omega
  by_cases hb:ix l 0=245∧ix l 1=75
  ·rw[if_neg (by omega)] at cN
   obtain⟨m,Ck⟩:∃m,m=l.drop 2:=⟨_,rfl⟩
   rw[←Ck] at cN
   dsimp only at cN
   have HR0:=aa cN
   have Hce:=aa hce
   have ym:Hid (m.length=n-2):=aa (by rw[Ck,List.length_drop];omega)
   have yn:aH m:=by rw[Ck];exact hby.drop 2
   have Gk:m.length≤50000:=by have:=ym.out;omega
   have hint:∀W,Below w.heap.size w W→ag .u8 W B (some ⟨ba,oa+2,none⟩) m:=fun W b=>by rw[Ck];exact kt (ha.below (b.mono hB)) 2
   have aeI:=aa hint
   have d0':=d0
   have d1':=d1
   rw[hb.1] at d0'
   rw[hb.2] at d1'
   have NL:n-2=m.length:=ym.out.symm
   have Hn:=aa hn
   have Hmd:=aa Ck
   clear cN hb hint ha hc0 hn d0 d1 hce Ck
   go_enter Tryz.func154,Tryz.ntmps154
   go_upto_region 1 with fail
   obtain⟨W0,hW0⟩:∃W0,W0=w.alloc (.cells #[.int .i64 0,.int .i64 0,.int .i64 0,.int .i64 0,.int .i64 0,.slice none 0 0,.slice none 0 0] 95):=⟨_,rfl⟩
   obtain⟨b,sP⟩:∃b,b=w.heap.size:=⟨_,rfl⟩
   rw[←hW0] at M0 K0
   rw[←sP] at M0
   rw[←hW0,←sP]
   obtain⟨⟨c0,c1,c2,c3,c4,c5,c6⟩,fz⟩:=aw M0.out
   have Uw:=aa sP
   clear hW0 sP
   have q0:W0.cell? ⟨ba,oa,none⟩=some (.int .u8 245):=(K0.out.cell (p:=⟨ba,oa,none⟩) YQ).trans d0'
   have q1:W0.cell? ⟨ba,oa+1,none⟩=some (.int .u8 75):=(K0.out.cell (p:=⟨ba,oa+1,none⟩) YQ).trans d1'
   clear d0' d1'
   go_upto_region 5 with fail
   have Sm:=fun (A9:Option Addr) (c9:Nat) (W:World) (hi:ag .u8 W B A9 m)=>DW m m.length rfl Gk A9 B c9 W hi
   have Hnw:=aa Sm
   have yo:=aeI.out W0 K0.out
   have Jj:c-2=0→ag .u8 W0 B (some ⟨ba,oa,none⟩) m:=fun e h0=>by
    rw[List.length_map] at h0
    have:=ym.out
    omega
   clear Sm
   refine aex (P:= ?PP) (fun key=> ?main) ?rest
   case main=>
    by_cases CX:c-2=0
    ·have WV:=Jj CX
     go_upto_region 6 with (go_at_call 49;(with_reducible refine(Hnw.out _ _ _ WV).mono ?_);rintro e w1 ⟨g,rfl,hg1,cM,b1,hda⟩)
     have HX:=aa (And.intro hg1 (And.intro cM (And.intro b1 hda)))
     clear hg1 cM b1 hda
     rename_i K6 a6
     generalize (Value.slice (some ⟨ba,oa,none⟩) m.length 0)=VV
     revert VV
     revert HX
     revert w1 g
     revert a6
     revert K6
     exact key
    ·go_upto_region 6 with (go_at_call 49;(with_reducible refine(Hnw.out _ _ _ yo).mono ?_);rintro e w1 ⟨g,rfl,hg1,cM,b1,hda⟩)
     have HX:=aa (And.intro hg1 (And.intro cM (And.intro b1 hda)))
     clear hg1 cM b1 hda
     rename_i K6 a6
     generalize (Value.slice (some ⟨ba,oa+2,none⟩) m.length (c-2))=VV
     revert VV
     revert HX
     revert w1 g
     revert a6
     revert K6
     exact key
   case rest=>
    intro K6 a6 w1 g HX VV
    obtain⟨hg1,cM,b1,A9,c9,h90,h91⟩:=HX.out
    have hbW:b<W0.heap.size:=(agn.1 M0.out).1
    obtain⟨B0,PH⟩:∃B0,B0=w1.heap.size:=⟨_,rfl⟩
    have I0:Hid (GD w w1 g b B0 m 0 0 #[.int .i64 0,.int .i64 0,.int .i64 0,.int .i64 0,.int .i64 0,.slice none 0 0,.slice none 0 0]):=aa ⟨cM,(b1.block b hbW).trans M0.out,K0.out.trans (b1.mono K0.out.size),Nat.le_of_eq Uw.out.symm,agm K0.out.size hg1,by have:=b1.size;omega,by have:=cM.lt;omega,by omega,by omega,A9,c9,h90,fun e=>by have:=h91 b e;omega⟩
    have sQ:=I0.out.bB
    have SF:=I0.out.gB
    have hBw:w.heap.size≤B0:=by have:=I0.out.bw;omega
    clear hg1 cM b1 h90 h91 HX PH hbW c0 c1 c2 c3 c4 c5 c6 q0 q1 yo Jj Hnw fz M0 K0 Uw
    obtain⟨v1,p1,x1,e1,RM,Ac,hc1⟩:=oI m Gk yn 0 (agw _) 0 4194304 4194304 rfl g w1 I0.out.oc
    have Hc1:=aa hc1
    have hr1:=HR0.out
    rw[e1] at hr1
    dsimp only at hr1
    have cv1:=agp (v1:Int) (by omega)
    clear hc1 e1
    have PR:=aa hr1
    clear hr1
    go_upto_region 7 with (go_at_call 51;(with_reducible refine Hc1.out.mono ?_);rintro e U1 ⟨rfl,cM,jx,hz1⟩;obtain⟨⟨c0,c1,c2,c3,c4,c5,c6⟩,fz⟩:=aw ((I0.out.num cM jx hz1).lo);have f0:=fz 0)
    have I1:Hid (GD w (U1.setCell ⟨b,0,none⟩ (.int .i64 (v1:Int))) g b B0 m p1 x1 #[.int .i64 (v1:Int),.int .i64 0,.int .i64 0,.int .i64 0,.int .i64 0,.slice none 0 0,.slice none 0 0]):=aa ((I0.out.num cM jx hz1).set 0 _ rfl)
    obtain⟨W1,hW1⟩:∃W,W=U1.setCell ⟨b,0,none⟩ (.int .i64 (v1:Int)):=⟨_,rfl⟩
    rw[←hW1] at I1 ⊢
    clear hW1 cM jx hz1 c0 c1 c2 c3 c4 c5 c6 f0 fz Hc1 HR0 I0
    obtain⟨v2,p2,x2,e2,hv2,lS,hc2⟩:=oI m Gk yn p1 Ac x1 4096 4096 rfl g W1 I1.out.oc
    have Uv:=aa hc2
    have hr2:=PR.out
    rw[e2] at hr2
    dsimp only at hr2
    have cv2:=agp (v2:Int) (by omega)
    clear hc2 e2
    have lX:=aa hr2
    clear hr2
    go_upto_region 8 with (go_at_call 51;(with_reducible refine Uv.out.mono ?_);rintro e U2 ⟨rfl,cD,hk2,hz2⟩;obtain⟨⟨c0,c1,c2,c3,c4,c5,c6⟩,fz⟩:=aw ((I1.out.num cD hk2 hz2).lo);have f0:=fz 1)
    have I2:Hid (GD w (U2.setCell ⟨b,1,none⟩ (.int .i64 (v2:Int))) g b B0 m p2 x2 #[.int .i64 (v1:Int),.int .i64 (v2:Int),.int .i64 0,.int .i64 0,.int .i64 0,.slice none 0 0,.slice none 0 0]):=aa ((I1.out.num cD hk2 hz2).set 1 _ rfl)
    obtain⟨W2,hW2⟩:∃W,W=U2.setCell ⟨b,1,none⟩ (.int .i64 (v2:Int)):=⟨_,rfl⟩
    rw[←hW2] at I2 ⊢
    clear hW2 cD hk2 hz2 c0 c1 c2 c3 c4 c5 c6 f0 fz Uv PR I1
    obtain⟨v3,p3,x3,e3,hv3,WM,hc3⟩:=oI m Gk yn p2 lS x2 1048576 1048576 rfl g W2 I2.out.oc
    have Hc3:=aa hc3
    have hr3:=lX.out
    rw[e3] at hr3
    dsimp only at hr3
    have cv3:=agp (v3:Int) (by omega)
    clear hc3 e3
    have mo:=aa hr3
    clear hr3
    go_upto_region 9 with (go_at_call 51;(with_reducible refine Hc3.out.mono ?_);rintro e U3 ⟨rfl,bF,hk3,hz3⟩;obtain⟨⟨c0,c1,c2,c3,c4,c5,c6⟩,fz⟩:=aw ((I2.out.num bF hk3 hz3).lo);have f0:=fz 2)
    have I3:Hid (GD w (U3.setCell ⟨b,2,none⟩ (.int .i64 (v3:Int))) g b B0 m p3 x3 #[.int .i64 (v1:Int),.int .i64 (v2:Int),.int .i64 (v3:Int),.int .i64 0,.int .i64 0,.slice none 0 0,.slice none 0 0]):=aa ((I2.out.num bF hk3 hz3).set 2 _ rfl)
    obtain⟨W3,hW3⟩:∃W,W=U3.setCell ⟨b,2,none⟩ (.int .i64 (v3:Int)):=⟨_,rfl⟩
    rw[←hW3] at I3 ⊢
    clear hW3 bF hk3 hz3 c0 c1 c2 c3 c4 c5 c6 f0 fz Hc3 lX I2
    obtain⟨v4,p4,x4,e4,hv4,Sh,Xg⟩:=oI m Gk yn p3 WM x3 8 8 rfl g W3 I3.out.oc
    have Zi:=aa Xg
    have hr4:=mo.out
    rw[e4] at hr4
    dsimp only at hr4
    have cv4:=agp (v4:Int) (by omega)
    clear Xg e4
    have yf:=aa hr4
    clear hr4
    go_upto_region 10 with (go_at_call 51;(with_reducible refine Zi.out.mono ?_);rintro e U4 ⟨rfl,bE,hk4,Pr⟩;obtain⟨⟨c0,c1,c2,c3,c4,c5,c6⟩,fz⟩:=aw ((I3.out.num bE hk4 Pr).lo);have f0:=fz 3)
    have I4:Hid (GD w (U4.setCell ⟨b,3,none⟩ (.int .i64 (v4:Int))) g b B0 m p4 x4 #[.int .i64 (v1:Int),.int .i64 (v2:Int),.int .i64 (v3:Int),.int .i64 (v4:Int),.int .i64 0,.slice none 0 0,.slice none 0 0]):=aa ((I3.out.num bE hk4 Pr).set 3 _ rfl)
    obtain⟨W4,YT⟩:∃W,W=U4.setCell ⟨b,3,none⟩ (.int .i64 (v4:Int)):=⟨_,rfl⟩
    rw[←YT] at I4 ⊢
    clear YT bE hk4 Pr c0 c1 c2 c3 c4 c5 c6 f0 fz Zi mo I3
    obtain⟨v5,p5,x5,e5,hv5,hp5,PE⟩:=oI m Gk yn p4 Sh x4 24 24 rfl g W4 I4.out.oc
    have Zh:=aa PE
    have KR:=yf.out
    rw[e5] at KR
    dsimp only at KR
    have cv5:=agp (v5:Int) (by omega)
    clear PE e5
    have C7:=aa KR
    clear KR
    go_upto_region 11 with (go_at_call 51;(with_reducible refine Zh.out.mono ?_);rintro e U5 ⟨rfl,bT,qN,Z8⟩;obtain⟨⟨c0,c1,c2,c3,c4,c5,c6⟩,fz⟩:=aw ((I4.out.num bT qN Z8).lo);have f0:=fz 4)
    have I5:Hid (GD w (U5.setCell ⟨b,4,none⟩ (.int .i64 (v5:Int))) g b B0 m p5 x5 #[.int .i64 (v1:Int),.int .i64 (v2:Int),.int .i64 (v3:Int),.int .i64 (v4:Int),.int .i64 (v5:Int),.slice none 0 0,.slice none 0 0]):=aa ((I4.out.num bT qN Z8).set 4 _ rfl)
    obtain⟨W5,YS⟩:∃W,W=U5.setCell ⟨b,4,none⟩ (.int .i64 (v5:Int)):=⟨_,rfl⟩
    rw[←YS] at I5 ⊢
    clear YS bT qN Z8 c0 c1 c2 c3 c4 c5 c6 f0 fz Zh yf I4
    obtain⟨kn,p6,x6,e6,hv6,Px,YP⟩:=oI m Gk yn p5 hp5 x5 16 16 rfl g W5 I5.out.oc
    have Zg:=aa YP
    have KQ:=C7.out
    rw[e6] at KQ
    dsimp only at KQ
    have HR6:=aa KQ
    clear KQ YP e6 C7
    go_wp2_with (go_at_call 51;(with_reducible refine Zg.out.mono ?_);rintro e W6 ⟨rfl,dC,xw,hz6⟩)
    have I6:=aa (I5.out.num dC xw hz6)
    clear dC xw hz6 Zg I5
    go_loopw [7,8,9,55] (fun _ _ _ iv wr=>∃(j:Nat) (p':Nat) (x':Int) (A':Option Addr) (c':Nat) (L:List fF),j≤kn∧iv= .int .u64 (j:Int)∧fg wr B0 A' j c' L∧GD w wr g b B0 m p' x' #[.int .i64 (v1:Int),.int .i64 (v2:Int),.int .i64 (v3:Int),.int .i64 (v4:Int),.int .i64 (v5:Int),.slice A' j c',.slice none 0 0]∧p'≤m.length∧lQ m kn p6 x6=(L++(lQ m (kn-j) p' x').1,(lQ m (kn-j) p' x').2)∧(j=0→A'=none∧c'=0)) (fun _ _ _ iv _=>kn-(intOf iv).toNat)
    case atStart=>exact⟨0,p6,x6,none,0,[],agw _,rfl,fg.nil _ _,I6.out,Px,rfl,fun _=>⟨rfl,rfl⟩⟩
    case round=>
     obtain⟨j,p',x',A',c',L,hj,rfl,hO,hF,hp',hR,hZ⟩:=hrel
     have HZ:=aa hZ
     clear hZ
     obtain⟨wo,rfl⟩:∃wo:World,wo=wr:=⟨_,rfl⟩
     have HO:=aa hO
     have HF:=aa hF
     have Pf:=aa hR
     clear hO hF hR I6
     by_cases hlt:j<kn
     ·obtain⟨t,ht⟩:∃t,kn-j=t+1:=⟨kn-j-1,by omega⟩
      have lT:kn-(j+1)=t:=by omega
      have hI:(j:Int)<(kn:Int):=by omega
      have u1:=agq ((j:Int)+1) (by omega)
      have kb:∀{w5 w6:World} {A5:Option Addr} {c5:Nat},fg w5 B0 A5 j c5 L→Kp (fun q=>q=g) w5 w6→fg w6 B0 A5 j c5 L:=fun h k=>h.kept fun q hq=>k.block q (h.lt hq).2 (fun e=>by have:=(h.lt hq).1;omega)
      obtain⟨va,pa,xa,ea,hva,tZ,KY⟩:=oI m Gk yn p' hp' x' 7 7 rfl g wo HF.out.oc
      have Hca:=aa KY
      have cva:=agp (va:Int) (by omega)
      clear KY
      go_upto_region 14 with (go_at_call 51;(with_reducible refine Hca.out.mono ?_);rintro e Ua ⟨rfl,hoa,hka,hza⟩)
      have Fa:=aa (HF.out.num hoa hka hza)
      have Oa:=aa (kb HO.out hka)
      clear hoa hka hza Hca HF HO
      obtain⟨vb,pb,xb,eb,hvb,UQ,hcb⟩:=oI m Gk yn pa tZ xa 7 7 rfl g Ua Fa.out.oc
      have Hcb:=aa hcb
      have cvb:=agp (vb:Int) (by omega)
      clear hcb
      go_upto_region 15 with (go_at_call 51;(with_reducible refine Hcb.out.mono ?_);rintro e Ub ⟨rfl,UR,hkb,hzb⟩)
      have Fb:=aa (Fa.out.num UR hkb hzb)
      have Ob:=aa (kb Oa.out hkb)
      clear UR hkb hzb Hcb Fa Oa
      obtain⟨vc,pc,xc,ec,hvc,hpc,hcc⟩:=oI m Gk yn pb UQ xb 2048 2048 rfl g Ub Fb.out.oc
      have Hcc:=aa hcc
      have hzg:=fun W=>Vl vc (by omega) W
      have Hzg:=aa hzg
      clear hcc hzg
      go_upto_region 16 with (first
       |(go_at_call 51;(with_reducible refine Hcc.out.mono ?_);rintro e Uc ⟨rfl,hoc,uK,hzc⟩)
       |(go_at_call 197;(with_reducible refine(Hzg.out _).mono ?_);rintro e Ud ⟨rfl,rfl⟩))
      obtain⟨Uc,rfl⟩:∃Uc:World,Uc=Ud:=⟨_,rfl⟩
      have Fc:=aa (Fb.out.num hoc uK hzc)
      have Oc:=aa (kb Ob.out uK)
      clear hoc uK hzc Hcc Fb Ob kb
      have hst:lQ m (kn-j) p' x'=(((va:Int),(vb:Int),GF vc) :: (lQ m t pc xc).1,(lQ m t pc xc).2):=by
       rw[ht]
       show ((((aG m p' x' 7).1:Int),((aG m (aG m p' x' 7).2.1 (aG m p' x' 7).2.2 7).1:Int),GF (aG m (aG m (aG m p' x' 7).2.1 (aG m p' x' 7).2.2 7).2.1 (aG m (aG m p' x' 7).2.1 (aG m p' x' 7).2.2 7).2.2 2048).1) :: (lQ m t (aG m (aG m (aG m p' x' 7).2.1 (aG m p' x' 7).2.2 7).2.1 (aG m (aG m p' x' 7).2.1 (aG m p' x' 7).2.2 7).2.2 2048).2.1 (aG m (aG m (aG m p' x' 7).2.1 (aG m p' x' 7).2.2 7).2.1 (aG m (aG m p' x' 7).2.1 (aG m p' x' 7).2.2 7).2.2 2048).2.2).1,(lQ m t (aG m (aG m (aG m p' x' 7).2.1 (aG m p' x' 7).2.2 7).2.1 (aG m (aG m p' x' 7).2.1 (aG m p' x' 7).2.2 7).2.2 2048).2.1 (aG m (aG m (aG m p' x' 7).2.1 (aG m p' x' 7).2.2 7).2.1 (aG m (aG m p' x' 7).2.1 (aG m p' x' 7).2.2 7).2.2 2048).2.2).2)=_
       rw[ea]
       dsimp only
       rw[eb]
       dsimp only
       rw[ec]
      have fG:=aa hst
      generalize GF vc=zc at*
      obtain⟨⟨c0,c1,c2,c3,c4,c5,c6⟩,fz0⟩:=aw Fc.out.lo
      have adX:=aa lT
      clear hst ea eb ec lT ht fz0
      go_wp2_with (at_builtin;refine aa6 Uc rfl (.tmp 67) (.tmp 72) rfl B0 A' j c' L rfl Oc.out ((va:Int),(vb:Int),zc) _ rfl _ rfl (by omega) Fc.out.sz ?_;intro A6 c6 w6 dC kp6 b6;obtain⟨⟨k0,k1,k2,k3,k4,k5,k6⟩,fz⟩:=aw (Fc.out.kept b6).lo;have f5:=fz 5)
      refine⟨⟨j+1,pc,xc,A6,c6,L++[((va:Int),(vb:Int),zc)],by omega,by exact congrArg (Value.int .u64) (by omega), ?_, ?_,hpc, ?_,fun e=>absurd e (by omega)⟩,by simp[intOf];omega⟩
      ·exact dC.kept fun q hq=>agr _ _ _ _ (by have:=(dC.lt hq).1;show q≠b;omega)
      ·exact(Fc.out.kept b6).set 5 _ rfl
      ·rw[adX.out,Pf.out,fG.out];simp
     ·obtain rfl:j=kn:=by omega
      have iu:lQ m j p6 x6=(L,p',x'):=by
       rw[Pf.out,Nat.sub_self]
       simp[lQ]
      have Ch:=HR6.out
      rw[iu] at Ch
      dsimp only at Ch
      obtain⟨v7,p7,x7,e7,hv7,hp7,NW⟩:=oI m Gk yn p' hp' x' 1048576 1048576 rfl g wo HF.out.oc
      rw[e7] at Ch
      have Vh:=aa Ch
      have Hc7:=aa NW
      have cv7:=agp (v7:Int) (by omega)
      have F2:Hid (L.length=j):=aa HO.out.2
      have hI:¬(j:Int)<(j:Int):=by omega
      clear Ch iu Pf HR6 NW e7
      go_upto_region 19 with (go_at_call 51;(with_reducible refine Hc7.out.mono ?_);rintro e W7 ⟨rfl,fQ,Gn,hz7⟩)
      have F7:=aa (HF.out.num fQ Gn hz7)
      have O7:Hid (fg W7 B0 A' j c' L):=aa (HO.out.kept fun q hq=>Gn.block q (HO.out.lt hq).2 (fun e=>by have:=(HO.out.lt hq).1;omega))
      have Ur:=aa (pG m p7 x7 g W7 fQ)
      have Vd:=fun h=>aa (gZ m p7 0 g W7 h Gk (by omega))
      clear fQ Gn hz7 Hc7 HF HO
      by_cases hx:x7=0
      ·subst hx
       have HLf:=Vd F7.out.oc
       clear Vd
       by_cases h1:m.length-p7<1
       ·have vo:=Vh.out
        unfold frT at vo
        dsimp only at vo
        rw[if_neg (by simp),if_pos (by have:=Hn.out;have:=ym.out;omega)] at vo
        have HR8:=aa vo
        have h1i:(m.length:Int)-(p7:Int)<1:=by omega
        clear vo Vh
        go_upto_region 23 with (first
         |(go_at_call 53;(with_reducible refine Ur.out.mono ?_);rintro e Wz ⟨rfl,rfl⟩)
         |(go_at_call 54;(with_reducible refine HLf.out.mono ?_);rintro e w' ⟨rfl,q,rfl⟩))
        have F8:=aa (F7.out.kept (below_drewN (ac _) q |>.mono F7.out.sz))
        obtain⟨W8,hW8⟩:∃W8,W8=Wz.drewN q:=⟨_,rfl⟩
        rw[←hW8] at F8 ⊢
        clear hW8 F7 O7
        obtain⟨⟨c0,c1,c2,c3,c4,c5,c6⟩,fz⟩:=aw F8.out.lo
        have z0:=fz 0
        have z1:=fz 1
        have z2:=fz 2
        have z3:=fz 3
        have z4:=fz 4
        have z5:=fz 5
        have z6:=fz 6
        clear fz
        go_wp2_with fail
        refine bodyPost_ret (ee rfl _ _ rfl (dG F8.out.lo _ _ _ _ _ _ _)) rfl ?_
        rw[HR8.out]
        exact pP (bC F8.out.be F8.out.bw _ _ _ _ _ _ _)
       ·have vo:=Vh.out
        unfold frT at vo
        dsimp only at vo
        rw[if_neg (by simp),if_neg (by have:=Hn.out;have:=ym.out;omega)] at vo
        have HR8:=aa vo
        have h1i:¬(m.length:Int)-(p7:Int)<1:=by omega
        clear vo Vh
        go_upto_region 24 with (first
         |(go_at_call 53;(with_reducible refine Ur.out.mono ?_);rintro e Wz ⟨rfl,rfl⟩)
         |(go_at_call 54;(with_reducible refine HLf.out.mono ?_);rintro e w' ⟨rfl,q,rfl⟩))
        have F8:=aa (F7.out.kept (below_drewN (ac _) q |>.mono F7.out.sz))
        have O8:Hid (fg (Wz.drewN q) B0 A' j c' L):=aa (O7.out.kept fun _ _=>rfl)
        obtain⟨W8,hW8⟩:∃W8,W8=Wz.drewN q:=⟨_,rfl⟩
        rw[←hW8] at F8 O8 ⊢
        clear hW8 F7 O7 Ur HLf
        have CR:=ym.out
        have hnl:=Hn.out
        obtain⟨s,hs⟩:∃s,s=p7+2:=⟨_,rfl⟩
        have es:(2:Int)+(p7:Int)=(s:Int):=by omega
        have esw:=agp (s:Int) (by omega)
        have yl:s<n:=by omega
        have YA:(s:Int)<(n:Int):=by omega
        have hsc:(s:Int)≤(c:Int):=by omega
        have afg:s≤c:=by omega
        have s0:¬(s:Int)<0:=by omega
        have Hat:=aa (nM m p7 0 g W8 F8.out.oc)
        have yI:=HR8.out
        rw[←hs] at yI
        have Hs:=aa hs
        clear hs HR8 h1i CR hnl h1
        go_upto_region 25 with (go_at_call 56;(with_reducible refine Hat.out.mono ?_);rintro e W9 ⟨rfl,rfl⟩)
        obtain⟨W8,rfl⟩:∃W8:World,W8=W9:=⟨_,rfl⟩
        have hq9:∀q8,(W8.drewN q8).cell? ⟨ba,oa+s,none⟩=some (.int .u8 (ix l s)):=fun q8=>(F8.out.be.cell (p:=⟨ba,oa+s,none⟩) YQ).trans (Hce.out s yl)
        have q9:W8.cell? ⟨ba,oa+s,none⟩=some (.int .u8 (ix l s)):=hq9 0
        have H8:Hid (∀q8,Calls Tryz.prog 149 #[.slice (some ⟨ba,oa,none⟩) s c] (W8.drewN q8) fun e w'=>e= .returned (.int .u8 ((JK (l.take s)).toNat:Int))∧w'=W8.drewN q8):=aa fun q8=>by
         have hi:ag .u8 (W8.drewN q8) B (some ⟨ba,oa,none⟩) (l.take s):=by
          have h9:=bZ (p:=0) (s:=s) (Ha.out.below ((below_drewN F8.out.be q8).mono hB)) (by have:=Hn.out;omega)
          simpa using h9
         exact(xS (l.take s) (eZ hby s) s (by have:=Hn.out;simp;omega) (by omega) (some ⟨ba,oa,none⟩) B c _ hi).mono fun _ _ h=>⟨h.1,h.2.symm⟩
        obtain⟨r8,vo⟩:∃r8,r8=(JK (l.take s)).toNat:=⟨_,rfl⟩
        rw[←vo] at yI H8
        generalize ix l s=y at*
        clear vo hq9 Hat
        have FZ:=aa yI
        clear yI
        by_cases hy:(r8:Int)=y
        ·have Je:=FZ.out
         rw[if_neg (by simpa using hy)] at Je
         subst hy
         have hrt:=fun W (h:fg W B0 A' j c' L)=>xK ⟨(v1:Int),(v2:Int),(v3:Int),(v4:Int),(v5:Int),L⟩ j F2.out.symm (by omega) A' none c' 0 0 W h.lfts
         dsimp only at hrt
         generalize frB ⟨(v1:Int),(v2:Int),(v3:Int),(v4:Int),(v5:Int),L⟩=fb at*
         have XV:=aa hrt
         have F0:=aa Je
         clear hrt Je FZ
         go_quiet ((go_at_call 149;exact Calls.quiet_of_same (H8.out _)))
         have yv:=aa (F8.out.kept (below_drewN (ac _) nq |>.mono F8.out.sz))
         have O0:Hid (fg (W8.drewN nq) B0 A' j c' L):=aa (O8.out.kept fun _ _=>rfl)
         obtain⟨W10,SS⟩:∃W10,W10=W8.drewN nq:=⟨_,rfl⟩
         rw[←SS] at yv O0 ⊢
         clear SS F8 O8 H8 q9
         obtain⟨⟨c0,c1,c2,c3,c4,c5,c6⟩,fz0⟩:=aw yv.out.lo
         have acf:=XV.out W10 O0.out
         have adj:=aa acf
         clear acf fz0 XV
         cases fb with
         |false=>
          have Jd:=F0.out
          rw[if_pos rfl] at Jd
          have abr:=aa Jd
          clear Jd F0
          go_upto_region 28 with (go_at_call 108;(with_reducible refine adj.out.mono ?_);rintro e W11 ⟨rfl,CG⟩)
          have Yd:=aa (yv.out.kept (CG.mono yv.out.sz))
          clear yv O0 CG c0 c1 c2 c3 c4 c5 c6
          obtain⟨⟨c0,c1,c2,c3,c4,c5,c6⟩,fz⟩:=aw Yd.out.lo
          have z0:=fz 0
          have z1:=fz 1
          have z2:=fz 2
          have z3:=fz 3
          have z4:=fz 4
          have z5:=fz 5
          have z6:=fz 6
          clear fz
          go_wp2_with fail
          refine bodyPost_ret (ee rfl _ _ rfl (dG Yd.out.lo _ _ _ _ _ _ _)) rfl ?_
          rw[abr.out]
          exact pP (bC Yd.out.be Yd.out.bw _ _ _ _ _ _ _)
         |true=>
          have Jd:=F0.out
          rw[if_neg (by simp)] at Jd
          have abr:=aa Jd
          clear Jd F0
          have es2:=agp ((s:Int)+1) (by omega)
          go_upto_region 29 with (go_at_call 108;(with_reducible refine adj.out.mono ?_);rintro e W11 ⟨rfl,CG⟩)
          have Yd:=aa (yv.out.kept (CG.mono yv.out.sz))
          have O11:=aa (O0.out.below CG (agl _))
          clear yv O0 CG c0 c1 c2 c3 c4 c5 c6
          obtain⟨⟨c0,c1,c2,c3,c4,c5,c6⟩,fz⟩:=aw Yd.out.lo
          have z0:=fz 0
          have z1:=fz 1
          have z2:=fz 2
          have z3:=fz 3
          have z4:=fz 4
          have z5:=fz 5
          have z6:=fz 6
          clear fz
          go_wp2_with fail
          refine bodyPost_ret (ee rfl _ _ rfl (dG Yd.out.lo _ _ _ _ _ _ _)) rfl ?_
          rw[abr.out]
          refine⟨A',c', ?_, ?_,bC Yd.out.be Yd.out.bw _ _ _ _ _ _ _,fun e=>HZ.out (by dsimp only at e;rw[F2.out] at e;exact e)⟩
          ·unfold fhV
           dsimp only
           rw[F2.out]
           rfl
          ·dsimp only
           rw[F2.out]
           exact(O11.out.kept fun q hq=>dY (by have:=(O11.out.lt hq).1;omega) _ _ _ _ _ _ _).base hBw
        ·have Je:=FZ.out
         rw[if_pos hy] at Je
         have F0:=aa Je
         have hne:((r8:Int) != y)=true:=by rw[bne_iff_ne];exact hy
         clear Je hy FZ
         go_quiet ((go_at_call 149;exact Calls.quiet_of_same (H8.out _)))
         have yv:=aa (F8.out.kept (below_drewN (ac _) nq |>.mono F8.out.sz))
         have O0:Hid (fg (W8.drewN nq) B0 A' j c' L):=aa (O8.out.kept fun _ _=>rfl)
         obtain⟨W10,SS⟩:∃W10,W10=W8.drewN nq:=⟨_,rfl⟩
         rw[←SS] at yv O0 ⊢
         clear SS F8 O8 H8 q9
         obtain⟨⟨c0,c1,c2,c3,c4,c5,c6⟩,fz⟩:=aw yv.out.lo
         have z0:=fz 0
         have z1:=fz 1
         have z2:=fz 2
         have z3:=fz 3
         have z4:=fz 4
         have z5:=fz 5
         have z6:=fz 6
         clear fz
         go_wp2_with fail
         refine bodyPost_ret (ee rfl _ _ rfl (dG yv.out.lo _ _ _ _ _ _ _)) rfl ?_
         rw[F0.out]
         exact pP (bC yv.out.be yv.out.bw _ _ _ _ _ _ _)
      ·have vo:=Vh.out
       unfold frT at vo
       dsimp only at vo
       rw[if_pos hx] at vo
       have HR8:=aa vo
       have Gd:(x7 != 0)=true:=bne_iff_ne.2 hx
       clear vo Vh hx Vd
       go_upto_region 21 with (go_at_call 53;(with_reducible refine Ur.out.mono ?_);rintro e Wz ⟨rfl,rfl⟩)
       obtain⟨⟨c0,c1,c2,c3,c4,c5,c6⟩,fz⟩:=aw F7.out.lo
       have z0:=fz 0
       have z1:=fz 1
       have z2:=fz 2
       have z3:=fz 3
       have z4:=fz 4
       have z5:=fz 5
       have z6:=fz 6
       clear fz
       go_wp2_with fail
       refine bodyPost_ret (ee rfl _ _ rfl (dG F7.out.lo _ _ _ _ _ _ _)) rfl ?_
       rw[HR8.out]
       exact pP (bC F7.out.be F7.out.bw _ _ _ _ _ _ _)
  ·have HR0:=aa (show RR=(UJ,0,0,2)by rw[cN,if_pos (by omega)])
   clear cN ha hc0 hce hn
   go_enter Tryz.func154,Tryz.ntmps154
   go_upto_region 1 with fail
   obtain⟨W0,hW0⟩:∃W0,W0=w.alloc (.cells #[.int .i64 0,.int .i64 0,.int .i64 0,.int .i64 0,.int .i64 0,.slice none 0 0,.slice none 0 0] 95):=⟨_,rfl⟩
   obtain⟨b,sP⟩:∃b,b=w.heap.size:=⟨_,rfl⟩
   rw[←hW0] at M0 K0
   rw[←sP] at M0
   rw[←hW0,←sP]
   obtain⟨⟨c0,c1,c2,c3,c4,c5,c6⟩,fz⟩:=aw M0.out
   have Uw:=aa sP
   clear hW0 sP
   have q0:W0.cell? ⟨ba,oa,none⟩=some (.int .u8 (ix l 0)):=(K0.out.cell (p:=⟨ba,oa,none⟩) YQ).trans d0
   have q1:W0.cell? ⟨ba,oa+1,none⟩=some (.int .u8 (ix l 1)):=(K0.out.cell (p:=⟨ba,oa+1,none⟩) YQ).trans d1
   generalize ix l 0=y0 at*
   generalize ix l 1=y1 at*
   have z0:=fz 0
   have z1:=fz 1
   have z2:=fz 2
   have z3:=fz 3
   have z4:=fz 4
   have z5:=fz 5
   have z6:=fz 6
   clear fz d0 d1
   by_cases hy:y0=245
   ·have Aa:((y1:Int) != 75)=true:=by rw[bne_iff_ne];omega
    subst hy
    clear hb
    go_wp2_with fail
    refine bodyPost_ret (ee rfl _ _ rfl (dG M0.out _ _ _ _ _ _ _)) rfl ?_
    rw[HR0.out]
    exact pP (bC K0.out (by have:=Uw.out;omega) _ _ _ _ _ _ _)
   ·have Aa:((y0:Int) != 245)=true:=by rw[bne_iff_ne];exact hy
    clear hb hy
    go_wp2_with fail
    refine bodyPost_ret (ee rfl _ _ rfl (dG M0.out _ _ _ _ _ _ _)) rfl ?_
    rw[HR0.out]
    exact pP (bC K0.out (by have:=Uw.out;omega) _ _ _ _ _ _ _)
theorem JC(l:List Int)(n:Nat)(hn:n=l.length)(hm:n≤50000)(hby:aH l)(A:Option Addr)(B c:Nat)(hc:n≤c)(cK:c≤9223372036854775807)(w:World)(hB:B≤w.heap.size)(ha:ag .u8 w B A l):
 Calls Tryz.prog 154 #[.slice A n c] w (FrQ (JA l) w):=
 (uh l n hn hm hby A B c hc cK w hB ha).mono fun _ _ ⟨A1,k,h1,h2,h3,_⟩=>⟨A1,k,h1,h2,h3⟩
end
end Go.Proofs.YtbhfpehgacaidaaGreatDoor
