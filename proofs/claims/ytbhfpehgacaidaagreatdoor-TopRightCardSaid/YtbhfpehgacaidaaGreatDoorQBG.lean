/- A part of the proof of the given statement TopRight. Conditions: none. -/
import Derived.RangeFuncNested
import Derived.RangeFuncBound
import Derived.RangeFuncCalls
import Derived.RangeFuncLeaves
import Derived.RangeFuncBox
import Derived.Shelf.Abstract
import Derived.Shelf.RegionOpen
import Derived.OwnWalkIn
import Derived.TacticsInMore
import Derived.LoopNIn
import Derived.LoopIn
import Derived.Test.YtbhfpehgacaidaaGreatDoorQBF
namespace Go.Proofs.YtbhfpehgacaidaaGreatDoor
set_option linter.unusedVariables false
set_option linter.unusedSimpArgs false
set_option maxRecDepth 100000
set_option maxHeartbeats 8000000
section
open Go.RowKit
structure tC (l d rs:List Int) (wa od:Nat) (po:Int) (ks:List Int) (n:Nat):Prop where
 n1:1≤n
 n2:n≤1000
 ln:n=l.length
 lw:ah l=true
 j:∃j,j<n∧(∀i,i<j→ix l i=ix l 0)∧ix l j≠ix l 0
 w30:wa≤30
 waste:mz (pF l)=(wa:Int)
 down:oP l (wa:Int)=(d,0)
 dn:n=d.length
 dw:ah d=true
 up:Kh d (wa:Int)=(l,0)
 best:(iK d 5).1=(od:Int)
 o4:od≤4
 on:od≤n
 rest:a8 d (od:Int)=(rs,0)
 rw_:ah rs=true
 rl:rs.length=n-od
 bt:(fq n od rs 7).1=(po,ks)
 may:lY po ks n od=true
 kl:ks.length≤9223372036854775807
 cost:fR po ks n od rs≤3000000
 back:iD (d.take od) rs (od:Int)=(d,0)
 wins:¬(jr wa od (d.take od) po ks n rs).length<(bf wa d).length
structure BsS (w W:World) (gr gb gn:Nat) (od:Int):Prop where
 r:W.heap[gr]? =some (.cells cE 171 (0,0))
 n:W.heap[gn]? =some (.cells (AW od) 171 (0,0))
 b:Below w.heap.size w W
 lo:w.heap.size≤gr
 l1:gr<gb
 l2:gb<gn
theorem BsS.below{w W W':World}{gr gb gn:Nat}{od:Int}(h:BsS w W gr gb gn od)(hb:Below W.heap.size W W'):BsS w W' gr gb gn od:=by
 have h1:=h.l1
 have h2:=h.l2
 have h3:=(agn.1 h.n).1
 exact⟨(hb.block gr (by omega)).trans h.r,(hb.block gn h3).trans h.n,af h.b hb,h.lo,h.l1,h.l2⟩
theorem ar{W:World}{gn:Nat}{od:Int}(h:W.heap[gn]? =some (.cells (AW od) 171 (0,0))):∀i v,(AW od)[i]? =some v→W.cell? ⟨gn,i,none⟩=some v:=fun i v hv=>by
 rw[agu _ _ _ _ _ _ h,hv]
theorem cQ(W:World)(a:Addr)(v:Value):(W.setCell a v).heap.size=W.heap.size:=by simp[World.setCell]
theorem vT(W:World)(g:Nat)(x0 x1 x2 x3 x4 x5 x6 x7 x8 x9 p9 tJ uy uU:Value):(fu W g x0 x1 x2 x3 x4 x5 x6 x7 x8 x9 p9 tJ uy uU).heap.size=W.heap.size:=by
 unfold fu
 rw[cQ,cQ,cQ,cQ,cQ,cQ,cQ,cQ,cQ,cQ,cQ,cQ,cQ,cQ]
theorem ag.oth{k:IntKind}{w w':World}{B:Nat}{A:Option Addr}{l:List Int}(h:ag k w B A l)(hk:∀q,aj A=some q→w'.heap[q]? =w.heap[q]?):ag k w' B A l:=fun hn=>by
 obtain⟨b,off,e,hb,hc⟩:=h hn
 exact⟨b,off,e,hb,fun i u hu=>(agy (hk b (by rw[e];rfl))).trans (hc i u hu)⟩
theorem oC.oth{w w':World}{B:Nat}{s:Sb}{m:Ad}(h:oC w B s m)(hk:∀q,aj m.A=some q∨aj m.Ak=some q∨aj m.Ar=some q→w'.heap[q]? =w.heap[q]?):oC w' B s m:=
 ⟨h.wm.oth fun q hq=>hk q (.inl hq),h.ks.oth fun q hq=>hk q (.inr (.inl hq)),h.rs.oth fun q hq=>hk q (.inr (.inr hq)),h.c1,h.c2,h.c3,h.l1,h.l2,h.l3⟩
theorem JT(l d rs:List Int)(wa od:Nat)(po:Int)(ks:List Int)(n:Nat)(hp:tC l d rs wa od po ks n)(A:Option Addr)(c:Nat)(hc:n≤c)(w:World)(hT:C0 w)(ha:ag .i64 w w.heap.size A l):
 Calls Tryz.prog 93 #[.slice A n c,.int .i64 0] w (XP (aK (wa:Int) d) w):=by
 obtain⟨n1,n2,ln,lw,⟨j,Ji,YL,hj2⟩,w30,waste,down,dn,dw,up,best,o4,on,rest,rw_,rl,bt,may,kl,cost,back,wins⟩:=hp
 have Ex:=aa (fun W (h:Below w.heap.size w W)=>by
  have:=ft l (by omega) A w.heap.size c W (ha.below h)
  rw[lw,←ln] at this;exact this)
 have RJ:=aa (fun W (h:Below w.heap.size w W)=>by
  have:=my l n ln (by omega) A w.heap.size c W (hT.below h) (ha.below h)
  rw[waste] at this;exact this)
 have hdn:=aa (fun W (h:Below w.heap.size w W)=>by
  have:=sW l n ln n2 (wa:Int) A c W ((ha.below h).more h.size)
  rw[down] at this;unfold jt at this;dsimp only at this;rw[←dn] at this;exact this)
 have Jr:=aa (fun (A1:Option Addr) (c1:Nat) (W:World) (h:ag .i64 W W.heap.size A1 d)=>TC d (od:Int) best n dn (by omega) A1 c1 W h)
 have Sr:Hid (∀W,Below w.heap.size w W→Calls Tryz.prog 139 #[.int .i64 0,.slice A n c,.agg #[.int .i64 0,.int .i64 0,.int .i64 0,.int .i64 0,.int .i64 0,.slice none 0 0,.int .i64 0,.int .i64 0,.int .i64 0,.slice none 0 0,.slice none 0 0,.int .i64 0,.slice none 0 0,.slice none 0 0]] W fun e w'=>e= .returned (.tuple #[.agg #[.int .i64 0,.int .i64 0,.int .i64 0,.int .i64 0,.int .i64 0,.slice none 0 0,.int .i64 0,.int .i64 0,.int .i64 0,.slice none 0 0,.slice none 0 0,.int .i64 0,.slice none 0 0,.slice none 0 0],.int .i64 7])∧Below W.heap.size W w'):=aa (fun W h=>
  Na l j n ln n1 n2 lw Ji YL hj2 ⟨0,0,0,[],0,[],[]⟩ oq A c W ((ha.below h).more h.size))
 have rM:Hid (∀W,Below w.heap.size w W→Calls Tryz.prog 139 #[.int .i64 1,.slice A n c,.agg #[.int .i64 1,.int .i64 0,.int .i64 0,.int .i64 0,.int .i64 0,.slice none 0 0,.int .i64 0,.int .i64 0,.int .i64 0,.slice none 0 0,.slice none 0 0,.int .i64 0,.slice none 0 0,.slice none 0 0]] W fun e w'=>∃m,e= .returned (.tuple #[.agg #[.int .i64 1,.int .i64 (wa:Int),.int .i64 0,.int .i64 0,.int .i64 0,.slice none 0 0,.int .i64 0,.int .i64 0,.int .i64 0,.slice none 0 0,.slice m.A n m.c,.int .i64 0,.slice m.Ak 0 m.ck,.slice m.Ar 0 m.cr],.int .i64 0])∧oC w' w'.heap.size (aK (wa:Int) d) m∧Below W.heap.size W w'∧∀q,aj m.A=some q∨aj m.Ak=some q∨aj m.Ar=some q→W.heap.size≤q):=aa (fun W h=>
  (IQ l d (wa:Int) n ln n1 n2 lw waste down ⟨1,0,0,[],0,[],[]⟩ oq A c hc W (hT.below h) ((ha.below h).more h.size)).mono fun e w' ⟨m,h1,h2⟩=>⟨m,by rw[h1,dn];rfl,h2⟩)
 have Ge:(d.take od).length=od:=by rw[List.length_take];omega
 obtain⟨rn,Ab⟩:∃rn,rn=rs.length:=⟨_,rfl⟩
 obtain⟨kn,yN⟩:∃kn,kn=ks.length:=⟨_,rfl⟩
 have hfx:∀m:Ad,io (a7 (wa:Int) od (d.take od) po ks rs) m= .agg #[.int .i64 2,.int .i64 (wa:Int),.int .i64 (od:Int),.int .i64 0,.int .i64 0,.slice none 0 0,.int .i64 0,.int .i64 0,.int .i64 0,.slice none 0 0,.slice m.A od m.c,.int .i64 po,.slice m.Ak kn m.ck,.slice m.Ar rn m.cr]:=fun m=>by
  show Value.agg #[.int .i64 2,.int .i64 (wa:Int),.int .i64 (od:Int),.int .i64 0,.int .i64 0,.slice none 0 0,.int .i64 0,.int .i64 0,.int .i64 0,.slice none 0 0,.slice m.A (d.take od).length m.c,.int .i64 po,.slice m.Ak ks.length m.ck,.slice m.Ar rs.length m.cr]=_
  rw[Ge,←yN,←Ab]
 have Sc:∀m:Ad,io (aK (wa:Int) d) m= .agg #[.int .i64 1,.int .i64 (wa:Int),.int .i64 0,.int .i64 0,.int .i64 0,.slice none 0 0,.int .i64 0,.int .i64 0,.int .i64 0,.slice none 0 0,.slice m.A n m.c,.int .i64 0,.slice m.Ak 0 m.ck,.slice m.Ar 0 m.cr]:=fun m=>by rw[dn];rfl
 have HsC:Hid (∀m:Ad,nE (aK (wa:Int) d) m=#[.int .i64 1,.int .i64 (wa:Int),.int .i64 0,.int .i64 0,.int .i64 0,.slice none 0 0,.int .i64 0,.int .i64 0,.int .i64 0,.slice none 0 0,.slice m.A n m.c,.int .i64 0,.slice m.Ak 0 m.ck,.slice m.Ar 0 m.cr]):=aa (fun m=>by rw[dn];rfl)
 have yM:Hid (∀W,Below w.heap.size w W→Calls Tryz.prog 139 #[.int .i64 2,.slice A n c,.agg #[.int .i64 2,.int .i64 0,.int .i64 (od:Int),.int .i64 0,.int .i64 0,.slice none 0 0,.int .i64 0,.int .i64 0,.int .i64 0,.slice none 0 0,.slice none 0 0,.int .i64 0,.slice none 0 0,.slice none 0 0]] W fun e w'=>∃m,e= .returned (.tuple #[.agg #[.int .i64 2,.int .i64 (wa:Int),.int .i64 (od:Int),.int .i64 0,.int .i64 0,.slice none 0 0,.int .i64 0,.int .i64 0,.int .i64 0,.slice none 0 0,.slice m.A od m.c,.int .i64 po,.slice m.Ak kn m.ck,.slice m.Ar rn m.cr],.int .i64 0])∧oC w' w'.heap.size (a7 (wa:Int) od (d.take od) po ks rs) m∧Below W.heap.size W w'):=aa (fun W h=>
  (IR l d rs (wa:Int) od n ln n1 n2 lw waste down dn.symm o4 on rest rw_ rl po ks bt ⟨2,0,(od:Int),[],0,[],[]⟩ rfl oq A c hc W (hT.below h) ((ha.below h).more h.size)).mono fun e w' ⟨m,h1,h2,h3,_⟩=>⟨m,by rw[h1,hfx m],h2,h3⟩)
 have hc1:Hid (∀W m,oC W W.heap.size (aK (wa:Int) d) m→Calls Tryz.prog 140 #[.agg #[.int .i64 1,.int .i64 (wa:Int),.int .i64 0,.int .i64 0,.int .i64 0,.slice none 0 0,.int .i64 0,.int .i64 0,.int .i64 0,.slice none 0 0,.slice m.A n m.c,.int .i64 0,.slice m.Ak 0 m.ck,.slice m.Ar 0 m.cr],.int .i64 (n:Int)] W fun e w'=>e= .returned (.int .i64 ((bf wa d).length:Int))∧Below W.heap.size W w'):=aa (fun W m hm=>by
  rw[←Sc m]
  exact Ds wa w30 d l n dn n1 n2 dw m W.heap.size (pu (wa:Int) d l n dn n1 n2 (by omega) (by omega) dw up m W.heap.size) W (agl _) hm)
 have hc2:Hid (∀W m,oC W W.heap.size (a7 (wa:Int) od (d.take od) po ks rs) m→Calls Tryz.prog 140 #[.agg #[.int .i64 2,.int .i64 (wa:Int),.int .i64 (od:Int),.int .i64 0,.int .i64 0,.slice none 0 0,.int .i64 0,.int .i64 0,.int .i64 0,.slice none 0 0,.slice m.A od m.c,.int .i64 po,.slice m.Ak kn m.ck,.slice m.Ar rn m.cr],.int .i64 (n:Int)] W fun e w'=>e= .returned (.int .i64 ((jr wa od (d.take od) po ks n rs).length:Int))∧Below W.heap.size W w'):=aa (fun W m hm=>by
  rw[←hfx m]
  exact Dt wa od w30 (d.take od) l po ks rs n Ge.symm o4 on n1 n2 (List.all_eq_true.2 fun x hx=>List.all_eq_true.1 dw x (List.mem_of_mem_take hx)) rw_ rl may kl cost m W.heap.size
   (Ia (wa:Int) od (d.take od) po ks rs l d n Ge.symm o4 on n1 n2 (by omega) (by omega) (List.all_eq_true.2 fun x hx=>List.all_eq_true.1 dw x (List.mem_of_mem_take hx)) rw_ rl may kl back (by omega) up m W.heap.size) W (agl _) hm)
 have q1:¬(n:Int)<1:=by omega
 have q2:¬4096<(n:Int):=by omega
 have Yt:¬((jr wa od (d.take od) po ks n rs).length:Int)<((bf wa d).length:Int):=by omega
 generalize (jr wa od (d.take od) po ks n rs).length=C2 at*
 generalize (bf wa d).length=C1 at*
 clear ha hT n1 n2 ln lw Ji YL hj2 w30 waste down dn dw up best o4 on rest rw_ rl bt may kl cost back wins Ge Ab yN hfx
 have Hpx:=aa Sc
 clear Sc
 go_enter Tryz.func93,Tryz.ntmps93
 go_upto_region 1 with fail
 have hx:=ago w (.cells #[.int .i64 0,.int .i64 0,.int .i64 0,.int .i64 0,.int .i64 0,.slice none 0 0,.int .i64 0,.int .i64 0,.int .i64 0,.slice none 0 0,.slice none 0 0,.int .i64 0,.slice none 0 0,.slice none 0 0] 171)
 have bx:=ak (ac w) (.cells #[.int .i64 0,.int .i64 0,.int .i64 0,.int .i64 0,.int .i64 0,.slice none 0 0,.int .i64 0,.int .i64 0,.int .i64 0,.slice none 0 0,.slice none 0 0,.int .i64 0,.slice none 0 0,.slice none 0 0] 171)
 obtain⟨wx,hwx⟩:∃wx,wx=w.alloc (.cells #[.int .i64 0,.int .i64 0,.int .i64 0,.int .i64 0,.int .i64 0,.slice none 0 0,.int .i64 0,.int .i64 0,.int .i64 0,.slice none 0 0,.slice none 0 0,.int .i64 0,.slice none 0 0,.slice none 0 0] 171):=⟨_,rfl⟩
 rw[←hwx] at hx bx ⊢
 obtain⟨gr,hgr⟩:∃gr,gr=w.heap.size:=⟨_,rfl⟩
 rw[←hgr] at hx ⊢
 have HX:=aa hx
 have BX:=aa bx
 have rJ:=aa hgr
 clear hwx hx bx hgr
 go_upto_region 9 with (first
  |(go_at_call 135;(with_reducible refine(Ex.out wx BX.out).mono ?_);rintro e w1 ⟨rfl,rfl⟩)
  |(go_at_call 137;(with_reducible refine(RJ.out _ BX.out).mono ?_);rintro e w2 ⟨rfl,rfl⟩)
  |(go_at_call 136;(with_reducible refine(hdn.out _ BX.out).mono ?_);rintro e w3 ⟨A3,c3,rfl,bF,b3⟩))
 have hy:=ago w3 (.cells #[.int .i64 0,.int .i64 0,.int .i64 0,.int .i64 0,.int .i64 0,.slice none 0 0,.int .i64 0,.int .i64 0,.int .i64 0,.slice none 0 0,.slice none 0 0,.int .i64 0,.slice none 0 0,.slice none 0 0] 171)
 have lz:=ak b3 (.cells #[.int .i64 0,.int .i64 0,.int .i64 0,.int .i64 0,.int .i64 0,.slice none 0 0,.int .i64 0,.int .i64 0,.int .i64 0,.slice none 0 0,.slice none 0 0,.int .i64 0,.slice none 0 0,.slice none 0 0] 171)
 have bE:=bF.alloc (.cells #[.int .i64 0,.int .i64 0,.int .i64 0,.int .i64 0,.int .i64 0,.slice none 0 0,.int .i64 0,.int .i64 0,.int .i64 0,.slice none 0 0,.slice none 0 0,.int .i64 0,.slice none 0 0,.slice none 0 0] 171)
 obtain⟨wy,mi⟩:∃wy,wy=w3.alloc (.cells #[.int .i64 0,.int .i64 0,.int .i64 0,.int .i64 0,.int .i64 0,.slice none 0 0,.int .i64 0,.int .i64 0,.int .i64 0,.slice none 0 0,.slice none 0 0,.int .i64 0,.slice none 0 0,.slice none 0 0] 171):=⟨_,rfl⟩
 rw[←mi] at hy lz bE ⊢
 obtain⟨gb,hgb⟩:∃gb,gb=w3.heap.size:=⟨_,rfl⟩
 rw[←hgb] at hy ⊢
 have HY:=aa hy
 have BY:=aa lz
 have X8:=aa bE
 have acD:=(agn.1 HX.out).1
 have Hrb:Hid (gr<gb):=aa (by have:=b3.size;omega)
 have aeM:=aa acD
 clear mi hy lz hgb bE bF b3 acD
 go_upto_region 11 with (go_at_call 138;(with_reducible refine(Jr.out A3 c3 wy (ax.ints X8.out)).mono ?_);rintro e w5 ⟨gn,rfl,hn5,EL,b5⟩)
 have h5:BsS w w5 gr gb gn (od:Int):=by
  have e1:=(agn.1 HY.out).1
  have e2:=Hrb.out
  have e3:=rJ.out
  exact⟨(b5.block gr (by omega)).trans ((BY.out.block gr aeM.out).trans HX.out),hn5,af (af BX.out BY.out) b5,by omega,e2,by omega⟩
 have H5:=aa h5
 have HZ5:=aa ((b5.block gb (agn.1 HY.out).1).trans HY.out)
 clear h5 hn5 EL b5
 go_loopw [9,10,52] (fun cv fv iv wr=>∃i:Nat,i≤3∧iv= .int .i64 (i:Int)∧BsS w wr gr gb gn (od:Int)∧((i≤1∧cv= .int .i64 0∧fv= .bool false∧wr.heap[gb]? =some (.cells #[.int .i64 0,.int .i64 0,.int .i64 0,.int .i64 0,.int .i64 0,.slice none 0 0,.int .i64 0,.int .i64 0,.int .i64 0,.slice none 0 0,.slice none 0 0,.int .i64 0,.slice none 0 0,.slice none 0 0] 171 (0,0)))∨(2≤i∧cv= .int .i64 (C1:Int)∧fv= .bool true∧∃m,wr.heap[gb]? =some (.cells (nE (aK (wa:Int) d) m) 171 (0,0))∧oC wr wr.heap.size (aK (wa:Int) d) m∧∀q,aj m.A=some q∨aj m.Ak=some q∨aj m.Ar=some q→gb<q))) (fun _ _ iv _=>3-(intOf iv).toNat)
 case atStart=>exact⟨0,by omega,rfl,H5.out,.inl ⟨by omega,rfl,rfl,HZ5.out⟩⟩
 case round=>
  obtain⟨i,hi,rfl,hS,hst⟩:=hrel
  obtain⟨wo,rfl⟩:∃wo:World,wo=wr:=⟨_,rfl⟩
  have HS:=aa hS
  clear hS
  have hic:i=0∨i=1∨i=2∨i=3:=by omega
  rcases hic with rfl | rfl | rfl | rfl
  ·obtain⟨_,rfl,rfl,hz⟩ | ⟨h2,_⟩:=hst
   case inr=>omega
   have HZ:=aa hz
   clear hz hi
   have c0:wo.cell? ⟨gn,0,none⟩=some (.int .i64 0):=ar HS.out.n 0 _ rfl
   have c1:wo.cell? ⟨gn,1,none⟩=some (.int .i64 0):=ar HS.out.n 1 _ rfl
   have c2:wo.cell? ⟨gn,2,none⟩=some (.int .i64 0):=ar HS.out.n 2 _ rfl
   have c3:wo.cell? ⟨gn,3,none⟩=some (.int .i64 0):=ar HS.out.n 3 _ rfl
   have c4:wo.cell? ⟨gn,4,none⟩=some (.int .i64 0):=ar HS.out.n 4 _ rfl
   have c5:wo.cell? ⟨gn,5,none⟩=some (.slice none 0 0):=ar HS.out.n 5 _ rfl
   have c6:wo.cell? ⟨gn,6,none⟩=some (.int .i64 0):=ar HS.out.n 6 _ rfl
   have c7:wo.cell? ⟨gn,7,none⟩=some (.int .i64 0):=ar HS.out.n 7 _ rfl
   have c8:wo.cell? ⟨gn,8,none⟩=some (.int .i64 0):=ar HS.out.n 8 _ rfl
   have c9:wo.cell? ⟨gn,9,none⟩=some (.slice none 0 0):=ar HS.out.n 9 _ rfl
   have c10:wo.cell? ⟨gn,10,none⟩=some (.slice none 0 0):=ar HS.out.n 10 _ rfl
   have c11:wo.cell? ⟨gn,11,none⟩=some (.int .i64 0):=ar HS.out.n 11 _ rfl
   have c12:wo.cell? ⟨gn,12,none⟩=some (.slice none 0 0):=ar HS.out.n 12 _ rfl
   have c13:wo.cell? ⟨gn,13,none⟩=some (.slice none 0 0):=ar HS.out.n 13 _ rfl
   go_upto_region 13 with fail
   have hx:=ago wo (.cells #[.int .i64 0,.int .i64 0,.int .i64 0,.int .i64 0,.int .i64 0,.slice none 0 0,.int .i64 0,.int .i64 0,.int .i64 0,.slice none 0 0,.slice none 0 0,.int .i64 0,.slice none 0 0,.slice none 0 0] 171)
   have bx:=ak (ac wo) (.cells #[.int .i64 0,.int .i64 0,.int .i64 0,.int .i64 0,.int .i64 0,.slice none 0 0,.int .i64 0,.int .i64 0,.int .i64 0,.slice none 0 0,.slice none 0 0,.int .i64 0,.slice none 0 0,.slice none 0 0] 171)
   obtain⟨PZ,hw⟩:∃PZ,PZ=wo.alloc (.cells #[.int .i64 0,.int .i64 0,.int .i64 0,.int .i64 0,.int .i64 0,.slice none 0 0,.int .i64 0,.int .i64 0,.int .i64 0,.slice none 0 0,.slice none 0 0,.int .i64 0,.slice none 0 0,.slice none 0 0] 171):=⟨_,rfl⟩
   rw[←hw] at hx bx ⊢
   obtain⟨ga,hg⟩:∃ga,ga=wo.heap.size:=⟨_,rfl⟩
   rw[←hg] at hx ⊢
   have Zk:=aa (HS.out.below bx)
   have Hxa:=aa hx
   have Po:=aa bx
   have Hga:=aa hg
   obtain⟨⟨k0,k1,k2,k3,k4,k5,k6,k7,k8,k9,eu,eP,eO,eN⟩,_⟩:=ai hx
   clear hw hx bx hg c0 c1 c2 c3 c4 c5 c6 c7 c8 c9 c10 c11 c12 c13
   go_upto_region 14 with (go_at_call 139;(with_reducible refine(Sr.out PZ Zk.out.b).mono ?_);rintro e w6 ⟨rfl,b6⟩)
   have Jb:=ago w6 (.cells #[.int .i64 0,.int .i64 0,.int .i64 0,.int .i64 0,.int .i64 0,.slice none 0 0,.int .i64 0,.int .i64 0,.int .i64 0,.slice none 0 0,.slice none 0 0,.int .i64 0,.slice none 0 0,.slice none 0 0] 171)
   have CZ:=ak (ac w6) (.cells #[.int .i64 0,.int .i64 0,.int .i64 0,.int .i64 0,.int .i64 0,.slice none 0 0,.int .i64 0,.int .i64 0,.int .i64 0,.slice none 0 0,.slice none 0 0,.int .i64 0,.slice none 0 0,.slice none 0 0] 171)
   obtain⟨w7,jl⟩:∃w7,w7=w6.alloc (.cells #[.int .i64 0,.int .i64 0,.int .i64 0,.int .i64 0,.int .i64 0,.slice none 0 0,.int .i64 0,.int .i64 0,.int .i64 0,.slice none 0 0,.slice none 0 0,.int .i64 0,.slice none 0 0,.slice none 0 0] 171):=⟨_,rfl⟩
   rw[←jl] at Jb CZ ⊢
   obtain⟨gq,xy⟩:∃gq,gq=w6.heap.size:=⟨_,rfl⟩
   rw[←xy] at Jb ⊢
   have HS7:=aa ((Zk.out.below b6).below CZ)
   have HZ7:=aa (((Po.out.trans (b6.mono Po.out.size)).trans (CZ.mono (agm Po.out.size b6.size))).block gb (agn.1 HZ.out).1 |>.trans HZ.out)
   clear jl Jb CZ xy b6
   go_wp2_with fail
   exact⟨⟨1,by omega,by go_num,HS7.out,.inl ⟨by omega,rfl,rfl,HZ7.out⟩⟩,by simp[intOf]⟩
  ·obtain⟨_,rfl,rfl,hz⟩ | ⟨h2,_⟩:=hst
   case inr=>omega
   have HZ:=aa hz
   clear hz hi
   have c0:wo.cell? ⟨gn,14,none⟩=some (.int .i64 1):=ar HS.out.n 14 _ rfl
   have c1:wo.cell? ⟨gn,15,none⟩=some (.int .i64 0):=ar HS.out.n 15 _ rfl
   have c2:wo.cell? ⟨gn,16,none⟩=some (.int .i64 0):=ar HS.out.n 16 _ rfl
   have c3:wo.cell? ⟨gn,17,none⟩=some (.int .i64 0):=ar HS.out.n 17 _ rfl
   have c4:wo.cell? ⟨gn,18,none⟩=some (.int .i64 0):=ar HS.out.n 18 _ rfl
   have c5:wo.cell? ⟨gn,19,none⟩=some (.slice none 0 0):=ar HS.out.n 19 _ rfl
   have c6:wo.cell? ⟨gn,20,none⟩=some (.int .i64 0):=ar HS.out.n 20 _ rfl
   have c7:wo.cell? ⟨gn,21,none⟩=some (.int .i64 0):=ar HS.out.n 21 _ rfl
   have c8:wo.cell? ⟨gn,22,none⟩=some (.int .i64 0):=ar HS.out.n 22 _ rfl
   have c9:wo.cell? ⟨gn,23,none⟩=some (.slice none 0 0):=ar HS.out.n 23 _ rfl
   have c10:wo.cell? ⟨gn,24,none⟩=some (.slice none 0 0):=ar HS.out.n 24 _ rfl
   have c11:wo.cell? ⟨gn,25,none⟩=some (.int .i64 0):=ar HS.out.n 25 _ rfl
   have c12:wo.cell? ⟨gn,26,none⟩=some (.slice none 0 0):=ar HS.out.n 26 _ rfl
   have c13:wo.cell? ⟨gn,27,none⟩=some (.slice none 0 0):=ar HS.out.n 27 _ rfl
   go_upto_region 13 with fail
   have hx:=ago wo (.cells #[.int .i64 1,.int .i64 0,.int .i64 0,.int .i64 0,.int .i64 0,.slice none 0 0,.int .i64 0,.int .i64 0,.int .i64 0,.slice none 0 0,.slice none 0 0,.int .i64 0,.slice none 0 0,.slice none 0 0] 171)
   have bx:=ak (ac wo) (.cells #[.int .i64 1,.int .i64 0,.int .i64 0,.int .i64 0,.int .i64 0,.slice none 0 0,.int .i64 0,.int .i64 0,.int .i64 0,.slice none 0 0,.slice none 0 0,.int .i64 0,.slice none 0 0,.slice none 0 0] 171)
   obtain⟨PZ,hw⟩:∃PZ,PZ=wo.alloc (.cells #[.int .i64 1,.int .i64 0,.int .i64 0,.int .i64 0,.int .i64 0,.slice none 0 0,.int .i64 0,.int .i64 0,.int .i64 0,.slice none 0 0,.slice none 0 0,.int .i64 0,.slice none 0 0,.slice none 0 0] 171):=⟨_,rfl⟩
   rw[←hw] at hx bx ⊢
   obtain⟨ga,hg⟩:∃ga,ga=wo.heap.size:=⟨_,rfl⟩
   rw[←hg] at hx ⊢
   have Zk:=aa (HS.out.below bx)
   have Hxa:=aa hx
   have Po:=aa bx
   have Hga:=aa hg
   obtain⟨⟨k0,k1,k2,k3,k4,k5,k6,k7,k8,k9,eu,eP,eO,eN⟩,_⟩:=ai hx
   clear hw hx bx hg c0 c1 c2 c3 c4 c5 c6 c7 c8 c9 c10 c11 c12 c13
   go_upto_region 14 with (go_at_call 139;(with_reducible refine(rM.out PZ Zk.out.b).mono ?_);rintro e w6 ⟨m,rfl,hm6,b6,acq⟩)
   have Jb:=ago w6 (.cells #[.int .i64 1,.int .i64 (wa:Int),.int .i64 0,.int .i64 0,.int .i64 0,.slice none 0 0,.int .i64 0,.int .i64 0,.int .i64 0,.slice none 0 0,.slice m.A n m.c,.int .i64 0,.slice m.Ak 0 m.ck,.slice m.Ar 0 m.cr] 171)
   have CZ:=ak (ac w6) (.cells #[.int .i64 1,.int .i64 (wa:Int),.int .i64 0,.int .i64 0,.int .i64 0,.slice none 0 0,.int .i64 0,.int .i64 0,.int .i64 0,.slice none 0 0,.slice m.A n m.c,.int .i64 0,.slice m.Ak 0 m.ck,.slice m.Ar 0 m.cr] 171)
   obtain⟨w7,jl⟩:∃w7,w7=w6.alloc (.cells #[.int .i64 1,.int .i64 (wa:Int),.int .i64 0,.int .i64 0,.int .i64 0,.slice none 0 0,.int .i64 0,.int .i64 0,.int .i64 0,.slice none 0 0,.slice m.A n m.c,.int .i64 0,.slice m.Ak 0 m.ck,.slice m.Ar 0 m.cr] 171):=⟨_,rfl⟩
   rw[←jl] at Jb CZ ⊢
   obtain⟨gq,xy⟩:∃gq,gq=w6.heap.size:=⟨_,rfl⟩
   rw[←xy] at Jb ⊢
   have Vi:=aa ((hm6.below CZ).more CZ.size)
   have HS7:=aa ((Zk.out.below b6).below CZ)
   have hz7:=((Po.out.trans (b6.mono Po.out.size)).trans (CZ.mono (agm Po.out.size b6.size))).block gb (agn.1 HZ.out).1 |>.trans HZ.out
   have HZ7:=aa hz7
   have Hgq:Hid (gb<gq):=aa (by have e1:=(agn.1 HZ.out).1;have e2:=Po.out.size;have e3:=b6.size;omega)
   have Hxq:=aa Jb
   have Hlo:Hid (∀q,aj m.A=some q∨aj m.Ak=some q∨aj m.Ar=some q→gb<q):=aa (fun q hq=>by have e0:=acq q hq;have e1:=(agn.1 HZ.out).1;have e2:=Po.out.size;omega)
   obtain⟨⟨y0,y1,y2,y3,y4,y5,y6,y7,y8,y9,yZ,yY,yX,yV⟩,_⟩:=ai Jb
   clear jl Jb CZ xy b6 hm6 acq hz7
   go_upto_region 17 with (go_at_call 140;(with_reducible refine(hc1.out w7 m Vi.out).mono ?_);rintro e w8 ⟨rfl,b8⟩;have Z7:=(b8.block gb (agn.1 HZ7.out).1).trans HZ7.out;obtain⟨⟨v0,v1,v2,v3,v4,v5,v6,v7,v8,v9,v10,v11,v12,v13⟩,f0,f1,f2,f3,f4,f5,f6,f7,f8,f9,f10,f11,Lg,f13⟩:=ai Z7;obtain⟨⟨y0,y1,y2,y3,y4,y5,y6,y7,y8,y9,yZ,yY,yX,yV⟩,_⟩:=ai ((b8.block gq (agn.1 Hxq.out).1).trans Hxq.out))
   have HS8:=aa (HS7.out.below b8)
   have HM8:=aa ((Vi.out.below b8).more b8.size)
   have HZ8:=aa Z7
   go_wp2_with fail
   have hl:=HS8.out.lo
   have hl1:=HS8.out.l1
   have hl2:=HS8.out.l2
   have mR:∀q,q≠gb→(fu w8 gb (.int .i64 1) (.int .i64 (wa:Int)) (.int .i64 0) (.int .i64 0) (.int .i64 0) (.slice none 0 0) (.int .i64 0) (.int .i64 0) (.int .i64 0) (.slice none 0 0) (.slice m.A n m.c) (.int .i64 0) (.slice m.Ak 0 m.ck) (.slice m.Ar 0 m.cr)).heap[q]? =w8.heap[q]? :=fun q hq=>dZ hq _ _ _ _ _ _ _ _ _ _ _ _ _ _
   have hS9:BsS w (fu w8 gb (.int .i64 1) (.int .i64 (wa:Int)) (.int .i64 0) (.int .i64 0) (.int .i64 0) (.slice none 0 0) (.int .i64 0) (.int .i64 0) (.int .i64 0) (.slice none 0 0) (.slice m.A n m.c) (.int .i64 0) (.slice m.Ak 0 m.ck) (.slice m.Ar 0 m.cr)) gr gb gn (od:Int):=⟨(mR gr (by omega)).trans HS8.out.r,(mR gn (by omega)).trans HS8.out.n,cL HS8.out.b (by omega) _ _ _ _ _ _ _ _ _ _ _ _ _ _,hl,hl1,hl2⟩
   have hC8:=dI HZ8.out (.int .i64 1) (.int .i64 (wa:Int)) (.int .i64 0) (.int .i64 0) (.int .i64 0) (.slice none 0 0) (.int .i64 0) (.int .i64 0) (.int .i64 0) (.slice none 0 0) (.slice m.A n m.c) (.int .i64 0) (.slice m.Ak 0 m.ck) (.slice m.Ar 0 m.cr)
   rw[←HsC.out m] at hC8
   have hM9:oC (fu w8 gb (.int .i64 1) (.int .i64 (wa:Int)) (.int .i64 0) (.int .i64 0) (.int .i64 0) (.slice none 0 0) (.int .i64 0) (.int .i64 0) (.int .i64 0) (.slice none 0 0) (.slice m.A n m.c) (.int .i64 0) (.slice m.Ak 0 m.ck) (.slice m.Ar 0 m.cr)) (fu w8 gb (.int .i64 1) (.int .i64 (wa:Int)) (.int .i64 0) (.int .i64 0) (.int .i64 0) (.slice none 0 0) (.int .i64 0) (.int .i64 0) (.int .i64 0) (.slice none 0 0) (.slice m.A n m.c) (.int .i64 0) (.slice m.Ak 0 m.ck) (.slice m.Ar 0 m.cr)).heap.size (aK (wa:Int) d) m:=by
    have e:(fu w8 gb (.int .i64 1) (.int .i64 (wa:Int)) (.int .i64 0) (.int .i64 0) (.int .i64 0) (.slice none 0 0) (.int .i64 0) (.int .i64 0) (.int .i64 0) (.slice none 0 0) (.slice m.A n m.c) (.int .i64 0) (.slice m.Ak 0 m.ck) (.slice m.Ar 0 m.cr)).heap.size=w8.heap.size:=vT _ _ _ _ _ _ _ _ _ _ _ _ _ _ _ _
    rw[e]
    exact HM8.out.oth fun q hq=>mR q (by have:=Hlo.out q hq;omega)
   exact⟨⟨2,by omega,by go_num,hS9,.inr ⟨by omega,rfl,rfl,m,hC8,hM9,Hlo.out⟩⟩,by simp[intOf]⟩
  ·obtain⟨h2,_⟩ | ⟨_,rfl,rfl,mp,hz,yK,hlp⟩:=hst
   case inl=>omega
   have HZ:=aa hz
   have HMP:=aa yK
   clear hz hi yK
   have c0:wo.cell? ⟨gn,28,none⟩=some (.int .i64 2):=ar HS.out.n 28 _ rfl
   have c1:wo.cell? ⟨gn,29,none⟩=some (.int .i64 0):=ar HS.out.n 29 _ rfl
   have c2:wo.cell? ⟨gn,30,none⟩=some (.int .i64 (od:Int)):=ar HS.out.n 30 _ rfl
   have c3:wo.cell? ⟨gn,31,none⟩=some (.int .i64 0):=ar HS.out.n 31 _ rfl
   have c4:wo.cell? ⟨gn,32,none⟩=some (.int .i64 0):=ar HS.out.n 32 _ rfl
   have c5:wo.cell? ⟨gn,33,none⟩=some (.slice none 0 0):=ar HS.out.n 33 _ rfl
   have c6:wo.cell? ⟨gn,34,none⟩=some (.int .i64 0):=ar HS.out.n 34 _ rfl
   have c7:wo.cell? ⟨gn,35,none⟩=some (.int .i64 0):=ar HS.out.n 35 _ rfl
   have c8:wo.cell? ⟨gn,36,none⟩=some (.int .i64 0):=ar HS.out.n 36 _ rfl
   have c9:wo.cell? ⟨gn,37,none⟩=some (.slice none 0 0):=ar HS.out.n 37 _ rfl
   have c10:wo.cell? ⟨gn,38,none⟩=some (.slice none 0 0):=ar HS.out.n 38 _ rfl
   have c11:wo.cell? ⟨gn,39,none⟩=some (.int .i64 0):=ar HS.out.n 39 _ rfl
   have c12:wo.cell? ⟨gn,40,none⟩=some (.slice none 0 0):=ar HS.out.n 40 _ rfl
   have c13:wo.cell? ⟨gn,41,none⟩=some (.slice none 0 0):=ar HS.out.n 41 _ rfl
   go_upto_region 13 with fail
   have hx:=ago wo (.cells #[.int .i64 2,.int .i64 0,.int .i64 (od:Int),.int .i64 0,.int .i64 0,.slice none 0 0,.int .i64 0,.int .i64 0,.int .i64 0,.slice none 0 0,.slice none 0 0,.int .i64 0,.slice none 0 0,.slice none 0 0] 171)
   have bx:=ak (ac wo) (.cells #[.int .i64 2,.int .i64 0,.int .i64 (od:Int),.int .i64 0,.int .i64 0,.slice none 0 0,.int .i64 0,.int .i64 0,.int .i64 0,.slice none 0 0,.slice none 0 0,.int .i64 0,.slice none 0 0,.slice none 0 0] 171)
   obtain⟨PZ,hw⟩:∃PZ,PZ=wo.alloc (.cells #[.int .i64 2,.int .i64 0,.int .i64 (od:Int),.int .i64 0,.int .i64 0,.slice none 0 0,.int .i64 0,.int .i64 0,.int .i64 0,.slice none 0 0,.slice none 0 0,.int .i64 0,.slice none 0 0,.slice none 0 0] 171):=⟨_,rfl⟩
   rw[←hw] at hx bx ⊢
   obtain⟨ga,hg⟩:∃ga,ga=wo.heap.size:=⟨_,rfl⟩
   rw[←hg] at hx ⊢
   have Zk:=aa (HS.out.below bx)
   have Hxa:=aa hx
   have Po:=aa bx
   have Hga:=aa hg
   obtain⟨⟨k0,k1,k2,k3,k4,k5,k6,k7,k8,k9,eu,eP,eO,eN⟩,_⟩:=ai hx
   clear hw hx bx hg c0 c1 c2 c3 c4 c5 c6 c7 c8 c9 c10 c11 c12 c13
   go_upto_region 14 with (go_at_call 139;(with_reducible refine(yM.out PZ Zk.out.b).mono ?_);rintro e w6 ⟨m,rfl,hm6,b6⟩)
   have Jb:=ago w6 (.cells #[.int .i64 2,.int .i64 (wa:Int),.int .i64 (od:Int),.int .i64 0,.int .i64 0,.slice none 0 0,.int .i64 0,.int .i64 0,.int .i64 0,.slice none 0 0,.slice m.A od m.c,.int .i64 po,.slice m.Ak kn m.ck,.slice m.Ar rn m.cr] 171)
   have CZ:=ak (ac w6) (.cells #[.int .i64 2,.int .i64 (wa:Int),.int .i64 (od:Int),.int .i64 0,.int .i64 0,.slice none 0 0,.int .i64 0,.int .i64 0,.int .i64 0,.slice none 0 0,.slice m.A od m.c,.int .i64 po,.slice m.Ak kn m.ck,.slice m.Ar rn m.cr] 171)
   obtain⟨w7,jl⟩:∃w7,w7=w6.alloc (.cells #[.int .i64 2,.int .i64 (wa:Int),.int .i64 (od:Int),.int .i64 0,.int .i64 0,.slice none 0 0,.int .i64 0,.int .i64 0,.int .i64 0,.slice none 0 0,.slice m.A od m.c,.int .i64 po,.slice m.Ak kn m.ck,.slice m.Ar rn m.cr] 171):=⟨_,rfl⟩
   rw[←jl] at Jb CZ ⊢
   obtain⟨gq,xy⟩:∃gq,gq=w6.heap.size:=⟨_,rfl⟩
   rw[←xy] at Jb ⊢
   have Vi:=aa ((hm6.below CZ).more CZ.size)
   have HS7:=aa ((Zk.out.below b6).below CZ)
   have B7:=aa ((Po.out.trans (b6.mono Po.out.size)).trans (CZ.mono (agm Po.out.size b6.size)))
   have Hxq:=aa Jb
   obtain⟨⟨y0,y1,y2,y3,y4,y5,y6,y7,y8,y9,yZ,yY,yX,yV⟩,_⟩:=ai Jb
   clear jl Jb CZ xy b6 hm6
   go_wp2_with (go_at_call 140;(with_reducible refine(hc2.out w7 m Vi.out).mono ?_);rintro e w8 ⟨rfl,b8⟩)
   have b78:=B7.out.trans (b8.mono B7.out.size)
   exact⟨⟨3,by omega,by go_num,HS7.out.below b8,.inr ⟨by omega,rfl,rfl,mp,(b78.block gb (agn.1 HZ.out).1).trans HZ.out,(HMP.out.below b78).more b78.size,hlp⟩⟩,by simp[intOf]⟩
  ·obtain⟨h2,_⟩ | ⟨_,rfl,rfl,m,hz,yK,hlp⟩:=hst
   case inl=>omega
   rw[HsC.out m] at hz
   obtain⟨⟨k0,k1,k2,k3,k4,k5,k6,k7,k8,k9,eu,eP,eO,eN⟩,_⟩:=ai hz
   have HMP:=aa yK
   have hr:=HS.out.r
   unfold cE at hr
   have HR:=aa hr
   obtain⟨⟨r0,r1,r2,r3,r4,r5,r6,r7,r8,r9,r10,r11,r12,r13⟩,f0,f1,f2,f3,f4,f5,f6,f7,f8,f9,f10,f11,Lg,f13⟩:=ai hr
   clear hz hi yK hr
   go_wp2_with fail
   refine bodyPost_ret (gW rfl _ _ #[.int .i64 1,.int .i64 (wa:Int),.int .i64 0,.int .i64 0,.int .i64 0,.slice none 0 0,.int .i64 0,.int .i64 0,.int .i64 0,.slice none 0 0,.slice m.A n m.c,.int .i64 0,.slice m.Ak 0 m.ck,.slice m.Ar 0 m.cr] rfl (dI HR.out _ _ _ _ _ _ _ _ _ _ _ _ _ _) rfl) rfl ?_
   have hl:=HS.out.lo
   have hl1:=HS.out.l1
   have mR:∀q,q≠gr→(fu wo gr (.int .i64 1) (.int .i64 (wa:Int)) (.int .i64 0) (.int .i64 0) (.int .i64 0) (.slice none 0 0) (.int .i64 0) (.int .i64 0) (.int .i64 0) (.slice none 0 0) (.slice m.A n m.c) (.int .i64 0) (.slice m.Ak 0 m.ck) (.slice m.Ar 0 m.cr)).heap[q]? =wo.heap[q]? :=fun q hq=>dZ hq _ _ _ _ _ _ _ _ _ _ _ _ _ _
   refine⟨m,by rw[Hpx.out m];rfl, ?_,cL HS.out.b hl _ _ _ _ _ _ _ _ _ _ _ _ _ _,fun q hq=>by have:=hlp q hq;omega⟩
   have e:(fu wo gr (.int .i64 1) (.int .i64 (wa:Int)) (.int .i64 0) (.int .i64 0) (.int .i64 0) (.slice none 0 0) (.int .i64 0) (.int .i64 0) (.int .i64 0) (.slice none 0 0) (.slice m.A n m.c) (.int .i64 0) (.slice m.Ak 0 m.ck) (.slice m.Ar 0 m.cr)).heap.size=wo.heap.size:=vT _ _ _ _ _ _ _ _ _ _ _ _ _ _ _ _
   show oC (fu wo gr (.int .i64 1) (.int .i64 (wa:Int)) (.int .i64 0) (.int .i64 0) (.int .i64 0) (.slice none 0 0) (.int .i64 0) (.int .i64 0) (.int .i64 0) (.slice none 0 0) (.slice m.A n m.c) (.int .i64 0) (.slice m.Ak 0 m.ck) (.slice m.Ar 0 m.cr)) (fu wo gr (.int .i64 1) (.int .i64 (wa:Int)) (.int .i64 0) (.int .i64 0) (.int .i64 0) (.slice none 0 0) (.int .i64 0) (.int .i64 0) (.int .i64 0) (.slice none 0 0) (.slice m.A n m.c) (.int .i64 0) (.slice m.Ak 0 m.ck) (.slice m.Ar 0 m.cr)).heap.size (aK (wa:Int) d) m
   rw[e]
   exact HMP.out.oth fun q hq=>mR q (by have:=hlp q hq;omega)
set_option maxRecDepth 100000
theorem Tq{ls:List fF}{k:Nat}(h:k<ls.length):ls.drop k=(tV ls k,tT ls k,vn ls k) :: ls.drop (k+1):=by
 have e:ls[k]=(tV ls k,tT ls k,vn ls k):=by simp[tV,tT,vn,h]
 rw[←e];exact List.drop_eq_getElem_cons h
def lK(R:Nat→List Int)(i:Nat):Bool:=decide ((R i).length=(R 0).length) && ah (R i)
theorem pw{R:Nat→List Int}{i:Nat}:lK R i=true↔(R i).length=(R 0).length∧ah (R i)=true:=by simp[lK]
def eU(R:Nat→List Int)(r:Nat):Bool:=decide (1≤r) && decide (r≤8) && decide ((R 0).length≤4096) && (List.range r).all (lK R)
theorem fl{R:Nat→List Int}{r:Nat}:eU R r=true↔1≤r∧r≤8∧(R 0).length≤4096∧∀i,i<r→(R i).length=(R 0).length∧ah (R i)=true:=by
 simp[eU,and_assoc,lK]
theorem qr{R:Nat→List Int}{r:Nat}(h:¬(1≤r∧r≤8∧(R 0).length≤4096∧∀i,i<r→(R i).length=(R 0).length∧ah (R i)=true)):eU R r=false:=by
 cases e:eU R r with
 |false=>rfl
 |true=>exact absurd (fl.1 e) h
theorem zm{R:Nat→List Int}{r i:Nat}(hi:i<r)(h:lK R i=false):eU R r=false:=qr fun h'=>by rw[pw.2 (h'.2.2.2 i hi)] at h;cases h
theorem Mf{R:Nat→List Int}{i:Nat}(h:(R i).length≠(R 0).length):lK R i=false:=by simp[lK,h]
theorem Mg{R:Nat→List Int}{i:Nat}(h:ah (R i)=false):lK R i=false:=by simp[lK,h]
def dE(y x:List Int)(g sg:Int):List Int:=(List.range x.length).map fun i=>ix y i+sg*(g*ix x i/256)
theorem pV(y x:List Int)(g sg:Int):(dE y x g sg).length=x.length:=by simp[dE]
theorem OS{y x:List Int}{g sg:Int}{i:Nat}(h:i<x.length):ix (dE y x g sg) i=ix y i+sg*(g*ix x i/256):=by unfold dE;rw[eF _ _ _ h]
def oz(R:Nat→List Int)(f t:Nat)(g sg:Int):Nat→List Int:=fun j=>if j=t then dE (R t) (R f) g sg else R j
theorem abb(R:Nat→List Int)(f t:Nat)(g sg:Int):oz R f t g sg t=dE (R t) (R f) g sg:=by simp[oz]
theorem abc{R:Nat→List Int}{f t j:Nat}{g sg:Int}(h:j≠t):oz R f t g sg j=R j:=by simp[oz,h]
def Y8(R:Nat→List Int)(r m:Nat):Prop:=∀i,i<r→(R i).length=m∧ah (R i)=true
theorem Rb{R:Nat→List Int}{r:Nat}(h:eU R r=true):Y8 R r (R 0).length:=(fl.1 h).2.2.2
theorem Y8.app{R:Nat→List Int}{r m f t:Nat}{g sg:Int}(h:Y8 R r m)(hf:f<r)(hw:ah (dE (R t) (R f) g sg)=true):Y8 (oz R f t g sg) r m:=fun i hi=>by
 by_cases e:i=t
 ·subst e;rw[abb];exact⟨by rw[pV];exact(h f hf).1,hw⟩
 ·rw[abc e];exact h i hi
def qU(sg:Int):(Nat→List Int)→List fF→Option (Nat→List Int)
 |R,[]=>some R
 |R,s :: ss=>if ah (dE (R s.2.1.toNat) (R s.1.toNat) s.2.2 sg)=true then qU sg (oz R s.1.toNat s.2.1.toNat s.2.2 sg) ss else none
theorem qT(sg:Int)(R:Nat→List Int)(s:fF)(ss:List fF):qU sg R (s :: ss)=if ah (dE (R s.2.1.toNat) (R s.1.toNat) s.2.2 sg)=true then qU sg (oz R s.1.toNat s.2.1.toNat s.2.2 sg) ss else none:=rfl
theorem Co{sg:Int}:∀{a b:List fF} {R:Nat→List Int},qU sg R (a++b)=(qU sg R a).bind fun Q=>qU sg Q b
 |[],b,R=>rfl
 |s :: a,b,R=>by
  rw[List.cons_append,qT,qT]
  split
  ·exact Co
  ·rfl
def CY(sg:Int)(R:Nat→List Int)(r:Nat)(ls:List fF):Except Int (Nat→List Int):=
 if eU R r=false then .error 1 else if eX ls (r:Int)=false then .error 1 else match qU sg R (if sg=1 then ls else ls.reverse)with | none=>.error 6 | some Q=>.ok Q
section
variable {sg : Int} {R Q : Nat → List Int} {r : Nat} {ls : List fF}
theorem Fs(h:eU R r=false):CY sg R r ls= .error 1:=by unfold CY;rw[if_pos h]
theorem Li(h:eU R r=true)(h2:eX ls (r:Int)=false):CY sg R r ls= .error 1:=by unfold CY;rw[if_neg (by rw[h];simp),if_pos h2]
theorem Fu(h:eU R r=true)(h2:eX ls (r:Int)=true)(h3:qU sg R (if sg=1 then ls else ls.reverse)=none):CY sg R r ls= .error 6:=by unfold CY;rw[if_neg (by rw[h];simp),if_neg (by rw[h2];simp),h3]
theorem Fr(h:eU R r=true)(h2:eX ls (r:Int)=true)(h3:qU sg R (if sg=1 then ls else ls.reverse)=some Q):CY sg R r ls= .ok Q:=by unfold CY;rw[if_neg (by rw[h];simp),if_neg (by rw[h2];simp),h3]
end
set_option maxRecDepth 100000
theorem rS(x:Int)(w:World):
 Calls Tryz.prog 178 #[.int .i64 x] w fun e w'=>e= .returned (.bool (aX x))∧w=w':=by
 by_cases h: -1073741824≤x
 ·have hd:Hid (aX x=decide (x<1073741824)):=by show _=_;simp[aX,h]
  go_enter Tryz.func178,Tryz.ntmps178
  go_wp2
  go_ret
  exact⟨by rw[hd.out];rfl,rfl⟩
 ·have hd:Hid (aX x=false):=by show _=_;simp[aX];omega
  go_enter Tryz.func178,Tryz.ntmps178
  go_wp2
  go_ret
  exact⟨by rw[hd.out];rfl,rfl⟩
end
section
open Go.RowKit Go.Shelf
attribute [local go_sem] Oper.semAt_some
def iz{α:Type}(f:Nat→α)(k:Nat):List α:=(List.range k).map f
theorem np{α:Type}(f:Nat→α)(k:Nat):iz f (k+1)=iz f k++[f k]:=by simp[iz,List.range_succ]
theorem JN{α:Type}(f:Nat→α)(k:Nat):(iz f k).length=k:=by simp[iz]
abbrev BkX (ss:List fF):={q:Nat//q<ss.length∨ss.length=0}
def yS(ss:List fF)(j:Nat):BkX ss:=⟨ss.length-1-j,by omega⟩
def Yq(ss:List fF)(q:Nat):fF:=(tV ss q,tT ss q,vn ss q)
def FD(ss:List fF)(x:BkX ss):Array Value:=#[.int .i64 (x.1:Int),.agg #[.int .i64 (tV ss x.1),.int .i64 (tT ss x.1),.int .i64 (vn ss x.1)]]
theorem FL(F:Fence)(n:Nat)(hf:F.fn 162)(hro:F.round=none)(a:Option Addr)(len cap:Nat)(w:World):
 CallsIn F n Tryz.prog 162 #[.slice a len cap] w fun e w'=>e= .returned (.func (.func 210) #[] #[.pointer (some ⟨w.heap.size,0,none⟩)])∧w'=w.alloc (.cells #[.slice a len cap] 92):=by
 refine callsIn_of_wp Tryz.func162 rfl hf ?_ hro
 simp only[Tryz.ntmps162,List.size_toArray,List.length_cons,List.length_nil,Nat.reduceAdd,Nat.reduceSub,Array.replicate_succ,Array.replicate_zero,List.push_toArray,List.append_toArray,List.nil_append,List.cons_append]
 gi_wp2
 go_ret
 exact⟨rfl,rfl⟩
def tE(n₀ Bs:Nat)(W W':World):Prop:=Below n₀ W W'∧W'.heap[Bs]? =W.heap[Bs]?
theorem tE.refl(n₀ Bs:Nat)(W:World):tE n₀ Bs W W:=⟨Below.refl _ _,rfl⟩
theorem tE.trans{n₀ Bs:Nat}{A B C:World}(h:tE n₀ Bs A B)(k:tE n₀ Bs B C):tE n₀ Bs A C:=⟨h.1.trans k.1,k.2.trans h.2⟩
theorem aa0{n₀ Bs:Nat}{w:World}(h:n₀≤w.heap.size)(hB:Bs<w.heap.size)(W:World)(l:Nat)(o o':Obj)(hl:w.heap.size≤l)(ho:W.heap[l]? =some o)(hc:o.isCells=false)(hk:o.isWalk=false):tE n₀ Bs W (W.putObj l o'):=
 ⟨belowK_b h W l o o' hl ho hc hk,World.putObj_heap_other (by omega)⟩
theorem CE(F:Fence)(n:Nat)(hf:F.fn 210)(hro:F.round=none)(hn:1≤n)(l Bs n₀ len cap:Nat)(A:Option Addr)(ss:List fF)(hlen:len=ss.length)(RY:len≤1000)(J Jx:List (BkX ss)→World→Prop)
 (hY:∀pre x W,J pre W→pre.length<len→YieldAt F (n-1) Tryz.prog l (FD ss x) W fun e W'=>
   (e= .returned (.bool true)∧J (pre++[x]) W'∧tE n₀ Bs W W')∨(e= .returned (.bool false)∧Jx (pre++[x]) W'))
 (W:World) (hBs:W.cell? ⟨Bs,0,none⟩=some (.slice A len cap)) (hc:im W n₀ A ss) (h0:J [] W):
 CallsIn F n Tryz.prog 210 #[.func (.yield l) #[] #[],.pointer (some ⟨Bs,0,none⟩)] W fun e W'=>(∃v,e= .returned v)∧
  ((∃ys,ys=iz (yS ss) len∧J ys W')∨(∃pre,(∃k,k≤len∧pre=iz (yS ss) k)∧Jx pre W')):=by
 refine callsIn_of_wp Tryz.func210 rfl hf ?_ hro
 simp only[Tryz.ntmps210,List.size_toArray,List.length_cons,List.length_nil,Nat.reduceAdd,Nat.reduceSub,Array.replicate_succ,Array.replicate_zero,List.push_toArray,List.append_toArray,List.nil_append,List.cons_append]
 have J6:=aa hlen
 clear hlen
 gi_wp2
 gi_loopw [3] (fun i wr=>∃k:Nat,k≤len∧i= .int .i64 ((len:Int)-1-(k:Int))∧J (iz (yS ss) k) wr∧tE n₀ Bs W wr)
  (fun i _=>(intOf i+1).toNat)
 case atStart=>exact⟨0,agw _,by go_num,h0,tE.refl _ _ _⟩
 case round=>
  obtain⟨k,hk,rfl,hJs,l8⟩:=hrel
  have hBx:=(agy (a:=⟨Bs,0,none⟩) l8.2).trans hBs
  by_cases hlt:k<len
  ·obtain⟨q,hq⟩:∃q:Nat,q=len-1-k:=⟨_,rfl⟩
   have hqI:(len:Int)-1-(k:Int)=(q:Int):=by omega
   have hql:q<len:=by omega
   obtain⟨b,off,rfl,hc1,hc2,hc3⟩:=(hc.below l8.1).at_ (i:=q) (by rw[←J6.out];exact hql)
   obtain⟨fn,tmps,assign,body,hy,hR⟩:=hY _ (yS ss k) wr hJs (by rw[JN];exact hlt)
   have mf:FD ss (yS ss k)=#[.int .i64 (q:Int),.agg #[.int .i64 (tV ss q),.int .i64 (tT ss q),.int .i64 (vn ss q)]]:=by
    unfold yS FD;simp only[←J6.out,←hq]
   rw[mf] at hy
   have Hq:=aa hq
   have HqI:=aa hqI
   rw[hqI]
   clear hq hqI mf
   gi_wp2
   refine hR.mono ?_
   rintro e W3 (⟨rfl,hJ3,hk3⟩ | ⟨rfl,aet⟩)
   ·gi_wp2
    go_roundw
    case rel=>exact⟨k+1,by omega,by rw[←HqI.out];go_num,by rw[np];exact hJ3,l8.trans hk3⟩
    case measure=>simp[intOf]
   ·gi_wp2
    refine bodyPost_ret (results_none rfl _ _ _) rfl ?_
    exact⟨⟨_,rfl⟩,.inr ⟨_,⟨k+1,by omega,(np _ _).symm⟩,aet⟩⟩
  ·obtain rfl:k=len:=by omega
   have adS:(k:Int)-1-(k:Int)= -1:=by omega
   rw[adS]
   gi_wp2
   go_end0
   exact⟨⟨_,rfl⟩,.inl ⟨_,rfl,hJs⟩⟩
theorem xX(F:Fence)(n:Nat)(hf:F.fn 210)(hro:F.round=none)(hn:1≤n)(Bs n₀:Nat)(A:Option Addr)(cap:Nat)(ss:List fF)(RY:ss.length≤1000)(w:World)(hBs:Bs<w.heap.size)(hn₀:n₀≤w.heap.size)
 (hc:w.cell? ⟨Bs,0,none⟩=some (.slice A ss.length cap)) (hI:im w n₀ A ss):
 SeqStopsK F n Tryz.prog 210 #[.pointer (some ⟨Bs,0,none⟩)] (FD ss) (tE n₀ Bs) (fun ys=>ys=iz (yS ss) ss.length) (fun pre=>∃k,k≤ss.length∧pre=iz (yS ss) k) ss.length w:=fun l J Jx W hW _ _ hY h0=>by
 have hc':=(hW.cell (p:=⟨Bs,0,none⟩) hBs).trans hc
 exact CE F n hf hro hn l Bs n₀ ss.length cap A ss rfl RY J Jx hY W hc' (hI.below (hW.mono hn₀)) h0
end
section
open Go.RowKit Go.Shelf
theorem nX{W W':World}{B0 B:Nat}{t:TypeId}{v:Value}(h:Boxed W B t v)(hb:Below B0 W W')(hB:B<B0):Boxed W' B t v:=(hb.block B hB).trans h
theorem aaY{W W':World}{B:Nat}{t:TypeId}{v:Value}(h:Boxed W B t v)(hb:W'.heap[B]? =W.heap[B]?):Boxed W' B t v:=hb.trans h
theorem Kn{W W':World}{row:Option Nat}{base:Nat}{e:TypeId}{size n:Nat}{v:Value}{vs:List Value}(h:W.ownsRow base e size v n vs)(hg:W.grownBy W' row)(hr:∀r,row=some r→∃o:Obj,W.heap[r]? =some o∧o.isCells=false):W'.ownsRow base e size v n vs:=by
 refine h.kept hg ?_
 rcases h.2 with ⟨rfl,_⟩ | ⟨g,cap,cur,rfl,_,hgb,_⟩
 ·exact .inl rfl
 ·refine .inr fun e'=> ?_
  obtain⟨o,ho,hc⟩:=hr g (by simpa [Value.ownBlock] using e'.symm)
  rw[hgb] at ho;cases ho;cases hc
theorem tj{W W':World}{row:Option Nat}{B:Nat}{t:TypeId}{v:Value}(h:Boxed W B t v)(hg:W.grownBy W' row)(hr:∀r,row=some r→∃o:Obj,W.heap[r]? =some o∧o.isCells=false):Boxed W' B t v:=
 boxed_own B t (fun (_:Unit)=>v) () W W' row h hg hr
theorem OB{W W':World}{row:Option Nat}{B:Nat}{o:Obj}(h:W.heap[B]? =some o)(ho:o.isCells=true)(hg:W.grownBy W' row)(hr:∀r,row=some r→∃o:Obj,W.heap[r]? =some o∧o.isCells=false):W'.heap[B]? =some o:=
 (grownBy_keeps_cells hg hr h ho).trans h
structure RK (n₀ Z:Nat) (rb:Option Nat) (W W':World):Prop where
 kf:KeepsFrom Z W W'
 bl:Below n₀ W W'
 blk:∀k,k<Z→some k≠rb→W'.heap[k]? =W.heap[k]?
section
variable {n₀ Z : Nat} {rb : Option Nat} {W W' W'' : World}
theorem RK.refl(n₀ Z:Nat)(rb:Option Nat)(W:World):RK n₀ Z rb W W:=⟨KeepsFrom.refl _ _,Below.refl _ _,fun _ _ _=>rfl⟩
theorem RK.trans(h:RK n₀ Z rb W W')(k:RK n₀ Z rb W' W''):RK n₀ Z rb W W'':=⟨h.kf.trans k.kf,h.bl.trans k.bl,fun i hi hr=>(k.blk i hi hr).trans (h.blk i hi hr)⟩
theorem RK.of_below(h:Below W.heap.size W W')(hZ:Z≤W.heap.size)(hn:n₀≤Z):RK n₀ Z rb W W':=
 ⟨⟨h.size,fun k o _ hk _=>(h.block k (agn.1 hk).1).trans hk⟩,h.mono (by omega),fun k hk _=>h.block k (by omega)⟩
theorem RK.set_{g i:Nat}(hrb:rb=some g)(hg:n₀≤g)(u:Value):RK n₀ Z rb W (W.setCell ⟨g,i,none⟩ u):=
 ⟨(KeepsOthers.setCell _ _ _).from _,(Below.refl _ _).setCell (p:=⟨g,i,none⟩) hg _,fun k _ hr=>agr _ _ _ _ (fun e=>hr (by rw[hrb,e]))⟩
theorem RK.box{B:Nat}{t:TypeId}{v:Value}(h:RK n₀ Z rb W W')(hB:Boxed W B t v)(hZ:B<Z)(hr:some B≠rb):Boxed W' B t v:=aaY hB (h.blk B hZ hr)
end
end
end Go.Proofs.YtbhfpehgacaidaaGreatDoor
