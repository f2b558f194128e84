/- A part of the proof of the given statement TopRight. Conditions: none. -/
import Derived.Test.YtbhfpehgacaidaaGreatDoorQBJ
namespace Go.Proofs.YtbhfpehgacaidaaGreatDoor
set_option linter.unusedVariables false
set_option linter.unusedSimpArgs false
set_option maxRecDepth 100000
set_option maxHeartbeats 8000000
section
open Go.RowKit
structure LF (w W:World) (bt:Int) (A:Option Addr) (c:Nat) (rt:Int):Prop where
 k0:W.heap[w.heap.size]? =some (.cells #[.int .i64 bt,.slice A 1 c] 89 (0,0))
 k1:W.heap[w.heap.size+1]? =some (.cells #[.int .i64 rt,.int .i64 1,.int .i64 bt] 37 (0,0))
 k2:W.heap[w.heap.size+2]? =some (.cells #[.int .i64 0,.int .i64 0,.int .i64 0,.int .i64 0,.int .i64 0,.slice none 0 0,.slice none 0 0] 95 (0,0))
 be:Below w.heap.size w W
 hi:w.heap.size+3≤W.heap.size
theorem LF.below{w W W':World}{bt:Int}{A:Option Addr}{c:Nat}{rt:Int}(h:LF w W bt A c rt)(hb:Below W.heap.size W W'):LF w W' bt A c rt:=by
 have:=h.hi
 exact⟨(hb.block _ (by omega)).trans h.k0,(hb.block _ (by omega)).trans h.k1,(hb.block _ (by omega)).trans h.k2,af h.be hb,agm h.hi hb.size⟩
theorem eJ{W:World}{g:Nat}{v0 v1 v2:Value}{ty:TypeId}(h:W.heap[g]? =some (.cells #[v0,v1,v2] ty (0,0))):
 (W.cell? ⟨g,0,none⟩=some v0∧W.cell? ⟨g,1,none⟩=some v1∧W.cell? ⟨g,2,none⟩=some v2)∧∀j,W.frozen? ⟨g,j,none⟩=false:=
 ⟨⟨(agu _ _ _ _ _ _ h).trans rfl,(agu _ _ _ _ _ _ h).trans rfl,(agu _ _ _ _ _ _ h).trans rfl⟩,fun j=>agv W g j _ _ h⟩
theorem LF.set7{w W:World}{bt:Int}{A:Option Addr}{c:Nat}{rt:Int}(h:LF w W bt A c rt){g:Nat}(hg:w.heap.size+3≤g)(x0 x1 x2 x3 x4 x5 x6:Value):LF w (set7 W g x0 x1 x2 x3 x4 x5 x6) bt A c rt:=
 ⟨(dY (by omega) _ _ _ _ _ _ _).trans h.k0,(dY (by omega) _ _ _ _ _ _ _).trans h.k1,(dY (by omega) _ _ _ _ _ _ _).trans h.k2,bC h.be (by omega) _ _ _ _ _ _ _,agm h.hi (bC (B:=w.heap.size+3) ((ac W).mono h.hi) hg x0 x1 x2 x3 x4 x5 x6 |>.size)⟩
theorem gU.oth{w w':World}{B gs os:Nat}{s:Sb}{m:Ad}(h:gU w B gs os s m)(hk:∀q,q=gs∨aj m.A=some q∨aj m.Ak=some q∨aj m.Ar=some q→w'.heap[q]? =w.heap[q]?):gU w' B gs os s m:=
 ⟨h.lt,fun k v hv=>(agy (hk gs (.inl rfl))).trans (h.cl k v hv),h.sm.oth fun q hq=>hk q (.inr hq)⟩
theorem Ik{fn:Func}(h:fn.results=#[.cell 8 95,.tmp 9])(tmps:Array Value)(w:World){g:Nat}{v0 v1 v2 v3 v4 v5 v6:Value}(ht:tmps.getD 8 undef= .pointer (some ⟨g,0,none⟩))
 (hc:w.heap[g]? =some (.cells #[v0,v1,v2,v3,v4,v5,v6] 95 (0,0))):(results fn tmps).run Tryz.prog w= .ok (.tuple #[.agg #[v0,v1,v2,v3,v4,v5,v6],tmps.getD 9 undef]) w:=by
 obtain⟨⟨c0,c1,c2,c3,c4,c5,c6⟩,_⟩:=aw hc
 rw[results_cell_tmp h,ht]
 simp[go_sem,c0,c1,c2,c3,c4,c5,c6]
theorem LF.setc{w W:World}{bt:Int}{A:Option Addr}{c:Nat}{rt:Int}(h:LF w W bt A c rt){g:Nat}(hg:w.heap.size+3≤g)(j:Nat)(v:Value):LF w (W.setCell ⟨g,j,none⟩ v) bt A c rt:=
 ⟨(agr _ _ _ _ (show w.heap.size≠g by omega)).trans h.k0,(agr _ _ _ _ (show w.heap.size+1≠g by omega)).trans h.k1,(agr _ _ _ _ (show w.heap.size+2≠g by omega)).trans h.k2,h.be.setCell (p:=⟨g,j,none⟩) (show w.heap.size≤g by omega) v,by have:=h.hi;simpa [World.setCell] using this⟩
theorem MH{w:World}{B c n sz:Nat}{e:TypeId}{A:Option Addr}{vs:Array Value}(h:w.ownsRow B e sz (.slice A n c) n vs.toList)(hn:0<n)(hv:0<vs.size):
 ∃gs,A=some ⟨gs,0,none⟩∧B≤gs∧gs<w.heap.size∧∀k v,vs[k]? =some v→w.cell? ⟨gs,0+k,none⟩=some v:=by
 obtain⟨gs,rfl,h1,h2⟩:=eW h hn
 obtain⟨b,off,e1,hb,hc⟩:=ip h (by simpa using hv)
 cases e1
 exact⟨gs,rfl,h1,h2,fun k v hk=>hc k v (by simpa using hk)⟩
theorem vG:(Tryz.prog.info? 171).map (fun i=>(i.zero,i.size,i.bytes))=some (some (.agg cE),14,192):=by kernel_rfl
theorem OH{W w':World}{o:Obj}(h:(W.alloc o).grownBy w' (Value.slice none 0 0).ownBlock):Below W.heap.size W w':=
 aI (e:=0) (size:=1) (n:=0) (xs:=[]) (ak (ac W) o) (World.ownsRow_nil _ _ _ _) h (by simp)
theorem eK{ops:Array Oper}{rest:List Oper}{o:Oper}{a:Act}{Q:Exit→Act→World→Prop}(W:World)(hgd:o.guard=none)(s x:Operand)(t e:TypeId)
 (ho:o.op= .call {callee:=.builtin .append,args:=#[s,x],argTypes:=#[t,t]}) (ht:Tryz.prog.underlying t=some (.slice e)) {z:Value} {size bytes:Nat} (acy:(Tryz.prog.info? e).map (fun i=>(i.zero,i.size,i.bytes))=some (some z,size,bytes))
 (hzs:z.cells.size=size) (hsz:0<size) (hs:a.eval s= .slice none 0 0) (arr:Array Value) (ty:TypeId) (hx:a.eval x= .slice (some ⟨W.heap.size,0,none⟩) 1 1) (hl:arr.size=size) (h1:∀u∈arr.toList,u.oneCell'=true) (hbytes:bytes≤1000)
 (h:∀g c w',W.heap.size≤g→g<w'.heap.size→(∀k v,arr[k]? =some v→w'.cell? ⟨g,k,none⟩=some v)→1≤c→c≤9223372036854775807→Below W.heap.size W w'→wpList Tryz.prog ops Q rest (a.put o.dst (.slice (some ⟨g,0,none⟩) 1 c)) w'):
 wpList Tryz.prog ops Q (o :: rest) a (W.alloc (.cells arr ty)):=by
 obtain⟨i0,cw,hz0,hz1,hz2⟩:=info_parts acy
 refine aP _ hgd s x t ho W.heap.size e i0 z size bytes ht cw hz0 hz1 hz2 hzs hsz (.slice none 0 0) 0 [] hs (World.ownsRow_nil _ _ _ _) (W.heap.size+1) (some ⟨W.heap.size,0,none⟩) 1 1 arr.toList hx (by simp[hl]) (dr W _ _ _ rfl) h1 (by simp only[maxLen];omega) (by omega) (by simp) ?_
 intro A c w' ua hg hat
 have hb:=OH hg
 rw[List.nil_append] at ua
 obtain⟨g,rfl,hg1,hg2,mn⟩:=MH ua (by omega) (by omega)
 obtain⟨hc1,hc2⟩:=bJ ua
 exact h g c w' hg1 hg2 (fun k v hk=>by have:=mn k v hk;rwa[Nat.zero_add] at this) hc1 (agm hc2 (by decide)) hb
theorem oU{W W':World}{arr:Array Value}{ty:TypeId}(h:W.alloc (.cells arr ty)=W'):W'.heap[W.heap.size]? =some (.cells arr ty (0,0))∧Below W.heap.size W W'∧W.heap.size+1≤W'.heap.size:=by
 subst h
 exact⟨ago W _,ak (ac W) _,by simp⟩
theorem bk{W W':World}{g:Nat}{o:Obj}(h:W.heap[g]? =some o)(hb:Below W.heap.size W W'):W'.heap[g]? =some o:=(hb.block g (agn.1 h).1).trans h
def Y7(f:F1)(s:Sb)(w:World)(e:Ending)(w':World):Prop:=
 ∃gs cs m,e= .returned (.tuple #[AO f gs 0 cs,.int .i64 0])∧gU w' w'.heap.size gs 0 s m∧Below w.heap.size w w'∧∀q,q=gs∨aj m.A=some q∨aj m.Ak=some q∨aj m.Ar=some q→w.heap.size≤q
theorem JD(st rt bt:Int)(l d rs:List Int)(wa od:Nat)(po:Int)(ks:List Int)(n:Nat)(hp:tC l d rs wa od po ks n)
 (hst:0≤st∧st≤4194304-(n:Int)) (hfm:sV rt 1 bt=true) (hbm:ii bt (fun _=>l) 1=true) (hrb:eU (fun _=>l) 1=true)
 (A:Option Addr) (c:Nat) (RA:Nat→Option Addr) (RC:Nat→Nat) (w:World) (hT:C0 w) (hr:Rw w w.heap.size A 1 RA RC (fun _=>l)):
 Calls Tryz.prog 39 #[.agg #[.int .i64 bt,.slice A 1 c],.agg #[.int .i64 rt,.int .i64 1,.int .i64 bt],.int .i64 st,.int .i64 0] w (Y7 ⟨st,n,rt,bt⟩ (aK (wa:Int) d) w):=by
 have hn:=hp.ln
 have NL:=hp.n2
 have bK:=aa (fun W (hW:Below w.heap.size w W)=>by
  have:=nZ (fun _=>l) 1 (by omega) (fun _ _=>by show l.length≤100000;omega) RA RC A c bt W ((hr.below hW).more hW.size)
  rw[hbm] at this;exact this)
 have hlen:=aa (fun W (hW:Below w.heap.size w W)=>by
  have:=nN (fun _=>l) 1 (by omega) RA RC A c bt W ((hr.below hW).more hW.size)
  rw[show BP (fun _=>l) 1=(n:Int)by unfold BP;simp[hn]] at this;exact this)
 have NH:=aa (fun W=>by
  have:=iO rt 1 bt W
  rw[hfm] at this;exact this)
 have hdo:=aa (fun W (hW:Below w.heap.size w W)=>by
  have:=XE (fun _=>l) 1 (by omega) (fun _ _=>by show l.length≤100000;omega) RA RC [] 0 rfl (by omega) A none c 0 W ((hr.below hW).more hW.size) im.nil
  rw[Lh hrb rfl] at this;exact this)
 have yO:=aa (fun A5 c5 (hc:n≤c5) W (hW:Below w.heap.size w W) (ha:ag .i64 W W.heap.size A5 l)=>JT l d rs wa od po ks n hp A5 c5 hc W (hT.below hW) ha)
 have Hn:=aa hn
 have Hdn:=aa hp.dn
 clear hp hr hbm hfm hrb hn
 go_enter Tryz.func39,Tryz.ntmps39
 go_upto_region 1 with fail
 have hS:LF w (((w.alloc (.cells #[.int .i64 bt,.slice A 1 c] 89)).alloc (.cells #[.int .i64 rt,.int .i64 1,.int .i64 bt] 37)).alloc (.cells #[.int .i64 0,.int .i64 0,.int .i64 0,.int .i64 0,.int .i64 0,.slice none 0 0,.slice none 0 0] 95)) bt A c rt:=by
  have b2:=ak (ac (w.alloc (.cells #[.int .i64 bt,.slice A 1 c] 89))) (.cells #[.int .i64 rt,.int .i64 1,.int .i64 bt] 37)
  have b3:=ak (ac ((w.alloc (.cells #[.int .i64 bt,.slice A 1 c] 89)).alloc (.cells #[.int .i64 rt,.int .i64 1,.int .i64 bt] 37))) (.cells #[.int .i64 0,.int .i64 0,.int .i64 0,.int .i64 0,.int .i64 0,.slice none 0 0,.slice none 0 0] 95)
  have h0:=ago w (.cells #[.int .i64 bt,.slice A 1 c] 89)
  have h1:=ago (w.alloc (.cells #[.int .i64 bt,.slice A 1 c] 89)) (.cells #[.int .i64 rt,.int .i64 1,.int .i64 bt] 37)
  have h2:=ago ((w.alloc (.cells #[.int .i64 bt,.slice A 1 c] 89)).alloc (.cells #[.int .i64 rt,.int .i64 1,.int .i64 bt] 37)) (.cells #[.int .i64 0,.int .i64 0,.int .i64 0,.int .i64 0,.int .i64 0,.slice none 0 0,.slice none 0 0] 95)
  have s1:(w.alloc (.cells #[.int .i64 bt,.slice A 1 c] 89)).heap.size=w.heap.size+1:=by simp
  have s2:((w.alloc (.cells #[.int .i64 bt,.slice A 1 c] 89)).alloc (.cells #[.int .i64 rt,.int .i64 1,.int .i64 bt] 37)).heap.size=w.heap.size+2:=by simp
  rw[s1] at h1
  rw[s2] at h2
  exact⟨(b3.block _ (by omega)).trans ((b2.block _ (by omega)).trans h0),(b3.block _ (by omega)).trans h1,h2,af (af (ak (ac w) _) b2) b3,by simp⟩
 obtain⟨wx,hwx⟩:∃wx,wx=(((w.alloc (.cells #[.int .i64 bt,.slice A 1 c] 89)).alloc (.cells #[.int .i64 rt,.int .i64 1,.int .i64 bt] 37)).alloc (.cells #[.int .i64 0,.int .i64 0,.int .i64 0,.int .i64 0,.int .i64 0,.slice none 0 0,.slice none 0 0] 95)):=⟨_,rfl⟩
 rw[←hwx] at hS ⊢
 have HS:=aa hS
 obtain⟨⟨k0,k1⟩,_⟩:=aB HS.out.k0
 obtain⟨⟨m0,m1,m2⟩,_⟩:=eJ HS.out.k1
 clear hwx hS
 go_upto_region 3 with (first
  |(go_at_call 89;(with_reducible refine(bK.out wx HS.out.be).mono ?_);rintro e w1 ⟨rfl,b1⟩;have S1:=HS.out.below b1;obtain⟨⟨k0,k1⟩,_⟩:=aB S1.k0;obtain⟨⟨m0,m1,m2⟩,_⟩:=eJ S1.k1)
  |(go_at_call 36;(with_reducible refine(NH.out w1).mono ?_);rintro e w2 ⟨rfl,b2⟩;have S2:=S1.below b2;obtain⟨⟨k0,k1⟩,_⟩:=aB S2.k0;obtain⟨⟨m0,m1,m2⟩,_⟩:=eJ S2.k1))
 have Gz:=aa S2
 have yM:=aa (fun (W:World) (hW:Below w2.heap.size w2 W)=>(S2.below hW))
 clear S1 S2 b1 b2
 go_cut [10] (fun s10 wy=>∃g,s10= .pointer (some ⟨g,0,none⟩)∧LF w wy bt A c rt∧wy.heap[g]? =some (.cells #[.int .i64 st,.int .i64 (n:Int),.int .i64 rt,.int .i64 1,.int .i64 bt,.slice none 0 0,.slice none 0 0] 95 (0,0))∧w.heap.size+3≤g)
 case first=>
  have SD:LF w w2.drew bt A c rt:=yM.out _ (ac w2).drew
  obtain⟨⟨d0,d1⟩,_⟩:=aB SD.k0
  obtain⟨⟨e0,e1,e2⟩,_⟩:=eJ SD.k1
  have SE:LF w (w2.alloc (.cells #[.int .i64 0,.int .i64 0,.int .i64 0,.int .i64 0,.int .i64 0,.slice none 0 0,.slice none 0 0] 95)).drew bt A c rt:=yM.out _ (ak (ac w2) (.cells #[.int .i64 0,.int .i64 0,.int .i64 0,.int .i64 0,.int .i64 0,.slice none 0 0,.slice none 0 0] 95)).drew
  obtain⟨⟨f0,f1⟩,_⟩:=aB SE.k0
  obtain⟨⟨g0,g1,g2⟩,_⟩:=eJ SE.k1
  clear SD SE
  go_region_with (first
   |(go_at_call 90;(with_reducible refine(hlen.out w2.drew Gz.out.be.drew).mono ?_);rintro e w3 ⟨rfl,b3⟩;have S3:=yM.out w3 (af (ac w2).drew b3);obtain⟨⟨m0,m1,m2⟩,_⟩:=eJ S3.k1;obtain⟨⟨n0,n1,n2⟩,_⟩:=eJ (S3.below (ak (ac w3) (.cells #[.int .i64 0,.int .i64 0,.int .i64 0,.int .i64 0,.int .i64 0,.slice none 0 0,.slice none 0 0] 95))).k1)
   |(go_at_call 90;(with_reducible refine(hlen.out (w2.alloc (.cells #[.int .i64 0,.int .i64 0,.int .i64 0,.int .i64 0,.int .i64 0,.slice none 0 0,.slice none 0 0] 95)).drew (ak Gz.out.be (.cells #[.int .i64 0,.int .i64 0,.int .i64 0,.int .i64 0,.int .i64 0,.slice none 0 0,.slice none 0 0] 95)).drew).mono ?_);rintro e w3 ⟨rfl,b3⟩;have S3:=yM.out w3 (af (ak (ac w2) (.cells #[.int .i64 0,.int .i64 0,.int .i64 0,.int .i64 0,.int .i64 0,.slice none 0 0,.slice none 0 0] 95)).drew b3);obtain⟨⟨m0,m1,m2⟩,_⟩:=eJ S3.k1;have F3:=(b3.block w2.heap.size (by simp)).trans (ago w2 (.cells #[.int .i64 0,.int .i64 0,.int .i64 0,.int .i64 0,.int .i64 0,.slice none 0 0,.slice none 0 0] 95));obtain⟨⟨y0,y1,y2,y3,y4,y5,y6⟩,fz⟩:=aw F3;have z0:=fz 0;have z1:=fz 1;have z2:=fz 2;have z3:=fz 3;have z4:=fz 4;have z5:=fz 5;have z6:=fz 6))
  all_goals go_wp2_with fail
  all_goals go_meet
  all_goals first
   |with_reducible exact⟨w3.heap.size,rfl,S3.below (ak (ac w3) _),ago w3 _,S3.hi⟩
   |(have q1:=S3.set7 Gz.out.hi (.int .i64 st) (.int .i64 (n:Int)) (.int .i64 rt) (.int .i64 1) (.int .i64 bt) (.slice none 0 0) (.slice none 0 0)
     have q2:=dG F3 (.int .i64 st) (.int .i64 (n:Int)) (.int .i64 rt) (.int .i64 1) (.int .i64 bt) (.slice none 0 0) (.slice none 0 0)
     unfold set7 at q1 q2
     with_reducible exact⟨w2.heap.size,rfl,q1,q2,Gz.out.hi⟩)
   |skip
 case rest=>
  obtain⟨g,rfl,r1,r2,r3⟩:=hcut
  have R1:=aa r1
  have R2:=aa r2
  have R3:=aa r3
  obtain⟨⟨k0,k1⟩,_⟩:=aB r1.k0
  obtain⟨⟨y0,y1,y2,y3,y4,y5,y6⟩,_⟩:=aw r2
  clear r1 r2 r3
  go_upto_region 11 with (go_at_call 92;(with_reducible refine(hdo.out wc R1.out.be).mono ?_);rintro e w8 ⟨⟨A8,c8,RA8,RC8,rfl,mj⟩,b8⟩)
  have S8:=aa (R1.out.below b8)
  have F8:=aa ((b8.block g (agn.1 R2.out).1).trans R2.out)
  rw[←Hn.out] at mj
  have HO8:=aa mj
  obtain⟨ga,rfl,NQ,NP,WY⟩:=mj.addr (by omega)
  have Hga:Hid (w.heap.size+3≤ga):=aa (by have:=R1.out.hi;omega)
  have Hwc:Hid (w.heap.size≤wc.heap.size):=aa (by have:=R1.out.hi;omega)
  have Hgg:Hid (g<wc.heap.size):=aa ((agn.1 R2.out).1)
  clear mj b8 NQ NP WY
  go_wp2_with fail
  go_loopw [83] (fun iv wr=>LF w wr bt A c rt∧bO wr wc.heap.size (some ⟨ga,0,none⟩) 1 c8 n RA8 RC8 (fun _=>l)∧
   ((iv= .int .i64 0∧wr.heap[g]? =some (.cells #[.int .i64 st,.int .i64 (n:Int),.int .i64 rt,.int .i64 1,.int .i64 bt,.slice none 0 0,.slice none 0 0] 95 (0,0)))∨
    (iv= .int .i64 1∧∃gs cs m,wr.heap[g]? =some (.cells #[.int .i64 st,.int .i64 (n:Int),.int .i64 rt,.int .i64 1,.int .i64 bt,.slice none 0 0,.slice (some ⟨gs,0,none⟩) 1 cs] 95 (0,0))∧gU wr wr.heap.size gs 0 (aK (wa:Int) d) m∧∀q,q=gs∨aj m.A=some q∨aj m.Ak=some q∨aj m.Ar=some q→w.heap.size+3≤q))) (fun iv _=>1-(intOf iv).toNat)
  case atStart=>exact⟨S8.out,HO8.out,.inl ⟨rfl,F8.out⟩⟩
  case round=>
   obtain⟨r1,r2,⟨rfl,r3⟩ | ⟨rfl,gs,cs,m,r3,r4,r5⟩⟩:=hrel
   ·obtain⟨wo,rfl⟩:∃wo:World,wo=wr:=⟨_,rfl⟩
    have Q1:=aa r1
    have Q2:=aa r2
    have Q3:=aa r3
    obtain⟨ga2,hga,NQ,NP,WY⟩:=r2.addr (by omega)
    cases hga
    have c0:=WY 0 (by omega)
    have Db:=aa (ax.ints (r2.inner 0 (by omega)))
    have HCC:=aa (je (r2.inner 0 (by omega))).1
    obtain⟨⟨y0,y1,y2,y3,y4,y5,y6⟩,_⟩:=aw r3
    clear r1 r2 r3 NQ NP WY
    go_upto_region 15 with (go_at_call 93;(with_reducible refine(yO.out (RA8 0) (RC8 0) HCC.out wo Q1.out.be Db.out).mono ?_);unfold XP;rintro e w5 ⟨m,rfl,Gk,b5,hl5⟩;unfold io;rw[show nE (aK (wa:Int) d) m=#[.int .i64 1,.int .i64 (wa:Int),.int .i64 0,.int .i64 0,.int .i64 0,.slice none 0 0,.int .i64 0,.int .i64 0,.int .i64 0,.slice none 0 0,.slice m.A n m.c,.int .i64 0,.slice m.Ak 0 m.ck,.slice m.Ar 0 m.cr] from by rw[Hdn.out];rfl])
    have hq:=ago w5 (.cells #[.int .i64 1,.int .i64 (wa:Int),.int .i64 0,.int .i64 0,.int .i64 0,.slice none 0 0,.int .i64 0,.int .i64 0,.int .i64 0,.slice none 0 0,.slice m.A n m.c,.int .i64 0,.slice m.Ak 0 m.ck,.slice m.Ar 0 m.cr] 171)
    have bq:=ak (ac w5) (.cells #[.int .i64 1,.int .i64 (wa:Int),.int .i64 0,.int .i64 0,.int .i64 0,.slice none 0 0,.int .i64 0,.int .i64 0,.int .i64 0,.slice none 0 0,.slice m.A n m.c,.int .i64 0,.slice m.Ak 0 m.ck,.slice m.Ar 0 m.cr] 171)
    obtain⟨wq,jl⟩:∃wq,wq=w5.alloc (.cells #[.int .i64 1,.int .i64 (wa:Int),.int .i64 0,.int .i64 0,.int .i64 0,.slice none 0 0,.int .i64 0,.int .i64 0,.int .i64 0,.slice none 0 0,.slice m.A n m.c,.int .i64 0,.slice m.Ak 0 m.ck,.slice m.Ar 0 m.cr] 171):=⟨_,rfl⟩
    rw[←jl] at hq bq ⊢
    obtain⟨gq,xy⟩:∃gq,gq=w5.heap.size:=⟨_,rfl⟩
    rw[←xy] at hq ⊢
    have BQ:=aa (af b5 bq)
    have HM:=aa ((Gk.below bq).more bq.size)
    have HL:=aa hl5
    have SQ:=aa (Q1.out.below BQ.out)
    have hgo:=(agn.1 Q3.out).1
    have FQ:=aa ((BQ.out.block g hgo).trans Q3.out)
    obtain⟨⟨x0,x1,x2,x3,x4,x5,x6,x7,x8,x9,p9,tJ,uy,uU⟩,_⟩:=ai hq
    obtain⟨⟨y0,y1,y2,y3,y4,y5,y6⟩,_⟩:=aw FQ.out
    obtain⟨i0,cw,hz0,hz1,hz2⟩:=info_parts vG
    clear jl xy hq bq Gk b5 hl5 hgo c0
    have HY:Hid (∀W,Below wq.heap.size wq W→W.heap[g]? =some (.cells #[.int .i64 st,.int .i64 (n:Int),.int .i64 rt,.int .i64 1,.int .i64 bt,.slice none 0 0,.slice none 0 0] 95 (0,0))):=aa (fun W hW=>(hW.block g (agn.1 FQ.out).1).trans FQ.out)
    go_wp2_with (at_builtin;refine eK wq rfl (.tmp 98) (.tmp 100) 93 171 rfl Tryz.underlying93 vG rfl (by omega) rfl #[.int .i64 1,.int .i64 (wa:Int),.int .i64 0,.int .i64 0,.int .i64 0,.slice none 0 0,.int .i64 0,.int .i64 0,.int .i64 0,.slice none 0 0,.slice m.A n m.c,.int .i64 0,.slice m.Ak 0 m.ck,.slice m.Ar 0 m.cr] _ rfl rfl (by simp[Value.oneCell']) (by omega) ?_;intro gs c7 w7 ad4 aaw mn q7 p7 B7;obtain⟨⟨v0,v1,v2,v3,v4,v5,v6⟩,vz⟩:=aw (HY.out w7 B7);have vz6:=vz 6)
    rw[show #[.int .i64 1,.int .i64 (wa:Int),.int .i64 0,.int .i64 0,.int .i64 0,.slice none 0 0,.int .i64 0,.int .i64 0,.int .i64 0,.slice none 0 0,.slice m.A n m.c,.int .i64 0,.slice m.Ak 0 m.ck,.slice m.Ar 0 m.cr]=nE (aK (wa:Int) d) m from by rw[Hdn.out];rfl] at mn
    have sO:=(agn.1 Q3.out).1
    have kJ:Below wo.heap.size wo w7:=af BQ.out B7
    have hoq:=BQ.out.size
    have NB:=Q1.out.hi
    have O7:=Q2.out.below kJ (agl _)
    have UW:=Hgg.out
    have hsz:(w7.setCell ⟨g,6,none⟩ (.slice (some ⟨gs,0,none⟩) 1 c7)).heap.size=w7.heap.size:=by simp[World.setCell]
    have M7:=(HM.out.below B7).more B7.size
    refine⟨⟨(SQ.out.below B7).setc R3.out 6 _,O7.other fun q hq=>agr _ _ _ _ (by have:=(O7.lt q hq).1;show q≠g;omega),.inr ⟨rfl,gs,c7,m,mY (HY.out w7 B7) 6 _ rfl,⟨by rw[hsz];exact aaw,fun k v hk=>(agy (a:=⟨gs,0+k,none⟩) (agr _ _ _ _ (show gs≠g by omega))).trans (by rw[Nat.zero_add];exact mn k v hk), ?_⟩, ?_⟩⟩,by simp[intOf]⟩
    ·rw[hsz]
     exact M7.oth fun q hq=>agr _ _ _ _ (by have:=HL.out q hq;show q≠g;omega)
    ·intro q hq
     rcases hq with rfl | hq
     ·omega
     ·have:=HL.out q hq;omega
   ·obtain⟨wo,rfl⟩:∃wo:World,wo=wr:=⟨_,rfl⟩
    have Q1:=aa r1
    have Q3:=aa r3
    have Q4:=aa r4
    have Q5:=aa r5
    obtain⟨⟨y0,y1,y2,y3,y4,y5,y6⟩,_⟩:=aw r3
    obtain⟨⟨x0,x1,x2,x3,x4,x5,x6⟩,fz⟩:=aw r1.k2
    have z0:=fz 0
    have z1:=fz 1
    have z2:=fz 2
    have z3:=fz 3
    have z4:=fz 4
    have z5:=fz 5
    have z6:=fz 6
    clear r1 r2 r3 r4 r5 fz
    go_wp2_with fail
    have hz:=bC (B:=w.heap.size+2) ((ac wo).mono (by have:=Q1.out.hi;omega)) (agl _) (.int .i64 st) (.int .i64 (n:Int)) (.int .i64 rt) (.int .i64 1) (.int .i64 bt) (.slice none 0 0) (.slice (some ⟨gs,0,none⟩) 1 cs)
    refine bodyPost_ret (Ik rfl _ _ rfl (dG Q1.out.k2 (.int .i64 st) (.int .i64 (n:Int)) (.int .i64 rt) (.int .i64 1) (.int .i64 bt) (.slice none 0 0) (.slice (some ⟨gs,0,none⟩) 1 cs))) rfl ?_
    refine⟨gs,cs,m,rfl, ?_,bC Q1.out.be (by omega) _ _ _ _ _ _ _,fun q hq=>by have:=Q5.out q hq;omega⟩
    exact(Q4.out.more hz.size).oth fun q hq=>dY (by have:=Q5.out q hq;omega) _ _ _ _ _ _ _
theorem nC{ops:Array Oper}{o:Oper}{a:Act}{K:Act→World→Prop}{Q:Exit→Act→World→Prop}{E:Prop}{R:Ending→World→Prop}(w:World)(hw:Region.wanted o (yielded ops a.tmps)=true)(f:FuncId)(args:Array Value)(ho:(execOp a.eval o).run Tryz.prog w= .ok (.enter f args) w)
 (hc:Calls Tryz.prog f args w R) (h:∀e w',R e w'→∃v,e= .returned v∧K (a.put o.dst v) w'):if Region.wanted o (yielded ops a.tmps)=true then Oper.wp Tryz.prog o a w K Q else E:=by
 rw[if_pos hw]
 unfold Oper.wp
 rw[ho]
 refine hc.mono fun e w' hr=> ?_
 obtain⟨v,rfl,hk⟩:=h e w' hr
 exact hk
theorem mC{ops:Array Oper}{o:Oper}{a:Act}{K:Act→World→Prop}{Q:Exit→Act→World→Prop}{E:Prop}{k:IntKind}{t e:TypeId}{lz:Nat}(w:World)(hw:Region.wanted o (yielded ops a.tmps)=true)(ht:Tryz.prog.underlying t=some (.slice e))
 (hi:(Tryz.prog.info? e).map (fun i=>(i.zero,i.size,i.bytes))=some (some (.int k 0),1,lz)) (h8:lz≤8) (s x:Operand) (ho:o.op= .call {callee:=.builtin .append,args:=#[s,x],argTypes:=#[t,t]})
 (B:Nat) (A1:Option Addr) (n c1:Nat) (xs:List Int) (hs:a.eval s= .slice A1 n c1) (hown:w.ownsRow B e 1 (.slice A1 n c1) n (xs.map (.int k)))
 (B1:Nat) (A:Option Addr) (m c:Nat) (news:List Int) (hx:a.eval x= .slice A m c) (hl:news.length=m) (hr:ag k w B1 A news) (hsz:n+m≤200000) (hb:B≤w.heap.size)
 (h:∀A' c' w',w'.ownsRow B e 1 (.slice A' (n+m) c') (n+m) ((xs++news).map (.int k))→Below B w w'→K (a.put o.dst (.slice A' (n+m) c')) w'):
 if Region.wanted o (yielded ops a.tmps)=true then Oper.wp Tryz.prog o a w K Q else E:=by
 rw[if_pos hw]
 obtain⟨i0,cw,hz0,hz1,hz2⟩:=info_parts hi
 have h9:(n+m)*lz≤(n+m)*8:=Nat.mul_le_mul_left _ h8
 refine rO w s x t ho B e i0 _ 1 lz ht cw hz0 hz1 hz2 rfl (by omega) _ n _ hs hown B1 A m c (news.map (Value.int k)) hx (by simpa using hl) hr (bY _ _) (by simp only[maxLen];omega) (by omega) hb fun A' c' w' h2 h3 h4=>h A' c' w' ?_ (aI ((ac w).mono hb) hown h3 hb)
 rw[List.map_append]
 exact h2
def SgQ(X:Int)(l:List Int)(p n g:Nat)(w:World)(e:Ending)(w':World):Prop:=e= .returned (.int .i64 X)∧cG w' g l (p+n) 0∧Kg g w w'
theorem Kj(l:List Int)(hby:aH l)(hl:l.length≤50000)(p v:Nat)(X:Int)(hp:p+4≤8*l.length)(hv:eG l p 4=v)(hX:(v=5∧X=5)∨(v=11∧X= -5))(g:Nat)(w:World)(h:cG w g l p 0):
 Calls Tryz.prog 200 #[.pointer (some ⟨g,0,none⟩),.int .i64 4] w (SgQ X l p 4 g w):=by
 have h1:=EX l hby hl p 4 (by omega) hp 4 rfl g w h
 unfold UF at h1
 rw[hv] at h1
 rcases hX with ⟨rfl,rfl⟩ | ⟨rfl,rfl⟩
 ·rw[show (((5:Nat):Int))=5 from rfl] at h1
  have H1:=aa h1
  clear h1 h hv
  go_enter Tryz.func200,Tryz.ntmps200
  go_wp2_with (go_at_call 216;(with_reducible refine H1.out.mono ?_);rintro e w1 ⟨rfl,o1,k1⟩;have O1:=aa o1;obtain⟨A,c,h0,h1,h2,h3,h4,h5,h6,h7⟩:=o1;clear h0 h1 h3 h4 h5 h6 h7)
  go_ret
  exact⟨rfl,O1.out,k1⟩
 ·rw[show (((11:Nat):Int))=11 from rfl] at h1
  have H1:=aa h1
  clear h1 h hv
  go_enter Tryz.func200,Tryz.ntmps200
  go_wp2_with (go_at_call 216;(with_reducible refine H1.out.mono ?_);rintro e w1 ⟨rfl,o1,k1⟩;have O1:=aa o1;obtain⟨A,c,h0,h1,h2,h3,h4,h5,h6,h7⟩:=o1;clear h0 h1 h3 h4 h5 h6 h7)
  go_ret
  exact⟨kU (show wrap64 12682136550675316736/1152921504606846976= -5 by kernel_rfl),O1.out,k1⟩
theorem jY(W:World)(p:Addr)(v:Value):(W.setCell p v).heap.size=W.heap.size:=by simp[World.setCell]
structure J9 (w W:World) (g gr gc:Nat) (l:List Int) (p:Nat) (cs:Array Value):Prop where
 oc:cG W g l p 0
 r:W.heap[gr]? =some (.cells cE 171 (0,0))
 c:W.heap[gc]? =some (.cells cs 171 (0,0))
 k:Kg g w W
 gl:g<w.heap.size
 lo:w.heap.size≤gr
 ne:gr<gc
section
variable {w W W' : World} {g gr gc p p' : Nat} {l : List Int} {cs cs' : Array Value}
theorem J9.lt(h:J9 w W g gr gc l p cs):gc<W.heap.size:=(agn.1 h.c).1
theorem J9.kp(h:J9 w W g gr gc l p cs)(ho:cG W' g l p' 0)(hk:Kg g W W'):J9 w W' g gr gc l p' cs:=by
 have h1:=h.lt
 have h2:=h.ne
 have h3:=h.gl
 have h4:=h.lo
 exact⟨ho,(hk.k.block _ (by omega) (by omega)).trans h.r,(hk.k.block _ h1 (by omega)).trans h.c,h.k.trans hk,h.gl,h.lo,h.ne⟩
theorem J9.below{B0:Nat}(h:J9 w W g gr gc l p cs)(hb:Below B0 W W')(hB:gc<B0):J9 w W' g gr gc l p cs:=by
 have h2:=h.ne
 have h3:=h.gl
 have h4:=h.lo
 exact⟨h.oc.keep fun q hq=>hb.block q (by omega),(hb.block gr (by omega)).trans h.r,(hb.block gc hB).trans h.c,⟨⟨hb.os.trans h.k.k.os,hb.tape.trans h.k.k.tape,hb.output.trans h.k.k.output,agm h.k.k.size hb.size,fun q hq hs=>(hb.block q (by omega)).trans (h.k.k.block q hq hs)⟩,(hb.cell (p:=⟨g,0,none⟩) (show g<B0 by omega)).trans h.k.z⟩,h.gl,h.lo,h.ne⟩
theorem BJ(h:cG W g l p 0){b:Nat}(hb:g<b)(j:Nat)(v:Value):cG (W.setCell ⟨b,j,none⟩ v) g l p 0:=
 h.keep fun q hq=>agr _ _ _ _ (show q≠b by omega)
theorem IX(h:Kg g w W){b:Nat}(hb:w.heap.size≤b)(hg:g<w.heap.size)(j:Nat)(v:Value):Kg g w (W.setCell ⟨b,j,none⟩ v):=
 ⟨⟨h.k.os,h.k.tape,h.k.output,by have:=h.k.size;simpa [World.setCell] using this,fun q hq hs=>(agr _ _ _ _ (show q≠b by omega)).trans (h.k.block q hq hs)⟩,(agy (a:=⟨g,0,none⟩) (agr _ _ _ _ (show g≠b by omega))).trans h.z⟩
theorem J9.set(h:J9 w W g gr gc l p cs)(j:Nat)(v:Value)(e:cs.setIfInBounds j v=cs'):J9 w (W.setCell ⟨gc,j,none⟩ v) g gr gc l p cs':=by
 have h2:=h.ne
 have h3:=h.gl
 have h4:=h.lo
 exact⟨BJ h.oc (by omega) j v,(agr _ _ _ _ (show gr≠gc by omega)).trans h.r,by rw[agA _ gc j _ _ _ h.c,e],IX h.k (by omega) h3 j v,h.gl,h.lo,h.ne⟩
end
def ShQ(l:List Int)(g:Nat)(w:World)(e:Ending)(w':World):Prop:=
 e= .returned (.tuple #[.agg #[.int .i64 1,.int .i64 0,.int .i64 0,.int .i64 0,.int .i64 0,.slice none 0 0,.int .i64 0,.int .i64 0,.int .i64 0,.slice none 0 0,.slice none 0 0,.int .i64 0,.slice none 0 0,.slice none 0 0],.int .i64 4,.bool true])∧cG w' g l 13 0∧Kg g w w'
theorem Bz{fn:Func}{p q r:Tmp}(h:fn.results=#[.cell p 171,.tmp q,.tmp r])(tmps:Array Value)(w:World){g:Nat}(cs:Array Value)(hp:tmps.getD p undef= .pointer (some ⟨g,0,none⟩))
 (hg:w.heap[g]? =some (.cells cs 171 (0,0))) (hs:cs.size=14):(results fn tmps).run Tryz.prog w= .ok (.tuple #[.agg cs,tmps.getD q undef,tmps.getD r undef]) w:=by
 have key:(results fn tmps).run Tryz.prog w=((asAddr (tmps.getD p undef)).run Tryz.prog w).andThen fun a w₁=>((loadVar 171 a).run Tryz.prog w₁).andThen fun x w₂=>.ok (.tuple #[x,tmps.getD q undef,tmps.getD r undef]) w₂:=by
  simp only[results,h]
  simp[Sem.run_bind,Result.andThen]
 rw[key,hp]
 have:=run_loadVar_row (P:=Tryz.prog) w g 171 171 cs (0,0) _ hg Tryz.underlying171 rfl (by rw[mB,hs])
 simp[asAddr,this,Result.andThen]
theorem G9(l:List Int)(hby:aH l)(hl:l.length≤50000)(h13:13≤8*l.length)(h1:eG l 0 3=1)(h2:eG l 3 5=0)(h3:eG l 8 5=4)(g:Nat)(w:World)(h:cG w g l 0 0):
 Calls Tryz.prog 198 #[.pointer (some ⟨g,0,none⟩)] w (ShQ l g w):=by
 have c1:=fun w h=>EX l hby hl 0 3 (by omega) (by omega) 3 rfl g w h
 have c2:=fun w h=>EX l hby hl 3 5 (by omega) (by omega) 5 rfl g w h
 have c3:=fun w h=>EX l hby hl 8 5 (by omega) (by omega) 5 rfl g w h
 unfold UF at c1 c2 c3
 rw[h1] at c1
 rw[h2] at c2
 rw[h3] at c3
 rw[show (((1:Nat):Int))=1 from rfl] at c1
 rw[show (((0:Nat):Int))=0 from rfl] at c2
 rw[show (((4:Nat):Int))=4 from rfl] at c3
 have C1:=aa c1
 have C2:=aa c2
 have C3:=aa c3
 have hlt:=h.lt
 have S0:Hid (cG (w.alloc (.cells cE 171)) g l 0 0∧(w.alloc (.cells cE 171)).heap[w.heap.size]? =some (.cells cE 171 (0,0))∧Kg g w (w.alloc (.cells cE 171))):=
  aa ⟨h.below (ak (ac w) _) (agl _),ago w _,Kg.of_below (ak (ac w) _) hlt⟩
 clear c1 c2 c3 h1 h2 h3 h
 unfold cE at S0
 go_enter Tryz.func198,Tryz.ntmps198
 go_upto_region 1 with fail
 obtain⟨wx,hwx⟩:∃wx,wx=w.alloc (.cells #[.int .i64 0,.int .i64 0,.int .i64 0,.int .i64 0,.int .i64 0,.slice none 0 0,.int .i64 0,.int .i64 0,.int .i64 0,.slice none 0 0,.slice none 0 0,.int .i64 0,.slice none 0 0,.slice none 0 0] 171):=⟨_,rfl⟩
 rw[←hwx] at S0 ⊢
 obtain⟨gr,hgr⟩:∃gr,gr=w.heap.size:=⟨_,rfl⟩
 have Y6:=S0.out
 rw[←hgr] at Y6 ⊢
 have rJ:=aa hgr
 have S1:=aa Y6
 clear S0 Y6 hwx hgr
 go_upto_region 2 with (go_at_call 216;(with_reducible refine(C1.out wx S1.out.1).mono ?_);rintro e w1 ⟨rfl,o1,k1⟩;have r1:=(k1.k.block gr (agn.1 S1.out.2.1).1 (by have:=rJ.out;omega)).trans S1.out.2.1;obtain⟨⟨y0,y1,y2,y3,y4,y5,y6,y7,y8,y9,yZ,yY,yX,yV⟩,z0,z1,z2,z3,z4,z5,z6,z7,z8,z9,z10,z11,z12,z13⟩:=ai r1)
 have M1:Hid (cG (w1.setCell ⟨gr,0,none⟩ (.int .i64 1)) g l 3 0∧(w1.setCell ⟨gr,0,none⟩ (.int .i64 1)).heap[gr]? =some (.cells #[.int .i64 1,.int .i64 0,.int .i64 0,.int .i64 0,.int .i64 0,.slice none 0 0,.int .i64 0,.int .i64 0,.int .i64 0,.slice none 0 0,.slice none 0 0,.int .i64 0,.slice none 0 0,.slice none 0 0] 171 (0,0))∧Kg g w (w1.setCell ⟨gr,0,none⟩ (.int .i64 1))):=
  aa ⟨BJ o1 (by have:=rJ.out;omega) _ _,by rw[agA _ gr 0 _ _ _ r1];rfl,IX (S1.out.2.2.trans k1) (by have:=rJ.out;omega) hlt _ _⟩
 obtain⟨v1,RM⟩:∃v1,v1=w1.setCell ⟨gr,0,none⟩ (.int .i64 1):=⟨_,rfl⟩
 rw[←RM] at M1 ⊢
 clear RM o1 k1 r1 y0 y1 y2 y3 y4 y5 y6 y7 y8 y9 yZ yY yX yV z0 z1 z2 z3 z4 z5 z6 z7 z8 z9 z10 z11 z12 z13 S1
 go_upto_region 3 with (go_at_call 216;(with_reducible refine(C2.out v1 M1.out.1).mono ?_);rintro e w2 ⟨rfl,o1,k1⟩;have r1:=(k1.k.block gr (agn.1 M1.out.2.1).1 (by have:=rJ.out;omega)).trans M1.out.2.1;obtain⟨⟨y0,y1,y2,y3,y4,y5,y6,y7,y8,y9,yZ,yY,yX,yV⟩,z0,z1,z2,z3,z4,z5,z6,z7,z8,z9,z10,z11,z12,z13⟩:=ai r1)
 have M2:Hid (cG (w2.setCell ⟨gr,1,none⟩ (.int .i64 0)) g l 8 0∧(w2.setCell ⟨gr,1,none⟩ (.int .i64 0)).heap[gr]? =some (.cells #[.int .i64 1,.int .i64 0,.int .i64 0,.int .i64 0,.int .i64 0,.slice none 0 0,.int .i64 0,.int .i64 0,.int .i64 0,.slice none 0 0,.slice none 0 0,.int .i64 0,.slice none 0 0,.slice none 0 0] 171 (0,0))∧Kg g w (w2.setCell ⟨gr,1,none⟩ (.int .i64 0))):=
  aa ⟨BJ o1 (by have:=rJ.out;omega) _ _,by rw[agA _ gr 1 _ _ _ r1];rfl,IX (M1.out.2.2.trans k1) (by have:=rJ.out;omega) hlt _ _⟩
 obtain⟨v2,hv2⟩:∃v2,v2=w2.setCell ⟨gr,1,none⟩ (.int .i64 0):=⟨_,rfl⟩
 rw[←hv2] at M2 ⊢
 clear hv2 o1 k1 r1 y0 y1 y2 y3 y4 y5 y6 y7 y8 y9 yZ yY yX yV z0 z1 z2 z3 z4 z5 z6 z7 z8 z9 z10 z11 z12 z13 M1
 go_wp2_with (go_at_call 216;(with_reducible refine(C3.out v2 M2.out.1).mono ?_);rintro e w3 ⟨rfl,o3,k3⟩;have r3:=(k3.k.block gr (agn.1 M2.out.2.1).1 (by have:=rJ.out;omega)).trans M2.out.2.1;have R3:=aa r3;obtain⟨⟨y0,y1,y2,y3,y4,y5,y6,y7,y8,y9,yZ,yY,yX,yV⟩,z0,z1,z2,z3,z4,z5,z6,z7,z8,z9,z10,z11,z12,z13⟩:=ai r3;clear r3)
 refine bodyPost_ret (Bz rfl _ _ #[.int .i64 1,.int .i64 0,.int .i64 0,.int .i64 0,.int .i64 0,.slice none 0 0,.int .i64 0,.int .i64 0,.int .i64 0,.slice none 0 0,.slice none 0 0,.int .i64 0,.slice none 0 0,.slice none 0 0] rfl (dI R3.out _ _ _ _ _ _ _ _ _ _ _ _ _ _) rfl) rfl ?_
 have hg:=rJ.out
 refine⟨rfl,o3.keep fun q hq=>dZ (by omega) _ _ _ _ _ _ _ _ _ _ _ _ _ _, ?_⟩
 have hb:=cL (B:=w.heap.size) (g:=gr) ((ac w3).mono (by have:=(M2.out.2.2.trans k3).k.size;omega)) (by omega) (.int .i64 1) (.int .i64 0) (.int .i64 0) (.int .i64 0) (.int .i64 0) (.slice none 0 0) (.int .i64 0) (.int .i64 0) (.int .i64 0) (.slice none 0 0) (.slice none 0 0) (.int .i64 0) (.slice none 0 0) (.slice none 0 0)
 have hk:=M2.out.2.2.trans k3
 exact⟨⟨hb.os.trans hk.k.os,hb.tape.trans hk.k.tape,hb.output.trans hk.k.output,agm hk.k.size hb.size,fun q hq hs=>(hb.block q hq).trans (hk.k.block q hq hs)⟩,(hb.cell (p:=⟨g,0,none⟩) hlt).trans hk.z⟩
end
end Go.Proofs.YtbhfpehgacaidaaGreatDoor
