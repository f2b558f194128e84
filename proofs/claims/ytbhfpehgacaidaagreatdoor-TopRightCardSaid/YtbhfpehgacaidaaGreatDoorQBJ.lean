/- A part of the proof of the given statement TopRight. Conditions: none. -/
import Derived.Test.YtbhfpehgacaidaaGreatDoorQBI
namespace Go.Proofs.YtbhfpehgacaidaaGreatDoor
set_option linter.unusedVariables false
set_option linter.unusedSimpArgs false
set_option maxRecDepth 100000
set_option maxHeartbeats 8000000
section
open Go.RowKit
structure F1 where
 st:Int
 ln:Nat
 rt:Int
 bt:Int
def vt(f:F1)(gs os cs:Nat):Array Value:=#[.int .i64 f.st,.int .i64 (f.ln:Int),.int .i64 f.rt,.int .i64 1,.int .i64 f.bt,.slice none 0 0,.slice (some ⟨gs,os,none⟩) 1 cs]
def AO(f:F1)(gs os cs:Nat):Value:=.agg (vt f gs os cs)
structure gU (w:World) (B gs os:Nat) (s:Sb) (m:Ad):Prop where
 lt:gs<B
 cl:∀k v,(nE s m)[k]? =some v→w.cell? ⟨gs,os+k,none⟩=some v
 sm:oC w B s m
theorem gU.below{w w':World}{B gs os:Nat}{s:Sb}{m:Ad}(h:gU w B gs os s m)(hb:Below B w w'):gU w' B gs os s m:=
 ⟨h.lt,fun k v hv=>(hb.cell (p:=⟨gs,os+k,none⟩) h.lt).trans (h.cl k v hv),h.sm.below hb⟩
theorem gU.more{w:World}{B B' gs os:Nat}{s:Sb}{m:Ad}(h:gU w B gs os s m)(hB:B≤B'):gU w B' gs os s m:=⟨agz h.lt hB,h.cl,h.sm.more hB⟩
theorem gU.cells{w:World}{B gs os:Nat}{s:Sb}{m:Ad}(h:gU w B gs os s m):
 w.cell? ⟨gs,os,none⟩=some (.int .i64 s.kd)∧w.cell? ⟨gs,os+1,none⟩=some (.int .i64 s.wa)∧w.cell? ⟨gs,os+2,none⟩=some (.int .i64 s.od)∧w.cell? ⟨gs,os+3,none⟩=some (.int .i64 0)∧w.cell? ⟨gs,os+4,none⟩=some (.int .i64 0)∧w.cell? ⟨gs,os+5,none⟩=some (.slice none 0 0)∧w.cell? ⟨gs,os+6,none⟩=some (.int .i64 0)∧w.cell? ⟨gs,os+7,none⟩=some (.int .i64 0)∧w.cell? ⟨gs,os+8,none⟩=some (.int .i64 0)∧w.cell? ⟨gs,os+9,none⟩=some (.slice none 0 0)∧w.cell? ⟨gs,os+10,none⟩=some (.slice m.A s.wm.length m.c)∧w.cell? ⟨gs,os+11,none⟩=some (.int .i64 s.po)∧w.cell? ⟨gs,os+12,none⟩=some (.slice m.Ak s.ks.length m.ck)∧w.cell? ⟨gs,os+13,none⟩=some (.slice m.Ar s.rs.length m.cr):=
 ⟨h.cl 0 _ rfl,h.cl 1 _ rfl,h.cl 2 _ rfl,h.cl 3 _ rfl,h.cl 4 _ rfl,h.cl 5 _ rfl,h.cl 6 _ rfl,h.cl 7 _ rfl,h.cl 8 _ rfl,h.cl 9 _ rfl,h.cl 10 _ rfl,h.cl 11 _ rfl,h.cl 12 _ rfl,h.cl 13 _ rfl⟩
structure Yc (f:F1) (s:Sb) (row:List Int):Prop where
 n1:1≤f.ln
 n2:f.ln≤1000
 fr:frB ⟨f.st,(f.ln:Int),f.rt,1,f.bt,[]⟩=true
 ln:row.length=f.ln
 rw_:eU (fun _=>row) 1=true
 bm:ii f.bt (fun _=>row) 1=true
 qs:∀m B,rD s m f.ln B row
theorem Lh{sg:Int}{R:Nat→List Int}{r:Nat}(h:eU R r=true)(h2:eX [] (r:Int)=true):CY sg R r []= .ok R:=by
 unfold CY
 rw[if_neg (by rw[h];simp),if_neg (by rw[h2];simp)]
 split <;> simp_all [qU]
theorem VD(w:World):(Instr.makeSlice 47 (.int .i64 0) (.int .i64 1)).run Tryz.prog w= .ok (.slice (some ⟨w.heap.size,0,none⟩) 0 1) (w.alloc (uB 1)):=by
 obtain⟨i0,cw,hz0,hz1,hz2⟩:=info_parts iV
 have h:=run_make (P:=Tryz.prog) w 47 39 i0 _ Tryz.underlying47 cw hz0 .i64 .i64 0 1 (by omega) (by omega) (by rw[hz2];omega) (by omega)
 rw[hz1] at h
 exact h
theorem VY(w:World):(w.alloc (uB 1)).ownsRow w.heap.size 39 1 (.slice (some ⟨w.heap.size,0,none⟩) 0 1) 0 []:=
 World.ownsRow_made w _ 1 (agl _) (by simp only[maxLen];omega) (size_madeCells _ _)
def Bh(bt:Int)(row:List Int)(w:World)(e:Ending)(w':World):Prop:=
 ∃A c RA RC,e= .returned (.tuple #[.agg #[.int .i64 bt,.slice A 1 c],.int .i64 0])∧bO w' w.heap.size A 1 c row.length RA RC (fun _=>row)∧Below w.heap.size w w'
theorem Il{fn:Func}(h:fn.results=#[.cell 2 89,.tmp 3])(tmps:Array Value)(w:World){g:Nat}{v0 v1:Value}(ht:tmps.getD 2 undef= .pointer (some ⟨g,0,none⟩))
 (hc:w.heap[g]? =some (.cells #[v0,v1] 89 (0,0))):(results fn tmps).run Tryz.prog w= .ok (.tuple #[.agg #[v0,v1],tmps.getD 3 undef]) w:=by
 obtain⟨⟨c0,c1⟩,_⟩:=aB hc
 rw[results_cell_tmp h,ht]
 simp[go_sem,c0,c1]
theorem V6{w:World}{B n c m q:Nat}{A:Option Addr}{RA:Nat→Option Addr}{RC:Nat→Nat}{R:Nat→List Int}(h:bO w B A n c m RA RC R)(hq:(Value.slice A n c).ownBlock=some q∨∃i,i<n∧(Value.slice (RA i) m (RC i)).ownBlock=some q):B≤q:=by
 rcases hq with hq | ⟨i,hi,hq⟩
 ·exact(agB h.outer q hq).1
 ·exact(agB (h.inner i hi) q hq).1
theorem ll(f:F1)(s:Sb)(row:List Int)(hf:Yc f s row)(gs os cs:Nat)(m:Ad)(B:Nat)(w:World)(hB:B≤w.heap.size)(hm:gU w B gs os s m):
 Calls Tryz.prog 47 #[AO f gs os cs] w (Bh f.bt row w):=by
 have PA:=aa (fun W=>xK ⟨f.st,(f.ln:Int),f.rt,1,f.bt,[]⟩ 0 rfl (by omega) none (some ⟨gs,os,none⟩) 0 1 cs W im.nil)
 rw[hf.fr] at PA
 dsimp only at PA
 have hrow:=aa (fun W (hW:Below w.heap.size w W)=>Km s m f.ln B row (hf.qs m B) W (agm hB hW.size) (hm.below (hW.mono hB)).sm)
 unfold jt at hrow
 dsimp only at hrow
 have adD:=aa (fun (RA:Nat→Option Addr) (RC:Nat→Nat) (A:Option Addr) (c:Nat) (W:World) (h:Rw W W.heap.size A 1 RA RC (fun _=>row))=>by
  have:=LM (fun _=>row) 1 (by omega) (fun _ _=>by show row.length≤100000;rw[hf.ln];have:=hf.n2;omega) RA RC [] 0 rfl (by omega) A none c 0 W h im.nil
  rw[Lh hf.rw_ (by rfl)] at this
  unfold Zp at this
  exact this)
 have hbm:=aa (fun (RA:Nat→Option Addr) (RC:Nat→Nat) (A:Option Addr) (c:Nat) (W:World) (h:Rw W W.heap.size A 1 RA RC (fun _=>row))=>by
  have:=nZ (fun _=>row) 1 (by omega) (fun _ _=>by show row.length≤100000;rw[hf.ln];have:=hf.n2;omega) RA RC A c f.bt W h
  rw[hf.bm] at this
  exact this)
 have HM:=aa (fun W (hW:Below w.heap.size w W)=>(hm.below (hW.mono hB)).cells)
 have xo:row.length≤1000:=by rw[hf.ln];exact hf.n2
 obtain⟨st,n,rt,bt⟩:=f
 dsimp only at*
 unfold io nE at hrow
 unfold AO vt Bh
 dsimp only
 clear hf hm hB
 go_enter Tryz.func47,Tryz.ntmps47
 go_upto_region 1 with fail
 have hx1:=(ags (w.alloc (.cells #[.int .i64 st,.int .i64 (n:Int),.int .i64 rt,.int .i64 1,.int .i64 bt,.slice none 0 0,.slice (some ⟨gs,os,none⟩) 1 cs] 95)) (.cells #[.int .i64 0,.slice none 0 0] 89) w.heap.size (by simp)).trans (ago w (.cells #[.int .i64 st,.int .i64 (n:Int),.int .i64 rt,.int .i64 1,.int .i64 bt,.slice none 0 0,.slice (some ⟨gs,os,none⟩) 1 cs] 95))
 have hx2:((w.alloc (.cells #[.int .i64 st,.int .i64 (n:Int),.int .i64 rt,.int .i64 1,.int .i64 bt,.slice none 0 0,.slice (some ⟨gs,os,none⟩) 1 cs] 95)).alloc (.cells #[.int .i64 0,.slice none 0 0] 89)).heap[w.heap.size+1]? =some (.cells #[.int .i64 0,.slice none 0 0] 89 (0,0)):=by
  have:=ago (w.alloc (.cells #[.int .i64 st,.int .i64 (n:Int),.int .i64 rt,.int .i64 1,.int .i64 bt,.slice none 0 0,.slice (some ⟨gs,os,none⟩) 1 cs] 95)) (.cells #[.int .i64 0,.slice none 0 0] 89)
  have e:(w.alloc (.cells #[.int .i64 st,.int .i64 (n:Int),.int .i64 rt,.int .i64 1,.int .i64 bt,.slice none 0 0,.slice (some ⟨gs,os,none⟩) 1 cs] 95)).heap.size=w.heap.size+1:=by simp
  rw[e] at this;exact this
 have bx:Below w.heap.size w ((w.alloc (.cells #[.int .i64 st,.int .i64 (n:Int),.int .i64 rt,.int .i64 1,.int .i64 bt,.slice none 0 0,.slice (some ⟨gs,os,none⟩) 1 cs] 95)).alloc (.cells #[.int .i64 0,.slice none 0 0] 89)):=ak (ak (ac w) _) _
 obtain⟨wx,hwx⟩:∃wx,wx=(w.alloc (.cells #[.int .i64 st,.int .i64 (n:Int),.int .i64 rt,.int .i64 1,.int .i64 bt,.slice none 0 0,.slice (some ⟨gs,os,none⟩) 1 cs] 95)).alloc (.cells #[.int .i64 0,.slice none 0 0] 89):=⟨_,rfl⟩
 rw[←hwx] at hx1 hx2 bx ⊢
 obtain⟨gr,hgr⟩:∃gr,gr=w.heap.size+1:=⟨_,rfl⟩
 rw[←hgr] at hx2 ⊢
 have FY:=aa hx1
 have HX2:=aa hx2
 have BX:=aa bx
 have rJ:=aa hgr
 obtain⟨⟨k0,k1,k2,k3,k4,k5,k6⟩,_⟩:=aw hx1
 have lT:=VD
 clear hwx hx1 hx2 bx hgr
 go_upto_region 4 with (go_at_call 108;(with_reducible refine(PA.out wx).mono ?_);rintro e w1 ⟨rfl,b1⟩;obtain⟨⟨k0,k1,k2,k3,k4,k5,k6⟩,_⟩:=aw ((b1.block _ (agn.1 FY.out).1).trans FY.out))
 have hO:=VY w1
 have bm:=ak b1 (uB 1)
 obtain⟨wm,WF⟩:∃wm,wm=w1.alloc (uB 1):=⟨_,rfl⟩
 rw[←WF] at hO bm ⊢
 obtain⟨gm,hgm⟩:∃gm,gm=w1.heap.size:=⟨_,rfl⟩
 rw[←hgm] at hO ⊢
 have HO:=aa hO
 have h1m:=(bm.block _ (agn.1 FY.out).1).trans FY.out
 have H1m:=aa h1m
 have H2m:=aa ((bm.block _ (agn.1 HX2.out).1).trans HX2.out)
 have BM:=aa (af BX.out bm)
 have Hgm:Hid (gr<gm):=aa (by have:=(agn.1 HX2.out).1;have:=b1.size;omega)
 have Hgs:Hid (gm≤wm.heap.size):=aa (by rw[WF,hgm];simp)
 obtain⟨⟨k0,k1,k2,k3,k4,k5,k6⟩,_⟩:=aw h1m
 clear WF hgm hO bm b1 h1m
 go_wp2_with fail
 go_loopw [4,32] (fun rv iv wr=>wr.heap[w.heap.size]? =some (.cells #[.int .i64 st,.int .i64 (n:Int),.int .i64 rt,.int .i64 1,.int .i64 bt,.slice none 0 0,.slice (some ⟨gs,os,none⟩) 1 cs] 95 (0,0))∧wr.heap[gr]? =some (.cells #[.int .i64 0,.slice none 0 0] 89 (0,0))∧Below w.heap.size w wr∧gm≤wr.heap.size∧
  ((iv= .int .i64 0∧rv= .slice (some ⟨gm,0,none⟩) 0 1∧wr.ownsRow gm 39 1 (.slice (some ⟨gm,0,none⟩) 0 1) 0 [])∨
   (iv= .int .i64 1∧∃A2 c2 A3 c3,rv= .slice A2 1 c2∧wr.ownsRow gm 39 1 (.slice A2 1 c2) 1 [.slice A3 row.length c3]∧ax wr gm A3 row.length c3 row))) (fun _ iv _=>1-(intOf iv).toNat)
 case atStart=>exact⟨H1m.out,H2m.out,BM.out,Hgs.out,.inl ⟨rfl,rfl,HO.out⟩⟩
 case round=>
  obtain⟨r1,r2,r3,r4,⟨rfl,rfl,r5⟩ | ⟨rfl,A2,c2,A3,c3,rfl,r5,r6⟩⟩:=hrel
  ·obtain⟨wo,rfl⟩:∃wo:World,wo=wr:=⟨_,rfl⟩
   have R1:=aa r1
   have R2:=aa r2
   have R3:=aa r3
   have R4:=aa r4
   have R5:=aa r5
   obtain⟨c0,c1,c2,c3,c4,c5,c6,c7,c8,c9,c10,c11,c12,c13⟩:=HM.out wo r3
   obtain⟨⟨k0,k1,k2,k3,k4,k5,k6⟩,_⟩:=aw r1
   clear r1 r2 r3 r4 r5
   go_upto_region 7 with fail
   have hq:=ago wo (.cells #[.int .i64 s.kd,.int .i64 s.wa,.int .i64 s.od,.int .i64 0,.int .i64 0,.slice none 0 0,.int .i64 0,.int .i64 0,.int .i64 0,.slice none 0 0,.slice m.A s.wm.length m.c,.int .i64 s.po,.slice m.Ak s.ks.length m.ck,.slice m.Ar s.rs.length m.cr] 171)
   have bq:=ak (ac wo) (.cells #[.int .i64 s.kd,.int .i64 s.wa,.int .i64 s.od,.int .i64 0,.int .i64 0,.slice none 0 0,.int .i64 0,.int .i64 0,.int .i64 0,.slice none 0 0,.slice m.A s.wm.length m.c,.int .i64 s.po,.slice m.Ak s.ks.length m.ck,.slice m.Ar s.rs.length m.cr] 171)
   obtain⟨wq,jl⟩:∃wq,wq=wo.alloc (.cells #[.int .i64 s.kd,.int .i64 s.wa,.int .i64 s.od,.int .i64 0,.int .i64 0,.slice none 0 0,.int .i64 0,.int .i64 0,.int .i64 0,.slice none 0 0,.slice m.A s.wm.length m.c,.int .i64 s.po,.slice m.Ak s.ks.length m.ck,.slice m.Ar s.rs.length m.cr] 171):=⟨_,rfl⟩
   rw[←jl] at hq bq ⊢
   obtain⟨gq,xy⟩:∃gq,gq=wo.heap.size:=⟨_,rfl⟩
   rw[←xy] at hq ⊢
   obtain⟨⟨y0,y1,y2,y3,y4,y5,y6,y7,y8,y9,yZ,yY,yX,yV⟩,_⟩:=ai hq
   have h1q:=(bq.block _ (agn.1 R1.out).1).trans R1.out
   obtain⟨⟨k0,k1,k2,k3,k4,k5,k6⟩,_⟩:=aw h1q
   have BQ:=aa bq
   have BWQ:=aa (af R3.out bq)
   obtain⟨i0,cw,hz0,hz1,hz2⟩:=info_parts iV
   clear jl xy bq hq h1q
   go_wp2_with (first
    |(go_at_call 109;(with_reducible refine(hrow.out wq BWQ.out).mono ?_);rintro e w5 ⟨A5,c5,rfl,bT,b5⟩;have Gv:=BQ.out.trans (b5.mono BQ.out.size))
    |(at_builtin;refine aP _ rfl (.tmp 46) (.tmp 48) 47 rfl gm 39 i0 _ 1 24 Tryz.underlying47 cw hz0 hz1 hz2 rfl (by omega) (.slice (some ⟨gm,0,none⟩) 0 1) 0 [] rfl (World.ownsRow.alloc (aD R5.out Gv (agl _)) _) _ _ 1 1 [.slice A5 row.length c5] rfl rfl (dN _ _ _) (by simp[Value.oneCell']) (by simp only[maxLen];omega) (by omega) (by have:=R4.out;have:=Gv.size;simp;omega) ?_;intro A7 c7 w7 fQ Gq Xk))
   have afN:gm<wo.heap.size:=(agB R5.out gm rfl).2
   have ad6:w.heap.size≤gm:=by have:=rJ.out;have:=Hgm.out;omega
   have hkq:∀q,q<w5.heap.size→q≠gm→w7.heap[q]? =w5.heap[q]? :=fun q hq hne=>(Gq.block q (by simp;omega) (fun e=>hne (Option.some.inj e))).trans (ags _ _ _ hq)
   have hb5:=Gv.size
   have UY:ax w5 gm A5 row.length c5 row:=aO bT (by have:=BQ.out.size;omega)
   refine⟨⟨(hkq _ (by omega) (by have:=rJ.out;have:=Hgm.out;omega)).trans ((Gv.block _ (by omega)).trans R1.out),(hkq _ (by have:=Hgm.out;omega) (by have:=Hgm.out;omega)).trans ((Gv.block _ (by have:=Hgm.out;omega)).trans R2.out), ?_, ?_,.inr ⟨rfl,A7,c7,A5,c5,rfl,fQ, ?_⟩⟩,by simp[intOf]⟩
   ·exact aI (ak (af R3.out Gv) _) (World.ownsRow.alloc (aO (aD R5.out Gv (agl _)) ad6) _) Gq (by have:=R3.out.size;simp;omega)
   ·have:=Gq.size;simp at this;omega
   ·refine ap UY fun q hq=>hkq q (agB UY q hq).2 ?_
    have:=(agB bT q hq).1
    have:=BQ.out.size
    omega
  ·obtain⟨wo,rfl⟩:∃wo:World,wo=wr:=⟨_,rfl⟩
   have R1:=aa r1
   have R2:=aa r2
   have R3:=aa r3
   have EC:Rw wo wo.heap.size A2 1 (fun _=>A3) (fun _=>c3) (fun _=>row):=by
    obtain⟨b,off,e,hb,hc⟩:=ip r5 (by simp)
    exact⟨fun _=>⟨b,off,e,hb,fun i hi=>by rw[show i=0 by omega];exact hc 0 _ rfl⟩,fun _ _=>ax.ints r6,fun _ _=>by omega,fun _ _=>(je r6).1⟩
   have HRW:=aa EC
   obtain⟨⟨k0,k1,k2,k3,k4,k5,k6⟩,_⟩:=aw r1
   clear r1 r2 r3 r4 r5 r6 EC
   go_upto_region 15 with (go_at_call 110;(with_reducible refine(adD.out _ _ A2 c2 wo HRW.out).mono ?_);rintro e w6 ⟨⟨A6,c6,RA6,RC6,rfl,dC⟩,b6⟩;obtain⟨⟨k0,k1,k2,k3,k4,k5,k6⟩,_⟩:=aw ((b6.block _ (agn.1 R1.out).1).trans R1.out))
   have GA:=aa dC
   have B6:=aa (af R3.out b6)
   have H26:=aa ((b6.block _ (agn.1 R2.out).1).trans R2.out)
   have ab0:w.heap.size≤wo.heap.size:=R3.out.size
   have aeC:=aa ab0
   have Hb6:=aa b6
   clear b6 dC ab0
   go_upto_region 16 with fail
   have hq:=ago w6 (.cells #[.int .i64 bt,.slice A6 1 c6] 89)
   have bq:=ak (ac w6) (.cells #[.int .i64 bt,.slice A6 1 c6] 89)
   obtain⟨wq,jl⟩:∃wq,wq=w6.alloc (.cells #[.int .i64 bt,.slice A6 1 c6] 89):=⟨_,rfl⟩
   rw[←jl] at hq bq ⊢
   obtain⟨gq,xy⟩:∃gq,gq=w6.heap.size:=⟨_,rfl⟩
   rw[←xy] at hq ⊢
   have HQ:=aa hq
   have BQ:=aa bq
   have H2q:=aa ((bq.block _ (agn.1 H26.out).1).trans H26.out)
   have HOq:Hid (bO wq wo.heap.size A6 1 c6 row.length RA6 RC6 fun _=>row):=aa (GA.out.below bq (agl _))
   obtain⟨⟨y0,y1⟩,_⟩:=aB hq
   have hMy:=aa (hbm.out RA6 RC6 A6 c6 wq (HOq.out.rw (by omega)))
   clear jl xy hq bq
   go_wp2_with (go_at_call 89;(with_reducible refine hMy.out.mono ?_);rintro e w8 ⟨rfl,b8⟩;have z0:=later b8 y0;have z1:=later b8 y1;have h28:=(b8.block _ (agn.1 H2q.out).1).trans H2q.out;obtain⟨⟨v0,v1⟩,f0,f1⟩:=aB h28)
   refine bodyPost_ret (Il rfl _ _ rfl (vS h28 _ _)) rfl ?_
   have ad5:w.heap.size≤gr:=by have:=rJ.out;omega
   have Xp:=HOq.out.below b8 (agl _)
   have afM:=(agn.1 R2.out).1
   refine⟨A6,c6,RA6,RC6,rfl, ?_,pp (af (af B6.out BQ.out) b8) ad5 _ _⟩
   have xH:bO ((w8.setCell ⟨gr,0,none⟩ (.int .i64 bt)).setCell ⟨gr,1,none⟩ (.slice A6 1 c6)) wo.heap.size A6 1 c6 row.length RA6 RC6 fun _=>row:=Xp.other fun q hq=>kT (by
    have:=V6 Xp hq
    omega) _ _
   exact xH.base aeC.out
theorem AG(f:F1)(s:Sb)(row:List Int)(hf:Yc f s row)(gs os cs:Nat)(m:Ad)(B:Nat)(w:World)(hB:B≤w.heap.size)(hm:gU w B gs os s m):
 Calls Tryz.prog 94 #[AO f gs os cs] w fun e w'=>e= .returned (.bool true)∧Below w.heap.size w w':=by
 have hx:=ago w (.cells (vt f gs os cs) 95)
 have bx:=ak (ac w) (.cells (vt f gs os cs) 95)
 have mf:=fun W (hW:Below w.heap.size w W)=>ll f s row hf gs os cs m B W (agm hB hW.size) (hm.below (hW.mono hB))
 unfold Bh at mf
 have Zj:=aa mf
 obtain⟨wx,hwx⟩:∃wx,wx=w.alloc (.cells (vt f gs os cs) 95):=⟨_,rfl⟩
 rw[←hwx] at hx bx
 have Vg:=aa hwx
 have BX:=aa bx
 unfold AO at Zj ⊢
 unfold vt at hx Vg Zj ⊢
 obtain⟨⟨k0,k1,k2,k3,k4,k5,k6⟩,_⟩:=aw hx
 clear hx bx hwx mf hf hm
 go_enter Tryz.func94,Tryz.ntmps94
 go_upto_region 1 with fail
 rw[←Vg.out]
 go_wp2_with (go_at_call 47;(with_reducible refine(Zj.out wx BX.out).mono ?_);rintro e w1 ⟨A1,c1,RA1,RC1,rfl,cM,b1⟩)
 go_ret
 exact⟨rfl,af BX.out (ak b1 _)⟩
theorem Dg:(Tryz.prog.info? 83).map (fun i=>(i.zero,i.size,i.bytes))=some (some (.int .u64 0),1,8):=by kernel_rfl
def J5(w:World)(B:Nat)(A:Option Addr)(n c:Nat)(l:List Int):Prop:=w.ownsRow B 83 1 (.slice A n c) n (l.map (.int .u64))
theorem aa5{ops:Array Oper}{rest:List Oper}{o:Oper}{a:Act}{Q:Exit→Act→World→Prop}(w2:World)(hgd:o.guard=none)(s x:Operand)
 (ho:o.op= .call {callee:=.builtin .append,args:=#[s,x],argTypes:=#[189,189]}) (B:Nat) (A1:Option Addr) (n1 c1:Nat) (L:List Int) (hs:a.eval s= .slice A1 n1 c1) (hown:J5 w2 B A1 n1 c1 L)
 (i:Int) (arr:Array Value) (fo:arr.toList=[.int .u64 i]) (ty:TypeId)
 (hx:a.eval x= .slice (some ⟨w2.heap.size,0,none⟩) 1 1) (hsz:n1+1≤1000000) (hB:B≤w2.heap.size)
 (h:∀A' c' w',J5 w' B A' (n1+1) c' (L++[i])→Below B w2 w'→wpList Tryz.prog ops Q rest (a.put o.dst (.slice A' (n1+1) c')) w'):wpList Tryz.prog ops Q (o :: rest) a (w2.alloc (.cells arr ty)):=by
 obtain⟨i0,cw,hz0,hz1,hz2⟩:=info_parts Dg
 refine aP _ hgd s x 189 ho B 83 i0 _ 1 8 Tryz.underlying189 cw hz0 hz1 hz2 rfl (by omega) _ n1 _ hs (World.ownsRow.alloc hown _) (w2.heap.size+1) _ 1 1 [.int .u64 i] hx (by rfl) (dr w2 _ _ _ fo) (fun u hu=>by rw[List.mem_singleton] at hu;subst hu;rfl) (by simp only[maxLen];omega) (by omega) (by simp;omega) ?_
 intro A' c' w' h1 h2 h3
 refine h A' c' w' ?_ (aI ((ak (ac w2) _).mono hB) (World.ownsRow.alloc hown _) h2 (by simp;omega))
 unfold J5
 rw[List.map_append]
 exact h1
def oL(f:F1)(body:Nat):List Int:=[245,75]++bU [f.st,(f.ln:Int),f.rt,1,f.bt,0,(body:Int)]
def iw(f:F1)(body:Nat):List Int:=oL f body++[((JK (oL f body)).toNat:Int)]
def adv(l:List Int)(w:World)(e:Ending)(w':World):Prop:=∃A c,e= .returned (.slice A l.length c)∧aq w' w.heap.size A l.length c l∧Below w.heap.size w w'
theorem Mx(f:F1)(body:Nat)(hst:0≤f.st∧f.st≤4194304)(CR:f.ln≤1000)(hrt:0≤f.rt∧f.rt≤4194304)(uO:0≤f.bt∧f.bt≤100)(hbo:body≤2000000)(gs os cs:Nat)(w:World):
 Calls Tryz.prog 98 #[AO f gs os cs,.int .i64 (body:Int)] w (adv (iw f body) w):=by
 obtain⟨st,n,rt,bt⟩:=f
 dsimp only at*
 have hx:=ago w (.cells (vt ⟨st,n,rt,bt⟩ gs os cs) 95)
 have bx:=ak (ac w) (.cells (vt ⟨st,n,rt,bt⟩ gs os cs) 95)
 obtain⟨wx,hwx⟩:∃wx,wx=w.alloc (.cells (vt ⟨st,n,rt,bt⟩ gs os cs) 95):=⟨_,rfl⟩
 rw[←hwx] at hx bx
 have Vg:=aa hwx
 have HX:=aa hx
 have BX:=aa bx
 have hl7:∀i,i<[st,(n:Int),rt,1,bt,0,(body:Int)].length→0≤ix [st,(n:Int),rt,1,bt,0,(body:Int)] i∧ix [st,(n:Int),rt,1,bt,0,(body:Int)] i<18446744073709551616:=by
  intro i hi
  have:=lg hi
  simp only[List.mem_cons,List.not_mem_nil,or_false] at this
  rcases this with h | h | h | h | h | h | h <;> rw[h] <;> omega
 have hput:=aa (fun A B c W (ha:ag .u64 W B A [st,(n:Int),rt,1,bt,0,(body:Int)]) hB=>qz [st,(n:Int),rt,1,bt,0,(body:Int)] 7 rfl (by omega) hl7 A B c W ha hB)
 have hpl:=iZ [st,(n:Int),rt,1,bt,0,(body:Int)] (fun x hx=>by
  obtain⟨k,hk,rfl⟩:=kZ hx
  exact(hl7 k hk).2)
 have i1:=agq st (by omega)
 have i2:=agq (n:Int) (by omega)
 have i3:=agq rt (by omega)
 have i4:=agq bt (by omega)
 have i5:=agq (body:Int) (by omega)
 have hh0:Hid (oL ⟨st,n,rt,bt⟩ body=[245,75]++bU [st,(n:Int),rt,1,bt,0,(body:Int)]):=aa rfl
 have hhb:Hid (iw ⟨st,n,rt,bt⟩ body=oL ⟨st,n,rt,bt⟩ body++[((JK (oL ⟨st,n,rt,bt⟩ body)).toNat:Int)]):=aa rfl
 have hby:=gX [st,(n:Int),rt,1,bt,0,(body:Int)]
 unfold AO
 unfold vt at HX Vg ⊢
 dsimp only at HX Vg ⊢
 unfold XQ at hput
 generalize iw ⟨st,n,rt,bt⟩ body=HB at*
 generalize oL ⟨st,n,rt,bt⟩ body=H0 at*
 have hb0:Hid (aH H0):=aa (by
  rw[hh0.out]
  intro x hx
  rcases agC.1 hx with h | h
  ·simp at h
   rcases h with rfl | rfl <;> decide
  ·exact hby x h)
 have hl0:Hid (2+(bU [st,(n:Int),rt,1,bt,0,(body:Int)]).length=H0.length):=aa (by rw[hh0.out];simp;omega)
 have hl9:H0.length≤80:=by
  rw[←hl0.out]
  simp only[List.length_cons,List.length_nil] at hpl
  omega
 generalize hPP:bU [st,(n:Int),rt,1,bt,0,(body:Int)]=PP at*
 obtain⟨⟨k0,k1,k2,k3,k4,k5,k6⟩,_⟩:=aw HX.out
 clear hx bx hwx hl7 hPP
 go_enter Tryz.func98,Tryz.ntmps98
 go_upto_region 1 with fail
 rw[←Vg.out]
 go_upto_region 2 with fail
 have hU:J5 (wx.alloc (.cells #[.int .u64 st,.int .u64 (n:Int),.int .u64 rt,.int .u64 1,.int .u64 bt,.int .u64 0] 83)) wx.heap.size (some ⟨wx.heap.size,0,none⟩) 6 6 [st,(n:Int),rt,1,bt,0]:=World.ownsRow_lit wx #[.int .u64 st,.int .u64 (n:Int),.int .u64 rt,.int .u64 1,.int .u64 bt,.int .u64 0] 6 (agl _) (by simp[maxLen]) (by simp)
 have bu:=ak (ac wx) (.cells #[.int .u64 st,.int .u64 (n:Int),.int .u64 rt,.int .u64 1,.int .u64 bt,.int .u64 0] 83)
 obtain⟨wu,hwu⟩:∃wu,wu=wx.alloc (.cells #[.int .u64 st,.int .u64 (n:Int),.int .u64 rt,.int .u64 1,.int .u64 bt,.int .u64 0] 83):=⟨_,rfl⟩
 rw[←hwu] at hU bu ⊢
 obtain⟨gu,hgu⟩:∃gu,gu=wx.heap.size:=⟨_,rfl⟩
 rw[←hgu] at hU ⊢
 have HU:=aa hU
 have BU:=aa bu
 have Hgu:Hid (gu≤wu.heap.size):=aa (by rw[hgu];exact bu.size)
 have Hgx:Hid (gu=wx.heap.size):=aa hgu
 obtain⟨⟨k0,k1,k2,k3,k4,k5,k6⟩,_⟩:=aw ((bu.block _ (agn.1 HX.out).1).trans HX.out)
 have hp7:PP.length≤70:=hpl
 clear hwu hU bu hgu hpl
 go_wp2_with fail
 go_loop [5,35] (fun v5 iv=>v5= .slice (some ⟨gu,0,none⟩) 6 6∧iv= .int .i64 0) (fun _ _=>0)
 case atStart=>exact⟨rfl,rfl⟩
 case round=>
  obtain⟨rfl,rfl⟩:=hrel
  go_upto_region 8 with (at_builtin;refine aa5 wu rfl (.tmp 52) (.tmp 55) rfl gu (some ⟨gu,0,none⟩) 6 6 _ rfl HU.out (body:Int) _ rfl _ rfl (by omega) Hgu.out ?_;intro A6 c6 w6 dC b6)
  have GA:=aa dC
  have sO:w.heap.size≤gu:=by rw[Hgx.out];exact BX.out.size
  have B6:=aa (af BX.out (BU.out.trans (b6.mono (by rw[Hgx.out];exact agl _))))
  clear dC b6
  go_upto_region 9 with fail
  have hW:aq (w6.alloc (.cells #[.int .u8 245,.int .u8 75] 5)) w6.heap.size (some ⟨w6.heap.size,0,none⟩) 2 2 [245,75]:=World.ownsRow_lit w6 #[.int .u8 245,.int .u8 75] 2 (agl _) (by simp[maxLen]) (by simp)
  have bw:=ak (ac w6) (.cells #[.int .u8 245,.int .u8 75] 5)
  obtain⟨w7,Cg⟩:∃w7,w7=w6.alloc (.cells #[.int .u8 245,.int .u8 75] 5):=⟨_,rfl⟩
  rw[←Cg] at hW bw ⊢
  obtain⟨g7,Gq⟩:∃g7,g7=w6.heap.size:=⟨_,rfl⟩
  rw[←Gq] at hW ⊢
  have HW:=aa hW
  have BW:=aa bw
  have Hg7:=aa Gq
  have B7:=aa (af B6.out bw)
  have HI:Hid (ag .u64 w7 w7.heap.size A6 [st,(n:Int),rt,1,bt,0,(body:Int)]):=aa (ip (aD GA.out bw (agl _)))
  clear Cg hW bw Gq
  go_wp2_with (first
   |(go_at_call 85;(with_reducible refine(hput.out A6 w7.heap.size c6 w7 HI.out (agl _)).mono ?_);rintro e w8 ⟨A8,c8,rfl,mj,b8⟩)
   |(at_builtin;refine cF _ rfl (.tmp 58) (.tmp 60) rfl w (some ⟨g7,0,none⟩) 2 2 [245,75] rfl (aD (aO HW.out (by rw[Hg7.out];exact B6.out.size)) b8 (agl _)) _ A8 PP.length c8 PP rfl rfl mj.ints (by omega) (af B7.out b8) ?_;intro A9 c9 w9 lh b9;rw[←hh0.out,hl0.out] at lh;rw[hl0.out])
   |(go_at_call 149;(with_reducible refine(xS H0 hb0.out H0.length rfl (by omega) A9 _ c9 w9 (aq.ints lh)).mono ?_);rintro e F9 ⟨rfl,rfl⟩)
   |(at_builtin;refine TP w9 rfl (.tmp 62) (.tmp 65) rfl w.heap.size A9 H0.length c9 H0 rfl lh _ _ rfl _ rfl (by omega) b9.size ?_;intro A10 c10 F9 Ci ae7 uv agi))
  go_ret
  have Su:HB.length=H0.length+1:=by rw[hhb.out];simp
  exact⟨A10,c10,by rw[Su];rfl,by rw[Su];rw[←hhb.out] at Ci;exact Ci,b9.trans uv⟩
theorem NU(f:F1)(body:Nat):aH (oL f body):=by
 intro x hx
 unfold oL at hx
 rcases agC.1 hx with h | h
 ·simp at h
  rcases h with rfl | rfl <;> decide
 ·exact gX _ x h
theorem Jp(f:F1)(body:Nat):aH (iw f body):=by
 intro x hx
 unfold iw at hx
 rcases agC.1 hx with h | h
 ·exact NU f body x h
 ·rw[List.mem_singleton] at h
  subst h
  have:=(JK (oL f body)).isLt
  omega
theorem Jo(f:F1)(body:Nat)(hst:0≤f.st∧f.st≤4194304)(CR:f.ln≤1000)(hrt:0≤f.rt∧f.rt≤4194304)(uO:0≤f.bt∧f.bt≤100)(hbo:body≤2000000):(iw f body).length≤100:=by
 have hpl:=iZ [f.st,(f.ln:Int),f.rt,1,f.bt,0,(body:Int)] (fun x hx=>by
  simp only[List.mem_cons,List.not_mem_nil,or_false] at hx
  rcases hx with h | h | h | h | h | h | h <;> rw[h] <;> omega)
 unfold iw oL
 simp only[List.length_append,List.length_cons,List.length_nil] at hpl ⊢
 omega
def vq(f:F1)(bits:List Bool):List Int:=(iw f (aT (jd bits)).length++aT (jd bits))++bM (um (iw f (aT (jd bits)).length++aT (jd bits))).toNat 2
def J3(l:List Int)(w:World)(e:Ending)(w':World):Prop:=∃A c,e= .returned (.tuple #[.slice A l.length c,.int .i64 0])∧aq w' w.heap.size A l.length c l∧Below w.heap.size w w'
theorem QL(bs:List Bool):(jd bs).length≤bs.length+7:=by
 unfold jd
 simp
 omega
theorem sU(f:F1)(wa:Nat)(Cf:wa≤30)(l row:List Int)(hn:f.ln=l.length)(hl:ah l=true)(hf:Yc f (aK (wa:Int) l) row)
 (hst:0≤f.st∧f.st≤4194304) (hrt:0≤f.rt∧f.rt≤4194304) (uO:0≤f.bt∧f.bt≤100) (gs os cs:Nat) (m:Ad) (B:Nat) (w:World) (hB:B≤w.heap.size) (hm:gU w B gs os (aK (wa:Int) l) m):
 Calls Tryz.prog 40 #[AO f gs os cs] w (J3 (vq f (bf wa l)) w):=by
 have hx:=ago w (.cells (vt f gs os cs) 95)
 have bx:=ak (ac w) (.cells (vt f gs os cs) 95)
 have Ez:=ql hl
 have nS:(bf wa l).length≤31013:=by
  rw[Iz]
  have:=hf.n2
  have h1:aA l*l.length≤31*1000:=Nat.mul_le_mul Ez (by omega)
  omega
 have hbl:=bP (jd (bf wa l))
 have hpd:=QL (bf wa l)
 have aek:=FA (jd (bf wa l))
 have bK:=aa (fun W (hW:Below w.heap.size w W)=>AG f _ row hf gs os cs m B W (agm hB hW.size) (hm.below (hW.mono hB)))
 have hput:=aa (fun g (W:World) (hb:Below w.heap.size w W) (h:WB W g []) (hg:w.heap.size≤g)=>vK wa Cf l row f.ln hn hf.n1 hf.n2 hl m B (hf.qs m B) [] (by simp) g W (agm hB hb.size) (hm.below (hb.mono hB)).sm h (h.apart fun q hq=>by have:=hm.sm.l1 q hq;omega))
 have qP:=aa (fun (W:World) (hW:Below w.heap.size w W)=>(hm.below (hW.mono hB)).cells)
 have hph:=aa (fun W=>Mx f (aT (jd (bf wa l))).length hst hf.n2 hrt uO (by omega) gs os cs W)
 have hhl:=Jo f (aT (jd (bf wa l))).length hst hf.n2 hrt uO (by omega)
 have hhb:=Jp f (aT (jd (bf wa l))).length
 have Xn:=aa (fun g W (h:WB W g (bf wa l))=>GP (bf wa l) (by omega) g W h)
 have hby:=aa (fun g W (h:WB W g (jd (bf wa l)))=>GN (jd (bf wa l)) (by omega) g W h)
 have CV:Hid (vq f (bf wa l)=(iw f (aT (jd (bf wa l))).length++aT (jd (bf wa l)))++bM (um (iw f (aT (jd (bf wa l))).length++aT (jd (bf wa l)))).toNat 2):=aa rfl
 have qQ:nE (aK (wa:Int) l) m=#[.int .i64 1,.int .i64 (wa:Int),.int .i64 0,.int .i64 0,.int .i64 0,.slice none 0 0,.int .i64 0,.int .i64 0,.int .i64 0,.slice none 0 0,.slice m.A f.ln m.c,.int .i64 0,.slice m.Ak 0 m.ck,.slice m.Ar 0 m.cr]:=by rw[hn];rfl
 obtain⟨wx,hwx⟩:∃wx,wx=w.alloc (.cells (vt f gs os cs) 95):=⟨_,rfl⟩
 rw[←hwx] at hx bx
 have Vg:=aa hwx
 have HX:=aa hx
 have BX:=aa bx
 obtain⟨st,n,rt,bt⟩:=f
 dsimp only at*
 simp only[List.nil_append] at hput
 unfold io at hput
 rw[qQ] at hput
 have aeg:Hid (∀W,Below w.heap.size w W→W.cell? ⟨gs,os,none⟩=some (.int .i64 1)∧W.cell? ⟨gs,os+1,none⟩=some (.int .i64 (wa:Int))∧W.cell? ⟨gs,os+2,none⟩=some (.int .i64 0)∧W.cell? ⟨gs,os+3,none⟩=some (.int .i64 0)∧W.cell? ⟨gs,os+4,none⟩=some (.int .i64 0)∧W.cell? ⟨gs,os+5,none⟩=some (.slice none 0 0)∧W.cell? ⟨gs,os+6,none⟩=some (.int .i64 0)∧W.cell? ⟨gs,os+7,none⟩=some (.int .i64 0)∧W.cell? ⟨gs,os+8,none⟩=some (.int .i64 0)∧W.cell? ⟨gs,os+9,none⟩=some (.slice none 0 0)∧W.cell? ⟨gs,os+10,none⟩=some (.slice m.A n m.c)∧W.cell? ⟨gs,os+11,none⟩=some (.int .i64 0)∧W.cell? ⟨gs,os+12,none⟩=some (.slice m.Ak 0 m.ck)∧W.cell? ⟨gs,os+13,none⟩=some (.slice m.Ar 0 m.cr)):=aa (fun W hW=>by rw[hn];exact qP.out W hW)
 generalize iw ⟨st,n,rt,bt⟩ (aT (jd (bf wa l))).length=HB at*
 generalize aT (jd (bf wa l))=BO at*
 generalize jd (bf wa l)=PD at*
 generalize bf wa l=PB at*
 generalize vq ⟨st,n,rt,bt⟩ PB=FB at*
 have acT:aH (HB++BO):=fun x hx=>by
  rcases agC.1 hx with h | h
  ·exact hhb x h
  ·exact aek x h
 have YI:Hid (HB.length+BO.length=(HB++BO).length):=aa (by simp)
 have h16:=aa (fun A b c W (ha:ag .u8 W b A (HB++BO))=>qq (HB++BO) acT (HB.length+BO.length) (by simp) (by omega) A b c W ha)
 have SM:=aa (fun W=>CB (um (HB++BO)).toNat 2 (by have:=(um (HB++BO)).isLt;omega) (by omega) (by omega) W)
 have hHO:(HB++BO).length≤4100:=by simp;omega
 have hbo:BO.length≤4000:=by omega
 clear hbl
 unfold adv at hph
 unfold XQ at SM
 have e2:((2:Nat):Int)=2:=rfl
 rw[e2] at SM
 unfold AO at hph bK ⊢
 unfold vt at HX Vg hph bK ⊢
 dsimp only at HX Vg hph bK ⊢
 obtain⟨⟨k0,k1,k2,k3,k4,k5,k6⟩,_⟩:=aw HX.out
 clear hx bx hwx qP qQ hn hl hf hm Ez hst hrt uO
 go_enter Tryz.func40,Tryz.ntmps40
 go_upto_region 1 with fail
 rw[←Vg.out]
 go_upto_region 3 with (go_at_call 94;(with_reducible refine(bK.out wx BX.out).mono ?_);rintro e w1 ⟨rfl,b1⟩)
 have hx1:=aa ((b1.block _ (agn.1 HX.out).1).trans HX.out)
 have B1:=aa (af BX.out b1)
 have Hs1:Hid (w.heap.size<w1.heap.size):=aa ((agn.1 hx1.out).1)
 obtain⟨⟨k0,k1,k2,k3,k4,k5,k6⟩,_⟩:=aw hx1.out
 clear b1
 go_upto_region 4 with fail
 have hv:=ago w1 (.cells #[.slice none 0 0,.int .i64 0] 176)
 have bv:=ak (ac w1) (.cells #[.slice none 0 0,.int .i64 0] 176)
 obtain⟨wv,tY⟩:∃wv,wv=w1.alloc (.cells #[.slice none 0 0,.int .i64 0] 176):=⟨_,rfl⟩
 rw[←tY] at hv bv ⊢
 have hxv:=aa ((bv.block _ (agn.1 hx1.out).1).trans hx1.out)
 have Vf:Hid (WB wv w1.heap.size []):=aa ⟨none,0,hv,aq.nil _ _⟩
 have BV:=aa (af B1.out bv)
 obtain⟨⟨k0,k1,k2,k3,k4,k5,k6⟩,_⟩:=aw hxv.out
 obtain⟨gw,sO⟩:∃gw,gw=w1.heap.size:=⟨_,rfl⟩
 rw[←sO] at Vf ⊢
 have Uo:Hid (w.heap.size<gw):=aa (by rw[sO];exact Hs1.out)
 clear hv bv tY sO
 go_wp2_with fail
 go_loopw [16] (fun iv wr=>wr.heap[w.heap.size]? =some (.cells #[.int .i64 st,.int .i64 (n:Int),.int .i64 rt,.int .i64 1,.int .i64 bt,.slice none 0 0,.slice (some ⟨gs,os,none⟩) 1 cs] 95 (0,0))∧Below w.heap.size w wr∧
  ((iv= .int .i64 0∧WB wr gw [])∨(iv= .int .i64 1∧WB wr gw PB))) (fun iv _=>1-(intOf iv).toNat)
 case atStart=>exact⟨hxv.out,BV.out,.inl ⟨rfl,Vf.out⟩⟩
 case round=>
  obtain⟨r1,r3,⟨rfl,r5⟩ | ⟨rfl,r5⟩⟩:=hrel
  ·obtain⟨wo,rfl⟩:∃wo:World,wo=wr:=⟨_,rfl⟩
   have R1:=aa r1
   have R3:=aa r3
   have R5:=aa r5
   obtain⟨c0,c1,c2,c3,c4,c5,c6,c7,c8,c9,c10,c11,c12,c13⟩:=aeg.out wo r3
   obtain⟨⟨k0,k1,k2,k3,k4,k5,k6⟩,_⟩:=aw r1
   clear r1 r3 r5
   go_upto_region 7 with fail
   have hq:=ago wo (.cells #[.int .i64 1,.int .i64 (wa:Int),.int .i64 0,.int .i64 0,.int .i64 0,.slice none 0 0,.int .i64 0,.int .i64 0,.int .i64 0,.slice none 0 0,.slice m.A n m.c,.int .i64 0,.slice m.Ak 0 m.ck,.slice m.Ar 0 m.cr] 171)
   have bq:=ak (ac wo) (.cells #[.int .i64 1,.int .i64 (wa:Int),.int .i64 0,.int .i64 0,.int .i64 0,.slice none 0 0,.int .i64 0,.int .i64 0,.int .i64 0,.slice none 0 0,.slice m.A n m.c,.int .i64 0,.slice m.Ak 0 m.ck,.slice m.Ar 0 m.cr] 171)
   obtain⟨wq,jl⟩:∃wq,wq=wo.alloc (.cells #[.int .i64 1,.int .i64 (wa:Int),.int .i64 0,.int .i64 0,.int .i64 0,.slice none 0 0,.int .i64 0,.int .i64 0,.int .i64 0,.slice none 0 0,.slice m.A n m.c,.int .i64 0,.slice m.Ak 0 m.ck,.slice m.Ar 0 m.cr] 171):=⟨_,rfl⟩
   rw[←jl] at hq bq ⊢
   obtain⟨gq,xy⟩:∃gq,gq=wo.heap.size:=⟨_,rfl⟩
   rw[←xy] at hq ⊢
   obtain⟨⟨y0,y1,y2,y3,y4,y5,y6,y7,y8,y9,yZ,yY,yX,yV⟩,_⟩:=ai hq
   have h1q:=aa ((bq.block _ (agn.1 R1.out).1).trans R1.out)
   have HWq:=aa (R5.out.keep bq)
   obtain⟨⟨k0,k1,k2,k3,k4,k5,k6⟩,_⟩:=aw h1q.out
   have BWQ:=aa (af R3.out bq)
   clear jl xy bq hq
   go_wp2_with (go_at_call 95;(with_reducible refine(hput.out gw wq BWQ.out HWq.out (Nat.le_of_lt Uo.out)).mono ?_);rintro e w5 ⟨rfl,W5,K5⟩)
   have b5:=K5.below HWq.out (Nat.le_of_lt Uo.out)
   have b6:=K5.below HWq.out (show w.heap.size+1≤gw from Uo.out)
   refine⟨⟨(b6.block _ (by omega)).trans h1q.out,BWQ.out.trans b5,.inr ⟨rfl,W5⟩⟩,by simp[intOf]⟩
  ·obtain⟨wo,rfl⟩:∃wo:World,wo=wr:=⟨_,rfl⟩
   have R1:=aa r1
   have R3:=aa r3
   have R5:=aa r5
   obtain⟨⟨k0,k1,k2,k3,k4,k5,k6⟩,_⟩:=aw r1
   clear r1 r3 r5
   go_upto_region 12 with (go_at_call 96;(with_reducible refine(Xn.out gw wo R5.out).mono ?_);rintro e w6 ⟨rfl,W6,K6⟩)
   have b6:=K6.below R5.out (show w.heap.size+1≤gw from Uo.out)
   have h6:=aa ((b6.block _ (by omega)).trans R1.out)
   have B6:=aa (R3.out.trans (K6.below R5.out (Nat.le_of_lt Uo.out)))
   have HW6:=aa W6
   obtain⟨⟨k0,k1,k2,k3,k4,k5,k6⟩,_⟩:=aw h6.out
   clear b6 K6 W6
   go_upto_region 13 with (go_at_call 97;(with_reducible refine(hby.out gw w6 HW6.out).mono ?_);rintro e w7 ⟨A7,c7,rfl,fQ,b7⟩)
   have h7:=aa ((b7.block _ (agn.1 h6.out).1).trans h6.out)
   have B7:=aa (af B6.out b7)
   have X7:=aa fQ
   obtain⟨⟨k0,k1,k2,k3,k4,k5,k6⟩,_⟩:=aw h7.out
   clear b7 fQ
   go_upto_region 14 with (first
    |(go_at_call 98;(with_reducible refine(hph.out w7).mono ?_);rintro e w8 ⟨A8,c8,rfl,mj,b8⟩)
    |(at_builtin;refine cF _ rfl (.tmp 33) (.tmp 34) rfl w A8 HB.length c8 HB rfl (aO mj (by have:=B7.out.size;omega)) _ A7 BO.length c7 BO rfl rfl (aq.ints (aD X7.out b8 (agl _))) (by omega) (af B7.out b8) ?_;intro A9 c9 w9 lh b9))
   go_wp2_with (first
    |(go_at_call 99;(with_reducible refine(h16.out A9 _ c9 w9 (aq.ints lh)).mono ?_);rintro e F9 ⟨rfl,rfl⟩)
    |(go_at_call 69;(with_reducible refine(SM.out w9).mono ?_);rintro e w11 ⟨A11,c11,rfl,NK,CG⟩)
    |(at_builtin;refine cF _ rfl (.tmp 36) (.tmp 40) rfl w A9 (HB.length+BO.length) c9 (HB++BO) rfl (aD lh CG (agl _)) _ A11 _ c11 (bM (um (HB++BO)).toNat 2) rfl rfl (aq.ints NK) (by have:=YI.out;rw[aS];omega) (af b9 CG) ?_;intro A12 c12 Yg Sl CF))
   refine bodyPost_ret (results_tmp2 rfl _ _ _) rfl ?_
   have li:FB.length=HB.length+BO.length+(bM (um (HB++BO)).toNat 2).length:=by rw[CV.out,List.length_append,YI.out]
   exact⟨A12,c12,by rw[li];rfl,by rw[li];rw[←CV.out] at Sl;exact Sl,CF⟩
end
end Go.Proofs.YtbhfpehgacaidaaGreatDoor
