/- A part of the proof of the given statement TopRight. Conditions: none. -/
import Derived.Test.YtbhfpehgacaidaaGreatDoorQBM
namespace Go.Proofs.YtbhfpehgacaidaaGreatDoor
set_option linter.unusedVariables false
set_option linter.unusedSimpArgs false
set_option maxRecDepth 100000
set_option maxHeartbeats 8000000
section
open Go.RowKit
theorem Cb:vq BS (bf 0 [5, -5])=yj:=by kernel_rfl
structure Gw (w:World) (B gk gv gs cs:Nat) (m:Ad):Prop where
 k:gk<B
 v:gv<B
 kc:∀k v,(#[.int .i64 0,.int .i64 0]:Array Value)[k]? =some v→w.cell? ⟨gk,k,none⟩=some v
 vc:∀k v,(#[.int .i64 0,.int .i64 2,.int .i64 8000,.int .i64 1,.int .i64 8,.slice none 0 0,.slice (some ⟨gs,0,none⟩) 1 cs]:Array Value)[k]? =some v→w.cell? ⟨gv,k,none⟩=some v
 f:gU w B gs 0 oJ m
theorem Gw.below{w w':World}{B gk gv gs cs:Nat}{m:Ad}(h:Gw w B gk gv gs cs m)(hb:Below B w w'):Gw w' B gk gv gs cs m:=
 ⟨h.k,h.v,fun k v hk=>(hb.cell (p:=⟨gk,k,none⟩) h.k).trans (h.kc k v hk),fun k v hk=>(hb.cell (p:=⟨gv,k,none⟩) h.v).trans (h.vc k v hk),h.f.below hb⟩
theorem Gw.more{w:World}{B B' gk gv gs cs:Nat}{m:Ad}(h:Gw w B gk gv gs cs m)(hB:B≤B'):Gw w B' gk gv gs cs m:=
 ⟨agz h.k hB,agz h.v hB,h.kc,h.vc,h.f.more hB⟩
theorem az{W:World}{g:Nat}{v0 v1 v2 v3 v4 v5 v6:Value}{ty:TypeId}(h:W.heap[g]? =some (.cells #[v0,v1,v2,v3,v4,v5,v6] ty (0,0))):
 (W.cell? ⟨g,0,none⟩=some v0∧W.cell? ⟨g,1,none⟩=some v1∧W.cell? ⟨g,2,none⟩=some v2∧W.cell? ⟨g,3,none⟩=some v3∧W.cell? ⟨g,4,none⟩=some v4∧W.cell? ⟨g,5,none⟩=some v5∧W.cell? ⟨g,6,none⟩=some v6)∧∀j,W.frozen? ⟨g,j,none⟩=false:=
 ⟨⟨(agu _ _ _ _ _ _ h).trans rfl,(agu _ _ _ _ _ _ h).trans rfl,(agu _ _ _ _ _ _ h).trans rfl,(agu _ _ _ _ _ _ h).trans rfl,(agu _ _ _ _ _ _ h).trans rfl,(agu _ _ _ _ _ _ h).trans rfl,(agu _ _ _ _ _ _ h).trans rfl⟩,fun j=>agv W g j _ _ h⟩
theorem Le{w:World}{gv gs cs:Nat}(h:∀k v,(#[.int .i64 0,.int .i64 2,.int .i64 8000,.int .i64 1,.int .i64 8,.slice none 0 0,.slice (some ⟨gs,0,none⟩) 1 cs]:Array Value)[k]? =some v→w.cell? ⟨gv,k,none⟩=some v):
 w.cell? ⟨gv,0,none⟩=some (.int .i64 0)∧w.cell? ⟨gv,1,none⟩=some (.int .i64 2)∧w.cell? ⟨gv,2,none⟩=some (.int .i64 8000)∧w.cell? ⟨gv,3,none⟩=some (.int .i64 1)∧w.cell? ⟨gv,4,none⟩=some (.int .i64 8)∧w.cell? ⟨gv,5,none⟩=some (.slice none 0 0)∧w.cell? ⟨gv,6,none⟩=some (.slice (some ⟨gs,0,none⟩) 1 cs):=
 ⟨h 0 _ rfl,h 1 _ rfl,h 2 _ rfl,h 3 _ rfl,h 4 _ rfl,h 5 _ rfl,h 6 _ rfl⟩
theorem JQ:(Tryz.prog.info? 89).map (fun i=>(i.zero,i.size,i.bytes))=some (some (.agg #[.int .i64 0,.slice none 0 0]),2,32):=by kernel_rfl
theorem abP{W:World}{g:Nat}{vs:List Value}{B:Nat}(hB:g<B)(h:∀k v,vs[k]? =some v→W.cell? ⟨g,k,none⟩=some v):Rd W B (some ⟨g,0,none⟩) vs:=
 fun _=>⟨g,0,rfl,hB,fun i u hu=>by rw[Nat.zero_add];exact h i u hu⟩
theorem JO:(Tryz.prog.info? 22).map (fun i=>(i.zero,i.size,i.bytes))=some (some (.slice none 0 0),1,24):=by kernel_rfl
structure LyS (w W:World) (tr:Array Value):Prop where
 bx:W.heap[w.heap.size]? =some (.cells tr 87 (0,0))
 be:Below w.heap.size w W
 hi:w.heap.size+1≤W.heap.size
theorem LyS.below{w W W':World}{tr:Array Value}(h:LyS w W tr)(hb:Below W.heap.size W W'):LyS w W' tr:=by
 have:=h.hi
 exact⟨(hb.block _ (by omega)).trans h.bx,af h.be hb,agm h.hi hb.size⟩
def ade(w:World)(e:Ending)(w':World):Prop:=
 ∃gp cp vb A c,e= .returned (.tuple #[.slice (some ⟨gp,0,none⟩) 1 cp,vb,.bool true])∧gp<w'.heap.size∧w'.cell? ⟨gp,0,none⟩=some (.slice A 16 c)∧aq w' w.heap.size A 16 c yj∧Below w.heap.size w w'
theorem Rg(gk ck gv cv gs cs:Nat)(m:Ad)(B:Nat)(w:World)(hB:B≤w.heap.size)(hm:Gw w B gk gv gs cs m):
 Calls Tryz.prog 103 #[.agg #[.int .i64 8000,.int .i64 1,.int .i64 8,.int .i64 2,.int .u64 6000270,.slice (some ⟨gk,0,none⟩) 1 ck,.slice (some ⟨gv,0,none⟩) 1 cv]] w (ade w):=by
 have NH:=aa (fun W=>by
  have:=iO 8000 1 8 W
  rw[show sV 8000 1 8=true from by decide] at this;exact this)
 have hbl:=aa (fun W (hW:Below w.heap.size w W)=>by
  have:=ll BS oJ [5, -5] IW gs 0 cs m B W (agm hB hW.size) (hm.f.below (hW.mono hB))
  unfold AO vt BS Bh at this
  dsimp only at this
  rw[show ((2:Nat):Int)=2 from rfl] at this
  exact this)
 have Pv:=aa (fun W (hW:Below w.heap.size w W)=>by
  have:=sU BS 0 (by omega) [5, -5] [5, -5] rfl (by decide) IW (by decide) (by decide) (by decide) gs 0 cs m B W (agm hB hW.size) (hm.f.below (hW.mono hB))
  rw[Cb] at this
  unfold AO vt BS J3 at this
  dsimp only at this
  rw[show ((2:Nat):Int)=2 from rfl] at this
  rw[show yj.length=16 from rfl] at this
  exact this)
 have hex:=aa (fun A c RA RC W h=>nc A c RA RC W h)
 have HM:=aa (fun W (hW:Below w.heap.size w W)=>hm.below (hW.mono hB))
 have S0:Hid (LyS w (w.alloc (.cells #[.int .i64 8000,.int .i64 1,.int .i64 8,.int .i64 2,.int .u64 6000270,.slice (some ⟨gk,0,none⟩) 1 ck,.slice (some ⟨gv,0,none⟩) 1 cv] 87)) #[.int .i64 8000,.int .i64 1,.int .i64 8,.int .i64 2,.int .u64 6000270,.slice (some ⟨gk,0,none⟩) 1 ck,.slice (some ⟨gv,0,none⟩) 1 cv]):=aa ⟨ago w _,ak (ac w) _,by simp⟩
 clear hm
 go_enter Tryz.func103,Tryz.ntmps103
 go_upto_region 1 with fail
 obtain⟨wx,hwx⟩:∃wx,wx=w.alloc (.cells #[.int .i64 8000,.int .i64 1,.int .i64 8,.int .i64 2,.int .u64 6000270,.slice (some ⟨gk,0,none⟩) 1 ck,.slice (some ⟨gv,0,none⟩) 1 cv] 87):=⟨_,rfl⟩
 rw[←hwx] at S0 ⊢
 obtain⟨⟨k0,k1,k2,k3,k4,k5,k6⟩,_⟩:=az S0.out.bx
 clear hwx
 go_wp2_with (go_at_call 36;(with_reducible refine(NH.out wx).mono ?_);rintro e w1 ⟨rfl,b1⟩;have S1:=S0.out.below b1;obtain⟨⟨k0,k1,k2,k3,k4,k5,k6⟩,_⟩:=az S1.bx)
 have HS1:=aa S1
 clear S1 b1 S0
 go_loopw [2,3,5,6,7,35] (fun s2 s3 s5 s6 s7 iv wr=>LyS w wr #[.int .i64 8000,.int .i64 1,.int .i64 8,.int .i64 2,.int .u64 6000270,.slice (some ⟨gk,0,none⟩) 1 ck,.slice (some ⟨gv,0,none⟩) 1 cv]∧
  ((iv= .int .i64 0∧s2= .slice none 0 0∧s3= .slice none 0 0∧s5= .int .i64 0∧s6= .int .i64 0∧s7= .int .u64 0)∨
   (iv= .int .i64 1∧s5= .int .i64 2∧s6= .int .i64 16∧s7= .int .u64 6000270∧∃gp cp A c,s2= .slice (some ⟨gp,0,none⟩) 1 cp∧gp<wr.heap.size∧wr.cell? ⟨gp,0,none⟩=some (.slice A 16 c)∧aq wr w.heap.size A 16 c yj))) (fun _ _ _ _ _ iv _=>1-(intOf iv).toNat)
 case atStart=>exact⟨HS1.out,.inl ⟨rfl,rfl,rfl,rfl,rfl,rfl⟩⟩
 case round=>
  obtain⟨r1,⟨rfl,rfl,rfl,rfl,rfl,rfl⟩ | ⟨rfl,rfl,rfl,rfl,gp,cp,A,c,rfl,r2,r3,r4⟩⟩:=hrel
  ·obtain⟨wo,rfl⟩:∃wo:World,wo=wr:=⟨_,rfl⟩
   have R1:=aa r1
   have HMo:=aa (HM.out wo R1.out.be)
   obtain⟨⟨k0,k1,k2,k3,k4,k5,k6⟩,_⟩:=az r1.bx
   obtain⟨v0,v1,v2,v3,v4,v5,v6⟩:=Le HMo.out.vc
   have u0:=HMo.out.kc 0 _ rfl
   have u1:=HMo.out.kc 1 _ rfl
   clear r1
   go_upto_region 7 with fail
   generalize jl:World.alloc wo _=wq
   obtain⟨hq,bq,zq⟩:=oU jl
   have RQ:Hid (∀W,Below wq.heap.size wq W→LyS w W #[.int .i64 8000,.int .i64 1,.int .i64 8,.int .i64 2,.int .u64 6000270,.slice (some ⟨gk,0,none⟩) 1 ck,.slice (some ⟨gv,0,none⟩) 1 cv]):=aa fun W hW=>(R1.out.below bq).below hW
   have FQ:Hid (∀W,Below wq.heap.size wq W→W.heap[wo.heap.size]? =some (.cells #[.int .i64 0,.int .i64 2,.int .i64 8000,.int .i64 1,.int .i64 8,.slice none 0 0,.slice (some ⟨gs,0,none⟩) 1 cs] 95 (0,0))):=aa fun W hW=>bk hq hW
   have LQ:Hid (w.heap.size≤wq.heap.size):=aa (by have:=R1.out.hi;omega)
   clear k0 k1 k2 k3 k4 k5 k6 v0 v1 v2 v3 v4 v5 v6 u0 u1 jl zq HMo
   have RW:=RQ.out wq (ac _)
   obtain⟨⟨k0,k1,k2,k3,k4,k5,k6⟩,_⟩:=az RW.bx
   obtain⟨⟨x0,x1,x2,x3,x4,x5,x6⟩,_⟩:=az hq
   have u0:=(HM.out wq RW.be).kc 0 _ rfl
   have u1:=(HM.out wq RW.be).kc 1 _ rfl
   have BW:=aa RW.be
   clear RW hq bq
   go_upto_region 12 with (go_at_call 47;(with_reducible refine(hbl.out wq BW.out).mono ?_);rintro e w3 ⟨A3,c3,U8,U0,rfl,bF,b3⟩)
   generalize oK:World.alloc w3 _=wz
   obtain⟨hz,bz,zz⟩:=oU oK
   have B3:=aa b3
   have oD:=aa bF
   have BZ:=aa (af b3 bz)
   have HZ:=aa hz
   have BZ3:=aa bz
   clear k0 k1 k2 k3 k4 k5 k6 x0 x1 x2 x3 x4 x5 x6 u0 u1 oK zz b3 bF bz hz
   obtain⟨⟨x0,x1,x2,x3,x4,x5,x6⟩,_⟩:=az (FQ.out wz BZ.out)
   go_upto_region 15 with (go_at_call 40;(with_reducible refine(Pv.out wz (RQ.out wz BZ.out).be).mono ?_);rintro e w4 ⟨A4,c4,rfl,bE,b4⟩)
   have yf:=aa ((((oD.out.rw (by decide)).below BZ3.out).more BZ3.out.size).below b4)
   have B4:=aa b4
   have X8:=aa bE
   obtain⟨⟨x0,x1,x2,x3,x4,x5,x6⟩,_⟩:=az (FQ.out w4 (af BZ.out b4))
   obtain⟨⟨z0,z1⟩,_⟩:=aB (bk HZ.out b4)
   clear b4 bE hbl Pv
   go_wp2_with (first
    |(go_at_call 41;(with_reducible refine(hex.out A3 c3 U8 U0 w4 (yf.out.more B4.out.size)).mono ?_);rintro e w5 ⟨rfl,b5⟩;obtain⟨⟨x0,x1,x2,x3,x4,x5,x6⟩,_⟩:=az (FQ.out w5 (af (af BZ.out B4.out) b5));obtain⟨⟨z0,z1⟩,_⟩:=aB (bk HZ.out (af B4.out b5)))
    |(at_builtin;refine eK w5 rfl (.tmp 91) (.tmp 93) 144 22 rfl Tryz.underlying144 JO rfl (by omega) rfl #[.slice A4 16 c4] _ rfl rfl (by simp[Value.oneCell']) (by omega) ?_;intro g7 c7 w7 Gq hl7 NW YD hm7 b7;obtain⟨⟨x0,x1,x2,x3,x4,x5,x6⟩,_⟩:=az (FQ.out w7 (af (af (af BZ.out B4.out) b5) b7));obtain⟨⟨z0,z1⟩,_⟩:=aB (bk HZ.out (af (af B4.out b5) b7)))
    |(at_builtin;refine eK w7 rfl (.tmp 95) (.tmp 97) 186 89 rfl Tryz.underlying186 JQ rfl (by omega) rfl #[.int .i64 8,.slice A3 1 c3] _ rfl rfl (by simp[Value.oneCell']) (by omega) ?_;intro g8 c8 w8 hg8 hl8 hc8 YC Sp b8;obtain⟨⟨x0,x1,x2,x3,x4,x5,x6⟩,_⟩:=az (FQ.out w8 (af (af (af (af BZ.out B4.out) b5) b7) b8))))
   have B8:=af (af (af (af BZ.out B4.out) b5) b7) b8
   have hz:=agm LQ.out BZ.out.size
   exact⟨⟨RQ.out w8 B8,.inr ⟨rfl,rfl,rfl,rfl,g7,c7,A4,c4,rfl,agz hl7 b8.size,(b8.cell (p:=⟨g7,0,none⟩) hl7).trans (NW 0 _ rfl),aq.base (aq.below X8.out (af (af b5 b7) b8) (agl _)) hz⟩⟩,by simp[intOf]⟩
  ·obtain⟨wo,rfl⟩:∃wo:World,wo=wr:=⟨_,rfl⟩
   have R1:=aa r1
   have R4:=aa r4
   obtain⟨⟨k0,k1,k2,k3,k4,k5,k6⟩,_⟩:=az r1.bx
   clear r1 r4
   go_wp2_with fail
   refine bodyPost_ret (results_tmp3 rfl _ _ _) rfl ?_
   exact⟨gp,cp,_,A,c,rfl,r2,r3,R4.out,R1.out.be⟩
def Pq:List Int:=[75,78,83,68,192,62,1,8,1,16,2,0,0,0,0,0,91,142,142,69,1,88,102,245,75,0,2,192,62,1,8,0,3,141,32,34,216,112,108]
def yD:List Int:=[75,78,83,68,192,62,1,8,1,16,2,0,0,0,0,0,91,142,142]
theorem Ws:bU [8000,1,8,1,16,2]=[192,62,1,8,1,16,2]:=by kernel_rfl
theorem Wt:bM 6000270 8=[0,0,0,0,0,91,142,142]:=by kernel_rfl
theorem KE:(fC yD).toNat=1157716070:=by kernel_rfl
theorem Rj:bM 1157716070 4=[69,1,88,102]:=by kernel_rfl
structure PuS (w W:World) (gp:Nat) (A:Option Addr) (c gk ck gv cv gs cs:Nat) (m:Ad) (B:Nat):Prop where
 bx:W.heap[w.heap.size]? =some (.cells #[.int .i64 8000,.int .i64 1,.int .i64 8,.int .i64 2,.int .u64 6000270,.slice (some ⟨gk,0,none⟩) 1 ck,.slice (some ⟨gv,0,none⟩) 1 cv] 87 (0,0))
 p:W.cell? ⟨gp,0,none⟩=some (.slice A 16 c)
 i:ag .u8 W W.heap.size A yj
 tr:Gw W B gk gv gs cs m
 be:Below w.heap.size w W
 gp:gp<W.heap.size
theorem PuS.below{w W W':World}{gp:Nat}{A:Option Addr}{c gk ck gv cv gs cs:Nat}{m:Ad}{B:Nat}(h:PuS w W gp A c gk ck gv cv gs cs m B)(hB:B≤W.heap.size)(hb:Below W.heap.size W W'):PuS w W' gp A c gk ck gv cv gs cs m B:=
 ⟨bk h.bx hb,(hb.cell (p:=⟨gp,0,none⟩) h.gp).trans h.p,(h.i.below hb).more hb.size,h.tr.below (hb.mono hB),af h.be hb,agz h.gp hb.size⟩
theorem LN(gk ck gv cv gs cs:Nat)(m:Ad)(B:Nat)(w:World)(hB:B≤w.heap.size)(hm:Gw w B gk gv gs cs m):
 Calls Tryz.prog 42 #[.agg #[.int .i64 8000,.int .i64 1,.int .i64 8,.int .i64 2,.int .u64 6000270,.slice (some ⟨gk,0,none⟩) 1 ck,.slice (some ⟨gv,0,none⟩) 1 cv]] w (J3 Pq w):=by
 have aar:=aa (fun W (hW:Below w.heap.size w W)=>Rg gk ck gv cv gs cs m B W (agm hB hW.size) (hm.below (hW.mono hB)))
 unfold ade at aar
 have hput:=aa (fun A B c W (ha:ag .u64 W B A [8000,1,8,1,16,2]) hB=>by
  have:=qz [8000,1,8,1,16,2] 6 rfl (by omega) (by decide) A B c W ha hB
  rw[Ws] at this
  unfold XQ at this
  rw[show ([192,62,1,8,1,16,2]:List Int).length=7 from rfl] at this
  exact this)
 have h8:=aa (fun W=>by
  have:=xW 6000270 (by omega) W
  rw[Wt,show ((6000270:Nat):Int)=6000270 from rfl] at this
  unfold UG at this
  exact this)
 have h4:=aa (fun W=>by
  have:=js 1157716070 (by omega) W
  rw[Rj,show ((1157716070:Nat):Int)=1157716070 from rfl] at this
  unfold Zn at this
  exact this)
 have h32:=aa (fun A B c W (ha:ag .u8 W B A yD)=>by
  have:=dW yD (by
   have:∀x∈yD,0≤x∧x<256:=by decide
   exact fun x hx=>this x hx) 19 rfl (by omega) A B c W ha
  rw[KE,show ((1157716070:Nat):Int)=1157716070 from rfl] at this
  exact this)
 have HM:=aa (fun W (hW:Below w.heap.size w W)=>hm.below (hW.mono hB))
 have HB:=aa hB
 clear hm hB
 go_enter Tryz.func42,Tryz.ntmps42
 go_upto_region 1 with fail
 generalize hwx:World.alloc w _=wx
 obtain⟨hx,bx,zx⟩:=oU hwx
 clear hwx
 obtain⟨⟨k0,k1,k2,k3,k4,k5,k6⟩,_⟩:=az hx
 go_upto_region 4 with (go_at_call 103;(with_reducible refine(aar.out wx bx).mono ?_);rintro e w1 ⟨gp,cp,vb,A,c,rfl,Pz,hpc,cM,b1⟩)
 have HP:Hid (PuS w w1 gp A c gk ck gv cv gs cs m B):=aa ⟨bk hx b1,hpc,cM.ints,HM.out _ (af bx b1),af bx b1,Pz⟩
 have HBw:Hid (B≤w1.heap.size):=aa (agm HB.out HP.out.be.size)
 clear k0 k1 k2 k3 k4 k5 k6 hx bx zx Pz hpc cM b1 aar
 obtain⟨⟨k0,k1,k2,k3,k4,k5,k6⟩,_⟩:=az HP.out.bx
 go_upto_region 5 with fail
 generalize hwu:World.alloc w1 _=wu
 have hU:J5 wu w1.heap.size (some ⟨w1.heap.size,0,none⟩) 4 4 [8000,1,8,1]:=by
  rw[←hwu]
  exact World.ownsRow_lit w1 #[.int .u64 8000,.int .u64 1,.int .u64 8,.int .u64 1] 4 (agl _) (by simp[maxLen]) (by simp)
 obtain⟨_,bu,zu⟩:=oU hwu
 have HU:=aa hU
 have BU:=aa bu
 have HPu:=aa (fun W (hW:Below w1.heap.size w1 W)=>HP.out.below HBw.out hW)
 clear k0 k1 k2 k3 k4 k5 k6 hwu hU zu
 obtain⟨⟨k0,k1,k2,k3,k4,k5,k6⟩,_⟩:=az (HPu.out wu bu).bx
 clear bu
 go_wp2_with fail
 go_loopw [7,41] (fun v7 iv wr=>Below w1.heap.size w1 wr∧((iv= .int .i64 0∧v7= .slice (some ⟨w1.heap.size,0,none⟩) 4 4∧J5 wr w1.heap.size (some ⟨w1.heap.size,0,none⟩) 4 4 [8000,1,8,1])∨
  (iv= .int .i64 1∧∃A6 c6,v7= .slice A6 6 c6∧J5 wr w1.heap.size A6 6 c6 [8000,1,8,1,16,2]))) (fun _ iv _=>1-(intOf iv).toNat)
 case atStart=>exact⟨BU.out,.inl ⟨rfl,rfl,HU.out⟩⟩
 case round=>
  clear k0 k1 k2 k3 k4 k5 k6
  obtain⟨r0,⟨rfl,rfl,r1⟩ | ⟨rfl,A6,c6,rfl,r1⟩⟩:=hrel
  ·obtain⟨wo,rfl⟩:∃wo:World,wo=wr:=⟨_,rfl⟩
   have R0:=aa r0
   have R1:=aa r1
   have P0:=HPu.out wo r0
   obtain⟨⟨k0,k1,k2,k3,k4,k5,k6⟩,_⟩:=az P0.bx
   obtain⟨v0,v1,v2,v3,v4,v5,v6⟩:=Le P0.tr.vc
   have p0:=P0.p
   clear P0 r0 r1
   go_upto_region 8 with fail
   generalize jl:World.alloc wo _=wq
   obtain⟨hq,bq,zq⟩:=oU jl
   have OU:=aa (aD R1.out bq (agl _))
   have BQ:=aa (af R0.out bq)
   have p1:=(HPu.out wq BQ.out).p
   have hz:Hid (w1.heap.size≤wq.heap.size):=aa BQ.out.size
   clear k0 k1 k2 k3 k4 k5 k6 v0 v1 v2 v3 v4 v5 v6 p0 jl zq bq
   obtain⟨⟨x0,x1,x2,x3,x4,x5,x6⟩,_⟩:=az hq
   clear hq x0 x2 x3 x4 x5 x6
   go_region_law
    (first | ((refine mC _ (by rfl) Tryz.underlying189 Dg (by omega) (.tmp 46) (.tmp 56) (by rfl) w1.heap.size (some ⟨w1.heap.size,0,none⟩) 4 4 _ (by rfl) (aD OU.out (ak (ac wq) _).drew (agl _)) _ (some ⟨wq.heap.size,0,none⟩) 2 2 [16,2] (by rfl) rfl (dH wq .u64 [16,2] _ _ rfl) (by omega) (agm hz.out (ak (ac wq) _).drew.size) ?_;intro A9 c9 w9 lh b9)))
   all_goals go_wp2_with fail
   all_goals exact⟨⟨(BQ.out.trans ((ak (ac wq) _).drew.mono hz.out)).trans b9,.inr ⟨rfl,A9,c9,rfl,lh⟩⟩,by simp[intOf]⟩
  ·obtain⟨wo,rfl⟩:∃wo:World,wo=wr:=⟨_,rfl⟩
   have R0:=aa r0
   have hcv:=Lib.run_convert_bytes_const (P:=Tryz.prog) wo 22 5 #[.int .u8 75,.int .u8 78,.int .u8 83,.int .u8 68] 4 4 Tryz.underlying22 Tryz.underlying5
   obtain⟨wl,Ey⟩:∃wl,wl=wo.alloc (.cells #[.int .u8 75,.int .u8 78,.int .u8 83,.int .u8 68] 5 (4,5)):=⟨_,rfl⟩
   have aaB:(convert 22 22 (.slice (some ⟨wo.heap.size,0,none⟩) 4 4)).run Tryz.prog (wo.alloc (.cells #[.int .u8 75,.int .u8 78,.int .u8 83,.int .u8 68] 5))= .ok (.slice (some ⟨wo.heap.size,0,none⟩) 4 4) wl:=by rw[Ey];exact hcv
   have B4:Hid (Below wo.heap.size wo wl):=aa (by rw[Ey];exact ak (ac wo) _)
   have Hl:Hid (ag .u8 wl wl.heap.size (some ⟨wo.heap.size,0,none⟩) [75,78,83,68]):=aa (by
    have hzl:wl.heap.size=wo.heap.size+1:=by rw[Ey];simp
    rw[hzl,Ey];exact AV rfl)
   have I6:=aa (bR (aD r1 B4.out (agl _)))
   have P0:=HPu.out wo r0
   obtain⟨⟨k0,k1,k2,k3,k4,k5,k6⟩,_⟩:=az P0.bx
   clear P0 r0 r1 hcv Ey
   go_upto_region 11 with (first
    |(go_at_call 85;(with_reducible refine(hput.out A6 _ c6 _ I6.out (agl _)).mono ?_);rintro e w5 ⟨A5,c5,rfl,bT,b5⟩)
    |(at_builtin;refine FM _ rfl (.tmp 60) (.tmp 62) rfl wo _ 4 _ _ rfl rfl (by omega) (Hl.out.below b5) _ A5 7 c5 _ rfl rfl (by omega) bT.ints (by omega) (af B4.out b5) ?_;intro A7 c7 w7 fQ b7))
   clear k0 k1 k2 k3 k4 k5 k6 aaB
   have X7:=aa fQ
   have B7:=aa b7
   obtain⟨⟨k0,k1,k2,k3,k4,k5,k6⟩,_⟩:=az (HPu.out w7 (af R0.out b7)).bx
   clear fQ b7 bT b5
   go_upto_region 12 with (first
    |(go_at_call 69;(with_reducible refine(h8.out w7).mono ?_);rintro e w8 ⟨A8,c8,rfl,mj,b8⟩)
    |(at_builtin;refine cF _ rfl (.tmp 64) (.tmp 67) rfl wo A7 11 c7 _ rfl (aq.below X7.out b8 (agl _)) _ A8 8 c8 _ rfl rfl mj.ints (by omega) (af B7.out b8) ?_;intro A9 c9 w9 lh b9))
   clear k0 k1 k2 k3 k4 k5 k6
   have Da:Hid (aq w9 wo.heap.size A9 19 c9 yD):=aa lh
   have B9:=aa b9
   clear lh b9 mj b8
   go_wp2_with (first
    |(go_at_call 55;(with_reducible refine(h32.out A9 _ c9 w9 Da.out.ints).mono ?_);rintro e F9 ⟨rfl,rfl⟩)
    |(go_at_call 69;(with_reducible refine(h4.out w9).mono ?_);rintro e w11 ⟨A11,c11,rfl,NK,CG⟩)
    |(at_builtin;refine cF _ rfl (.tmp 69) (.tmp 73) rfl wo A9 19 c9 _ rfl (aq.below Da.out CG (agl _)) _ A11 4 c11 _ rfl rfl NK.ints (by omega) (af B9.out CG) ?_;intro A12 c12 Yg Sl CF))
   have aeR:=aa Sl
   have B12:=aa CF
   clear NK CG Sl CF
   go_loopw [10,77] (fun v10 iv wr=>Below wo.heap.size wo wr∧((iv= .int .i64 0∧v10= .slice A12 23 c12∧aq wr wo.heap.size A12 23 c12 (yD++[69,1,88,102]))∨(iv= .int .i64 1∧∃A13 c13,v10= .slice A13 39 c13∧aq wr wo.heap.size A13 39 c13 Pq))) (fun _ iv _=>1-(intOf iv).toNat)
   case atStart=>exact⟨B12.out,.inl ⟨rfl,rfl,aeR.out⟩⟩
   case round=>
    obtain⟨r0,⟨rfl,rfl,r1⟩ | ⟨rfl,A13,c13,rfl,r1⟩⟩:=hrel
    ·obtain⟨qj,rfl⟩:∃qj:World,qj=wr:=⟨_,rfl⟩
     have Q0:=aa r0
     have Q1:=aa r1
     have P2:=aa (HPu.out qj (af R0.out r0))
     have p2:=P2.out.p
     clear r0 r1
     go_wp2_with (at_builtin;refine cF qj rfl (.tmp 81) (.tmp 82) rfl wo A12 23 c12 _ rfl Q1.out _ A 16 c yj rfl rfl P2.out.i (by omega) Q0.out ?_;intro A14 c14 Zu adO b14)
     exact⟨⟨b14,.inr ⟨rfl,A14,c14,rfl,adO⟩⟩,by simp[intOf]⟩
    ·have Q0:=aa r0
     have Q1:=aa r1
     clear r0 r1
     go_wp2_with fail
     have hz:=agm HP.out.be.size R0.out.size
     refine bodyPost_ret (results_tmp2 rfl _ _ _) rfl ?_
     exact⟨A13,c13,rfl,aq.base Q1.out hz,af (af HP.out.be R0.out) Q0.out⟩
end
end Go.Proofs.YtbhfpehgacaidaaGreatDoor
