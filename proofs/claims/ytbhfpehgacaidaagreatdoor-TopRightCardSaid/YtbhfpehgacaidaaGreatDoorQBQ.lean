/- A part of the proof of the given statement TopRight. Conditions: none. -/
import Derived.Test.YtbhfpehgacaidaaGreatDoorQBP
namespace Go.Proofs.YtbhfpehgacaidaaGreatDoor
set_option linter.unusedVariables false
set_option linter.unusedSimpArgs false
set_option maxRecDepth 100000
set_option maxHeartbeats 8000000
section
open Go.RowKit
theorem abI{W:World}{g:Nat}{ty:TypeId}{u0 u1 u2 u3 u4 u5 u6:Value}(h:W.heap[g]? =some (.cells #[u0,u1,u2,u3,u4,u5,u6] ty (0,0)))(v0 v1 v2 v3 v4 v5 v6:Value):
 (((((((W.setCell ⟨g,0,none⟩ v0).setCell ⟨g,1,none⟩ v1).setCell ⟨g,2,none⟩ v2).setCell ⟨g,3,none⟩ v3).setCell ⟨g,4,none⟩ v4).setCell ⟨g,5,none⟩ v5).setCell ⟨g,6,none⟩ v6).heap[g]? =some (.cells #[v0,v1,v2,v3,v4,v5,v6] ty (0,0))∧
 Kp (fun q=>q=g) W (((((((W.setCell ⟨g,0,none⟩ v0).setCell ⟨g,1,none⟩ v1).setCell ⟨g,2,none⟩ v2).setCell ⟨g,3,none⟩ v3).setCell ⟨g,4,none⟩ v4).setCell ⟨g,5,none⟩ v5).setCell ⟨g,6,none⟩ v6):=by
 obtain⟨h0,k0⟩:=yx rfl h (j:=0) (v:=v0)
 obtain⟨h1,k1⟩:=yx rfl h0 (j:=1) (v:=v1)
 obtain⟨h2,k2⟩:=yx rfl h1 (j:=2) (v:=v2)
 obtain⟨h3,k3⟩:=yx rfl h2 (j:=3) (v:=v3)
 obtain⟨h4,k4⟩:=yx rfl h3 (j:=4) (v:=v4)
 obtain⟨h5,k5⟩:=yx rfl h4 (j:=5) (v:=v5)
 obtain⟨h6,k6⟩:=yx rfl h5 (j:=6) (v:=v6)
 refine⟨?_,k0.trans (k1.trans (k2.trans (k3.trans (k4.trans (k5.trans k6)))))⟩
 simp only[List.setIfInBounds_toArray,List.set_cons_zero,List.set_cons_succ] at h6
 exact h6
theorem Ic{fn:Func}(h:fn.results=#[.cell 2 87,.tmp 3])(tmps:Array Value)(w:World){g:Nat}{v0 v1 v2 v3 v4 v5 v6:Value}{ty:TypeId}(ht:tmps.getD 2 undef= .pointer (some ⟨g,0,none⟩))
 (hc:w.heap[g]? =some (.cells #[v0,v1,v2,v3,v4,v5,v6] ty (0,0))):(results fn tmps).run Tryz.prog w= .ok (.tuple #[.agg #[v0,v1,v2,v3,v4,v5,v6],tmps.getD 3 undef]) w:=by
 obtain⟨⟨c0,c1,c2,c3,c4,c5,c6⟩,_⟩:=az hc
 rw[results_cell_tmp h,ht]
 simp[go_sem,c0,c1,c2,c3,c4,c5,c6]
theorem XN{w W:World}{a1 a2:Array Value}{t1 t2:TypeId}(h:(w.alloc (.cells a1 t1)).alloc (.cells a2 t2)=W):
 W.heap[w.heap.size]? =some (.cells a1 t1 (0,0))∧W.heap[w.heap.size+1]? =some (.cells a2 t2 (0,0))∧Below w.heap.size w W:=by
 generalize h1:w.alloc (.cells a1 t1)=w1 at h
 have z1:w1.heap.size=w.heap.size+1:=by rw[←h1];simp
 obtain⟨x1,b1,_⟩:=oU h1
 obtain⟨x2,b2,_⟩:=oU h
 rw[z1] at x2
 exact⟨bk x1 b2,x2,af b1 b2⟩
def ztr:Array Value:=#[.int .i64 0,.int .i64 0,.int .i64 0,.int .i64 0,.int .u64 0,.slice none 0 0,.slice none 0 0]
structure J2 (w W:World) (pl:Array Value) (gl gt:Nat) (cs:Array Value):Prop where
 r:W.heap[w.heap.size]? =some (.cells ztr 87 (0,0))
 p:W.heap[gl]? =some (.cells pl 191 (0,0))
 t:W.heap[gt]? =some (.cells cs 87 (0,0))
 be:Below w.heap.size w W
 lo:w.heap.size<gl∧gl<gt
section
variable {w W W' : World} {pl cs : Array Value} {gl gt : Nat}
theorem J2.below(h:J2 w W pl gl gt cs)(hb:Below W.heap.size W W'):J2 w W' pl gl gt cs:=⟨bk h.r hb,bk h.p hb,bk h.t hb,af h.be hb,h.lo⟩
theorem J2.set{j:Nat}{v:Value}(h:J2 w W pl gl gt cs)(e:W.setCell ⟨gt,j,none⟩ v=W'):J2 w W' pl gl gt (cs.setIfInBounds j v)∧Kp (fun q=>q=gt) W W':=by
 obtain⟨h1,h2⟩:=yx e h.t
 have:=h.lo
 exact⟨⟨TH h.r h2 (by omega),TH h.p h2 (by omega),h1,lf h.be h2 (by omega),h.lo⟩,h2⟩
theorem J2.lt(h:J2 w W pl gl gt cs):gt<W.heap.size:=(agn.1 h.t).1
end
def ac9(w:World)(e:Ending)(w':World):Prop:=
 ∃gk ck gv cv gs cs m,e= .returned (.tuple #[.agg #[.int .i64 8000,.int .i64 1,.int .i64 8,.int .i64 2,.int .u64 6000270,.slice (some ⟨gk,0,none⟩) 1 ck,.slice (some ⟨gv,0,none⟩) 1 cv],.int .i64 0])∧Gw w' w'.heap.size gk gv gs cs m∧Below w.heap.size w w'
theorem GR(A:Option Addr)(B c:Nat)(hc:39≤c)(cK:c≤9223372036854775807)(w:World)(hB:B≤w.heap.size)(ha:ag .u8 w B A Pq):
 Calls Tryz.prog 44 #[.slice A 39 c] w (ac9 w):=by
 obtain⟨ba,oa,rfl,_,_⟩:=ha.lt (by decide)
 have hgh:=aa (fun W (hW:Below w.heap.size w W)=>GS (some ⟨ba,oa,none⟩) B c hc cK W (agm hB hW.size) (ha.below (hW.mono hB)))
 have hgf:=aa (fun As Al cs cl W (hW:Below w.heap.size w W) hs hl=>Di ba oa B c hc cK As Al cs cl W (agm hB hW.size) (ha.below (hW.mono hB)) hs hl)
 unfold ada at hgh
 unfold GfQ at hgf
 have hex:=aa (fun A c RA RC W h=>nc A c RA RC W h)
 clear ha
 go_enter Tryz.func44,Tryz.ntmps44
 go_upto_region 1 with fail
 generalize hwx:World.alloc w _=wx
 obtain⟨hx,bx,zx⟩:=oU hwx
 have HX:=aa hx
 have BX:=aa bx
 have ZX:Hid (w.heap.size<wx.heap.size):=aa zx
 clear hwx hx bx zx
 go_upto_region 2 with (go_at_call 104;(with_reducible refine(hgh.out wx BX.out).mono ?_);rintro e w1 ⟨As,cs,Al,cl,rfl,hs1,hl1,b1⟩)
 generalize mi:World.alloc w1 _=wy
 obtain⟨hy,lz,zy⟩:=oU mi
 have HS:=aa ((hs1.below lz).more lz.size)
 have HL:=aa ((hl1.below lz).more lz.size)
 have HY:=aa hy
 have BY:=aa (af b1 lz)
 have ZY:Hid (wx.heap.size≤w1.heap.size∧w1.heap.size<wy.heap.size):=aa ⟨b1.size,zy⟩
 clear mi hy lz zy hs1 hl1 b1
 obtain⟨⟨k0,k1,k2,k3,k4,k5,k6,k7⟩,_⟩:=bG HY.out
 go_upto_region 5 with fail
 generalize oK:World.alloc wy _=wz
 obtain⟨hz,bz,zz⟩:=oU oK
 have RZ:Hid (J2 w wz _ w1.heap.size wy.heap.size #[.int .i64 8000,.int .i64 1,.int .i64 8,.int .i64 0,.int .u64 0,.slice none 0 0,.slice none 0 0]):=aa ⟨bk (bk HX.out BY.out) bz,bk HY.out bz,hz,af (af BX.out BY.out) bz,by have:=ZX.out;have:=ZY.out;omega,ZY.out.2⟩
 have HSZ:=aa ((HS.out.below bz).more bz.size)
 have HLZ:=aa ((HL.out.below bz).more bz.size)
 generalize w1.heap.size=gl at*
 generalize wy.heap.size=gt at*
 clear oK hz bz zz k0 k1 k2 k3 k4 k5 k6 k7 HX HY HS HL BX BY ZX ZY hgh
 obtain⟨⟨k0,k1,k2,k3,k4,k5,k6,k7⟩,_⟩:=bG RZ.out.p
 go_wp2_with fail
 go_loopw [7,30] (fun v7 iv wr=>(iv= .int .i64 0∧v7= .int .i64 23∧J2 w wr #[.int .i64 8000,.int .i64 1,.int .i64 8,.slice As 1 cs,.slice Al 1 cl,.int .i64 2,.int .u64 6000270,.int .i64 23] gl gt #[.int .i64 8000,.int .i64 1,.int .i64 8,.int .i64 0,.int .u64 0,.slice none 0 0,.slice none 0 0]∧ag .i64 wr wr.heap.size As [16]∧ag .i64 wr wr.heap.size Al [2])∨
  (iv= .int .i64 1∧v7= .int .i64 39∧∃gk ck gv cv gs cf m,J2 w wr #[.int .i64 8000,.int .i64 1,.int .i64 8,.slice As 1 cs,.slice Al 1 cl,.int .i64 2,.int .u64 6000270,.int .i64 23] gl gt #[.int .i64 8000,.int .i64 1,.int .i64 8,.int .i64 2,.int .u64 6000270,.slice (some ⟨gk,0,none⟩) 1 ck,.slice (some ⟨gv,0,none⟩) 1 cv]∧Gw wr wr.heap.size gk gv gs cf m∧gt<gk∧gt<gv∧∀q,q=gs∨aj m.A=some q∨aj m.Ak=some q∨aj m.Ar=some q→gt<q)) (fun _ iv _=>1-(intOf iv).toNat)
 case atStart=>exact .inl ⟨rfl,rfl,RZ.out,HSZ.out,HLZ.out⟩
 case round=>
  clear k0 k1 k2 k3 k4 k5 k6 k7
  obtain⟨rfl,rfl,r1,r2,r3⟩ | ⟨rfl,rfl,gk,ck,gv,cv,gs,cf,m,r1,r2,r3,r4,r5⟩:=hrel
  ·obtain⟨wo,rfl⟩:∃wo:World,wo=wr:=⟨_,rfl⟩
   have R1:=aa r1
   have R2:=aa r2
   have R3:=aa r3
   obtain⟨⟨k0,k1,k2,k3,k4,k5,k6,k7⟩,_⟩:=bG r1.p
   obtain⟨⟨x0,x1,x2,x3,x4,x5,x6⟩,_⟩:=az r1.t
   obtain⟨bs,os,eA,_,hcs⟩:=r2.lt (by decide)
   have s0:wo.cell? ⟨bs,os,none⟩=some (.int .i64 16):=hcs 0 (by decide)
   clear r1 r2 r3 hcs HSZ HLZ RZ
   subst eA
   go_upto_region 10 with (go_at_call 105;(with_reducible refine(hgf.out _ Al cs cl wo R1.out.be R2.out R3.out).mono ?_);rintro e w3 ⟨gs,cf,m,A3,c3,U8,U0,rfl,hm3,hr3,b3,l3⟩)
   generalize oK:World.alloc (World.alloc w3 _) _=w4
   obtain⟨hf4,hb4,b4⟩:=XN oK
   have B4:=aa (af b3 b4)
   have Q4:=aa (R1.out.below B4.out)
   have M4:Hid (gU w4 w4.heap.size gs 0 oJ m):=aa ((hm3.below b4).more b4.size)
   have W4:=aa ((hr3.below b4).more b4.size)
   have F4:=aa hf4
   have L4:Hid (∀q,q=gs∨aj m.A=some q∨aj m.Ak=some q∨aj m.Ar=some q→gt<q):=aa fun q hq=>by
    have:=l3 q hq
    have:=R1.out.lt
    omega
   have Z4:Hid (gt<w3.heap.size):=aa (R1.out.below b3).lt
   generalize w3.heap.size=yR at*
   clear k0 k1 k2 k3 k4 k5 k6 k7 x0 x1 x2 x3 x4 x5 x6 s0 oK hf4 b4 hm3 hr3 b3 l3 R1 R2 R3 hgf
   obtain⟨⟨k0,k1,k2,k3,k4,k5,k6⟩,_⟩:=az Q4.out.t
   obtain⟨⟨y0,y1⟩,_⟩:=aB hb4
   clear hb4
   go_upto_region 13 with (go_at_call 41;(with_reducible refine(hex.out A3 c3 U8 U0 w4 W4.out).mono ?_);rintro e w5 ⟨rfl,b5⟩;have B5:=aa b5;obtain⟨⟨k0,k1,k2,k3,k4,k5,k6⟩,kz⟩:=az (Q4.out.below b5).t;have Wq:=kz 4)
   generalize lZ:World.setCell w5 _ _=w6
   obtain⟨E6,K6⟩:=(Q4.out.below B5.out).set lZ
   have Q6:Hid (J2 w w6 #[.int .i64 8000,.int .i64 1,.int .i64 8,.slice (some ⟨bs,os,none⟩) 1 cs,.slice Al 1 cl,.int .i64 2,.int .u64 6000270,.int .i64 23] gl gt #[.int .i64 8000,.int .i64 1,.int .i64 8,.int .i64 0,.int .u64 6000270,.slice none 0 0,.slice none 0 0]):=aa E6
   have M6:Hid (gU w6 w6.heap.size gs 0 oJ m):=aa ((gU.kp ((M4.out.below B5.out).more B5.out.size) (agl _) K6 L4.out).more K6.size)
   have F6:=aa (TH (bk F4.out B5.out) K6 (by have:=Z4.out;omega))
   clear k0 k1 k2 k3 k4 k5 k6 kz Wq b5 y0 y1 lZ E6 K6
   obtain⟨⟨k0,k1,k2,k3,k4,k5,k6⟩,_⟩:=az Q6.out.t
   obtain⟨⟨p0,p1,p2,p3,p4,p5,p6,p7⟩,_⟩:=bG Q6.out.p
   go_upto_region 14 with (at_builtin;refine eK w6 rfl (.tmp 59) (.tmp 67) 84 102 rfl Tryz.underlying84 zi rfl (by omega) rfl #[.int .i64 0,.int .i64 0] _ rfl rfl (by simp[Value.oneCell']) (by omega) ?_;intro gk ck w7 jx hk2 uK hk3 hk4 b7;obtain⟨⟨k0,k1,k2,k3,k4,k5,k6⟩,kz⟩:=az (Q6.out.below b7).t;have kz5:=kz 5)
   generalize NC:World.setCell w7 _ _=w8
   obtain⟨E8,K8⟩:=(Q6.out.below b7).set NC
   have Q8:Hid (J2 w w8 #[.int .i64 8000,.int .i64 1,.int .i64 8,.slice (some ⟨bs,os,none⟩) 1 cs,.slice Al 1 cl,.int .i64 2,.int .u64 6000270,.int .i64 23] gl gt #[.int .i64 8000,.int .i64 1,.int .i64 8,.int .i64 0,.int .u64 6000270,.slice (some ⟨gk,0,none⟩) 1 ck,.slice none 0 0]):=aa E8
   have hg6:=Q6.out.lt
   have M8:Hid (gU w8 w8.heap.size gs 0 oJ m):=aa ((gU.kp ((M6.out.below b7).more b7.size) (agl _) K8 L4.out).more K8.size)
   have F8:=aa (TH (bk F6.out b7) K8 (by have:=Z4.out;omega))
   have C8:Hid (gt<gk∧gk<w8.heap.size∧∀k v,(#[.int .i64 0,.int .i64 0]:Array Value)[k]? =some v→w8.cell? ⟨gk,k,none⟩=some v):=aa ⟨by omega,agz hk2 K8.size,fun k v hv=>(agy (a:=⟨gk,k,none⟩) (K8.block gk hk2 (by omega))).trans (uK k v hv)⟩
   clear k0 k1 k2 k3 k4 k5 k6 kz kz5 NC E8 K8 jx hk2 uK hk3 hk4 b7 hg6 p0 p1 p2 p3 p4 p5 p6 p7
   obtain⟨⟨k0,k1,k2,k3,k4,k5,k6⟩,_⟩:=az Q8.out.t
   obtain⟨⟨x0,x1,x2,x3,x4,x5,x6⟩,_⟩:=az F8.out
   go_upto_region 15 with (at_builtin;refine eK w8 rfl (.tmp 71) (.tmp 73) 85 95 rfl Tryz.underlying85 pO rfl (by omega) rfl #[.int .i64 0,.int .i64 2,.int .i64 8000,.int .i64 1,.int .i64 8,.slice none 0 0,.slice (some ⟨gs,0,none⟩) 1 cf] _ rfl rfl (by simp[Value.oneCell']) (by omega) ?_;intro gv cv w9 jx hk2 uK hk3 hk4 b9;obtain⟨⟨k0,k1,k2,k3,k4,k5,k6⟩,kz⟩:=az (Q8.out.below b9).t;have kz6:=kz 6)
   generalize Cf:World.setCell w9 _ _=wa
   obtain⟨Ea,Ka⟩:=(Q8.out.below b9).set Cf
   have Qa:Hid (J2 w wa #[.int .i64 8000,.int .i64 1,.int .i64 8,.slice (some ⟨bs,os,none⟩) 1 cs,.slice Al 1 cl,.int .i64 2,.int .u64 6000270,.int .i64 23] gl gt #[.int .i64 8000,.int .i64 1,.int .i64 8,.int .i64 0,.int .u64 6000270,.slice (some ⟨gk,0,none⟩) 1 ck,.slice (some ⟨gv,0,none⟩) 1 cv]):=aa Ea
   have hg8:=Q8.out.lt
   have Ta:Hid (Gw wa wa.heap.size gk gv gs cf m):=aa ⟨agz C8.out.2.1 (agm b9.size Ka.size),agz hk2 Ka.size,
    fun k v hv=>(agy (a:=⟨gk,k,none⟩) (Ka.block gk (agz C8.out.2.1 b9.size) (by have:=C8.out.1;omega))).trans ((b9.cell (p:=⟨gk,k,none⟩) C8.out.2.1).trans (C8.out.2.2 k v hv)),
    fun k v hv=>(agy (a:=⟨gv,k,none⟩) (Ka.block gv hk2 (by omega))).trans (uK k v hv),
    (gU.kp ((M8.out.below b9).more b9.size) (agl _) Ka L4.out).more Ka.size⟩
   have Fa:=aa (TH (bk F8.out b9) Ka (by have:=Z4.out;omega))
   have Ca:Hid (gt<gk∧gt<gv):=aa ⟨C8.out.1,by omega⟩
   clear k0 k1 k2 k3 k4 k5 k6 kz kz6 Cf Ea Ka jx hk2 uK hk3 hk4 b9 hg8 x0 x1 x2 x3 x4 x5 x6
   obtain⟨⟨k0,k1,k2,k3,k4,k5,k6⟩,kz⟩:=az Qa.out.t
   obtain⟨⟨x0,x1,x2,x3,x4,x5,x6⟩,_⟩:=az Fa.out
   have kz3:=kz 3
   clear kz
   go_upto_region 16 with fail
   generalize ig:World.setCell wa _ _=wb
   obtain⟨Eb,Kb⟩:=Qa.out.set ig
   have Qb:Hid (J2 w wb #[.int .i64 8000,.int .i64 1,.int .i64 8,.slice (some ⟨bs,os,none⟩) 1 cs,.slice Al 1 cl,.int .i64 2,.int .u64 6000270,.int .i64 23] gl gt #[.int .i64 8000,.int .i64 1,.int .i64 8,.int .i64 2,.int .u64 6000270,.slice (some ⟨gk,0,none⟩) 1 ck,.slice (some ⟨gv,0,none⟩) 1 cv]):=aa Eb
   have Tb:Hid (Gw wb wb.heap.size gk gv gs cf m):=aa ⟨agz Ta.out.k Kb.size,agz Ta.out.v Kb.size,
    fun k v hv=>(agy (a:=⟨gk,k,none⟩) (Kb.block gk Ta.out.k (by have:=Ca.out.1;omega))).trans (Ta.out.kc k v hv),
    fun k v hv=>(agy (a:=⟨gv,k,none⟩) (Kb.block gv Ta.out.v (by have:=Ca.out.2;omega))).trans (Ta.out.vc k v hv),
    (gU.kp Ta.out.f (agl _) Kb L4.out).more Kb.size⟩
   clear k0 k1 k2 k3 k4 k5 k6 kz3 ig Eb Kb x0 x1 x2 x3 x4 x5 x6 Qa Ta Fa
   go_wp2_with fail
   exact⟨.inr ⟨rfl,rfl,gk,ck,gv,cv,gs,cf,m,Qb.out,Tb.out,Ca.out.1,Ca.out.2,L4.out⟩,by simp[intOf]⟩
  ·obtain⟨wo,rfl⟩:∃wo:World,wo=wr:=⟨_,rfl⟩
   have R1:=aa r1
   have R2:=aa r2
   have NN:=R1.out.lo
   have h3:w.heap.size<gk:=by omega
   have h4:w.heap.size<gv:=by omega
   have R5:Hid (∀q,q=gs∨aj m.A=some q∨aj m.Ak=some q∨aj m.Ar=some q→w.heap.size<q):=aa fun q hq=>by have:=r5 q hq;omega
   have R34:=aa (And.intro h3 h4)
   obtain⟨⟨k0,k1,k2,k3,k4,k5,k6⟩,_⟩:=az r1.t
   obtain⟨⟨p0,p1,p2,p3,p4,p5,p6,p7⟩,_⟩:=bG r1.p
   have hr:=r1.r
   unfold ztr at hr
   have HR:=aa hr
   obtain⟨⟨x0,x1,x2,x3,x4,x5,x6⟩,xz⟩:=az hr
   have t0:=xz 0
   have t1:=xz 1
   have t2:=xz 2
   have t3:=xz 3
   have t4:=xz 4
   have t5:=xz 5
   have t6:=xz 6
   clear r1 r2 r3 r4 r5 NN h3 h4 hr xz RZ HSZ HLZ
   go_wp2_with fail
   obtain⟨e1,e2⟩:=abI HR.out (.int .i64 8000) (.int .i64 1) (.int .i64 8) (.int .i64 2) (.int .u64 6000270) (.slice (some ⟨gk,0,none⟩) 1 ck) (.slice (some ⟨gv,0,none⟩) 1 cv)
   refine bodyPost_ret (Ic rfl _ _ rfl e1) rfl ?_
   refine⟨gk,ck,gv,cv,gs,cf,m,rfl,⟨agz R2.out.k e2.size,agz R2.out.v e2.size,
    fun k v hv=>(agy (a:=⟨gk,k,none⟩) (e2.block gk R2.out.k (by have:=R34.out.1;omega))).trans (R2.out.kc k v hv),
    fun k v hv=>(agy (a:=⟨gv,k,none⟩) (e2.block gv R2.out.v (by have:=R34.out.2;omega))).trans (R2.out.vc k v hv),
    (gU.kp R2.out.f (agl _) e2 R5.out).more e2.size⟩,lf R1.out.be e2 (agl _)⟩
theorem zb(a d n:Nat)(h1:1≤a∧a≤1048576)(h2:1≤d∧d≤1048576)(hn:n≤1099511627776)(ht:n*d/a≤1125899906842624)(w:World):
 Calls Tryz.prog 45 #[.agg #[.int .i64 (a:Int),.int .i64 (d:Int)],.int .i64 (n:Int)] w fun e w'=>e= .returned (.tuple #[.int .i64 ((n*d/a:Nat):Int),.bool true])∧Below w.heap.size w w':=by
 have hr:qw (a:Int) (d:Int)=true:=decide_eq_true (by omega)
 have hc:decide ((0:Int)≤(n:Int)∧(n:Int)≤1099511627776)=true:=decide_eq_true (by omega)
 have hm:=fun W=>mA (a:Int) (d:Int) W
 have hk:=fun W=>Er (n:Int) W
 simp only[hr] at hm
 simp only[hc] at hk
 have Hm:=aa hm
 have Hk:=aa hk
 have hnd:n*d≤1099511627776*1048576:=Nat.mul_le_mul hn h2.2
 obtain⟨m,Ck⟩:∃m,m=n*d:=⟨_,rfl⟩
 have em:(n:Int)*(d:Int)=(m:Int):=by rw[Ck];simp
 rw[←Ck] at ht hnd ⊢
 have i1:=agp (m:Int) (by omega)
 obtain⟨t,htd⟩:∃t,t=m/a:=⟨_,rfl⟩
 have et:(m:Int).tdiv (a:Int)=(t:Int):=by rw[htd];rfl
 rw[←htd] at ht ⊢
 have i2:=agp (t:Int) (by omega)
 have ha0:¬((a:Int)=0):=by omega
 have hI:¬((1125899906842624:Int)<(t:Int)):=by omega
 have M:=aa (ago w (.cells #[.int .i64 (a:Int),.int .i64 (d:Int)] 41))
 clear hm hk hr hc Ck htd
 go_enter Tryz.func45,Tryz.ntmps45
 go_wp2_with (first
  |(go_at_call 77;(with_reducible refine(Hm.out _).mono ?_);rintro e w2 ⟨rfl,b2⟩;have B2:=kK (ak (ac w) _) b2;have mm:=(b2.block w.heap.size (by simp)).trans M.out;have c0:=(agu _ _ 0 _ _ _ mm).trans rfl;have c1:=(agu _ _ 1 _ _ _ mm).trans rfl)
  |(go_at_call 106;(with_reducible refine(Hk.out _).mono ?_);rintro e w3 ⟨rfl,rfl⟩))
 all_goals first | (exfalso;omega) | skip
 all_goals go_ret2
 all_goals exact⟨rfl,B2⟩
theorem MU(w:World):Calls Tryz.prog 43 #[.int .i64 0,.agg #[.int .i64 1,.int .i64 3]] w fun e w'=>e= .returned (.bool true)∧Below w.heap.size w w':=by
 have ht:=aa (fun W=>by
  have:=mA 1 3 W
  rw[show qw 1 3=true from by decide] at this
  exact this)
 go_enter Tryz.func43,Tryz.ntmps43
 go_upto_region 1 with fail
 generalize hwx:World.alloc w _=wx
 obtain⟨hx,bx,_⟩:=oU hwx
 obtain⟨⟨k0,k1⟩,_⟩:=aB hx
 clear hwx hx
 go_wp2_with (go_at_call 77;(with_reducible refine(ht.out wx).mono ?_);rintro e w1 ⟨rfl,b1⟩)
 go_ret
 exact⟨rfl,af bx b1⟩
def zX:Pk:=⟨0,0,6,true,false,yj⟩
def Zs:Array Value:=#[.int .i64 0,.int .i64 0,.int .i64 0,.int .i64 0,.int .i64 0,.int .i64 0,.int .i64 0,.int .i64 0,.int .i64 0,.int .i64 0]
structure OtS (w W:World) (g6 g9:Nat) (tr:Array Value):Prop where
 r:W.heap[w.heap.size]? =some (.cells #[.int .i64 1,.int .i64 3] 41 (0,0))
 i:W.heap[g6]? =some (.cells Zs 43 (0,0))
 t:W.heap[g9]? =some (.cells tr 87 (0,0))
 be:Below w.heap.size w W
 lo:w.heap.size<g6∧g6<g9
theorem OtS.below{w W W':World}{g6 g9:Nat}{tr:Array Value}(h:OtS w W g6 g9 tr)(hb:Below W.heap.size W W'):OtS w W' g6 g9 tr:=⟨bk h.r hb,bk h.i hb,bk h.t hb,af h.be hb,h.lo⟩
def yF:eC:=⟨1,1,3,8000,1,8,0,0,0,0⟩
theorem Ii{fn:Func}(h:fn.results=#[.cell 6 43,.tmp 7,.tmp 8])(tmps:Array Value)(w:World){g:Nat}(ht:tmps.getD 6 undef= .pointer (some ⟨g,0,none⟩))(hc:w.heap[g]? =some (.cells (dT yF) 43 (0,0))):
 (results fn tmps).run Tryz.prog w= .ok (.tuple #[ku yF,tmps.getD 7 undef,tmps.getD 8 undef]) w:=by
 unfold yF dT at hc
 unfold yF ku
 obtain⟨c0,c1,c2,c3,c4,c5,c6,c7,c8,c9⟩:=aQ hc
 rw[jA h,ht]
 simp[go_sem,c0,c1,c2,c3,c4,c5,c6,c7,c8,c9]
def OtQ(w:World)(e:Ending)(w':World):Prop:=
 ∃Ap cp A c,e= .returned (.tuple #[.agg #[.int .i64 1,.int .i64 1,.int .i64 3,.int .i64 8000,.int .i64 1,.int .i64 8,.int .i64 0,.int .i64 0,.int .i64 0,.int .i64 0],.slice Ap 1 cp,.int .i64 0])∧CL w' w.heap.size Ap 1 cp [(zX,A,c)]∧Below w.heap.size w w'
theorem BH(A:Option Addr)(B c:Nat)(hc:39≤c)(cK:c≤9223372036854775807)(w:World)(hB:B≤w.heap.size)(ha:ag .u8 w B A Pq):
 Calls Tryz.prog 11 #[.int .i64 0,.agg #[.int .i64 1,.int .i64 3],.slice A 39 c] w (OtQ w):=by
 have hms:=aa MU
 have kx:=aa (fun W (hW:Below w.heap.size w W)=>GR A B c hc cK W (agm hB hW.size) (ha.below (hW.mono hB)))
 unfold ac9 at kx
 have ht0:=aa (fun W=>by
  have:=zb 1 3 0 (by omega) (by omega) (by omega) (by omega) W
  rw[show ((0*3/1:Nat):Int)=0 from rfl,show ((1:Nat):Int)=1 from rfl,show ((3:Nat):Int)=3 from rfl] at this
  exact this)
 have Gf:=aa (fun W=>by
  have:=zb 1 3 2 (by omega) (by omega) (by omega) (by omega) W
  rw[show ((2*3/1:Nat):Int)=6 from rfl,show ((1:Nat):Int)=1 from rfl,show ((3:Nat):Int)=3 from rfl,show ((2:Nat):Int)=2 from rfl] at this
  exact this)
 have Pv:=aa (fun gs cs m W (hm:gU W W.heap.size gs 0 oJ m)=>by
  have:=sU BS 0 (by omega) [5, -5] [5, -5] rfl (by decide) IW (by decide) (by decide) (by decide) gs 0 cs m W.heap.size W (agl _) hm
  rw[Cb] at this
  unfold AO vt BS J3 at this
  dsimp only at this
  rw[show ((2:Nat):Int)=2 from rfl,show yj.length=16 from rfl] at this
  exact this)
 clear ha
 go_enter Tryz.func11,Tryz.ntmps11
 go_upto_region 1 with fail
 generalize hwx:World.alloc (World.alloc w _) _=wx
 obtain⟨a1,a2,bx⟩:=XN hwx
 obtain⟨g6,hg6⟩:∃g,g=w.heap.size+1:=⟨_,rfl⟩
 rw[←hg6] at a2 ⊢
 obtain⟨⟨k0,k1⟩,_⟩:=aB a1
 have HR:=aa a1
 have HI:Hid (wx.heap[g6]? =some (.cells Zs 43 (0,0))):=aa a2
 have BX:=aa bx
 have HG:Hid (w.heap.size<g6):=aa (by omega)
 clear hwx a1 a2 bx hg6
 go_upto_region 3 with (go_at_call 43;(with_reducible refine(hms.out wx).mono ?_);rintro e w1 ⟨rfl,b1⟩)
 have B1:=aa b1
 clear k0 k1 b1 hms
 go_upto_region 4 with (go_at_call 44;(with_reducible refine(kx.out w1 (af BX.out B1.out)).mono ?_);rintro e w2 ⟨gk,ck,gv,cv,gs,cs,m,rfl,yM,b2⟩)
 generalize mi:World.alloc w2 _=wy
 obtain⟨hy,lz,zy⟩:=oU mi
 have HZ:=(agn.1 (bk (bk HI.out B1.out) b2)).1
 have OY:Hid (OtS w wy g6 w2.heap.size #[.int .i64 8000,.int .i64 1,.int .i64 8,.int .i64 2,.int .u64 6000270,.slice (some ⟨gk,0,none⟩) 1 ck,.slice (some ⟨gv,0,none⟩) 1 cv]):=
  aa ⟨bk (bk (bk HR.out B1.out) b2) lz,bk (bk (bk HI.out B1.out) b2) lz,hy,af (af (af BX.out B1.out) b2) lz,HG.out,HZ⟩
 have TY:=aa ((yM.below lz).more lz.size)
 generalize w2.heap.size=g9 at*
 clear HR HI BX HG B1 mi hy lz zy yM b2 HZ kx
 obtain⟨⟨k0,k1,k2,k3,k4,k5,k6⟩,_⟩:=az OY.out.t
 go_wp2_with fail
 go_loopw [11,36] (fun v11 iv wr=>OtS w wr g6 g9 #[.int .i64 8000,.int .i64 1,.int .i64 8,.int .i64 2,.int .u64 6000270,.slice (some ⟨gk,0,none⟩) 1 ck,.slice (some ⟨gv,0,none⟩) 1 cv]∧
  ((iv= .int .i64 0∧v11= .slice none 0 0∧Gw wr wr.heap.size gk gv gs cs m)∨(iv= .int .i64 1∧∃Ap cp A c,v11= .slice Ap 1 cp∧CL wr (g9+1) Ap 1 cp [(zX,A,c)]))) (fun _ iv _=>1-(intOf iv).toNat)
 case atStart=>exact⟨OY.out,.inl ⟨rfl,rfl,TY.out⟩⟩
 case round=>
  clear k0 k1 k2 k3 k4 k5 k6
  obtain⟨r1,⟨rfl,rfl,r2⟩ | ⟨rfl,Ap,cp,A2,c2,rfl,r2⟩⟩:=hrel
  ·obtain⟨wo,rfl⟩:∃wo:World,wo=wr:=⟨_,rfl⟩
   have R1:=aa r1
   have R2:=aa r2
   obtain⟨v0,v1,v2,v3,v4,v5,v6⟩:=Le r2.vc
   clear r1 r2 OY TY
   go_upto_region 10 with fail
   generalize jl:World.alloc wo _=wq
   obtain⟨hq,bq,zq⟩:=oU jl
   have RQ:=aa (R1.out.below bq)
   have HQ:=aa hq
   have MQ:Hid (gU wq wq.heap.size gs 0 oJ m):=aa ((R2.out.f.below bq).more bq.size)
   have ZQ:Hid (g9<wq.heap.size):=aa (agn.1 RQ.out.t).1
   clear v0 v1 v2 v3 v4 v5 v6 jl hq bq zq R1 R2
   obtain⟨⟨k0,k1⟩,_⟩:=aB RQ.out.r
   obtain⟨⟨x0,x1,x2,x3,x4,x5,x6⟩,_⟩:=az HQ.out
   go_upto_region 13 with (go_at_call 45;(with_reducible refine(ht0.out wq).mono ?_);rintro e w3 ⟨rfl,b3⟩)
   have B3:=aa b3
   clear k0 k1 x0 x1 x2 x3 x4 x5 x6
   obtain⟨⟨k0,k1⟩,_⟩:=aB (bk RQ.out.r b3)
   obtain⟨⟨x0,x1,x2,x3,x4,x5,x6⟩,_⟩:=az (bk HQ.out b3)
   clear b3
   go_upto_region 16 with (go_at_call 45;(with_reducible refine(Gf.out w3).mono ?_);rintro e w4 ⟨rfl,b4⟩)
   have B4:=aa (af B3.out b4)
   have M4:=aa ((MQ.out.below B4.out).more B4.out.size)
   clear k0 k1 x0 x1 x2 x3 x4 x5 x6
   obtain⟨⟨x0,x1,x2,x3,x4,x5,x6⟩,_⟩:=az (bk HQ.out B4.out)
   clear b4 B3
   go_upto_region 19 with (go_at_call 40;(with_reducible refine(Pv.out gs cs m w4 M4.out).mono ?_);rintro e w5 ⟨A5,c5,rfl,bT,b5⟩)
   have Uy:=aa bT
   have B5:=aa (af B4.out b5)
   clear x0 x1 x2 x3 x4 x5 x6 bT b5
   go_wp2_with (at_builtin;refine JY w5 rfl (.tmp 72) (.tmp 80) rfl wq none 0 0 [] rfl (aV.nil _ _) zX A5 w4.heap.size c5 Uy.out B4.out.size (fun q _ h=>by cases h) #[.int .i64 0,.int .i64 0,.int .i64 6,.bool true,.bool false,.slice A5 16 c5] rfl _ rfl (by omega) B5.out ?_;intro A6 c6 w6 dC b6)
   exact⟨⟨RQ.out.below b6,.inr ⟨rfl,A6,c6,A5,c5,rfl,aV.base dC ZQ.out⟩⟩,by simp[intOf]⟩
  ·obtain⟨wo,rfl⟩:∃wo:World,wo=wr:=⟨_,rfl⟩
   have R1:=aa r1
   have R2:=aa r2
   obtain⟨⟨k0,k1⟩,_⟩:=aB r1.r
   obtain⟨⟨x0,x1,x2,x3,x4,x5,x6⟩,_⟩:=az r1.t
   have hi:=r1.i
   unfold Zs at hi
   have HI:=aa hi
   obtain⟨y0,y1,y2,y3,y4,y5,y6,y7,y8,y9⟩:=aQ hi
   have yz:=fun j=>agv wo g6 j _ _ hi
   have z0:=yz 0
   have z1:=yz 1
   have z2:=yz 2
   have z3:=yz 3
   have z4:=yz 4
   have z5:=yz 5
   have z6:=yz 6
   have z7:=yz 7
   have z8:=yz 8
   have z9:=yz 9
   clear r1 r2 hi yz OY TY
   go_wp2_with fail
   have e1:=rX (i0:=⟨0,0,0,0,0,0,0,0,0,0⟩) HI.out yF
   have e2:=fun q (hq:q≠g6)=>mG (W:=wo) hq yF
   obtain⟨f1,f2,f3,f4⟩:=tL wo g6 yF
   have NN:=R1.out.lo
   have hb:Below w.heap.size w (lJ wo g6 yF):=⟨f1.trans R1.out.be.os,f2.trans R1.out.be.tape,f3.trans R1.out.be.output,by rw[f4];exact R1.out.be.size,fun k hk=>(e2 k (by omega)).trans (R1.out.be.block k hk)⟩
   refine bodyPost_ret (Ii rfl _ _ rfl e1) rfl ?_
   exact⟨Ap,cp,A2,c2,rfl,aV.base (aV.kept R2.out (Nat.le_of_eq f4.symm) fun q h1 h2=>e2 q (by omega)) (by omega),hb⟩
def adu(w:World)(e:Ending)(w':World):Prop:=
 ∃gv cv gs cs m,e= .returned (.tuple #[.slice (some ⟨gv,0,none⟩) 1 cv,.int .i64 0])∧gv<w'.heap.size∧
  (∀k v,(#[.int .i64 0,.int .i64 2,.int .i64 8000,.int .i64 1,.int .i64 8,.slice none 0 0,.slice (some ⟨gs,0,none⟩) 1 cs]:Array Value)[k]? =some v→w'.cell? ⟨gv,k,none⟩=some v)∧gU w' w'.heap.size gs 0 oJ m∧Below w.heap.size w w'
theorem Fe(Ap A:Option Addr)(cp c:Nat)(hc:16≤c)(cK:c≤9223372036854775807)(w:World)(hp:iE iA w w.heap.size Ap [(zX,A,c)]):
 Calls Tryz.prog 46 #[ku yF,.slice Ap 1 cp] w (adu w):=by
 have Sn:=aa (fun W=>by
  have:=xN yF W
  rw[show jw yF=true from by decide] at this
  exact this)
 have kx:=aa (fun W (hW:Below w.heap.size w W)=>by
  have:=xL A w.heap.size c hc cK W hW.size ((hp.below hW).2 _ (List.mem_singleton.2 rfl))
  unfold CN AO vt BS at this
  dsimp only at this
  rw[show ((2:Nat):Int)=2 from rfl] at this
  exact this)
 obtain⟨bp,op,rfl,SL,x0,x1,x2,x3,x4,x5⟩:=kh (i:=0) hp (show 0<1 by omega)
 unfold yF ku at Sn ⊢
 dsimp only at Sn ⊢
 have HP:Hid (∀W,Below w.heap.size w W→W.cell? ⟨bp,op,none⟩=some (.int .i64 0)∧W.cell? ⟨bp,op+1,none⟩=some (.int .i64 0)∧W.cell? ⟨bp,op+2,none⟩=some (.int .i64 6)∧W.cell? ⟨bp,op+3,none⟩=some (.bool true)∧W.cell? ⟨bp,op+4,none⟩=some (.bool false)∧W.cell? ⟨bp,op+5,none⟩=some (.slice A 16 c)):=
  aa fun W hW=>⟨(hW.cell (p:=⟨bp,op,none⟩) SL).trans x0,(hW.cell (p:=⟨bp,op+1,none⟩) SL).trans x1,(hW.cell (p:=⟨bp,op+2,none⟩) SL).trans x2,(hW.cell (p:=⟨bp,op+3,none⟩) SL).trans x3,(hW.cell (p:=⟨bp,op+4,none⟩) SL).trans x4,(hW.cell (p:=⟨bp,op+5,none⟩) SL).trans x5⟩
 clear hp x0 x1 x2 x3 x4 x5
 go_enter Tryz.func46,Tryz.ntmps46
 go_upto_region 1 with fail
 generalize hwx:World.alloc w _=wx
 obtain⟨hx,bx,zx⟩:=oU hwx
 obtain⟨k0,k1,k2,k3,k4,k5,k6,k7,k8,k9⟩:=aQ hx
 have HX:=aa hx
 have BX:=aa bx
 clear hwx hx bx zx
 go_wp2_with (go_at_call 32;(with_reducible refine(Sn.out wx).mono ?_);rintro e w1 ⟨rfl,b1⟩;have B1:=aa b1;obtain⟨k0,k1,k2,k3,k4,k5,k6,k7,k8,k9⟩:=aQ (bk HX.out b1))
 have FY:=aa (bk HX.out b1)
 have Zq:=aa (af BX.out b1)
 clear k0 k1 k2 k3 k4 k5 k6 k7 k8 k9 b1 Sn
 go_loopw [6,7,23] (fun v6 v7 iv wr=>wr.heap[w.heap.size]? =some (.cells #[.int .i64 1,.int .i64 1,.int .i64 3,.int .i64 8000,.int .i64 1,.int .i64 8,.int .i64 0,.int .i64 0,.int .i64 0,.int .i64 0] 43 (0,0))∧Below w.heap.size w wr∧((iv= .int .i64 0∧v6= .slice none 0 0∧v7= .int .i64 0)∨
  (iv= .int .i64 1∧∃gv cv gs cs m,v6= .slice (some ⟨gv,0,none⟩) 1 cv∧gv<wr.heap.size∧(∀k v,(#[.int .i64 0,.int .i64 2,.int .i64 8000,.int .i64 1,.int .i64 8,.slice none 0 0,.slice (some ⟨gs,0,none⟩) 1 cs]:Array Value)[k]? =some v→wr.cell? ⟨gv,k,none⟩=some v)∧gU wr wr.heap.size gs 0 oJ m))) (fun _ _ iv _=>1-(intOf iv).toNat)
 case atStart=>exact⟨FY.out,Zq.out,.inl ⟨rfl,rfl,rfl⟩⟩
 case round=>
  obtain⟨r0,r1,⟨rfl,rfl,rfl⟩ | ⟨rfl,gv,cv,gs,cs,m,rfl,r2,r3,r4⟩⟩:=hrel
  ·obtain⟨wo,rfl⟩:∃wo:World,wo=wr:=⟨_,rfl⟩
   have R0:=aa r0
   have R1:=aa r1
   obtain⟨x0,x1,x2,x3,x4,x5⟩:=HP.out wo r1
   clear r0 r1 FY Zq B1 HX BX
   go_upto_region 8 with fail
   generalize jl:World.alloc wo _=wq
   obtain⟨hq,bq,zq⟩:=oU jl
   have RQ:=aa (bk R0.out bq)
   have BQ:=aa (af R1.out bq)
   have HQ:=aa hq
   clear x0 x1 x2 x3 x4 x5 jl bq zq R0 R1
   obtain⟨⟨y0,y1,y2,y3,y4,y5⟩,_⟩:=bH hq
   clear hq
   go_upto_region 9 with (go_at_call 107;(with_reducible refine(kx.out wq BQ.out).mono ?_);rintro e w2 ⟨gs,cs,m,rfl,yM,b2,l2⟩)
   generalize oK:World.alloc w2 _=wz
   obtain⟨hz,bz,zz⟩:=oU oK
   have BZ:=aa (af b2 bz)
   have RZ:=aa (bk RQ.out BZ.out)
   have BZ0:=aa (af BQ.out BZ.out)
   have MZ:Hid (gU wz wz.heap.size gs 0 oJ m):=aa ((yM.below bz).more bz.size)
   clear y0 y1 y2 y3 y4 y5 oK bz zz yM b2 l2
   obtain⟨⟨y0,y1,y2,y3,y4,y5⟩,_⟩:=bH (bk HQ.out BZ.out)
   obtain⟨⟨x0,x1,x2,x3,x4,x5,x6⟩,_⟩:=az hz
   obtain⟨k0,k1,k2,k3,k4,k5,k6,k7,k8,k9⟩:=aQ RZ.out
   clear hz
   go_wp2_with (at_builtin;refine eK wz rfl (.tmp 60) (.tmp 62) 85 95 rfl Tryz.underlying85 pO rfl (by omega) rfl #[.int .i64 0,.int .i64 2,.int .i64 8000,.int .i64 1,.int .i64 8,.slice none 0 0,.slice (some ⟨gs,0,none⟩) 1 cs] _ rfl rfl (by simp[Value.oneCell']) (by omega) ?_;intro gv cv w9 jx hk2 uK hk3 hk4 b9)
   exact⟨⟨bk RZ.out b9,af BZ0.out b9,.inr ⟨rfl,gv,cv,gs,cs,m,rfl,hk2,uK,(MZ.out.below b9).more b9.size⟩⟩,by simp[intOf]⟩
  ·obtain⟨wo,rfl⟩:∃wo:World,wo=wr:=⟨_,rfl⟩
   have R1:=aa r1
   have R3:=aa r3
   have R4:=aa r4
   clear r0 r1 r3 r4 FY Zq B1 HX BX
   go_wp2_with fail
   refine bodyPost_ret (results_tmp2 rfl _ _ _) rfl ?_
   exact⟨gv,cv,gs,cs,m,rfl,r2,R3.out,R4.out,R1.out⟩
theorem VG(w:World):(Instr.makeSlice 47 (.int .i64 1) (.int .i64 1)).run Tryz.prog w= .ok (.slice (some ⟨w.heap.size,0,none⟩) 1 1) (w.alloc (.cells #[.slice none 0 0] 39)):=by
 obtain⟨i0,cw,hz0,hz1,hz2⟩:=info_parts iV
 have h:=run_make (P:=Tryz.prog) w 47 39 i0 _ Tryz.underlying47 cw hz0 .i64 .i64 1 1 (by omega) (by omega) (by rw[hz2];omega) (by omega)
 rw[hz1,show madeCells (Value.slice none 0 0).cells (Int.toNat 1*1)=#[.slice none 0 0] from Array.toList_inj.1 (toList_madeCells_one (.slice none 0 0) 1)] at h
 exact h
theorem qZ{W:World}{g:Nat}{v:Value}{ty:TypeId}(h:W.heap[g]? =some (.cells #[v] ty (0,0))):W.cell? ⟨g,0,none⟩=some v∧W.frozen? ⟨g,0,none⟩=false:=⟨(agu _ _ _ _ _ _ h).trans rfl,agv W g 0 _ _ h⟩
def adi(w:World)(e:Ending)(w':World):Prop:=
 ∃A c RA RC,e= .returned (.tuple #[.slice A 1 c,.int .i64 0])∧Rw w' w'.heap.size A 1 RA RC (fun _=>[5, -5])∧Below w.heap.size w w'
theorem Jl(Ap A:Option Addr)(cp c:Nat)(hc:16≤c)(cK:c≤9223372036854775807)(w:World)(hp:iE iA w w.heap.size Ap [(zX,A,c)]):
 Calls Tryz.prog 12 #[ku yF,.slice Ap 1 cp] w (adi w):=by
 have PA:=aa (fun W (hW:Below w.heap.size w W)=>Fe Ap A cp c hc cK W ((hp.below hW).more hW.size))
 unfold adu at PA
 have hbl:=aa (fun gs cs m W (hm:gU W W.heap.size gs 0 oJ m)=>by
  have:=ll BS oJ [5, -5] IW gs 0 cs m W.heap.size W (agl _) hm
  unfold AO vt BS Bh at this
  dsimp only at this
  rw[show ((2:Nat):Int)=2 from rfl] at this
  exact this)
 unfold yF ku at PA ⊢
 dsimp only at PA ⊢
 clear hp
 go_enter Tryz.func12,Tryz.ntmps12
 go_upto_region 1 with fail
 generalize hwx:World.alloc w _=wx
 obtain⟨hx,bx,zx⟩:=oU hwx
 obtain⟨k0,k1,k2,k3,k4,k5,k6,k7,k8,k9⟩:=aQ hx
 have HX:=aa hx
 have BX:=aa bx
 clear hwx hx bx zx
 go_upto_region 4 with (go_at_call 46;(with_reducible refine(PA.out wx BX.out).mono ?_);rintro e w1 ⟨gv,cv,gs,cs,m,rfl,RM,hc1,rM,b1⟩)
 have FY:=aa (bk HX.out b1)
 have Zq:=aa (af BX.out b1)
 have lT:=VG w1
 have hw3:(w1.alloc (.cells #[.slice none 0 0] 39)).heap.size=w1.heap.size+1:=by simp
 obtain⟨w3,ew3⟩:∃w3,w3=w1.alloc (.cells #[.slice none 0 0] 39):=⟨_,rfl⟩
 obtain⟨h3,b3,z3⟩:=oU ew3.symm
 rw[←ew3] at lT
 have H3:=aa h3
 have B3:=aa b3
 have V3:Hid (gv<w3.heap.size∧(∀k v,(#[.int .i64 0,.int .i64 2,.int .i64 8000,.int .i64 1,.int .i64 8,.slice none 0 0,.slice (some ⟨gs,0,none⟩) 1 cs]:Array Value)[k]? =some v→w3.cell? ⟨gv,k,none⟩=some v)∧gU w3 w3.heap.size gs 0 oJ m):=aa ⟨agz RM b3.size,fun k v hv=>(b3.cell (p:=⟨gv,k,none⟩) RM).trans (hc1 k v hv),(rM.below b3).more b3.size⟩
 have L3:Hid (w.heap.size≤w1.heap.size):=aa Zq.out.size
 have B03:=aa (af Zq.out b3)
 have G3:Hid (gv≠w1.heap.size∧w1.heap.size+1≤w3.heap.size):=aa ⟨by omega,z3⟩
 clear k0 k1 k2 k3 k4 k5 k6 k7 k8 k9 hw3 ew3 h3 b3 z3 RM hc1 rM b1 HX BX PA
 obtain⟨k0,k1,k2,k3,k4,k5,k6,k7,k8,k9⟩:=aQ FY.out
 go_upto_region 5 with fail
 clear lT k0 k1 k2 k3 k4 k5 k6 k7 k8 k9
 generalize w1.heap.size=gO at*
 go_wp2_with fail
 go_loopw [35] (fun iv wr=>Below w.heap.size w wr∧w3.heap.size≤wr.heap.size∧
  ((iv= .int .i64 0∧wr.heap[gO]? =some (.cells #[.slice none 0 0] 39 (0,0))∧gv<wr.heap.size∧(∀k v,(#[.int .i64 0,.int .i64 2,.int .i64 8000,.int .i64 1,.int .i64 8,.slice none 0 0,.slice (some ⟨gs,0,none⟩) 1 cs]:Array Value)[k]? =some v→wr.cell? ⟨gv,k,none⟩=some v)∧gU wr wr.heap.size gs 0 oJ m)∨
   (iv= .int .i64 1∧∃A2 c2,wr.heap[gO]? =some (.cells #[.slice A2 2 c2] 39 (0,0))∧ax wr (gO+1) A2 2 c2 [5, -5]))) (fun iv _=>1-(intOf iv).toNat)
 case atStart=>exact⟨B03.out,agl _,.inl ⟨rfl,H3.out,V3.out.1,V3.out.2.1,V3.out.2.2⟩⟩
 case round=>
  obtain⟨r0,r1,⟨rfl,r2,r3,r4,r5⟩ | ⟨rfl,A2,c2,r2,r3⟩⟩:=hrel
  ·obtain⟨wo,rfl⟩:∃wo:World,wo=wr:=⟨_,rfl⟩
   have R0:=aa r0
   have R1:=aa r1
   have R2:=aa r2
   have R5:=aa r5
   obtain⟨v0,v1,v2,v3,v4,v5,v6⟩:=Le r4
   clear r0 r1 r2 r3 r4 r5 V3 H3 B3 Zq FY B03
   go_upto_region 8 with fail
   generalize jl:World.alloc wo _=wq
   obtain⟨hq,bq,zq⟩:=oU jl
   have MQ:Hid (gU wq wq.heap.size gs 0 oJ m):=aa ((R5.out.below bq).more bq.size)
   have OQ:=aa (bk R2.out bq)
   have BQ:=aa bq
   obtain⟨⟨x0,x1,x2,x3,x4,x5,x6⟩,_⟩:=az hq
   clear v0 v1 v2 v3 v4 v5 v6 jl hq bq zq R2 R5
   go_upto_region 9 with (go_at_call 47;(with_reducible refine(hbl.out gs cs m wq MQ.out).mono ?_);rintro e w5 ⟨A5,c5,RA5,RC5,rfl,bT,b5⟩)
   generalize oK:World.alloc w5 _=wz
   obtain⟨hz,bz,zz⟩:=oU oK
   have OZ:=aa (bk (bk OQ.out b5) bz)
   have BZ:=aa (af (af BQ.out b5) bz)
   have WZ:=aa (bO.below bT bz (agl _))
   have GZ:Hid (gO<wz.heap.size):=aa (agn.1 OZ.out).1
   clear x0 x1 x2 x3 x4 x5 x6 bT b5 oK bz zz
   obtain⟨⟨y0,y1⟩,_⟩:=aB hz
   clear hz
   obtain⟨g5,rfl,EL,acI,PE⟩:=bO.addr WZ.out (by omega)
   have c50:=aa (PE 0 (by omega))
   have hI5:=aa (ax.ints (bO.inner WZ.out 0 (by omega)))
   have UB:Hid (g5<wz.heap.size):=aa acI
   have B0Z:=aa (af R0.out BZ.out)
   have Z3:Hid (w3.heap.size≤wz.heap.size):=aa (agm R1.out BZ.out.size)
   clear EL acI PE MQ OQ BQ R0 R1
   go_wp2_with fail
   go_loopw [50] (fun iv wr=>Below w.heap.size w wr∧wz.heap.size≤wr.heap.size∧((iv= .int .i64 0∧Below wz.heap.size wz wr)∨(iv= .int .i64 1∧∃A2 c2,wr.heap[gO]? =some (.cells #[.slice A2 2 c2] 39 (0,0))∧ax wr (gO+1) A2 2 c2 [5, -5]))) (fun iv _=>1-(intOf iv).toNat)
   case atStart=>exact⟨B0Z.out,agl _,.inl ⟨rfl,ac _⟩⟩
   case round=>
    obtain⟨q0,q1,⟨rfl,q2⟩ | ⟨rfl,A2,c2,q2,q3⟩⟩:=hrel
    ·obtain⟨wi,rfl⟩:∃wi:World,wi=wr:=⟨_,rfl⟩
     have Q0:=aa q0
     have Q1:=aa q1
     have Q2:=aa q2
     have hO:=bk OZ.out q2
     obtain⟨o0,_⟩:=qZ hO
     have r0:=(q2.cell (p:=⟨g5,0,none⟩) UB.out).trans c50.out
     clear q0 q1 q2 hO y0 y1
     go_wp2_with (at_builtin;refine TN wi rfl (.tmp 60) (.tmp 61) rfl wi none 0 rfl (ax.nil _ _) _ (RA5 0) 2 (RC5 0) [5, -5] rfl rfl (ag.below hI5.out Q2.out) (by omega) (ac _) ?_;intro A7 c7 w7 fQ b7;obtain⟨o1,o2⟩:=qZ (bk (bk OZ.out Q2.out) b7))
     have hgz:=GZ.out
     have Py:=L3.out
     have Jf:=Q1.out
     exact⟨⟨(af Q0.out b7).setCell (p:=⟨gO,0,none⟩) Py _,by rw[jY];exact agm Jf b7.size,.inr ⟨rfl,A7,c7,(yx rfl (bk (bk OZ.out Q2.out) b7)).1,jM (ax.base fQ (by omega)) (by omega)⟩⟩,by simp[intOf]⟩
    ·obtain⟨wi,rfl⟩:∃wi:World,wi=wr:=⟨_,rfl⟩
     have Q0:=aa q0
     have Q1:=aa q1
     have Q2:=aa q2
     have Q3:=aa q3
     clear q0 q1 q2 q3 y0 y1
     go_wp2_with fail
     exact⟨⟨Q0.out,agm Z3.out Q1.out,.inr ⟨rfl,A2,c2,Q2.out,Q3.out⟩⟩,by simp[intOf]⟩
  ·obtain⟨wo,rfl⟩:∃wo:World,wo=wr:=⟨_,rfl⟩
   have R0:=aa r0
   have R2:=aa r2
   have R3:=aa r3
   clear r0 r1 r2 r3 V3 H3 B3 Zq FY B03
   go_wp2_with fail
   refine bodyPost_ret (results_tmp2 rfl _ _ _) rfl ?_
   obtain⟨e1,e2⟩:=bJ R3.out
   exact⟨some ⟨gO,0,none⟩,1,fun _=>A2,fun _=>c2,rfl,⟨fun _=>⟨gO,0,rfl,(agn.1 R2.out).1,fun i hi=>by
    obtain rfl:i=0:=by omega
    exact(qZ R2.out).1⟩,fun i hi=>ax.ints R3.out,fun i hi=>by decide,fun i hi=>e1⟩,R0.out⟩
set_option maxRecDepth 100000
theorem Bv(R:Nat→List Int)(r:Nat)(hr1:r≤1000)(hR:∀i,i<r→(R i).length≤100000)(RA Lv:Nat→Option Addr)(RC Lu:Nat→Nat)(A A2:Option Addr)(b b2 c c2:Nat)(w:World)(h:Rw w b A r RA RC R)(h2:Rw w b2 A2 r Lv Lu R):
 Calls Tryz.prog 13 #[.slice A r c,.slice A2 r c2] w fun e w'=>e= .returned (.bool true)∧Below w.heap.size w w':=by
 have HR:=aa hR
 have hne:((r:Int) != (r:Int))=false:=by simp
 clear hR
 go_enter Tryz.func13,Tryz.ntmps13
 go_wp2
 go_loopw [5] (fun iv wr=>(∃k:Nat,k≤r∧iv= .int .i64 k)∧∃q,wr=w.drewN q) (fun iv _=>r-(intOf iv).toNat)
 case atStart=>exact⟨⟨0,agw _,rfl⟩,0,rfl⟩
 case round=>
  obtain⟨⟨k,hk,rfl⟩,q,rfl⟩:=hrel
  by_cases hlt:k<r
  ·obtain⟨wq,jl⟩:∃wq,wq=w.drewN q:=⟨_,rfl⟩
   have g1:Rw wq b A r RA RC R:=by rw[jl];exact h.drewN q
   have g2:Rw wq b2 A2 r Lv Lu R:=by rw[jl];exact h2.drewN q
   obtain⟨b1,o1,rfl,hc1⟩:=g1.at_ hlt
   obtain⟨b3,o3,rfl,hc2⟩:=g2.at_ hlt
   have i1:=aa (g1.ints k hlt)
   have i2:=aa (g2.ints k hlt)
   have Hwq:=aa jl
   have s1:(k:Int)<(r:Int):=by omega
   have s2:(0:Int)≤(k:Int):=by omega
   have hl:=HR.out k hlt
   have he:eqI (R k) (R k)=true:=Tp _
   rw[←jl]
   clear jl g1 g2
   go_wp2
   go_quiet ((go_at_call 48;exact Calls.quiet_of (Qs (R k) (R k) _ _ rfl rfl (by omega) (by omega) _ _ _ _ _ _ _ (i1.out.drewN _) (i2.out.drewN _))))
   rw[he]
   go_wp2
   go_roundw
   case rel=>exact⟨⟨k+1,by omega,by go_num⟩,q+nq,by rw[Hwq.out,World.drewN_drewN]⟩
   case measure=>simp[intOf];omega
  ·go_wp2
   go_ret
   exact⟨rfl,below_drewN (ac w) q⟩
def Ns:Pg:=⟨0,true,true,false,[0,1,0,0,0,0,0,0,0,0,0,0,0,0,0,0,0,6,245,75,0,2,192,62,1,8,0,3,141,32,34,216,112,108]⟩
def kGd:Pg:=⟨0,false,false,true,[1,3,34,0,1,0,0,0,0,0,0,0,0,0,0,0,0,0,0,0,6,245,75,0,2,192,62,1,8,0,3,141,32,34,216,112,108]⟩
def knB:List Int:=[75,73,78,79,82,65,1,1,1,3,192,62,1,8,164,145,219,222,75,80,3,0,0,0,0,34,0,1,0,0,0,0,0,0,0,0,0,0,0,0,0,0,0,6,245,75,0,2,192,62,1,8,0,3,141,32,34,216,112,108,80,63,37,178,75,80,4,0,0,0,0,37,1,3,34,0,1,0,0,0,0,0,0,0,0,0,0,0,0,0,0,0,6,245,75,0,2,192,62,1,8,0,3,141,32,34,216,112,108,11,252,174,185,96,97,96,96,96,96,96,96,105,105,111,104,107,104,103,105,0,0,0,16,75,69,78,68]
theorem k1:nu [[zX]]=([zX],0):=by kernel_rfl
theorem k2:eM [zX]=([Ns],0):=by kernel_rfl
theorem k3:cz [Ns]=([Ns,kGd],0):=by kernel_rfl
theorem k4:mU [yF]++fd [Ns,kGd]++dy [Ns,kGd]=knB:=by kernel_rfl
theorem k5:dh knB=([yF],((18:Nat):Int),0):=by kernel_rfl
theorem k6:CO (knB.drop 18)=([Ns],[]):=by kernel_rfl
theorem k7:dB [Ns]=[zX]:=by kernel_rfl
theorem k8:MI [Ns,kGd]=true:=by kernel_rfl
theorem k9:fX 1 [zX]=false:=by kernel_rfl
theorem eu:knB.length=137:=by kernel_rfl
theorem Cx{l:List Int}(h:(l.all fun x=>decide (0≤x∧x<256))=true):aH l:=fun x hx=>by
 have:=List.all_eq_true.1 h x hx
 simpa using this
theorem eP:aH knB:=Cx (by kernel_rfl)
theorem eO:∀p∈[Ns],aH p.body∧p.body.length≤255:=fun p hp=>by
 rw[List.mem_singleton] at hp
 subst hp
 exact⟨Cx (by kernel_rfl),by decide⟩
theorem eN:∀p∈[Ns,kGd],aH p.body∧p.body.length≤255:=fun p hp=>by
 rcases List.mem_cons.1 hp with rfl | hp
 ·exact⟨Cx (by kernel_rfl),by decide⟩
 ·rw[List.mem_singleton] at hp
  subst hp
  exact⟨Cx (by kernel_rfl),by decide⟩
theorem Im{W:World}{g B:Nat}{arr:Array Value}{ty:TypeId}(h:W.heap[g]? =some (.cells arr ty (0,0)))(hB:g<B):Rd W B (some ⟨g,0,none⟩) arr.toList:=
 abP hB fun k v hv=>by rw[agu _ _ _ _ _ _ h,←Array.getElem?_toList];exact hv
theorem aam{T:List fT}(h:fU 1 [zX] T):∃A c Ap cp,T=[([(zX,A,c)],Ap,cp)]:=by
 obtain⟨h1,h2⟩:=h
 match T,h1 with
 |[t],_=>
  have h3:=h2 0 (Nat.zero_lt_one)
  obtain⟨E,Ap,cp⟩:=t
  have h4:E.map (·.1)=[zX]:=h3
  match E,h4 with
  |[(p,A,c)],h4=>
   have h5:p=zX:=by simpa using h4
   subst h5
   exact⟨A,c,Ap,cp,rfl⟩
end
end Go.Proofs.YtbhfpehgacaidaaGreatDoor
