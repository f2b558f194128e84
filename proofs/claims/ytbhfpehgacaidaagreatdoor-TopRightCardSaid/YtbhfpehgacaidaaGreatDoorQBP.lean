/- A part of the proof of the given statement TopRight. Conditions: none. -/
import Derived.Test.YtbhfpehgacaidaaGreatDoorQBO
namespace Go.Proofs.YtbhfpehgacaidaaGreatDoor
set_option linter.unusedVariables false
set_option linter.unusedSimpArgs false
set_option maxRecDepth 100000
set_option maxHeartbeats 8000000
section
open Go.RowKit
def yE:List Int:=[192,62,1,8,1,16,2,0,0,0,0,0,91,142,142,69,1,88,102,245,75,0,2,192,62,1,8,0,3,141,32,34,216,112,108]
theorem KF:aH yE:=by
 have:∀x∈yE,0≤x∧x<256:=by decide
 exact fun x hx=>this x hx
theorem sF(p most V p':Nat)(M VI:Int)(hM:(most:Int)=M)(hV:aG yE p 0 most=(V,p',0))(hVI:(V:Int)=VI)(hp:p≤35)(g:Nat)(W:World)(h:cG W g yE p 0):
 Calls Tryz.prog 51 #[.pointer (some ⟨g,0,none⟩),.int .u64 M] W fun e w'=>e= .returned (.int .u64 VI)∧cG w' g yE p' 0∧Kp (fun q=>q=g) W w':=by
 have:=KA yE (by decide) KF p hp 0 most g W h
 unfold pX at this
 rw[hV,hM] at this
 dsimp only at this
 rw[hVI] at this
 exact this
theorem Ri(p s V p':Nat)(sI VI:Int)(hs1:1≤s)(hs:s≤8)(YA:(s:Int)=sI)(hV:df (takeL yE p 0 s)=V)(hP:lF yE p 0 s=p')(hE:lG yE p 0 s=0)(hVI:(V:Int)=VI)(hp:p≤35)(g:Nat)(W:World)(h:cG W g yE p 0):
 Calls Tryz.prog 57 #[.pointer (some ⟨g,0,none⟩),.int .i64 sI] W fun e w'=>e= .returned (.int .u64 VI)∧cG w' g yE p' 0∧Kp (fun q=>q=g) W w':=by
 have:=FI yE (by decide) KF p hp 0 s hs1 hs g W h
 unfold abB at this
 rw[hV,hP,hE,YA,hVI] at this
 exact this
def nu8:Value→Bool
 |.int .u8 _=>false
 |_=>true
theorem Wc{W:World}{g gp p:Nat}{l:List Int}{x:Int}{cs:Array Value}{ty:TypeId}(h:cG W g l p x)(hl:0<l.length)(hb:W.heap[gp]? =some (.cells cs ty (0,0)))(hu:cs.toList.all nu8=true)(hne:g≠gp)(j:Nat)(v:Value):cG (W.setCell ⟨gp,j,none⟩ v) g l p x:=by
 obtain⟨A,c,h0,h1,h2,h3,h4,h5,h6,h7⟩:=h
 obtain⟨b,off,rfl,hb5,hc⟩:=h5.lt hl
 have SL:b≠gp:=by
  intro e
  subst e
  have h8:=hc 0 hl
  rw[agu _ _ _ _ _ _ hb] at h8
  have h9:=List.all_eq_true.1 hu _ (List.mem_of_getElem? (by rw[Array.getElem?_toList];exact h8))
  cases h9
 have hk:∀q,q≠gp→(W.setCell ⟨gp,j,none⟩ v).heap[q]? =W.heap[q]? :=fun q hq=>agr _ _ _ _ hq
 have hg:=hk g hne
 exact⟨some ⟨b,off,none⟩,c,(agy (a:=⟨g,0,none⟩) hg).trans h0,(agy (a:=⟨g,1,none⟩) hg).trans h1,(agy (a:=⟨g,2,none⟩) hg).trans h2,(World.frozen?_of_block (a:=⟨g,1,none⟩) hg).trans h3,(World.frozen?_of_block (a:=⟨g,2,none⟩) hg).trans h4,
  wZ h5 (fun e=>SL (Option.some.inj e)) hk,h6,h7⟩
theorem bG{W:World}{g:Nat}{v0 v1 v2 v3 v4 v5 v6 v7:Value}{ty:TypeId}(h:W.heap[g]? =some (.cells #[v0,v1,v2,v3,v4,v5,v6,v7] ty (0,0))):
 (W.cell? ⟨g,0,none⟩=some v0∧W.cell? ⟨g,1,none⟩=some v1∧W.cell? ⟨g,2,none⟩=some v2∧W.cell? ⟨g,3,none⟩=some v3∧W.cell? ⟨g,4,none⟩=some v4∧W.cell? ⟨g,5,none⟩=some v5∧W.cell? ⟨g,6,none⟩=some v6∧W.cell? ⟨g,7,none⟩=some v7)∧∀j,W.frozen? ⟨g,j,none⟩=false:=
 ⟨⟨(agu _ _ _ _ _ _ h).trans rfl,(agu _ _ _ _ _ _ h).trans rfl,(agu _ _ _ _ _ _ h).trans rfl,(agu _ _ _ _ _ _ h).trans rfl,(agu _ _ _ _ _ _ h).trans rfl,(agu _ _ _ _ _ _ h).trans rfl,(agu _ _ _ _ _ _ h).trans rfl,(agu _ _ _ _ _ _ h).trans rfl⟩,fun j=>agv W g j _ _ h⟩
def zpl:Array Value:=#[.int .i64 0,.int .i64 0,.int .i64 0,.slice none 0 0,.slice none 0 0,.int .i64 0,.int .u64 0,.int .i64 0]
structure yg (w W:World) (g gr gp:Nat) (cs:Array Value) (p:Nat):Prop where
 oc:cG W g yE p 0
 r:W.heap[gr]? =some (.cells zpl 191 (0,0))
 c:W.heap[gp]? =some (.cells cs 191 (0,0))
 u:cs.toList.all nu8=true
 be:Below w.heap.size w W
 lo:w.heap.size≤gr∧gr<gp∧gp<g
section
variable {w W W' : World} {g gr gp p p' : Nat} {cs : Array Value}
theorem yg.kp(h:yg w W g gr gp cs p)(ho:cG W' g yE p' 0)(hk:Kp (fun q=>q=g) W W'):yg w W' g gr gp cs p':=by
 have:=h.lo
 exact⟨ho,TH h.r hk (by omega),TH h.c hk (by omega),h.u,lf h.be hk (by omega),h.lo⟩
theorem yg.below{B:Nat}(h:yg w W g gr gp cs p)(hb:Below B W W')(hB:g<B):yg w W' g gr gp cs p:=by
 have:=h.lo
 exact⟨h.oc.keep fun q hq=>hb.block q (by omega),(hb.block gr (by omega)).trans h.r,(hb.block gp (by omega)).trans h.c,h.u,h.be.trans (hb.mono (by omega)),h.lo⟩
theorem yg.set{j:Nat}{v:Value}(h:yg w W g gr gp cs p)(e:W.setCell ⟨gp,j,none⟩ v=W')(hv:nu8 v=true):yg w W' g gr gp (cs.setIfInBounds j v) p:=by
 have h9:=h.lo
 obtain⟨h1,h2⟩:=yx e h.c
 refine⟨?_,TH h.r h2 (by omega),h1, ?_,lf h.be h2 (by omega),h.lo⟩
 ·rw[←e];exact Wc h.oc (by decide) h.c h.u (by omega) j v
 ·rw[Array.toList_setIfInBounds,List.all_eq_true]
  intro y hy
  rcases List.mem_or_eq_of_mem_set hy with h3 | rfl
  ·exact List.all_eq_true.1 h.u y h3
  ·exact hv
theorem yg.lt(h:yg w W g gr gp cs p):g<W.heap.size:=h.oc.lt
end
theorem abH{W:World}{g:Nat}{ty:TypeId}{u0 u1 u2 u3 u4 u5 u6 u7:Value}(h:W.heap[g]? =some (.cells #[u0,u1,u2,u3,u4,u5,u6,u7] ty (0,0)))(v0 v1 v2 v3 v4 v5 v6 v7:Value):
 ((((((((W.setCell ⟨g,0,none⟩ v0).setCell ⟨g,1,none⟩ v1).setCell ⟨g,2,none⟩ v2).setCell ⟨g,3,none⟩ v3).setCell ⟨g,4,none⟩ v4).setCell ⟨g,5,none⟩ v5).setCell ⟨g,6,none⟩ v6).setCell ⟨g,7,none⟩ v7).heap[g]? =some (.cells #[v0,v1,v2,v3,v4,v5,v6,v7] ty (0,0))∧
 Kp (fun q=>q=g) W ((((((((W.setCell ⟨g,0,none⟩ v0).setCell ⟨g,1,none⟩ v1).setCell ⟨g,2,none⟩ v2).setCell ⟨g,3,none⟩ v3).setCell ⟨g,4,none⟩ v4).setCell ⟨g,5,none⟩ v5).setCell ⟨g,6,none⟩ v6).setCell ⟨g,7,none⟩ v7):=by
 obtain⟨h0,k0⟩:=yx rfl h (j:=0) (v:=v0)
 obtain⟨h1,k1⟩:=yx rfl h0 (j:=1) (v:=v1)
 obtain⟨h2,k2⟩:=yx rfl h1 (j:=2) (v:=v2)
 obtain⟨h3,k3⟩:=yx rfl h2 (j:=3) (v:=v3)
 obtain⟨h4,k4⟩:=yx rfl h3 (j:=4) (v:=v4)
 obtain⟨h5,k5⟩:=yx rfl h4 (j:=5) (v:=v5)
 obtain⟨h6,k6⟩:=yx rfl h5 (j:=6) (v:=v6)
 obtain⟨h7,k7⟩:=yx rfl h6 (j:=7) (v:=v7)
 refine⟨?_,k0.trans (k1.trans (k2.trans (k3.trans (k4.trans (k5.trans (k6.trans k7))))))⟩
 simp only[List.setIfInBounds_toArray,List.set_cons_zero,List.set_cons_succ] at h7
 exact h7
theorem Ih{fn:Func}(h:fn.results=#[.cell 2 191,.tmp 3])(tmps:Array Value)(w:World){g:Nat}{v0 v1 v2 v3 v4 v5 v6 v7:Value}(ht:tmps.getD 2 undef= .pointer (some ⟨g,0,none⟩))
 (hc:w.heap[g]? =some (.cells #[v0,v1,v2,v3,v4,v5,v6,v7] 191 (0,0))):(results fn tmps).run Tryz.prog w= .ok (.tuple #[.agg #[v0,v1,v2,v3,v4,v5,v6,v7],tmps.getD 3 undef]) w:=by
 obtain⟨⟨c0,c1,c2,c3,c4,c5,c6,c7⟩,_⟩:=bG hc
 rw[results_cell_tmp h,ht]
 simp[go_sem,c0,c1,c2,c3,c4,c5,c6,c7]
theorem jM{w:World}{B n c:Nat}{A:Option Addr}{l:List Int}{gp j:Nat}{v:Value}(h:ax w B A n c l)(hg:gp<B):ax (w.setCell ⟨gp,j,none⟩ v) B A n c l:=
 ap h fun q hq=>agr _ _ _ _ (by have:=(agB h q hq).1;show q≠gp;omega)
theorem pE{w w':World}{B n c g:Nat}{A:Option Addr}{l:List Int}(h:ax w B A n c l)(hk:Kp (fun q=>q=g) w w')(hg:g<B):ax w' B A n c l:=
 ap h fun q hq=>hk.block q (agB h q hq).2 (by have:=(agB h q hq).1;omega)
def ada(w:World)(e:Ending)(w':World):Prop:=
 ∃As cs Al cl,e= .returned (.tuple #[.agg #[.int .i64 8000,.int .i64 1,.int .i64 8,.slice As 1 cs,.slice Al 1 cl,.int .i64 2,.int .u64 6000270,.int .i64 23],.int .i64 0])∧ag .i64 w' w'.heap.size As [16]∧ag .i64 w' w'.heap.size Al [2]∧Below w.heap.size w w'
theorem GS(A:Option Addr)(B c:Nat)(hc:39≤c)(cK:c≤9223372036854775807)(w:World)(hB:B≤w.heap.size)(ha:ag .u8 w B A Pq):
 Calls Tryz.prog 104 #[.slice A 39 c] w (ada w):=by
 obtain⟨ba,oa,rfl,xF,hce⟩:=ha.lt (by decide)
 have hcv:=aa (fun W (hW:Below w.heap.size w W)=>by
  have:=kC (w:=W) (B:=B) (n:=4) (c:=c) (A:=some ⟨ba,oa,none⟩) (l:=[75,78,83,68]) rfl (by
   have:=bZ (p:=0) (s:=4) (ha.below (hW.mono hB)) (by decide)
   simpa [Pq] using this)
  rw[show strOfNums [75,78,83,68]=(⟨#[75,78,83,68]⟩:ByteArray)from rfl] at this
  exact this)
 have Sm:=aa (fun W (hW:Below w.heap.size w W)=>by
  have h9:ag .u8 W B (some ⟨ba,oa+4,none⟩) yE:=by
   have:=bZ (p:=4) (s:=35) (ha.below (hW.mono hB)) (by decide)
   simpa [Pq,yE] using this
  have h8:=gD yE 35 rfl (by omega) (some ⟨ba,oa+4,none⟩) B (c-4) W h9
  unfold abi at h8
  exact h8)
 have h32:=aa (fun W (hW:Below w.heap.size w W)=>by
  have hi:ag .u8 W B (some ⟨ba,oa,none⟩) yD:=by
   have:=bZ (p:=0) (s:=19) (ha.below (hW.mono hB)) (by decide)
   simpa [Pq,yD] using this
  have:=dW yD (by
   have:∀x∈yD,0≤x∧x<256:=by decide
   exact fun x hx=>this x hx) 19 rfl (by omega) (some ⟨ba,oa,none⟩) B c W hi
  rw[KE,show ((1157716070:Nat):Int)=1157716070 from rfl] at this
  exact this)
 have n1:=aa (sF 0 1048576 8000 2 1048576 8000 rfl (by kernel_rfl) rfl (by omega))
 have n2:=aa (sF 2 8 1 3 8 1 rfl (by kernel_rfl) rfl (by omega))
 have n3:=aa (sF 3 24 8 4 24 8 rfl (by kernel_rfl) rfl (by omega))
 have n4:=aa (sF 4 4096 1 5 4096 1 rfl (by kernel_rfl) rfl (by omega))
 have n5:=aa (sF 5 1048704 16 6 1048704 16 rfl (by kernel_rfl) rfl (by omega))
 have n6:=aa (sF 6 4096 2 7 4096 2 rfl (by kernel_rfl) rfl (by omega))
 have g1:=aa (Ri 7 8 6000270 15 8 6000270 (by omega) (by omega) rfl (by kernel_rfl) (by kernel_rfl) (by kernel_rfl) rfl (by omega))
 have g2:=aa (Ri 15 4 1157716070 19 4 1157716070 (by omega) (by omega) rfl (by kernel_rfl) (by kernel_rfl) (by kernel_rfl) rfl (by omega))
 have her:=aa (fun g W h=>pG yE 7 0 g W h)
 have hat:=aa (fun g W h=>nM yE 15 0 g W h)
 have UV:=aa (fun g W h=>by
  have:=gZ yE 7 0 g W h (by decide) (by omega)
  rw[show ((yE.length:Nat):Int)-((7:Nat):Int)=28 from rfl] at this
  exact this)
 have NH:=aa (fun W=>by
  have:=iO 8000 1 8 W
  rw[show sV 8000 1 8=true from by decide] at this;exact this)
 have CX:¬c-4=0:=by omega
 have Xg:¬c=4:=by omega
 have afV:19≤c:=by omega
 clear ha hce
 go_enter Tryz.func104,Tryz.ntmps104
 go_upto_region 1 with fail
 generalize hwx:World.alloc w _=wx
 obtain⟨hx,bx,zx⟩:=oU hwx
 have cv:=hcv.out wx bx
 have HX:=aa hx
 have BX:=aa bx
 have ZX:Hid (w.heap.size<wx.heap.size):=aa zx
 clear hwx hx bx zx hcv
 go_upto_region 6 with fail
 generalize mi:World.alloc wx _=wy
 obtain⟨hy,lz,zy⟩:=oU mi
 have HY:=aa hy
 have BY:=aa lz
 have ZY:Hid (wx.heap.size<wy.heap.size):=aa zy
 clear mi hy lz zy cv
 go_upto_region 7 with (go_at_call 49;(with_reducible refine(Sm.out wy (af BX.out BY.out)).mono ?_);rintro e w1 ⟨g,rfl,hg,ho,b1⟩)
 have S1:Hid (yg w w1 g w.heap.size wx.heap.size zpl 0):=aa ⟨ho,bk (bk HX.out BY.out) b1,bk HY.out b1,rfl,af (af BX.out BY.out) b1,agl _,ZX.out,agz ZY.out hg⟩
 generalize wx.heap.size=gp at*
 clear hg ho b1 Sm HX HY BX BY ZX ZY
 go_upto_region 8 with (go_at_call 51;(with_reducible refine(n1.out g w1 S1.out.oc).mono ?_);rintro e w2 ⟨rfl,o2,k2⟩;have S2:=aa (S1.out.kp o2 k2);obtain⟨⟨y0,y1,y2,y3,y4,y5,y6,y7⟩,yz⟩:=bG S2.out.c;have z0:=yz 0)
 generalize hw3:World.setCell w2 _ _=w3
 have S3:Hid (yg w w3 g w.heap.size gp #[.int .i64 8000,.int .i64 0,.int .i64 0,.slice none 0 0,.slice none 0 0,.int .i64 0,.int .u64 0,.int .i64 0] 2):=aa (S2.out.set hw3 rfl)
 clear y0 y1 y2 y3 y4 y5 y6 y7 yz z0 hw3 o2 k2 S2 S1
 go_upto_region 9 with (go_at_call 51;(with_reducible refine(n2.out g w3 S3.out.oc).mono ?_);rintro e w4 ⟨rfl,o4,k4⟩;have S4:=aa (S3.out.kp o4 k4);obtain⟨⟨y0,y1,y2,y3,y4,y5,y6,y7⟩,yz⟩:=bG S4.out.c;have z1:=yz 1)
 generalize qb:World.setCell w4 _ _=w5
 have S5:Hid (yg w w5 g w.heap.size gp #[.int .i64 8000,.int .i64 1,.int .i64 0,.slice none 0 0,.slice none 0 0,.int .i64 0,.int .u64 0,.int .i64 0] 3):=aa (S4.out.set qb rfl)
 clear y0 y1 y2 y3 y4 y5 y6 y7 yz z1 qb o4 k4 S4 S3
 go_upto_region 10 with (go_at_call 51;(with_reducible refine(n3.out g w5 S5.out.oc).mono ?_);rintro e w6 ⟨rfl,o6,k6⟩;have S6:=aa (S5.out.kp o6 k6);obtain⟨⟨y0,y1,y2,y3,y4,y5,y6,y7⟩,yz⟩:=bG S6.out.c;have z2:=yz 2)
 generalize Cg:World.setCell w6 _ _=w7
 have S7:Hid (yg w w7 g w.heap.size gp #[.int .i64 8000,.int .i64 1,.int .i64 8,.slice none 0 0,.slice none 0 0,.int .i64 0,.int .u64 0,.int .i64 0] 4):=aa (S6.out.set Cg rfl)
 clear y0 y1 y2 y3 y4 y5 y6 y7 yz z2 Cg o6 k6 S6 S5
 go_wp2_with (go_at_call 51;(with_reducible refine(n4.out g w7 S7.out.oc).mono ?_);rintro e w8 ⟨rfl,o8,k8⟩;have S8:=aa (S7.out.kp o8 k8))
 clear o8 k8 S7
 go_loopw [39] (fun iv wr=>(iv= .int .u64 0∧yg w wr g w.heap.size gp #[.int .i64 8000,.int .i64 1,.int .i64 8,.slice none 0 0,.slice none 0 0,.int .i64 0,.int .u64 0,.int .i64 0] 5)∨
  (iv= .int .u64 1∧∃As cs Al cl,yg w wr g w.heap.size gp #[.int .i64 8000,.int .i64 1,.int .i64 8,.slice As 1 cs,.slice Al 1 cl,.int .i64 0,.int .u64 0,.int .i64 0] 7∧ax wr (g+1) As 1 cs [16]∧ax wr (g+1) Al 1 cl [2])) (fun iv _=>1-(intOf iv).toNat)
 case atStart=>exact .inl ⟨rfl,S8.out⟩
 case round=>
  obtain⟨rfl,r1⟩ | ⟨rfl,As,cs,Al,cl,r1,r2,r3⟩:=hrel
  ·obtain⟨wo,rfl⟩:∃wo:World,wo=wr:=⟨_,rfl⟩
   have R1:=aa r1
   have RD:=aa (r1.below (ac wo).drew r1.lt)
   clear r1 S8
   obtain⟨⟨y0,y1,y2,y3,y4,y5,y6,y7⟩,yz⟩:=bG R1.out.c
   clear yz
   go_upto_region 12 with fail
   go_cut [45] (fun _ wy=>∃As cs,yg w wy g w.heap.size gp #[.int .i64 8000,.int .i64 1,.int .i64 8,.slice As 1 cs,.slice none 0 0,.int .i64 0,.int .u64 0,.int .i64 0] 6∧ax wy (g+1) As 1 cs [16])
   case first=>
    go_region_law (first
     |((refine nC _ (by rfl) _ _ (by go_simp) (n5.out g wo.drew RD.out.oc) ?_;rintro e w6 ⟨rfl,o6,k6⟩;refine⟨_,rfl, ?_⟩;have S6:=RD.out.kp o6 k6;have L6:=S6.lt;obtain⟨⟨x0,x1,x2,x3,x4,x5,x6,x7⟩,_⟩:=bG S6.c;have a3:=fun o=>later (ak (ac w6) o) x3))
     |((refine mC _ (by rfl) Tryz.underlying39 gR (by omega) (.tmp 42) (.tmp 46) (by rfl) w6.heap.size none 0 0 [] (by rfl) (ax.nil _ _) _ (some ⟨w6.heap.size,0,none⟩) 1 1 [16] (by rfl) rfl (dH w6 .i64 [16] _ _ rfl) (by omega) (ak (ac w6) _).size ?_;intro A7 c7 w7 fQ b7';have b7:=(ak (ac w6) _).trans b7';have S7:=S6.below b7 L6;obtain⟨⟨x0,x1,x2,x3,x4,x5,x6,x7⟩,xz⟩:=bG S7.c;have z3:=xz 3)))
    all_goals go_wp2_with fail
    all_goals go_meet
    all_goals exact⟨A7,c7,S7.set rfl rfl,jM (aO fQ L6) (by have:=S7.lo;omega)⟩
   case rest=>
    obtain⟨As,cs,r1,r2⟩:=hcut
    obtain⟨qj,rfl⟩:∃qj:World,qj=wc:=⟨_,rfl⟩
    have Q1:=aa r1
    have Q2:=aa r2
    have QD:=aa (r1.below (ac qj).drew r1.lt)
    clear y0 y1 y2 y3 y4 y5 y6 y7 r1 r2 R1 RD
    obtain⟨⟨y0,y1,y2,y3,y4,y5,y6,y7⟩,yz⟩:=bG Q1.out.c
    clear yz
    go_upto_region 13 with fail
    go_region_law (first
     |((refine nC _ (by rfl) _ _ (by go_simp) (n6.out g qj.drew QD.out.oc) ?_;rintro e w6 ⟨rfl,o6,k6⟩;refine⟨_,rfl, ?_⟩;have S6:=QD.out.kp o6 k6;have O6:=pE (w:=qj.drew) Q2.out k6 (Nat.lt_succ_self g);have L6:=S6.lt;obtain⟨⟨x0,x1,x2,x3,x4,x5,x6,x7⟩,_⟩:=bG S6.c;have a4:=fun o=>later (ak (ac w6) o) x4))
     |((refine mC _ (by rfl) Tryz.underlying39 gR (by omega) (.tmp 50) (.tmp 54) (by rfl) w6.heap.size none 0 0 [] (by rfl) (ax.nil _ _) _ (some ⟨w6.heap.size,0,none⟩) 1 1 [2] (by rfl) rfl (dH w6 .i64 [2] _ _ rfl) (by omega) (ak (ac w6) _).size ?_;intro A7 c7 w7 fQ b7';have b7:=(ak (ac w6) _).trans b7';have S7:=S6.below b7 L6;obtain⟨⟨x0,x1,x2,x3,x4,x5,x6,x7⟩,xz⟩:=bG S7.c;have z4:=xz 4)))
    all_goals go_wp2_with fail
    all_goals exact⟨.inr ⟨rfl,As,cs,A7,c7,S7.set rfl rfl,jM (aD O6 b7 (agl _)) (by have:=S7.lo;omega),jM (aO fQ L6) (by have:=S7.lo;omega)⟩,by simp[intOf]⟩
  ·obtain⟨wo,rfl⟩:∃wo:World,wo=wr:=⟨_,rfl⟩
   have R1:=aa r1
   have R2:=aa r2
   have R3:=aa r3
   clear r1 r2 r3 S8
   go_upto_region 20 with (first
    |(go_at_call 53;(with_reducible refine(her.out g wo R1.out.oc).mono ?_);rintro e w2 ⟨rfl,rfl⟩)
    |(go_at_call 54;(with_reducible refine(UV.out g w2 R1.out.oc).mono ?_);rintro e w3 ⟨rfl,q3,rfl⟩))
   have SV:Hid (yg w (w2.drewN q3) g w.heap.size gp #[.int .i64 8000,.int .i64 1,.int .i64 8,.slice As 1 cs,.slice Al 1 cl,.int .i64 0,.int .u64 0,.int .i64 0] 7∧ax (w2.drewN q3) (g+1) As 1 cs [16]∧ax (w2.drewN q3) (g+1) Al 1 cl [2]):=aa ⟨R1.out.below (below_drewN (ac _) q3) R1.out.lt,R2.out,R3.out⟩
   generalize World.drewN w2 q3=wv at*
   clear R1 R2 R3
   go_upto_region 21 with (go_at_call 57;(with_reducible refine(g1.out g wv SV.out.1.oc).mono ?_);rintro e w4 ⟨rfl,o4,k4⟩;have S4:=aa (SV.out.1.kp o4 k4);obtain⟨⟨y0,y1,y2,y3,y4,y5,y6,y7⟩,yz⟩:=bG S4.out.c;have z6:=yz 6)
   generalize qb:World.setCell w4 _ _=w5
   have S5:Hid (yg w w5 g w.heap.size gp #[.int .i64 8000,.int .i64 1,.int .i64 8,.slice As 1 cs,.slice Al 1 cl,.int .i64 0,.int .u64 6000270,.int .i64 0] 15∧ax w5 (g+1) As 1 cs [16]∧ax w5 (g+1) Al 1 cl [2]):=aa ⟨S4.out.set qb rfl,by rw[←qb];exact jM (pE SV.out.2.1 k4 (Nat.lt_succ_self g)) (by have:=S4.out.lo;omega),by rw[←qb];exact jM (pE SV.out.2.2 k4 (Nat.lt_succ_self g)) (by have:=S4.out.lo;omega)⟩
   clear y0 y1 y2 y3 y4 y5 y6 y7 yz z6 qb o4 k4 S4 SV
   go_upto_region 25 with (first
    |(go_at_call 56;(with_reducible refine(hat.out g w5 S5.out.1.oc).mono ?_);rintro e w6 ⟨rfl,rfl⟩)
    |(go_at_call 55;(with_reducible refine(h32.out _ S5.out.1.be).mono ?_);rintro e w7 ⟨rfl,rfl⟩)
    |(go_at_call 57;(with_reducible refine(g2.out g _ S5.out.1.oc).mono ?_);rintro e w8 ⟨rfl,o8,k8⟩;have S8:=aa (S5.out.1.kp o8 k8);obtain⟨⟨y0,y1,y2,y3,y4,y5,y6,y7⟩,yz⟩:=bG S8.out.c;have z7:=yz 7))
   generalize Yt:World.setCell w8 _ _=w9
   have S9:Hid (yg w w9 g w.heap.size gp #[.int .i64 8000,.int .i64 1,.int .i64 8,.slice As 1 cs,.slice Al 1 cl,.int .i64 0,.int .u64 6000270,.int .i64 23] 19∧ax w9 (g+1) As 1 cs [16]∧ax w9 (g+1) Al 1 cl [2]):=aa ⟨S8.out.set Yt rfl,by rw[←Yt];exact jM (pE S5.out.2.1 k8 (Nat.lt_succ_self g)) (by have:=S8.out.lo;omega),by rw[←Yt];exact jM (pE S5.out.2.2 k8 (Nat.lt_succ_self g)) (by have:=S8.out.lo;omega)⟩
   clear y0 y1 y2 y3 y4 y5 y6 y7 yz z7 Yt o8 k8 S8 S5
   obtain⟨⟨y0,y1,y2,y3,y4,y5,y6,y7⟩,yz⟩:=bG S9.out.1.c
   clear yz
   go_wp2_with (go_at_call 36;(with_reducible refine(NH.out w9).mono ?_);rintro e F9 ⟨rfl,uv⟩;have S10:=aa (S9.out.1.below uv S9.out.1.lt);have O0:=aa (aD S9.out.2.1 uv (agl _));have P10:=aa (aD S9.out.2.2 uv (agl _));obtain⟨⟨x0,x1,x2,x3,x4,x5,x6,x7⟩,_⟩:=bG S10.out.c)
   clear uv S9
   go_loopw [94] (fun iv wr=>((iv= .int .i64 0∧yg w wr g w.heap.size gp #[.int .i64 8000,.int .i64 1,.int .i64 8,.slice As 1 cs,.slice Al 1 cl,.int .i64 0,.int .u64 6000270,.int .i64 23] 19)∨(iv= .int .i64 1∧yg w wr g w.heap.size gp #[.int .i64 8000,.int .i64 1,.int .i64 8,.slice As 1 cs,.slice Al 1 cl,.int .i64 2,.int .u64 6000270,.int .i64 23] 19))∧ax wr (g+1) As 1 cs [16]∧ax wr (g+1) Al 1 cl [2]) (fun iv _=>1-(intOf iv).toNat)
   case atStart=>exact⟨.inl ⟨rfl,S10.out⟩,O0.out,P10.out⟩
   case round=>
    obtain⟨⟨rfl,r1⟩ | ⟨rfl,r1⟩,r2,r3⟩:=hrel
    ·obtain⟨qj,rfl⟩:∃qj:World,qj=wr:=⟨_,rfl⟩
     have Q1:=aa r1
     have Q2:=aa r2
     have Q3:=aa r3
     obtain⟨gl,rfl,_,_⟩:=eW r3 (by omega)
     have cl0:qj.cell? ⟨gl,0,none⟩=some (.int .i64 2):=ki r3 (i:=0) (by omega)
     clear r1 r2 r3 x0 x1 x2 x3 x4 x5 x6 x7 y0 y1 y2 y3 y4 y5 y6 y7 S10 O0 P10
     obtain⟨⟨y0,y1,y2,y3,y4,y5,y6,y7⟩,yz⟩:=bG Q1.out.c
     have z5:=yz 5
     clear yz
     go_wp2_with fail
     exact⟨⟨.inr ⟨rfl,Q1.out.set rfl rfl⟩,jM Q2.out (by have:=Q1.out.lo;omega),jM Q3.out (by have:=Q1.out.lo;omega)⟩,by simp[intOf]⟩
    ·obtain⟨qj,rfl⟩:∃qj:World,qj=wr:=⟨_,rfl⟩
     have Q1:=aa r1
     have Q2:=aa r2
     have Q3:=aa r3
     clear r1 r2 r3 x0 x1 x2 x3 x4 x5 x6 x7 y0 y1 y2 y3 y4 y5 y6 y7 S10 O0 P10
     obtain⟨⟨y0,y1,y2,y3,y4,y5,y6,y7⟩,yz⟩:=bG Q1.out.c
     have hr:=Q1.out.r
     unfold zpl at hr
     have HR:=aa hr
     obtain⟨⟨x0,x1,x2,x3,x4,x5,x6,x7⟩,xz⟩:=bG hr
     have t0:=xz 0
     have t1:=xz 1
     have t2:=xz 2
     have t3:=xz 3
     have t4:=xz 4
     have t5:=xz 5
     have t6:=xz 6
     have t7:=xz 7
     clear yz xz hr
     go_wp2_with fail
     obtain⟨e1,e2⟩:=abH HR.out (.int .i64 8000) (.int .i64 1) (.int .i64 8) (.slice As 1 cs) (.slice Al 1 cl) (.int .i64 2) (.int .u64 6000270) (.int .i64 23)
     refine bodyPost_ret (Ih rfl _ _ rfl e1) rfl ?_
     have hl:=Q1.out.lo
     exact⟨As,cs,Al,cl,rfl,bR (pE Q2.out e2 (by omega)),bR (pE Q3.out e2 (by omega)),lf Q1.out.be e2 hl.1⟩
theorem aeB{w W:World}{a1 a2 a3:Array Value}{t1 t2 t3:TypeId}(h:((w.alloc (.cells a1 t1)).alloc (.cells a2 t2)).alloc (.cells a3 t3)=W):
 W.heap[w.heap.size]? =some (.cells a1 t1 (0,0))∧W.heap[w.heap.size+1]? =some (.cells a2 t2 (0,0))∧W.heap[w.heap.size+1+1]? =some (.cells a3 t3 (0,0))∧Below w.heap.size w W:=by
 generalize h1:w.alloc (.cells a1 t1)=w1 at h
 generalize h2:w1.alloc (.cells a2 t2)=w2 at h
 have z1:w1.heap.size=w.heap.size+1:=by rw[←h1];simp
 have z2:w2.heap.size=w.heap.size+1+1:=by rw[←h2,←z1];simp
 obtain⟨x1,b1,_⟩:=oU h1
 obtain⟨x2,b2,_⟩:=oU h2
 obtain⟨x3,b3,_⟩:=oU h
 rw[z1] at x2
 rw[z2] at x3
 exact⟨bk (bk x1 b2) b3,bk x2 b3,x3,af (af b1 b2) b3⟩
def zfr:Array Value:=#[.int .i64 0,.int .i64 0,.int .i64 0,.int .i64 0,.int .i64 0,.slice none 0 0,.slice none 0 0]
structure GfS (w W:World) (pl:Array Value) (yR xI:Nat):Prop where
 p:W.heap[w.heap.size]? =some (.cells pl 191 (0,0))
 f:W.heap[yR]? =some (.cells zfr 95 (0,0))
 b:W.heap[xI]? =some (.cells #[.int .i64 0,.slice none 0 0] 89 (0,0))
 be:Below w.heap.size w W
 lo:w.heap.size<yR∧yR<xI
theorem GfS.below{w W W':World}{pl:Array Value}{yR xI:Nat}(h:GfS w W pl yR xI)(hb:Below W.heap.size W W'):GfS w W' pl yR xI:=⟨bk h.p hb,bk h.f hb,bk h.b hb,af h.be hb,h.lo⟩
theorem GfS.lt{w W:World}{pl:Array Value}{yR xI:Nat}(h:GfS w W pl yR xI):xI<W.heap.size:=(agn.1 h.b).1
theorem Ij{fn:Func}(h:fn.results=#[.cell 10 95,.cell 11 89,.tmp 12])(tmps:Array Value)(w:World){g k:Nat}{v0 v1 v2 v3 v4 v5 v6 u0 u1:Value}{t1 t2:TypeId}(hg:tmps.getD 10 undef= .pointer (some ⟨g,0,none⟩))(hk:tmps.getD 11 undef= .pointer (some ⟨k,0,none⟩))
 (h1:w.heap[g]? =some (.cells #[v0,v1,v2,v3,v4,v5,v6] t1 (0,0))) (h2:w.heap[k]? =some (.cells #[u0,u1] t2 (0,0))):(results fn tmps).run Tryz.prog w= .ok (.tuple #[.agg #[v0,v1,v2,v3,v4,v5,v6],.agg #[u0,u1],tmps.getD 12 undef]) w:=by
 obtain⟨⟨c0,c1,c2,c3,c4,c5,c6⟩,_⟩:=az h1
 obtain⟨⟨d0,d1⟩,_⟩:=aB h2
 have key:(results fn tmps).run Tryz.prog w=((asAddr (tmps.getD 10 undef)).run Tryz.prog w).andThen fun a w₁=>((loadVar 95 a).run Tryz.prog w₁).andThen fun x w₂=>((asAddr (tmps.getD 11 undef)).run Tryz.prog w₂).andThen fun b w₃=>((loadVar 89 b).run Tryz.prog w₃).andThen fun y w₄=>.ok (.tuple #[x,y,tmps.getD 12 undef]) w₄:=by
  simp only[results,h]
  simp[Sem.run_bind,Result.andThen]
 rw[key,hg,hk]
 simp[go_sem,c0,c1,c2,c3,c4,c5,c6,d0,d1]
def GfQ(w:World)(e:Ending)(w':World):Prop:=
 ∃gs cs m A c RA RC,e= .returned (.tuple #[.agg #[.int .i64 0,.int .i64 2,.int .i64 8000,.int .i64 1,.int .i64 8,.slice none 0 0,.slice (some ⟨gs,0,none⟩) 1 cs],.agg #[.int .i64 8,.slice A 1 c],.int .i64 0])∧
  gU w' w'.heap.size gs 0 oJ m∧Rw w' w'.heap.size A 1 RA RC (fun _=>[5, -5])∧Below w.heap.size w w'∧∀q,q=gs∨aj m.A=some q∨aj m.Ak=some q∨aj m.Ar=some q→w.heap.size≤q
theorem Di(ba oa B c:Nat)(hc:39≤c)(cK:c≤9223372036854775807)(As Al:Option Addr)(cs cl:Nat)(w:World)(hB:B≤w.heap.size)(ha:ag .u8 w B (some ⟨ba,oa,none⟩) Pq)(hs:ag .i64 w w.heap.size As [16])(hl:ag .i64 w w.heap.size Al [2]):
 Calls Tryz.prog 105 #[.slice (some ⟨ba,oa,none⟩) 39 c,.agg #[.int .i64 8000,.int .i64 1,.int .i64 8,.slice As 1 cs,.slice Al 1 cl,.int .i64 2,.int .u64 6000270,.int .i64 23],.int .i64 0,.int .i64 23,.int .i64 0] w (GfQ w):=by
 have kx:=aa (fun W (hW:Below w.heap.size w W)=>by
  have h9:ag .u8 W B (some ⟨ba,oa+23,none⟩) yj:=by
   have:=bZ (p:=23) (s:=16) (ha.below (hW.mono hB)) (by decide)
   simpa [Pq,yj] using this
  have:=xL (some ⟨ba,oa+23,none⟩) B (c-23) (by omega) (by omega) W (agm hB hW.size) h9
  unfold CN AO vt BS at this
  dsimp only at this
  rw[show ((2:Nat):Int)=2 from rfl] at this
  exact this)
 have hbl:=aa (fun gs cs m W (hm:gU W W.heap.size gs 0 oJ m)=>by
  have:=ll BS oJ [5, -5] IW gs 0 cs m W.heap.size W (agl _) hm
  unfold AO vt BS Bh at this
  dsimp only at this
  rw[show ((2:Nat):Int)=2 from rfl] at this
  exact this)
 obtain⟨bs,os,rfl,PF,hcs⟩:=hs.lt (by decide)
 obtain⟨bl,ol,rfl,acV,qP⟩:=hl.lt (by decide)
 have HS:=aa (fun W (hW:Below w.heap.size w W)=>(hW.cell (p:=⟨bs,os,none⟩) PF).trans (show w.cell? ⟨bs,os+0,none⟩=some (.int .i64 16)from hcs 0 (by decide)))
 have HL:=aa (fun W (hW:Below w.heap.size w W)=>(hW.cell (p:=⟨bl,ol,none⟩) acV).trans (show w.cell? ⟨bl,ol+0,none⟩=some (.int .i64 2)from qP 0 (by decide)))
 have afU:¬c-23=0:=by omega
 have hcc:¬c=23:=by omega
 clear ha hs hl hcs qP PF acV
 go_enter Tryz.func105,Tryz.ntmps105
 go_upto_region 1 with fail
 generalize hwx:World.alloc (World.alloc (World.alloc w _) _) _=wx
 obtain⟨a1,a2,a3,bx⟩:=aeB hwx
 have S0:GfS w wx #[.int .i64 8000,.int .i64 1,.int .i64 8,.slice (some ⟨bs,os,none⟩) 1 cs,.slice (some ⟨bl,ol,none⟩) 1 cl,.int .i64 2,.int .u64 6000270,.int .i64 23] (w.heap.size+1) (w.heap.size+1+1):=⟨a1,a2,a3,bx,by omega,by omega⟩
 obtain⟨yR,acL⟩:∃g,g=w.heap.size+1:=⟨_,rfl⟩
 rw[←acL] at S0 ⊢
 obtain⟨xI,acK⟩:∃g,g=yR+1:=⟨_,rfl⟩
 rw[←acK] at S0 ⊢
 have HS0:=aa S0
 clear acL acK S0 hwx a1 a2 a3 bx
 obtain⟨⟨k0,k1,k2,k3,k4,k5,k6,k7⟩,_⟩:=bG HS0.out.p
 have s0:=HS.out wx HS0.out.be
 go_upto_region 5 with (go_at_call 107;(with_reducible refine(kx.out wx HS0.out.be).mono ?_);rintro e w1 ⟨gs,cf,m,rfl,rM,b1,l1⟩)
 generalize mi:World.alloc w1 _=wy
 obtain⟨hy,lz,zy⟩:=oU mi
 have BY:=aa (af b1 lz)
 have SY:=aa (HS0.out.below BY.out)
 have MY:Hid (gU wy wy.heap.size gs 0 oJ m):=aa ((rM.below lz).more lz.size)
 have LY:Hid (∀q,q=gs∨aj m.A=some q∨aj m.Ak=some q∨aj m.Ar=some q→xI<q):=aa fun q hq=>by
  have:=l1 q hq
  have:=HS0.out.lt
  omega
 have HY:=aa hy
 have ZY:Hid (xI<w1.heap.size):=aa (HS0.out.below b1).lt
 generalize w1.heap.size=g14 at*
 clear k0 k1 k2 k3 k4 k5 k6 k7 s0 mi hy lz zy rM b1 l1
 obtain⟨⟨k0,k1,k2,k3,k4,k5,k6,k7⟩,_⟩:=bG SY.out.p
 obtain⟨⟨x0,x1,x2,x3,x4,x5,x6⟩,_⟩:=az HY.out
 have s0:=HS.out wy SY.out.be
 have l0:=HL.out wy SY.out.be
 go_upto_region 7 with fail
 go_quiet (fail)
 have HD:Hid (GfS w (wy.drewN nq) #[.int .i64 8000,.int .i64 1,.int .i64 8,.slice (some ⟨bs,os,none⟩) 1 cs,.slice (some ⟨bl,ol,none⟩) 1 cl,.int .i64 2,.int .u64 6000270,.int .i64 23] yR xI∧gU (wy.drewN nq) (wy.drewN nq).heap.size gs 0 oJ m∧(wy.drewN nq).heap[g14]? =some (.cells #[.int .i64 0,.int .i64 2,.int .i64 8000,.int .i64 1,.int .i64 8,.slice none 0 0,.slice (some ⟨gs,0,none⟩) 1 cf] 95 (0,0))):=
  aa ⟨SY.out.below (below_drewN (ac _) nq),MY.out.below (below_drewN (ac _) nq),HY.out⟩
 generalize World.drewN wy nq=wz at*
 clear k0 k1 k2 k3 k4 k5 k6 k7 x0 x1 x2 x3 x4 x5 x6 s0 l0 SY MY BY
 obtain⟨⟨x0,x1,x2,x3,x4,x5,x6⟩,_⟩:=az HD.out.2.2
 go_upto_region 10 with (go_at_call 47;(with_reducible refine(hbl.out gs cf m wz HD.out.2.1).mono ?_);rintro e w9 ⟨A9,c9,RA9,RC9,rfl,lh,b9⟩)
 generalize tY:World.alloc w9 _=wv
 obtain⟨hv,bv,zv⟩:=oU tY
 have BV:=aa (af b9 bv)
 have SV:=aa (HD.out.1.below BV.out)
 have MV:Hid (gU wv wv.heap.size gs 0 oJ m):=aa ((HD.out.2.1.below BV.out).more BV.out.size)
 have FV:=aa (bk HD.out.2.2 BV.out)
 have OV:=aa (bO.below lh bv (agl _))
 have HV:=aa hv
 have ZV:Hid (xI<wz.heap.size∧wz.heap.size≤w9.heap.size∧g14<wz.heap.size):=aa ⟨HD.out.1.lt,b9.size,(agn.1 HD.out.2.2).1⟩
 generalize w9.heap.size=g17 at*
 clear x0 x1 x2 x3 x4 x5 x6 tY hv bv zv lh b9
 go_upto_region 12 with fail
 have NN:=SV.out.lo
 have hzv:=ZV.out
 have hzy:=ZY.out
 have n1:g14≠yR:=by omega
 have n2:g14≠xI:=by omega
 have n3:g17≠yR:=by omega
 have n4:g17≠xI:=by omega
 have n5:yR≠xI:=by omega
 have n6:xI≠yR:=by omega
 obtain⟨⟨x0,x1,x2,x3,x4,x5,x6⟩,_⟩:=az FV.out
 obtain⟨⟨y0,y1⟩,_⟩:=aB HV.out
 have hf:=SV.out.f
 have hb:=SV.out.b
 unfold zfr at hf
 obtain⟨⟨u0,u1,u2,u3,u4,u5,u6⟩,uz⟩:=aw hf
 obtain⟨⟨v0,v1⟩,t0,t1⟩:=aB hb
 have z0:=uz 0
 have z1:=uz 1
 have z2:=uz 2
 have z3:=uz 3
 have z4:=uz 4
 have z5:=uz 5
 have z6:=uz 6
 clear hf hb uz NN hzv hzy
 go_region
 go_wp2_with fail
 have hs:=Qp (x:=.int .i64 8) (y:=.slice A9 1 c9) ((dY n6 (.int .i64 0) (.int .i64 2) (.int .i64 8000) (.int .i64 1) (.int .i64 8) (.slice none 0 0) (.slice (some ⟨gs,0,none⟩) 1 cf)).trans SV.out.b)
 have h10:=(hs.2 yR n5).trans (dG SV.out.f (.int .i64 0) (.int .i64 2) (.int .i64 8000) (.int .i64 1) (.int .i64 8) (.slice none 0 0) (.slice (some ⟨gs,0,none⟩) 1 cf))
 have hk:∀q,xI<q→_:=fun q hq=>(hs.2 q (by omega)).trans (dY (W:=wv) (show q≠yR by have:=SV.out.lo;omega) (.int .i64 0) (.int .i64 2) (.int .i64 8000) (.int .i64 1) (.int .i64 8) (.slice none 0 0) (.slice (some ⟨gs,0,none⟩) 1 cf))
 have NN:=SV.out.lo
 have hb:=dD (bC (B:=w.heap.size) SV.out.be (show w.heap.size≤yR by omega) (.int .i64 0) (.int .i64 2) (.int .i64 8000) (.int .i64 1) (.int .i64 8) (.slice none 0 0) (.slice (some ⟨gs,0,none⟩) 1 cf)) (show w.heap.size≤xI by omega) (.int .i64 8) (.slice A9 1 c9)
 have hb2:=dD (bC (B:=0) ((ac wv).mono (agw _)) (agw yR) (.int .i64 0) (.int .i64 2) (.int .i64 8000) (.int .i64 1) (.int .i64 8) (.slice none 0 0) (.slice (some ⟨gs,0,none⟩) 1 cf)) (agw xI) (.int .i64 8) (.slice A9 1 c9)
 unfold set7 at hs h10 hk hb hb2
 have H1:=aa hs.1
 have H2:=aa h10
 have H3:=aa hk
 have H4:=aa hb
 have H5:=aa hb2
 clear hs h10 hk hb hb2 x0 x1 x2 x3 x4 x5 x6 y0 y1 u0 u1 u2 u3 u4 u5 u6 v0 v1 t0 t1 z0 z1 z2 z3 z4 z5 z6
 generalize hW:World.setCell (World.setCell _ ⟨xI,0,none⟩ _) ⟨xI,1,none⟩ _=W at*
 refine bodyPost_ret (Ij rfl _ _ rfl rfl (show W.drew.heap[yR]? =_ from H2.out) (show W.drew.heap[xI]? =_ from H1.out)) rfl ?_
 refine⟨gs,cf,m,A9,c9,RA9,RC9,rfl,(MV.out.oth (w':=W.drew) fun q hq=>H3.out q (LY.out q hq)).more H5.out.size,bO.rw (bO.other (w':=W.drew) OV.out fun q hq=>H3.out q ?_) (by decide),H4.out.drew,fun q hq=> ?_⟩
 ·have:=(bO.lt OV.out q hq).1
  have:=ZV.out.1
  omega
 ·have:=LY.out q hq
  omega
end
end Go.Proofs.YtbhfpehgacaidaaGreatDoor
