/- A part of the proof of the given statement TopRight. Conditions: none. -/
import Derived.Test.YtbhfpehgacaidaaGreatDoorQBH
namespace Go.Proofs.YtbhfpehgacaidaaGreatDoor
set_option linter.unusedVariables false
set_option linter.unusedSimpArgs false
set_option maxRecDepth 100000
set_option maxHeartbeats 8000000
section
open Go.RowKit Go.Shelf
attribute [local go_sem] Oper.semAt_some
theorem abO{n₀ Z:Nat}{rb:Option Nat}{W W':World}(h:Kp (fun q=>rb=some q) W W')(hS:∀q,rb=some q→n₀≤q∧q<Z)(hZ:Z≤W.heap.size)(hn:n₀≤W.heap.size):RK n₀ Z rb W W':=
 ⟨⟨h.size,fun k o hz hk _=>(h.block k (agn.1 hk).1 (fun hs=>by have:=(hS k hs).2;omega)).trans hk⟩,
  h.below (fun k hs=>(hS k hs).1) hn,fun k hk hr=>h.block k (by omega) fun hs=>hr hs.symm⟩
theorem DV{w w':World}{B n c m:Nat}{A:Option Addr}{RA:Nat→Option Addr}{RC:Nat→Nat}{R:Nat→List Int}{row:Option Nat}(h:bO w B A n c m RA RC R)(hg:w.grownBy w' row)(hr:∀r,row=some r→∃o:Obj,w.heap[r]? =some o∧o.isCells=false):bO w' B A n c m RA RC R:=
 {h with outer:=Kn h.outer hg hr,inner:=fun i hi=>Kn (h.inner i hi) hg hr}
theorem th(ss:List fF):∀{k:Nat},k≤ss.length→(iz (yS ss) k).map (fun x=>Yq ss x.1)=ss.reverse.take k
 |0,_=>by simp[iz]
 |k+1,h=>by
  rw[np,List.map_append,th ss (k:=k) (by omega),agx (by simp;omega),List.getElem_reverse]
  simp[yS,Yq,tV,tT,vn,show ss.length-1-k<ss.length by omega]
theorem Tg{sg:Int}{R Q:Nat→List Int}{a:List fF}{s:fF}(h:qU sg R a=some Q):qU sg R (a++[s])=if ah (dE (Q s.2.1.toNat) (Q s.1.toNat) s.2.2 sg)=true then some (oz Q s.1.toNat s.2.1.toNat s.2.2 sg)else none:=by
 rw[Co,h];rfl
theorem Ti{sg:Int}{R:Nat→List Int}{a b:List fF}(h:qU sg R a=none):qU sg R (a++b)=none:=by rw[Co,h];rfl
theorem GQ(R:Nat→List Int)(r:Nat)(hr1:r≤1000)(hR:∀i,i<r→(R i).length≤100000)(RA:Nat→Option Addr)(RC:Nat→Nat)(ls:List fF)(n:Nat)(A B:Option Addr)(c d:Nat)(w:World)(h:Rw w w.heap.size A r RA RC R)(hrow:eU R r=false):
 Calls Tryz.prog 110 #[.slice A r c,.slice B n d] w (Zp (CY (-1) R r ls) r (R 0).length w):=by
 have hr:=aa (Fs (sg:= -1) (ls:=ls) hrow)
 have lD:=aa hrow
 have HR:=aa hR
 clear hrow hR
 refine(callsIn_wide (n:=20)).1 ?_
 refine callsIn_of_wp_marks Tryz.func110 rfl trivial ?_ rfl
 simp only[Tryz.ntmps110,List.size_toArray,List.length_cons,List.length_nil,Nat.reduceAdd,Nat.reduceSub,Array.replicate_succ,Array.replicate_zero,List.push_toArray,List.append_toArray,List.nil_append,List.cons_append]
 have hb0:=ak (ak (ac w) (.cells #[.slice none 0 0] 47)) (.cells #[.int .i64 0] 30)
 gi_wp2_with fail
 refine⟨trivial, ?_⟩
 (with_reducible refine(callsIn_wide.2 (iN R r hr1 HR.out RA RC _ _ _ _ (h.below hb0))).mono ?_);rintro e w1 ⟨rfl,bj⟩
 rw[lD.out]
 have x0:Boxed w1 w.heap.size 47 (.slice none 0 0):=by rw[←bj];exact Boxed.alloc (Boxed.new w _ _) _
 have x1:Boxed w1 (w.heap.size+1) 30 (.int .i64 0):=by
  have:=Boxed.new (w.alloc (.cells #[.slice none 0 0] 47)) 30 (.int .i64 0)
  rw[World.size_alloc] at this
  rw[←bj];exact this
 have B1:Below w.heap.size w w1:=by rw[←bj];exact hb0
 clear bj
 have c0:=x0.cell
 have c1:=x1.cell
 have f0:=x0.frozen
 have f1:=x1.frozen
 have y0:=Boxed.other (x0.set (.slice none 0 0)) (B':=w.heap.size+1) (by omega) (.int .i64 1)
 have y1:=(Boxed.other x1 (B':=w.heap.size) (by omega) (.slice none 0 0)).set (.int .i64 1)
 have z0:=y0.cell
 have z1:=y1.cell
 gi_wp2_with fail
 refine⟨trivial, ?_⟩
 gi_wp2_with fail
 refine⟨.tuple #[.slice none 0 0,.int .i64 1], ?_,sX hr.out ((B1.setCell (p:=⟨w.heap.size,0,none⟩) (agl _) _).setCell (p:=⟨w.heap.size+1,0,none⟩) (by simp) _)⟩
 simp[results,Tryz.f110,go_sem,z0,z1]
theorem LK(R:Nat→List Int)(r:Nat)(hr1:r≤1000)(hR:∀i,i<r→(R i).length≤100000)(RA:Nat→Option Addr)(RC:Nat→Nat)(ls:List fF)(hm:ls.length≤9223372036854775807)(A B:Option Addr)(c d:Nat)(w:World)(h:Rw w w.heap.size A r RA RC R)(hs:im w w.heap.size B ls)(hrow:eU R r=true)(hl:eX ls (r:Int)=false):
 Calls Tryz.prog 110 #[.slice A r c,.slice B ls.length d] w (Zp (CY (-1) R r ls) r (R 0).length w):=by
 have hr:=aa (Li (sg:= -1) hrow hl)
 have lD:=aa hrow
 have Hl:=aa hl
 have HR:=aa hR
 clear hrow hR hl
 refine(callsIn_wide (n:=20)).1 ?_
 refine callsIn_of_wp_marks Tryz.func110 rfl trivial ?_ rfl
 simp only[Tryz.ntmps110,List.size_toArray,List.length_cons,List.length_nil,Nat.reduceAdd,Nat.reduceSub,Array.replicate_succ,Array.replicate_zero,List.push_toArray,List.append_toArray,List.nil_append,List.cons_append]
 have hb0:=ak (ak (ac w) (.cells #[.slice none 0 0] 47)) (.cells #[.int .i64 0] 30)
 gi_wp2_with fail
 refine⟨trivial, ?_⟩
 (with_reducible refine(callsIn_wide.2 (iN R r hr1 HR.out RA RC _ _ _ _ (h.below hb0))).mono ?_);rintro e w1 ⟨rfl,bj⟩
 rw[lD.out]
 have x0:Boxed w1 w.heap.size 47 (.slice none 0 0):=by rw[←bj];exact Boxed.alloc (Boxed.new w _ _) _
 have x1:Boxed w1 (w.heap.size+1) 30 (.int .i64 0):=by
  have:=Boxed.new (w.alloc (.cells #[.slice none 0 0] 47)) 30 (.int .i64 0)
  rw[World.size_alloc] at this
  rw[←bj];exact this
 have B1:Below w.heap.size w w1:=by rw[←bj];exact hb0
 have s1:w.heap.size+2≤w1.heap.size:=by rw[←bj];simp
 clear bj hb0
 gi_wp2_with fail
 refine⟨trivial, ?_⟩
 (with_reducible refine(callsIn_wide.2 (mO ls _ rfl hm _ _ _ _ ((hs.below B1).more B1.size))).mono ?_);rintro e w2 ⟨rfl,b2⟩
 rw[Hl.out]
 have X0:=nX x0 b2 (by omega)
 have X1:=nX x1 b2 (by omega)
 have B2:=kK B1 b2
 clear x0 x1 B1 b2
 have c0:=X0.cell
 have c1:=X1.cell
 have f0:=X0.frozen
 have f1:=X1.frozen
 have y0:=Boxed.other (X0.set (.slice none 0 0)) (B':=w.heap.size+1) (by omega) (.int .i64 1)
 have y1:=(Boxed.other X1 (B':=w.heap.size) (by omega) (.slice none 0 0)).set (.int .i64 1)
 have z0:=y0.cell
 have z1:=y1.cell
 gi_wp2_with fail
 refine⟨.tuple #[.slice none 0 0,.int .i64 1], ?_,sX hr.out ((B2.setCell (p:=⟨w.heap.size,0,none⟩) (agl _) _).setCell (p:=⟨w.heap.size+1,0,none⟩) (by simp) _)⟩
 simp[results,Tryz.f110,go_sem,z0,z1]
theorem P6(R:Nat→List Int)(r:Nat)(hr1:r≤1000)(hR:∀i,i<r→(R i).length≤100000)(RA:Nat→Option Addr)(RC:Nat→Nat)(ls:List fF)(A B:Option Addr)(c d:Nat)(w:World)(h:Rw w w.heap.size A r RA RC R)(hs:im w w.heap.size B ls)(hrow:eU R r=true)(hl:eX ls (r:Int)=true):
 Calls Tryz.prog 110 #[.slice A r c,.slice B ls.length d] w (Zp (CY (-1) R r ls) r (R 0).length w):=by
 have lD:=aa hrow
 have Hl:=aa hl
 have HR:=aa hR
 have hlv:=aa (Rb hrow)
 have vo:=(fl.1 hrow).2.1
 have Sp:=(fl.1 hrow).2.2.1
 have n16:ls.length≤16:=(gI.1 hl).2.2.1
 have hlk:=aa (gI.1 hl).2.2.2
 obtain⟨m,yL⟩:∃m,m=(R 0).length:=⟨_,rfl⟩
 rw[←yL] at hlv Sp ⊢
 clear hrow hl hR yL
 refine(callsIn_wide (n:=20)).1 ?_
 refine callsIn_of_wp_marks Tryz.func110 rfl trivial ?_ rfl
 simp only[Tryz.ntmps110,List.size_toArray,List.length_cons,List.length_nil,Nat.reduceAdd,Nat.reduceSub,Array.replicate_succ,Array.replicate_zero,List.push_toArray,List.append_toArray,List.nil_append,List.cons_append]
 have hb0:=ak (ak (ac w) (.cells #[.slice none 0 0] 47)) (.cells #[.int .i64 0] 30)
 gi_wp2_with fail
 refine⟨trivial, ?_⟩
 (with_reducible refine(callsIn_wide.2 (iN R r hr1 HR.out RA RC _ _ _ _ (h.below hb0))).mono ?_);rintro e w0 ⟨rfl,bj⟩
 rw[lD.out]
 have x0:Boxed w0 w.heap.size 47 (.slice none 0 0):=by rw[←bj];exact Boxed.alloc (Boxed.new w _ _) _
 have x1:Boxed w0 (w.heap.size+1) 30 (.int .i64 0):=by
  have:=Boxed.new (w.alloc (.cells #[.slice none 0 0] 47)) 30 (.int .i64 0)
  rw[World.size_alloc] at this
  rw[←bj];exact this
 have B1:Below w.heap.size w w0:=by rw[←bj];exact hb0
 have s0:w.heap.size+2≤w0.heap.size:=by rw[←bj];simp
 clear bj hb0
 gi_wp2_with fail
 refine⟨trivial, ?_⟩
 (with_reducible refine(callsIn_wide.2 (mO ls _ rfl (by omega) _ _ _ _ ((hs.below B1).more B1.size))).mono ?_);rintro e w1 ⟨rfl,b1⟩
 rw[Hl.out]
 have x2:=nX x0 b1 (by omega)
 have x3:=nX x1 b1 (by omega)
 have B2:=kK B1 b1
 have s1:=b1.size
 clear x0 x1 B1 b1
 gi_wp2_with fail
 refine⟨trivial, ?_⟩
 (with_reducible refine(callsIn_wide.2 (un R r m (by omega) (by omega) (fun i hi=>(BN hlv.out hi).1) RA RC _ _ _ ((h.below B2).more B2.size))).mono ?_);rintro e w2 ⟨A2,c2,Lv,Lu,rfl,cD,b2⟩
 have X0:=aa (nX x2 b2 (by omega))
 have X1:=aa (nX x3 b2 (by omega))
 have B3:=aa (kK B2 b2)
 have s2:=b2.size
 have Ho2:=aa cD
 clear x2 x3 B2 b2 cD
 gi_wp2_with fail
 refine⟨trivial, ?_⟩
 refine(FL Fence.wide _ trivial rfl _ _ _ _).mono ?_;rintro e w' ⟨rfl,rfl⟩
 have aa1:=(Boxed.new w2 47 (.slice A2 r c2)).alloc (.cells #[.slice B ls.length d] 92)
 have bS:=Boxed.new (w2.alloc (.cells #[.slice A2 r c2] 47)) 92 (.slice B ls.length d)
 have b0:=(X0.out.alloc (.cells #[.slice A2 r c2] 47)).alloc (.cells #[.slice B ls.length d] 92)
 have b1:=(X1.out.alloc (.cells #[.slice A2 r c2] 47)).alloc (.cells #[.slice B ls.length d] 92)
 have PH:Below w.heap.size w ((w2.alloc (.cells #[.slice A2 r c2] 47)).alloc (.cells #[.slice B ls.length d] 92)):=ak (ak B3.out _) _
 have hsz:((w2.alloc (.cells #[.slice A2 r c2] 47)).alloc (.cells #[.slice B ls.length d] 92)).heap.size=w2.heap.size+2:=by simp
 have hoR:=Ho2.out.below (ak (ak (ac w2) (.cells #[.slice A2 r c2] 47)) (.cells #[.slice B ls.length d] 92)) (agl _)
 gi_wp2_with fail
 obtain⟨W0,hW0⟩:∃W0,(w2.alloc (.cells #[.slice A2 r c2] 47)).alloc (.cells #[.slice B ls.length d] 92)=W0:=⟨_,rfl⟩
 rw[hW0] at aa1 bS b0 b1 PH hsz hoR ⊢
 rw[World.size_alloc] at bS
 clear hW0
 have PQ:Hid (∀q,((Value.slice A2 r c2).ownBlock=some q∨∃i,i<r∧(Value.slice (Lv i) m (Lu i)).ownBlock=some q)→w1.heap.size≤q∧q<w2.heap.size):=fun q hq=>Ho2.out.lt q hq
 have Hsz:=aa hsz
 have hz0:w2.heap.size+2≤W0.heap.size:=by omega
 refine wpIn_rangeFunc_ownH rfl (by omega) (gf:=210) (lb:=#[.pointer (some ⟨w2.heap.size+1,0,none⟩)]) rfl trivial (enters_of Tryz.func210 (by kernel_rfl) rfl)
  (xX Fence.wide _ trivial rfl (by omega) (w2.heap.size+1) w.heap.size B d ls (by omega) W0 (by omega) (by omega) bS.cell (hs.below PH)) (fun h k=>tE.trans h k) (aa0 (by omega) (by omega)) (Below.refl _ _) (fun _=>rfl)
  (fun pre W=>((∃Q,qU (-1) R (pre.map (fun x=>Yq ls x.1))=some Q∧Y8 Q r m∧bO W w1.heap.size A2 r c2 m Lv Lu Q)∧Boxed W w.heap.size 47 (.slice none 0 0)∧Boxed W (w.heap.size+1) 30 (.int .i64 0)∧Boxed W w2.heap.size 47 (.slice A2 r c2)∧Boxed W (w2.heap.size+1) 92 (.slice B ls.length d))∧Below w.heap.size w W)
  (fun cd pre W=>(cd= .ret∧qU (-1) R (pre.map (fun x=>Yq ls x.1))=none∧Boxed W w.heap.size 47 (.slice none 0 0)∧Boxed W (w.heap.size+1) 30 (.int .i64 6))∧Below w.heap.size w W)
  (OwnFrom.and (Own.from (fun s X Y row hs hg hr=>by obtain⟨⟨xs,e1,e2,e4⟩,e5,e6,e7,e8⟩:=hs;exact⟨⟨xs,e1,e2,DV e4 hg hr⟩,tj e5 hg hr,tj e6 hg hr,tj e7 hg hr,tj e8 hg hr⟩) _) (ownFrom_below (agl _) (by omega)))
  (fun cd=>OwnFrom.and (Own.from (fun s X Y row hs hg hr=>by obtain⟨e0,e1,e2,e3⟩:=hs;exact⟨e0,e1,tj e2 hg hr,tj e3 hg hr⟩) _) (ownFrom_below (agl _) (by omega)))
  ⟨⟨⟨R,rfl,hlv.out,hoR⟩,b0,b1,aa1,bS⟩,PH⟩
  (fun x a' W=>∃Bx,w2.heap.size+1<Bx∧W.heap[Bx]? =some (.cells #[.int .i64 (tV ls x.1),.int .i64 (tT ls x.1),.int .i64 (vn ls x.1)] 227 (0,0))∧a'={tmps:=#[.slice A r c,.slice B ls.length d,undef,undef,.pointer (some ⟨w.heap.size,0,none⟩),.pointer (some ⟨w.heap.size+1,0,none⟩),.pointer (some ⟨w2.heap.size,0,none⟩),undef,.pointer (some ⟨Bx,0,none⟩),.slice A r c,.bool true,.bool false,.bool false,.slice B ls.length d,.slice A r c,.int .i64 r,.bool true,.bool false,.bool false,.slice A r c,.slice A2 r c2,.slice B ls.length d,.func (.func 210) #[] #[.pointer (some ⟨w2.heap.size+1,0,none⟩)],.int .i64 (x.1:Int),.agg #[.int .i64 (tV ls x.1),.int .i64 (tT ls x.1),.int .i64 (vn ls x.1)],undef,undef,undef,undef,undef],defers:=[]})
  (fun x a' _ X Y row hs hg hr=>by obtain⟨Bx,e1,e2,e3⟩:=hs;exact⟨Bx,e1,OB e2 rfl hg (fun r e=>(hr r e).2),e3⟩)
  ?assign ?body ?done ?stop
 case assign=>
  rintro l' pre x W K ⟨⟨⟨xs,e1,e2,e4⟩,e5,e6,e7,e8⟩,hB⟩ hK
  dsimp only[FD]
  have hl8:=e8.lt
  gi_wp2_with fail
  exact hK _ _ ((KeepsOthers.alloc _ _).from _) ⟨(Below.refl _ W).alloc hB.size _,ags _ _ _ hl8⟩ ⟨⟨⟨xs,e1,e2,e4.below (ak (ac W) _) (agl _)⟩,e5.alloc _,e6.alloc _,e7.alloc _,e8.alloc _⟩,hB.alloc hB.size _⟩ ⟨W.heap.size,hl8,ago W _,rfl⟩
 case body=>
  rintro l' pre ⟨q,hq⟩ a' W hl' ⟨rr,hrr⟩ ⟨⟨⟨Q,hgo,hlq,ho⟩,e5,e6,e7,e8⟩,hB⟩ ⟨Bx,hBx,bX,rfl⟩ hlt
  have hql:q<ls.length:=by omega
  have hZW:W0.heap.size≤W.heap.size:=by have:=(agn.1 hrr).1;omega
  dsimp only at bX ⊢
  have dU:=jD.1 (hlk.out q hql)
  have acC:=Tg (s:=Yq ls q) hgo
  obtain⟨f,hf⟩:∃f:Nat,f=(tV ls q).toNat:=⟨_,rfl⟩
  obtain⟨u,hu⟩:∃u:Nat,u=(tT ls q).toNat:=⟨_,rfl⟩
  have hfI:tV ls q=(f:Int):=by omega
  have huI:tT ls q=(u:Int):=by omega
  obtain⟨g,hg⟩:∃g,g=vn ls q:=⟨_,rfl⟩
  obtain⟨yw,Ja⟩:∃yw,yw=ah (dE (Q u) (Q f) g (-1)):=⟨_,rfl⟩
  have hst:Hid (qU (-1) R ((pre++[(⟨q,hq⟩:BkX ls)]).map (fun x=>Yq ls x.1))=if yw=true then some (oz Q f u g (-1))else none):=by
   show _=_
   rw[List.map_append,List.map_singleton,acC,Ja,hf,hu,hg];rfl
  rw[hfI,huI,←hg] at bX ⊢
  obtain⟨k1,k2,k3,k4,k5,k6,k7⟩:=dU
  have hf8:f<r:=by omega
  have hu8:u<r:=by omega
  have hfu:f≠u:=by omega
  rw[←hg] at k6 k7
  have cX0:=agu W Bx 0 _ _ _ bX
  have cX1:=agu W Bx 1 _ _ _ bX
  have cX2:=agu W Bx 2 _ _ _ bX
  simp only[List.getElem?_toArray,List.getElem?_cons_zero,List.getElem?_cons_succ] at cX0 cX1 cX2
  have nz1:=World.new_ne W _ cX0
  have nz2:=World.new_ne W _ cX1
  have nz3:=World.new_ne W _ cX2
  have Ho:=aa ho
  have Hq:=aa hlq
  have E5:=aa e5
  have E6:=aa e6
  have E7:=aa e7
  have E8:=aa e8
  have HB:=aa hB
  have Zc:=aa Ja
  have c7:=e7.cell
  have Hnr:Hid (∀k,(k=w.heap.size∨k=w.heap.size+1∨k=w2.heap.size∨k=w2.heap.size+1)→some k≠(Value.slice (Lv u) m (Lu u)).ownBlock):=fun k hk e=>by
   have:=PQ.out k (.inr ⟨u,hu8,e.symm⟩)
   omega
  have hnW:w.heap.size≤W0.heap.size:=by omega
  clear hgo hlq ho e5 e6 e7 e8 hB hrr bX b0 b1 aa1 bS hoR PH hsz X0 X1 acC hf hu hg hfI huI k1 k2 k3 k4 k5 Ja
  gi_wp2_with fail
  refine⟨trivial, ?_⟩
  (with_reducible refine(CallsIn.inRound l' (callsIn_wide.2 (xY Ho.out (by omega) (fun i hi=>(BN Hq.out hi).2) f u hf8 hu8 hfu g (-1) k6 k7 (by decide) (by omega) (f:Int) (u:Int) rfl rfl))).mono ?_);rintro e w8 ⟨rfl,mj,YJ⟩
  have rk:RK w.heap.size W0.heap.size (Value.slice (Lv u) m (Lu u)).ownBlock W w8:=abO YJ (fun q hq=>by have:=PQ.out q (.inr ⟨u,hu8,hq⟩);omega) hZW (by omega)
  rw[←Zc.out] at mj ⊢
  have Rk:=aa rk
  have Ho8:=aa mj
  have E5':=aa (rk.box E5.out (by omega) (Hnr.out _ (.inl rfl)))
  have E6':=aa (rk.box E6.out (by omega) (Hnr.out _ (.inr (.inl rfl))))
  have E7':=aa (rk.box E7.out (by omega) (Hnr.out _ (.inr (.inr (.inl rfl)))))
  have E8':=aa (rk.box E8.out (by omega) (Hnr.out _ (.inr (.inr (.inr rfl)))))
  clear rk mj YJ
  cases yw with
  |false=>
   have c5:=E5'.out.cell
   have c6:=E6'.out.cell
   have f5:=E5'.out.frozen
   have f6:=E6'.out.frozen
   have y0:=Boxed.other (E5'.out.set (.slice none 0 0)) (B':=w.heap.size+1) (by omega) (.int .i64 6)
   have y1:=(Boxed.other E6'.out (B':=w.heap.size) (by omega) (.slice none 0 0)).set (.int .i64 6)
   have RP:Hid (qU (-1) R ((pre++[(⟨q,hq⟩:BkX ls)]).map (fun x=>Yq ls x.1))=none):=by show _=_;rw[hst.out];rfl
   gi_wp2_with fail
   exact⟨(Rk.out.kf.trans ((KeepsOthers.setCell _ _ _).from _)).trans ((KeepsOthers.setCell _ _ _).from _),⟨rfl,RP.out,y0,y1⟩,((HB.out.trans Rk.out.bl).setCell (p:=⟨w.heap.size,0,none⟩) (agl _) _).setCell (p:=⟨w.heap.size+1,0,none⟩) (by simp) _⟩
  |true=>
   have iu:KeepsFrom W0.heap.size W w8∧tE w.heap.size (w2.heap.size+1) W w8∧((∃Q,qU (-1) R ((pre++[(⟨q,hq⟩:BkX ls)]).map (fun x=>Yq ls x.1))=some Q∧Y8 Q r m∧bO w8 w1.heap.size A2 r c2 m Lv Lu Q)∧Boxed w8 w.heap.size 47 (.slice none 0 0)∧Boxed w8 (w.heap.size+1) 30 (.int .i64 0)∧Boxed w8 w2.heap.size 47 (.slice A2 r c2)∧Boxed w8 (w2.heap.size+1) 92 (.slice B ls.length d))∧Below w.heap.size w w8:=
    ⟨Rk.out.kf,⟨Rk.out.bl,Rk.out.blk _ (by omega) (Hnr.out _ (.inr (.inr (.inr rfl))))⟩,⟨⟨oz Q f u g (-1),by rw[hst.out];rfl,Hq.out.app hf8 Zc.out.symm,Ho8.out (by simp)⟩,E5'.out,E6'.out,E7'.out,E8'.out⟩,HB.out.trans Rk.out.bl⟩
   have Pd:=aa iu
   clear iu
   gi_wp2_with fail
   exact Pd.out
 case done=>
  rintro D zs W hD rfl ⟨⟨⟨Q,hgo,hlq,ho⟩,e5,e6,e7,e8⟩,hB⟩ hK
  have c5:=e5.cell
  have c6:=e6.cell
  have c7:=e7.cell
  have f5:=e5.frozen
  have f6:=e6.frozen
  have hr:Hid (CY (-1) R r ls= .ok Q):=Fr lD.out Hl.out (by
   rw[th ls (agl _),List.take_of_length_le (by simp)] at hgo;exact hgo)
  have Hn5:Hid (∀q,((Value.slice A2 r c2).ownBlock=some q∨∃i,i<r∧(Value.slice (Lv i) m (Lu i)).ownBlock=some q)→q≠w.heap.size∧q≠w.heap.size+1):=fun q hq=>by have:=PQ.out q hq;omega
  clear hgo hlq
  gi_wp2_with fail
  have hK1:=(KeepsOthers.setCell W ⟨w.heap.size,0,none⟩ (.slice A2 r c2)).same D _ hK rfl
  have hK':=(KeepsOthers.setCell _ ⟨w.heap.size+1,0,none⟩ (.int .i64 0)).same D _ hK1 rfl
  refine⟨by simp,.inl ⟨_,_,rfl,run_takeDeferred hK', ?_⟩⟩
  have y0:=Boxed.other (e5.set (.slice A2 r c2)) (B':=w.heap.size+1) (by omega) (.int .i64 0)
  have y1:=(Boxed.other e6 (B':=w.heap.size) (by omega) (.slice A2 r c2)).set (.int .i64 0)
  have z0:=cell_kept y0.cell (grownBy_putObj' _ D (.deferred none)) (fun r e=>by cases e;exact⟨_,hK',rfl⟩)
  have z1:=cell_kept y1.cell (grownBy_putObj' _ D (.deferred none)) (fun r e=>by cases e;exact⟨_,hK',rfl⟩)
  have cM:=ho.other (w':=W.setCell ⟨w.heap.size,0,none⟩ (.slice A2 r c2)) fun q hq=>agr _ _ _ _ (fun e=>(Hn5.out q hq).1 (by rw[e]))
  have cD:=cM.other (w':=(W.setCell ⟨w.heap.size,0,none⟩ (.slice A2 r c2)).setCell ⟨w.heap.size+1,0,none⟩ (.int .i64 0)) fun q hq=>agr _ _ _ _ (fun e=>(Hn5.out q hq).2 (by rw[e]))
  have bF:=(DV cD (grownBy_putObj' _ D (.deferred none)) (fun r e=>by cases e;exact⟨_,hK',rfl⟩)).base (show w.heap.size≤w1.heap.size by omega)
  have hB3:=((hB.setCell (p:=⟨w.heap.size,0,none⟩) (agl _) (.slice A2 r c2)).setCell (p:=⟨w.heap.size+1,0,none⟩) (by simp) (.int .i64 0)).trans (belowK_b (w:=w) (agl _) _ D _ (.deferred none) (by omega) hK' rfl rfl)
  exact⟨.tuple #[.slice A2 r c2,.int .i64 0],by simp[results,Tryz.f110,go_sem,z0,z1],Y2 hr.out bF hB3⟩
 case stop=>
  rintro D cd pre W hD ⟨k,hk,rfl⟩ ⟨⟨rfl,hgo,e5,e6⟩,hB⟩ hK
  have hr:Hid (CY (-1) R r ls= .error 6):=Fu lD.out Hl.out (by
   rw[th ls hk] at hgo
   show qU (-1) R ls.reverse=none
   rw[←List.take_append_drop k ls.reverse]
   exact Ti hgo)
  clear hgo
  gi_wp2_with fail
  refine⟨by simp,.inl ⟨_,_,rfl,run_takeDeferred hK, ?_⟩⟩
  have z0:=cell_kept e5.cell (grownBy_putObj' _ D (.deferred none)) (fun r e=>by cases e;exact⟨_,hK,rfl⟩)
  have z1:=cell_kept e6.cell (grownBy_putObj' _ D (.deferred none)) (fun r e=>by cases e;exact⟨_,hK,rfl⟩)
  exact⟨.tuple #[.slice none 0 0,.int .i64 6],by simp[results,Tryz.f110,go_sem,z0,z1],sX hr.out (hB.trans (belowK_b (w:=w) (agl _) _ D _ (.deferred none) (by omega) hK rfl rfl))⟩
theorem LM(R:Nat→List Int)(r:Nat)(hr1:r≤1000)(hR:∀i,i<r→(R i).length≤100000)(RA:Nat→Option Addr)(RC:Nat→Nat)(ls:List fF)(n:Nat)(hn:n=ls.length)(hm:n≤9223372036854775807)(A B:Option Addr)(c d:Nat)(w:World)(h:Rw w w.heap.size A r RA RC R)(hs:im w w.heap.size B ls):
 Calls Tryz.prog 110 #[.slice A r c,.slice B n d] w (Zp (CY (-1) R r ls) r (R 0).length w):=by
 subst hn
 cases hrow:eU R r with
 |false=>exact GQ R r hr1 hR RA RC ls _ A B c d w h hrow
 |true=>
  cases hl:eX ls (r:Int)with
  |false=>exact LK R r hr1 hR RA RC ls hm A B c d w h hs hrow hl
  |true=>exact P6 R r hr1 hR RA RC ls A B c d w h hs hrow hl
end
section
open Go.RowKit
set_option maxRecDepth 100000
def gL(bits:Int)(l:List Int):Bool:=l.all fun x=>dS x bits
theorem uj{bits:Int}{l:List Int}:gL bits l=true↔∀k,k<l.length→dS (ix l k) bits=true:=by
 simp only[gL,List.all_eq_true]
 exact⟨fun h k hk=>h _ (by simp[ix,hk]),fun h x hx=>by obtain⟨k,hk,rfl⟩:=kZ hx;exact h k hk⟩
theorem Cq{bits:Int}{l:List Int}{k:Nat}(hk:k<l.length)(h:dS (ix l k) bits=false):gL bits l=false:=by
 cases e:gL bits l with
 |false=>rfl
 |true=>rw[uj.1 e k hk] at h;cases h
def ii(bits:Int)(R:Nat→List Int)(r:Nat):Bool:=decide (4≤bits) && decide (bits≤24) && decide (1≤r) && decide (r≤8) && decide (1≤(R 0).length) && decide ((R 0).length≤4096) && (List.range r).all fun i=>decide ((R i).length=(R 0).length) && gL bits (R i)
theorem pU{bits:Int}{R:Nat→List Int}{r:Nat}:ii bits R r=true↔4≤bits∧bits≤24∧1≤r∧r≤8∧1≤(R 0).length∧(R 0).length≤4096∧∀i,i<r→(R i).length=(R 0).length∧gL bits (R i)=true:=by
 simp[ii,and_assoc]
theorem ro{bits:Int}{R:Nat→List Int}{r:Nat}(h:¬(4≤bits∧bits≤24∧1≤r∧r≤8∧1≤(R 0).length∧(R 0).length≤4096∧∀i,i<r→(R i).length=(R 0).length∧gL bits (R i)=true)):ii bits R r=false:=by
 cases e:ii bits R r with
 |false=>rfl
 |true=>exact absurd (pU.1 e) h
def BP(R:Nat→List Int)(r:Nat):Int:=if r=0 then 0 else((R 0).length:Int)
theorem gV(x:Int)(w:World):Calls Tryz.prog 86 #[.int .i64 x] w fun e w'=>e= .returned (.bool (decide (4≤x) && decide (x≤24)))∧w'=w:=by
 by_cases h1:4≤x
 ·by_cases h2:x≤24
  all_goals
   go_enter Tryz.func86,Tryz.ntmps86
   go_wp2
   go_ret
   exact⟨by simp[h1,h2] <;> omega,rfl⟩
 ·go_enter Tryz.func86,Tryz.ntmps86
  go_wp2
  go_ret
  have hd:decide (4≤x)=false:=decide_eq_false (by omega)
  exact⟨by rw[hd];rfl,rfl⟩
theorem nN(R:Nat→List Int)(r:Nat)(hr1:r≤1000)(RA:Nat→Option Addr)(RC:Nat→Nat)(A:Option Addr)(c:Nat)(bits:Int)(w:World)(h:Rw w w.heap.size A r RA RC R):
 Calls Tryz.prog 90 #[.agg #[.int .i64 bits,.slice A r c]] w fun e w'=>e= .returned (.int .i64 (BP R r))∧Below w.heap.size w w':=by
 by_cases h0:r=0
 ·subst h0
  have e0:(((0:Nat):Int) == 0)=true:=by decide
  go_enter Tryz.func90,Tryz.ntmps90
  go_wp2
  go_ret
  exact⟨rfl,ak (ac w) _⟩
 ·have hl:Hid (BP R r=((R 0).length:Int)):=by show _=_;unfold BP;rw[if_neg h0]
  have e0:((r:Int) == 0)=false:=by simp;omega
  have h':=h.below (ak (ac w) (.cells #[.int .i64 bits,.slice A r c] 89))
  obtain⟨b1,o1,rfl,hc⟩:=h'.at_ (i:=0) (by omega)
  rw[Nat.add_zero] at hc
  have s1:(0:Int)<(r:Int):=by omega
  go_enter Tryz.func90,Tryz.ntmps90
  go_wp2
  go_ret
  exact⟨kU hl.out.symm,ak (ac w) _⟩
theorem nZ(R:Nat→List Int)(r:Nat)(hr1:r≤1000)(hR:∀i,i<r→(R i).length≤100000)(RA:Nat→Option Addr)(RC:Nat→Nat)(A:Option Addr)(c:Nat)(bits:Int)(w:World)(h:Rw w w.heap.size A r RA RC R):
 Calls Tryz.prog 89 #[.agg #[.int .i64 bits,.slice A r c]] w fun e w'=>e= .returned (.bool (ii bits R r))∧Below w.heap.size w w':=by
 have hc0:(w.alloc (.cells #[.int .i64 bits,.slice A r c] 89)).cell? ⟨w.heap.size,0,none⟩=some (.int .i64 bits):=(agu _ _ _ _ _ _ (ago w _)).trans rfl
 have hc1:(w.alloc (.cells #[.int .i64 bits,.slice A r c] 89)).cell? ⟨w.heap.size,1,none⟩=some (.slice A r c):=(agu _ _ _ _ _ _ (ago w _)).trans rfl
 have Vj:=aa hc0
 have UC:=aa hc1
 have HR:=aa hR
 clear hc0 hc1 hR
 cases hd:(decide (4≤bits) && decide (bits≤24))with
 |false=>
  have hr:=aa (ro (bits:=bits) (R:=R) (r:=r) fun h'=>by rw[decide_eq_true h'.1,decide_eq_true h'.2.1] at hd;cases hd)
  have Hd:=aa hd
  clear hd
  go_enter Tryz.func89,Tryz.ntmps89
  go_wp2_with fail
  (with_reducible refine(gV _ _).mono ?_);rintro e w' ⟨rfl,rfl⟩
  rw[Hd.out]
  go_wp2_with fail
  go_ret
  exact⟨aC hr.out.symm,ak (ac w) _⟩
 |true=>
  have EP:4≤bits∧bits≤24:=by simpa using hd
  have Hd:=aa hd
  clear hd
  by_cases h1:r<1
  ·have hr:=aa (ro (bits:=bits) (R:=R) (r:=r) (by omega))
   have hI:(r:Int)<1:=by omega
   clear h1 EP
   go_enter Tryz.func89,Tryz.ntmps89
   go_wp2_with fail
   (with_reducible refine(gV _ _).mono ?_);rintro e w' ⟨rfl,rfl⟩
   rw[Hd.out]
   go_wp2_with fail
   go_ret
   exact⟨aC hr.out.symm,ak (ac w) _⟩
  have YW:(1:Int)≤(r:Int):=by omega
  by_cases h2:8<r
  ·have hr:=aa (ro (bits:=bits) (R:=R) (r:=r) (by omega))
   have hI:(8:Int)<(r:Int):=by omega
   clear h1 h2 EP
   go_enter Tryz.func89,Tryz.ntmps89
   go_wp2_with fail
   (with_reducible refine(gV _ _).mono ?_);rintro e w' ⟨rfl,rfl⟩
   rw[Hd.out]
   go_wp2_with fail
   go_ret
   exact⟨aC hr.out.symm,ak (ac w) _⟩
  have ES:(r:Int)≤8:=by omega
  have r0:0<r:=by omega
  have hl:Hid (BP R r=((R 0).length:Int)):=by show _=_;unfold BP;rw[if_neg (by omega)]
  have Pa:Hid ((1≤(R 0).length)→(R 0).length≤4096→(∀i,i<r→(R i).length=(R 0).length∧gL bits (R i)=true)→ii bits R r=true):=fun a1 a2 a3=>pU.2 ⟨EP.1,EP.2,by omega,by omega,a1,a2,a3⟩
  have Lz:Hid (¬(1≤(R 0).length∧(R 0).length≤4096∧∀i,i<r→(R i).length=(R 0).length∧gL bits (R i)=true)→ii bits R r=false):=fun hh=>ro fun h'=>hh h'.2.2.2.2
  have l0:=HR.out 0 r0
  clear h1 h2 EP
  go_enter Tryz.func89,Tryz.ntmps89
  go_wp2_with fail
  (with_reducible refine(gV _ _).mono ?_);rintro e w' ⟨rfl,rfl⟩
  rw[Hd.out]
  go_wp2_with fail
  have B1:=ak (ac w) (.cells #[.int .i64 bits,.slice A r c] 89)
  obtain⟨w1,bj⟩:∃w1,w1=w.alloc (.cells #[.int .i64 bits,.slice A r c] 89):=⟨_,rfl⟩
  rw[←bj] at B1 Vj UC ⊢
  have hz1:w.heap.size+1=w1.heap.size:=by rw[bj];simp
  clear bj
  (with_reducible refine(nN R r hr1 RA RC _ _ _ _ ((h.below B1).more B1.size)).mono ?_);rintro e w2 ⟨rfl,b2⟩
  rw[hl.out]
  have B2:=kK B1 b2
  by_cases h3:(R 0).length<1
  ·have hr:=aa (Lz.out (by omega))
   have hI:((R 0).length:Int)<1:=by omega
   clear h3
   go_wp2_with fail
   go_ret
   exact⟨aC hr.out.symm,B2⟩
  have hI3:(1:Int)≤((R 0).length:Int):=by omega
  have c0:=later b2 Vj.out
  have c1:=later b2 UC.out
  go_wp2_with fail
  (with_reducible refine(nN R r hr1 RA RC _ _ _ _ ((h.below B2).more B2.size)).mono ?_);rintro e w3 ⟨rfl,b3⟩
  rw[hl.out]
  have B3:=kK B2 b3
  have oT:=kK b2 b3
  clear c0 c1 b2 b3 B2
  have c1:=later oT UC.out
  by_cases h4:4096<(R 0).length
  ·have hr:=aa (Lz.out (by omega))
   have hI:(4096:Int)<((R 0).length:Int):=by omega
   clear h3 h4
   go_wp2_with fail
   go_ret
   exact⟨aC hr.out.symm,B3⟩
  have hI4:((R 0).length:Int)≤4096:=by omega
  have PM:Hid ((∀i,i<r→(R i).length=(R 0).length∧gL bits (R i)=true)→ii bits R r=true):=Pa.out (by omega) (by omega)
  have gQ:Hid (∀i,i<r→((R i).length≠(R 0).length∨gL bits (R i)=false)→ii bits R r=false):=fun i hi hh=>Lz.out fun h'=>by
   have:=h'.2.2 i hi
   rcases hh with hh | hh
   ·exact hh this.1
   ·rw[this.2] at hh;cases hh
  clear h3 h4 Pa Lz
  go_wp2_with fail
  clear c1
  go_loopw [4,6,34,45] (fun _ _ iv _ wr=>(∃k:Nat,k≤r∧iv= .int .i64 k∧∀i,i<k→(R i).length=(R 0).length∧gL bits (R i)=true)∧Below w1.heap.size w1 wr) (fun _ _ iv _ _=>r-(intOf iv).toNat)
  case atStart=>exact⟨⟨0,agw _,rfl,fun i h=>absurd h (by omega)⟩,oT⟩
  case round=>
   obtain⟨⟨k,hk,rfl,hj⟩,hbl⟩:=hrel
   have Hj:=aa hj
   have Hb:=aa hbl
   have BB:=kK B1 hbl
   clear hj hbl
   by_cases hlt:k<r
   ·obtain⟨b1,o1,rfl,hc⟩:=(h.below BB).at_ hlt
    have lk:=HR.out k hlt
    have c0:=later Hb.out Vj.out
    have c1:=later Hb.out UC.out
    by_cases hlk:(R k).length=(R 0).length
    ·have hne:(((R k).length:Int) != ((R 0).length:Int))=false:=by simp[hlk]
     have PO:=aa hlk
     obtain⟨m,hm⟩:∃m,m=(R k).length:=⟨_,rfl⟩
     have Hm:=aa hm
     rw[←hm] at hc hne lk
     obtain⟨Ak,hA⟩:∃Ak,Ak=RA k:=⟨_,rfl⟩
     have dp:=((h.below BB).more BB.size).ints k hlt
     rw[←hA] at hc dp
     have FU:=aa dp
     clear hA hm hlk dp
     go_wp2_with fail
     (with_reducible refine(nN R r hr1 RA RC _ _ _ _ ((h.below BB).more BB.size)).mono ?_);rintro e w5 ⟨rfl,b5⟩
     rw[hl.out]
     have Hb5:=aa (kK Hb.out b5)
     have B5:=aa (kK BB b5)
     have aeK:=aa (FU.out.below b5)
     clear b5 c0 c1 hc
     have c0:=later Hb5.out Vj.out
     go_wp2_with fail
     go_loop [6,45] (fun _ iv=>∃j:Nat,j≤m∧iv= .int .i64 j∧∀i,i<j→dS (ix (R k) i) bits=true) (fun _ iv=>m-(intOf iv).toNat)
     case atStart=>exact⟨0,agw _,rfl,fun i h=>absurd h (by omega)⟩
     case round=>
      obtain⟨j,hjl,rfl,hw⟩:=hrel
      have Hw:=aa hw
      clear hw
      by_cases jR:j<m
      ·obtain⟨b2,o2,rfl,hc2⟩:=aeK.out.at_ (i:=j) (by rw[←Hm.out];exact jR)
       cases hb:dS (ix (R k) j) bits with
       |false=>
        have hr:=aa (gQ.out k hlt (.inr (Cq (by rw[←Hm.out];exact jR) hb)))
        have Hb:=aa hb
        clear hb
        go_wp2_with ((with_reducible refine(dJ _ _ _).mono ?_);rintro e w' ⟨rfl,rfl⟩;rw[Hb.out])
        go_ret
        exact⟨aC hr.out.symm,B5.out⟩
       |true=>
        have Hb:=aa hb
        clear hb
        go_wp2_with ((with_reducible refine(dJ _ _ _).mono ?_);rintro e w' ⟨rfl,rfl⟩;rw[Hb.out])
        go_round
        case rel=>
         refine⟨j+1,by omega,by go_num,fun i hi=> ?_⟩
         by_cases e:i=j
         ·subst e;exact Hb.out
         ·exact Hw.out i (by omega)
        case measure=>simp[intOf];omega
      ·have dU:Hid (gL bits (R k)=true):=uj.2 fun i hi=>Hw.out i (by have:=Hm.out;omega)
       go_wp2_with fail
       go_roundw
       case rel=>
        refine⟨⟨k+1,by omega,by go_num,fun i hi=> ?_⟩,Hb5.out⟩
        by_cases e:i=k
        ·subst e;exact⟨PO.out,dU.out⟩
        ·exact Hj.out i (by omega)
       case measure=>simp[intOf];omega
    ·have hne:(((R k).length:Int) != ((R 0).length:Int))=true:=by simp;omega
     have hr:=aa (gQ.out k hlt (.inl hlk))
     clear hlk
     go_wp2_with fail
     (with_reducible refine(nN R r hr1 RA RC _ _ _ _ ((h.below BB).more BB.size)).mono ?_);rintro e w5 ⟨rfl,b5⟩
     rw[hl.out]
     have B5:=kK BB b5
     go_wp2_with fail
     go_ret
     exact⟨aC hr.out.symm,B5⟩
   ·have hr:=aa (PM.out fun i hi=>Hj.out i (by omega))
    go_wp2_with fail
    go_ret
    exact⟨aC hr.out.symm,BB⟩
set_option maxRecDepth 100000
def di(A:Option Addr):Option Nat:=A.map (·.block)
theorem aL(A:Option Addr)(n c:Nat):(Value.slice A n c).ownBlock=di A:=by cases A <;> rfl
structure cP (w:World) (B:Nat) (A:Option Addr) (n c:Nat) (RA:Nat→Option Addr) (RC:Nat→Nat) (R:Nat→List Int):Prop where
 outer:w.ownsRow B 39 1 (.slice A n c) n ((List.range n).map fun i=>Value.slice (RA i) (R i).length (RC i))
 inner:∀i,i<n→ax w B (RA i) (R i).length (RC i) (R i)
 sep:∀i j,i<n→j<n→i≠j→∀q,di (RA i)=some q→di (RA j)≠some q
 osep:∀i,i<n→∀q,di A=some q→di (RA i)≠some q
section
variable {w w' : World} {B n c : Nat} {A : Option Addr} {RA : Nat → Option Addr} {RC : Nat → Nat} {R : Nat → List Int}
theorem cP.other(h:cP w B A n c RA RC R)(hk:∀q,(di A=some q∨∃i,i<n∧di (RA i)=some q)→w'.heap[q]? =w.heap[q]?):cP w' B A n c RA RC R:=
 {h with
  outer:=ap h.outer fun q hq=>hk q (.inl (by rw[←aL A n c];exact hq))
  inner:=fun i hi=>(h.inner i hi).other fun q hq=>hk q (.inr ⟨i,hi,by rw[←aL (RA i)];exact hq⟩)}
theorem cP.lt(h:cP w B A n c RA RC R):∀q,(di A=some q∨∃i,i<n∧di (RA i)=some q)→B≤q∧q<w.heap.size:=fun q hq=>by
 rcases hq with hq | ⟨i,hi,hq⟩
 ·exact agB h.outer q (by rw[aL];exact hq)
 ·exact(h.inner i hi).lt q (by rw[aL];exact hq)
theorem cP.below{B1:Nat}(h:cP w B A n c RA RC R)(hb:Below B1 w w')(hB:w.heap.size≤B1):cP w' B A n c RA RC R:=
 h.other fun q hq=>hb.block q (agz (h.lt q hq).2 hB)
theorem cP.drewN(h:cP w B A n c RA RC R)(k:Nat):cP (w.drewN k) B A n c RA RC R:=h.other fun _ _=>rfl
theorem cP.drew(h:cP w B A n c RA RC R):cP w.drew B A n c RA RC R:=h.other fun _ _=>rfl
theorem cP.base{B':Nat}(h:cP w B A n c RA RC R)(hB:B'≤B):cP w B' A n c RA RC R:=
 {h with outer:=aO h.outer hB,inner:=fun i hi=>(h.inner i hi).base hB}
theorem cP.addr(h:cP w B A n c RA RC R)(hn:0<n):∃g,A=some ⟨g,0,none⟩∧B≤g∧g<w.heap.size∧∀i,i<n→w.cell? ⟨g,i,none⟩=some (.slice (RA i) (R i).length (RC i)):=by
 obtain⟨g,rfl,h1,h2⟩:=eW h.outer hn
 refine⟨g,rfl,h1,h2,fun i hi=> ?_⟩
 rw[World.ownsRow.cellAt h.outer i (by omega)]
 simp[hi]
theorem cP.rw(h:cP w B A n c RA RC R):Rw w w.heap.size A n RA RC R:=
 ⟨fun h0=>by
  obtain⟨g,rfl,h1,h2,h3⟩:=h.addr h0
  exact⟨g,0,rfl,h2,fun i hi=>by rw[Nat.zero_add,h3 i hi]⟩,
  fun i hi=>ax.ints (h.inner i hi),fun i hi=>by have:=bJ (h.inner i hi);simp only[maxLen] at this;omega,fun i hi=>(bJ (h.inner i hi)).1⟩
theorem cP.cong{R':Nat→List Int}(h:cP w B A n c RA RC R)(he:∀i,i<n→R' i=R i):cP w B A n c RA RC R':=
 {h with
  outer:=by
   have e:((List.range n).map fun i=>Value.slice (RA i) (R' i).length (RC i))=(List.range n).map fun i=>Value.slice (RA i) (R i).length (RC i):=
    List.map_congr_left fun i hi=>by rw[he i (by simpa using hi)]
   rw[e];exact h.outer
  inner:=fun i hi=>by rw[he i hi];exact h.inner i hi}
theorem cP.set_{t g:Nat}(h:cP w B A n c RA RC R)(ht:t<n)(hg:RA t=some ⟨g,0,none⟩)(i:Nat)(x:Int):cP (w.setCell ⟨g,i,none⟩ (.int .i64 x)) B A n c RA RC (fun j=>if j=t then(R t).set i x else R j):=by
 have UR:di (RA t)=some g:=by rw[hg];rfl
 refine {h with outer:= ?_,inner:=fun j hj=> ?_}
 ·have e:((List.range n).map fun j=>Value.slice (RA j) (if j=t then(R t).set i x else R j).length (RC j))=(List.range n).map fun i=>Value.slice (RA i) (R i).length (RC i):=
   List.map_congr_left fun j _=>by
    by_cases e:j=t
    ·subst e;simp
    ·simp[e]
  rw[e]
  exact ap h.outer fun q hq=>agr _ _ _ _ (fun e=>h.osep t ht q (by rw[←aL A n c];exact hq) (by rw[e];exact UR))
 ·by_cases e:j=t
  ·subst e
   rw[if_pos rfl]
   have dp:=h.inner j hj
   unfold ax at dp ⊢
   rw[hg] at dp ⊢
   rw[List.length_set]
   exact u9 dp i x
  ·rw[if_neg e]
   exact(h.inner j hj).other fun q hq=>agr _ _ _ _ (fun e'=>h.sep j t hj ht e q (by rw[←aL (RA j)];exact hq) (by rw[e'];exact UR))
end
theorem QQ(w:World)(B:Nat)(RA:Nat→Option Addr)(RC:Nat→Nat)(R:Nat→List Int):cP w B none 0 0 RA RC R:=
 ⟨World.ownsRow_nil _ _ _ _,fun i h=>by omega,fun i j h=>by omega,fun i h=>by omega⟩
theorem cP.push{w w4:World}{B n c c4:Nat}{A A4:Option Addr}{RA:Nat→Option Addr}{RC:Nat→Nat}{R:Nat→List Int}{A':Option Addr}{m c':Nat}{Z:Nat}
 (h:cP w B A n c RA RC R) (hz:∀q,(di A=some q∨∃i,i<n∧di (RA i)=some q)→q<Z) (hn:ax w Z A' m c' (R n)) (hBZ:B≤Z)
 (ho:w4.ownsRow B 39 1 (.slice A4 (n+1) c4) (n+1) (((List.range n).map fun i=>Value.slice (RA i) (R i).length (RC i))++[.slice A' m c'])) (hg:w.grownBy w4 (Value.slice A n c).ownBlock)
 (hat:(Value.slice A4 (n+1) c4).ownBlock=(Value.slice A n c).ownBlock∨(Value.slice A4 (n+1) c4).ownBlock=some w.heap.size):
 cP w4 B A4 (n+1) c4 (fun i=>if i=n then A' else RA i) (fun i=>if i=n then c' else RC i) R:=by
 have hm:m=(R n).length:=(ax.len hn).symm
 subst hm
 rw[aL] at hg
 rw[aL,aL] at hat
 have hout:∀q,di A'=some q→Z≤q∧q<w.heap.size:=fun q hq=>hn.lt q (by rw[aL];exact hq)
 refine⟨?_,fun i hi=> ?_,fun i j hi hj uM q hq=> ?_,fun i hi q hq=> ?_⟩
 ·have e:((List.range (n+1)).map fun i=>Value.slice (if i=n then A' else RA i) (R i).length (if i=n then c' else RC i))=((List.range n).map fun i=>Value.slice (RA i) (R i).length (RC i))++[.slice A' (R n).length c']:=by
   rw[List.range_succ,List.map_append]
   congr 1
   ·apply List.map_congr_left
    intro i hi
    have:i≠n:=by simp at hi;omega
    simp[this]
   ·simp
  rw[e];exact ho
 ·by_cases e:i=n
  ·subst e
   simp only[if_true]
   exact(ax.other hn fun q hq=>by
    rw[aL] at hq
    exact hg.block q (hout q hq).2 (fun e'=>by have:=hz q (.inl e'.symm);have:=(hout q hq).1;omega)).base hBZ
  ·simp only[if_neg e]
   have hi':i<n:=by omega
   exact ax.other (h.inner i hi') fun q hq=>by
    have yJ:=hq
    rw[aL] at yJ
    exact hg.block q ((h.inner i hi').lt q hq).2 (fun e'=>h.osep i hi' q e'.symm yJ)
 ·by_cases ei:i=n
  ·subst ei
   have ej:j≠i:=fun e=>uM e.symm
   simp only[if_true] at hq
   simp only[if_neg ej]
   intro e'
   have:=hz q (.inr ⟨j,by omega,e'⟩)
   have:=(hout q hq).1
   omega
  ·simp only[if_neg ei] at hq
   by_cases ej:j=n
   ·subst ej
    simp only[if_true]
    intro e'
    have:=hz q (.inr ⟨i,by omega,hq⟩)
    have:=(hout q e').1
    omega
   ·simp only[if_neg ej]
    exact h.sep i j (by omega) (by omega) uM q hq
 ·by_cases ei:i=n
  ·subst ei
   simp only[if_true]
   intro e'
   have h1:=hout q e'
   rcases hat with h2 | h2
   ·rw[h2] at hq;have:=hz q (.inl hq);omega
   ·rw[h2] at hq;simp at hq;omega
  ·simp only[if_neg ei]
   intro e'
   have hi':i<n:=by omega
   rcases hat with h2 | h2
   ·rw[h2] at hq;exact h.osep i hi' q hq e'
   ·rw[h2] at hq;simp at hq;have:=(h.lt q (.inr ⟨i,hi',e'⟩)).2;omega
theorem cP.put{w w1:World}{B n c t g:Nat}{A':Option Addr}{m c':Nat}{l:List Int}{RA:Nat→Option Addr}{RC:Nat→Nat}{R:Nat→List Int}
 (h:cP w B (some ⟨g,0,none⟩) n c RA RC R) (ht:t<n) (hn:ax w1 B A' m c' l) (hg:w.grownBy w1 (di (RA t))) (hat:di A'=di (RA t)∨di A'=some w.heap.size):
 cP (w1.setCell ⟨g,t,none⟩ (.slice A' m c')) B (some ⟨g,0,none⟩) n c (fun i=>if i=t then A' else RA i) (fun i=>if i=t then c' else RC i) (fun i=>if i=t then l else R i):=by
 have hm:m=l.length:=(ax.len hn).symm
 subst hm
 have UW:=(h.lt g (.inl rfl)).2
 have NR:di A'≠some g:=fun e=>by
  rcases hat with h2 | h2
  ·exact h.osep t ht g rfl (by rw[←h2];exact e)
  ·rw[h2] at e;simp at e;omega
 refine⟨?_,fun i hi=> ?_,fun i j hi hj uM q hq=> ?_,fun i hi q hq=> ?_⟩
 ·have h1:w1.ownsRow B 39 1 (.slice (some ⟨g,0,none⟩) n c) n ((List.range n).map fun i=>Value.slice (RA i) (R i).length (RC i)):=
   ap h.outer fun q hq=>hg.block q (agB h.outer q hq).2 (fun e=>h.osep t ht q (by rw[←aL _ n c];exact hq) e.symm)
  have e:((List.range n).map fun i=>Value.slice (if i=t then A' else RA i) (if i=t then l else R i).length (if i=t then c' else RC i))=((List.range n).map fun i=>Value.slice (RA i) (R i).length (RC i)).set t (.slice A' l.length c'):=by
   apply List.ext_getElem
   ·simp
   ·intro i h1 h2
    simp only[List.getElem_map,List.getElem_range,List.getElem_set]
    by_cases e:i=t
    ·subst e;simp
    ·have:¬t=i:=fun h=>e h.symm
     simp[e,this]
  rw[e]
  exact(World.ownsRow.stored h1 t (.slice A' l.length c')).1
 ·by_cases e:i=t
  ·subst e
   simp only[if_true]
   exact ax.other hn fun q hq=>agr _ _ _ _ (fun e=>NR (by rw[aL] at hq;rw[hq,e]))
  ·simp only[if_neg e]
   refine ax.other (h.inner i hi) fun q hq=> ?_
   have yJ:=hq
   rw[aL] at yJ
   rw[agr _ _ _ _ (fun e'=>h.osep i hi g rfl (by rw[yJ,e']))]
   exact hg.block q ((h.inner i hi).lt q hq).2 (fun e'=>h.sep i t hi ht e q yJ e'.symm)
 ·by_cases ei:i=t
  ·subst ei
   have ej:j≠i:=fun e=>uM e.symm
   simp only[if_true] at hq
   simp only[if_neg ej]
   intro e'
   rcases hat with h2 | h2
   ·rw[h2] at hq;exact h.sep i j hi hj uM q hq e'
   ·rw[h2] at hq;simp at hq;have:=(h.lt q (.inr ⟨j,hj,e'⟩)).2;omega
  ·simp only[if_neg ei] at hq
   by_cases ej:j=t
   ·subst ej
    simp only[if_true]
    intro e'
    rcases hat with h2 | h2
    ·rw[h2] at e';exact h.sep i j hi hj ei q hq e'
    ·rw[h2] at e';simp at e';have:=(h.lt q (.inr ⟨i,hi,hq⟩)).2;omega
   ·simp only[if_neg ej]
    exact h.sep i j hi hj uM q hq
 ·have hq':g=q:=by simpa [di] using hq
  subst hq'
  by_cases ei:i=t
  ·subst ei;simp only[if_true];exact NR
  ·simp only[if_neg ei];exact h.osep i hi g rfl
def uB(n:Nat):Obj:=.cells (madeCells #[.slice none 0 0] (n*1)) 39
theorem VE(n:Nat)(hn:n≤65536)(w:World):(Instr.makeSlice 47 (.int .i64 (n:Int)) (.int .i64 (n:Int))).run Tryz.prog w= .ok (.slice (some ⟨w.heap.size,0,none⟩) n n) (w.alloc (uB n)):=by
 obtain⟨i0,cw,hz0,hz1,hz2⟩:=info_parts iV
 have h:=run_make (P:=Tryz.prog) w 47 39 i0 _ Tryz.underlying47 cw hz0 .i64 .i64 (n:Int) (n:Int) (by omega) (Int.le_refl _) (by rw[hz2];omega) (by omega)
 rw[hz1,Int.toNat_natCast] at h
 exact h
theorem zL(w:World)(n:Nat)(hn:n≤65536):cP (w.alloc (uB n)) w.heap.size (some ⟨w.heap.size,0,none⟩) n n (fun _=>none) (fun _=>0) (fun _=>[]):=by
 have h:=ago w (uB n)
 have e:uB n= .cells (List.replicate n (Value.slice none 0 0)).toArray 39 (0,0):=by
  unfold uB
  congr 1
  apply Array.toList_inj.1
  rw[toList_madeCells_one]
  simp
 have e2:((List.range n).map fun _=>Value.slice none 0 0)=List.replicate n (Value.slice none 0 0):=by rw[List.map_const',List.length_range]
 rw[e] at h
 refine⟨?_,fun i _=>ax.nil _ _,fun i j _ _ _ q hq=>(by cases hq),fun i _ q _ e=>(by cases e)⟩
 rw[e]
 simp only[List.length_nil]
 rw[e2]
 exact DU h (by simp) (agl _) (by simp only[maxLen];omega) (by simp) (agl _)
end
end Go.Proofs.YtbhfpehgacaidaaGreatDoor
