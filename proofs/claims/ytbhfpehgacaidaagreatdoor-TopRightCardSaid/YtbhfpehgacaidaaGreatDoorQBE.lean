/- A part of the proof of the given statement TopRight. Conditions: none. -/
import Derived.Test.YtbhfpehgacaidaaGreatDoorQBD
namespace Go.Proofs.YtbhfpehgacaidaaGreatDoor
set_option linter.unusedVariables false
set_option linter.unusedSimpArgs false
set_option maxRecDepth 100000
set_option maxHeartbeats 8000000
section
open Go.RowKit
def J1(gs:Nat)(wa:Int)(od:Nat)(wm rs:List Int)(w:World)(e:Ending)(w':World):Prop:=
 e= .returned (.int .i64 0)∧∃A c Ar cr,w'.heap[gs]? =some (.cells (nE (a7 wa od wm 0 [] rs) ⟨A,c,none,0,Ar,cr⟩) 171 (0,0))∧ax w' w.heap.size A wm.length c wm∧ax w' w.heap.size Ar rs.length cr rs∧Kp (fun q=>q=gs) w w'
theorem Dn(wa:Int)(od:Nat)(d rs:List Int)(n:Nat)(hn:n=d.length)(hod:od≤4)(Gi:od≤n)(n2:n≤4096)(hr:a8 d (od:Int)=(rs,0))(A:Option Addr)(c:Nat)(hc:n≤c)(gs:Nat)(w:World)(hg:w.heap[gs]? =some (.cells (nE (a7 wa od [] 0 [] []) oq) 171 (0,0)))(ha:ag .i64 w w.heap.size A d):
 Calls Tryz.prog 188 #[.pointer (some ⟨gs,0,none⟩),.slice A n c] w (J1 gs wa od (d.take od) rs w):=by
 have CU:=(agn.1 hg).1
 have fA:=j6 d (od:Int) (by omega) A c w ha
 rw[hr] at fA
 unfold rE at fA
 dsimp only at fA
 rw[←hn] at fA
 have adh:=aa fA
 have Ha:=aa ha
 have mQ:=fun W=>kQ (a7 wa od [] 0 [] []) oq (n:Int) (by show (2:Int)=0∨(2:Int)=1∨(2:Int)=2;omega) W
 rw[show vC (a7 wa od [] 0 [] []) (n:Int)=(od:Int)from rfl] at mQ
 have ny:=aa mQ
 have qP:=aa (fun W (h:ag .i64 W W.heap.size A (d.take od))=>tH (d.take od) od (by rw[List.length_take];omega) (by omega) A c W h)
 unfold tB at qP
 have rN:(d.take od).length=od:=by rw[List.length_take];omega
 have Hdl:=aa rN
 rw[rN] at qP
 unfold io at ny
 unfold J1
 have qQ:nE (a7 wa od [] 0 [] []) oq=#[.int .i64 2,.int .i64 wa,.int .i64 (od:Int),.int .i64 0,.int .i64 0,.slice none 0 0,.int .i64 0,.int .i64 0,.int .i64 0,.slice none 0 0,.slice none 0 0,.int .i64 0,.slice none 0 0,.slice none 0 0]:=rfl
 rw[qQ] at hg ny
 have Hg:=aa hg
 have Hgs:=aa CU
 obtain⟨⟨k0,k1,k2,k3,k4,k5,k6,k7,k8,k9,eu,eP,eO,eN⟩,z0,z1,z2,z3,z4,z5,z6,z7,z8,z9,z10,z11,z12,z13⟩:=ai hg
 have c1:(od:Int)≤(c:Int):=by omega
 have c0:(0:Int)≤(od:Int):=by omega
 clear hn hr fA ha mQ rN qQ hg CU
 go_enter Tryz.func188,Tryz.ntmps188
 go_wp2_with (first
  |(go_at_call 218;(with_reducible refine adh.out.mono ?_);rintro e w1 ⟨Ar,cr,rfl,Ae,b1⟩;have Hor:=aa Ae;have PQ:=aa ((b1.block _ Hgs.out).trans Hg.out);obtain⟨⟨k0,k1,k2,k3,k4,k5,k6,k7,k8,k9,eu,eP,eO,eN⟩,z0,z1,z2,z3,z4,z5,z6,z7,z8,z9,z10,z11,z12,z13⟩:=ai PQ.out)
  |(go_at_call 199;(with_reducible refine(ny.out w1).mono ?_);rintro e w2 ⟨rfl,b2⟩)
  |(go_at_call 179;(with_reducible refine(qP.out w2 ((nO (Ha.out.below (af b1 b2))).more (af b1 b2).size)).mono ?_);rintro e w3 ⟨A3,c3,rfl,bF,b3⟩;have oT:=af b2 b3;have Hg3:=aa ((oT.block _ (agz Hgs.out b1.size)).trans PQ.out);obtain⟨⟨k0,k1,k2,k3,k4,k5,k6,k7,k8,k9,eu,eP,eO,eN⟩,z0,z1,z2,z3,z4,z5,z6,z7,z8,z9,z10,z11,z12,z13⟩:=ai Hg3.out))
 go_ret
 have mR:∀q,w.heap.size≤q→((w3.setCell ⟨gs,10,none⟩ (.slice A3 od c3)).setCell ⟨gs,13,none⟩ (.slice Ar rs.length cr)).heap[q]? =w3.heap[q]? :=fun q hq=>by
  have:=Hgs.out
  rw[agr _ _ _ _ (show q≠gs by omega),agr _ _ _ _ (show q≠gs by omega)]
 have hs1:(w3.setCell ⟨gs,10,none⟩ (.slice A3 od c3)).heap[gs]? =_:=(agA w3 gs 10 _ _ _ Hg3.out).trans rfl
 have hs2:((w3.setCell ⟨gs,10,none⟩ (.slice A3 od c3)).setCell ⟨gs,13,none⟩ (.slice Ar rs.length cr)).heap[gs]? =_:=(agA _ gs 13 _ _ _ hs1).trans rfl
 have ER:ax w3 w.heap.size A3 od c3 (d.take od):=aO bF (af b1 b2).size
 have SX:ax w3 w.heap.size Ar rs.length cr rs:=aD Hor.out oT (agl _)
 refine⟨rfl,A3,c3,Ar,cr, ?_, ?_, ?_, ?_⟩
 ·rw[hs2]
  have e:nE (a7 wa od (d.take od) 0 [] rs) ⟨A3,c3,none,0,Ar,cr⟩=#[.int .i64 2,.int .i64 wa,.int .i64 (od:Int),.int .i64 0,.int .i64 0,.slice none 0 0,.int .i64 0,.int .i64 0,.int .i64 0,.slice none 0 0,.slice A3 (d.take od).length c3,.int .i64 0,.slice none 0 0,.slice Ar rs.length cr]:=rfl
  rw[e,Hdl.out]
  rfl
 ·rw[Hdl.out]
  exact ap ER fun q hq=>mR q (agB ER q hq).1
 ·exact ap SX fun q hq=>mR q (agB SX q hq).1
 ·exact((Kp.of_below (S:=fun q=>q=gs) (af b1 oT)).set_ (p:=⟨gs,10,none⟩) (show gs=gs from rfl) _).set_ (p:=⟨gs,13,none⟩) (show gs=gs from rfl) _
theorem gW{fn:Func}{p q:Tmp}(h:fn.results=#[.cell p 171,.tmp q])(tmps:Array Value)(w:World){g:Nat}(cs:Array Value)(hp:tmps.getD p undef= .pointer (some ⟨g,0,none⟩))
 (hg:w.heap[g]? =some (.cells cs 171 (0,0))) (hs:cs.size=14):(results fn tmps).run Tryz.prog w= .ok (.tuple #[.agg cs,tmps.getD q undef]) w:=by
 rw[results_cell_tmp h,hp]
 have:=run_loadVar_row (P:=Tryz.prog) w g 171 171 cs (0,0) _ hg Tryz.underlying171 rfl (by rw[mB,hs])
 simp[asAddr,this]
def XP(s:Sb)(w:World)(e:Ending)(w':World):Prop:=∃m,e= .returned (.tuple #[io s m,.int .i64 0])∧oC w' w'.heap.size s m∧Below w.heap.size w w'∧∀q,aj m.A=some q∨aj m.Ak=some q∨aj m.Ar=some q→w.heap.size≤q
theorem nK{w:World}{B n c q:Nat}{A:Option Addr}{l:List Int}(h:ax w B A n c l)(hq:aj A=some q):q<w.heap.size:=(agB h q (by rw[ae];exact hq)).2
theorem qB{w:World}{B n c q:Nat}{A:Option Addr}{l:List Int}(h:ax w B A n c l)(hq:aj A=some q):B≤q:=(agB h q (by rw[ae];exact hq)).1
theorem je{w:World}{B n c:Nat}{A:Option Addr}{l:List Int}(h:ax w B A n c l):n≤c∧c≤9223372036854775807:=by
 have:=bJ h
 unfold maxLen at this
 omega
structure PK (w W:World) (gr gc:Nat) (cs:Array Value):Prop where
 r:W.heap[gr]? =some (.cells cE 171 (0,0))
 c:W.heap[gc]? =some (.cells cs 171 (0,0))
 b:Below w.heap.size w W
 lo:w.heap.size≤gr
 ne:gr<gc
theorem PK.lt{w W:World}{gr gc:Nat}{cs:Array Value}(h:PK w W gr gc cs):gc<W.heap.size:=(agn.1 h.c).1
theorem PK.below{w W W':World}{gr gc:Nat}{cs:Array Value}(h:PK w W gr gc cs)(hb:Below W.heap.size W W'):PK w W' gr gc cs:=by
 have:=h.lt
 have:=h.ne
 exact⟨(hb.block gr (by omega)).trans h.r,(hb.block gc h.lt).trans h.c,af h.b hb,h.lo,h.ne⟩
theorem PK.set{w W:World}{gr gc:Nat}{cs cs':Array Value}(h:PK w W gr gc cs)(j:Nat)(v:Value)(e:cs.setIfInBounds j v=cs'):PK w (W.setCell ⟨gc,j,none⟩ v) gr gc cs':=by
 have:=h.lo
 have h4:=h.ne
 exact⟨(agr _ _ _ _ (show gr≠gc by omega)).trans h.r,by rw[agA _ gc j _ _ _ h.c,e],h.b.setCell (p:=⟨gc,j,none⟩) (show w.heap.size≤gc by omega) v,h.lo,h.ne⟩
theorem IQ(l d:List Int)(wa:Int)(n:Nat)(hn:n=l.length)(n1:1≤n)(n2:n≤1000)(hl:ah l=true)(Cf:mz (pF l)=wa)(hd:oP l wa=(d,0))(s:Sb)(m:Ad)(A:Option Addr)(c:Nat)(hc:n≤c)(w:World)(hT:C0 w)(ha:ag .i64 w w.heap.size A l):
 Calls Tryz.prog 139 #[.int .i64 1,.slice A n c,io s m] w (XP (aK wa d) w):=by
 obtain⟨wx,e0,e1,e2,e3⟩:=cW w s m
 have E0:=aa e0
 have E1:=aa e1
 have E2:=aa e2
 have E4:Hid (wx.heap.size=w.heap.size+1):=aa (by rw[e0];simp)
 have bQ:=aa (fun W=>nV 1 (by omega) s m n W)
 rw[show Cp 1 s.od n=true from rfl] at bQ
 have hch:=aa (fun W=>lp 1 (by omega) s m W)
 have Ex:=aa (fun W (h:Below w.heap.size w W)=>by
  have:=ft l (by omega) A w.heap.size c W (ha.below h)
  rw[hl,←hn] at this;exact this)
 have RJ:=aa (fun W (h:Below w.heap.size w W)=>by
  have:=my l n hn (by omega) A w.heap.size c W (hT.below h) (ha.below h)
  rw[Cf] at this;exact this)
 have hdn:=aa (fun W (h:Below w.heap.size w W)=>by
  have:=sW l n hn n2 wa A c W ((ha.below h).more h.size)
  rw[hd] at this;unfold jt at this;exact this)
 have hcv:io (PJ 1 s.od) oq= .agg #[.int .i64 1,.int .i64 0,.int .i64 0,.int .i64 0,.int .i64 0,.slice none 0 0,.int .i64 0,.int .i64 0,.int .i64 0,.slice none 0 0,.slice none 0 0,.int .i64 0,.slice none 0 0,.slice none 0 0]:=rfl
 rw[hcv] at hch
 have c1:¬(n:Int)<1:=by omega
 have c2:¬4096<(n:Int):=by omega
 unfold io at bQ hch ⊢
 unfold nE at E0 E1 bQ hch ⊢
 obtain⟨⟨k0,k1,k2,k3,k4,k5,k6,k7,k8,k9,eu,eP,eO,eN⟩,_⟩:=ai E1.out
 clear e0 e1 e2 e3 hn n1 n2 hl Cf hd ha hT hcv
 go_enter Tryz.func139,Tryz.ntmps139
 go_upto_region 1 with fail
 rw[←E0.out]
 have hr:=ago wx (.cells cE 171)
 have br:=ak (ac wx) (.cells cE 171)
 have hr3:(wx.alloc (.cells cE 171)).heap.size=wx.heap.size+1:=by simp
 unfold cE at hr br hr3
 obtain⟨wy,mi⟩:∃wy,wy=wx.alloc (.cells cE 171):=⟨_,rfl⟩
 unfold cE at mi
 rw[←mi] at hr br hr3 ⊢
 rw[E4.out] at hr hr3
 obtain⟨gr,hgr⟩:∃gr,gr=w.heap.size+1:=⟨_,rfl⟩
 rw[←hgr] at hr hr3 ⊢
 have HR:=aa hr
 have BY:=aa (E2.out.trans (br.mono (by rw[E4.out];omega)))
 have rJ:=aa hgr
 have HS:=aa hr3
 have Dc:Hid (∀W,Below wy.heap.size wy W→W.heap[w.heap.size]? =wx.heap[w.heap.size]?):=aa (fun W h=>(h.block _ (by omega)).trans (br.block _ (by rw[E4.out];omega)))
 obtain⟨⟨k0,k1,k2,k3,k4,k5,k6,k7,k8,k9,eu,eP,eO,eN⟩,_⟩:=ai ((Dc.out wy (ac wy)).trans E1.out)
 clear hr br hr3 mi hgr
 go_upto_region 7 with (first
  |(go_at_call 186;(with_reducible refine(bQ.out wy).mono ?_);rintro e w1 ⟨rfl,b1⟩;have TM:=af BY.out b1;obtain⟨⟨k0,k1,k2,k3,k4,k5,k6,k7,k8,k9,eu,eP,eO,eN⟩,_⟩:=ai ((Dc.out w1 b1).trans E1.out))
  |(go_at_call 135;(with_reducible refine(Ex.out w1 TM).mono ?_);rintro e w2 ⟨rfl,rfl⟩)
  |(go_at_call 187;(with_reducible refine(hch.out _).mono ?_);rintro e w3 ⟨rfl,b3⟩))
 have oT:=af TM b3
 have hv:=ago w3 (.cells #[.int .i64 1,.int .i64 0,.int .i64 0,.int .i64 0,.int .i64 0,.slice none 0 0,.int .i64 0,.int .i64 0,.int .i64 0,.slice none 0 0,.slice none 0 0,.int .i64 0,.slice none 0 0,.slice none 0 0] 171)
 have hM:PK w (w3.alloc (.cells #[.int .i64 1,.int .i64 0,.int .i64 0,.int .i64 0,.int .i64 0,.slice none 0 0,.int .i64 0,.int .i64 0,.int .i64 0,.slice none 0 0,.slice none 0 0,.int .i64 0,.slice none 0 0,.slice none 0 0] 171)) gr w3.heap.size #[.int .i64 1,.int .i64 0,.int .i64 0,.int .i64 0,.int .i64 0,.slice none 0 0,.int .i64 0,.int .i64 0,.int .i64 0,.slice none 0 0,.slice none 0 0,.int .i64 0,.slice none 0 0,.slice none 0 0]:=by
  have q1:=(agn.1 HR.out).1
  have q2:=b1.size
  have q3:=b3.size
  exact⟨(ags _ _ _ (by omega)).trans ((b3.block gr (by omega)).trans ((b1.block gr q1).trans HR.out)),hv,ak oT _,by have:=rJ.out;omega,by omega⟩
 obtain⟨wv,tY⟩:∃wv,wv=w3.alloc (.cells #[.int .i64 1,.int .i64 0,.int .i64 0,.int .i64 0,.int .i64 0,.slice none 0 0,.int .i64 0,.int .i64 0,.int .i64 0,.slice none 0 0,.slice none 0 0,.int .i64 0,.slice none 0 0,.slice none 0 0] 171):=⟨_,rfl⟩
 rw[←tY] at hM ⊢
 obtain⟨gc,mn⟩:∃gc,gc=w3.heap.size:=⟨_,rfl⟩
 rw[←mn] at hM ⊢
 have HM:=aa hM
 obtain⟨⟨k0,k1,k2,k3,k4,k5,k6,k7,k8,k9,eu,eP,eO,eN⟩,z0,z1,z2,z3,z4,z5,z6,z7,z8,z9,z10,z11,z12,z13⟩:=ai hM.c
 clear hM hv tY mn oT b3 b1 TM
 go_upto_region 17 with (go_at_call 137;(with_reducible refine(RJ.out wv HM.out.b).mono ?_);rintro e w4 ⟨rfl,rfl⟩)
 have Xr:=HM.out.set (cs':=#[.int .i64 1,.int .i64 wa,.int .i64 0,.int .i64 0,.int .i64 0,.slice none 0 0,.int .i64 0,.int .i64 0,.int .i64 0,.slice none 0 0,.slice none 0 0,.int .i64 0,.slice none 0 0,.slice none 0 0]) 1 (.int .i64 wa) rfl
 obtain⟨w5,qb⟩:∃w5,w5=w4.setCell ⟨gc,1,none⟩ (.int .i64 wa):=⟨_,rfl⟩
 rw[←qb] at Xr ⊢
 have UA:=aa Xr
 obtain⟨⟨k0,k1,k2,k3,k4,k5,k6,k7,k8,k9,eu,eP,eO,eN⟩,_⟩:=ai Xr.c
 clear Xr qb z0 z1 z2 z3 z4 z5 z6 z7 z8 z9 z10 z11 z12 z13
 go_upto_region 22 with (go_at_call 136;(with_reducible refine(hdn.out w5 UA.out.b).mono ?_);rintro e w6 ⟨A6,c6,rfl,dC,b6⟩;have GA:=aa dC;have HM6:=aa (UA.out.below b6);obtain⟨_,z0,z1,z2,z3,z4,z5,z6,z7,z8,z9,z10,z11,z12,z13⟩:=ai HM6.out.c)
 have YV:=HM6.out.set (cs':=#[.int .i64 1,.int .i64 wa,.int .i64 0,.int .i64 0,.int .i64 0,.slice none 0 0,.int .i64 0,.int .i64 0,.int .i64 0,.slice none 0 0,.slice A6 d.length c6,.int .i64 0,.slice none 0 0,.slice none 0 0]) 10 (.slice A6 d.length c6) rfl
 have NZ:ax (w6.setCell ⟨gc,10,none⟩ (.slice A6 d.length c6)) w5.heap.size A6 d.length c6 d:=ap GA.out fun q hq=>agr _ _ _ _ (by
  have:=(agB GA.out q hq).1
  have:=UA.out.lt
  show q≠gc;omega)
 obtain⟨w7,Cg⟩:∃w7,w7=w6.setCell ⟨gc,10,none⟩ (.slice A6 d.length c6):=⟨_,rfl⟩
 rw[←Cg] at YV NZ ⊢
 have Vi:=aa YV
 have X7:=aa NZ
 obtain⟨⟨k0,k1,k2,k3,k4,k5,k6,k7,k8,k9,eu,eP,eO,eN⟩,_⟩:=ai YV.c
 have Ch:=YV.r
 unfold cE at Ch
 obtain⟨⟨r0,r1,r2,r3,r4,r5,r6,r7,r8,r9,r10,r11,r12,r13⟩,f0,f1,f2,f3,f4,f5,f6,f7,f8,f9,f10,f11,Lg,f13⟩:=ai Ch
 have Vh:=aa Ch
 clear YV NZ Cg Ch z0 z1 z2 z3 z4 z5 z6 z7 z8 z9 z10 z11 z12 z13 dC b6
 go_wp2_with fail
 refine bodyPost_ret (gW rfl _ _ #[.int .i64 1,.int .i64 wa,.int .i64 0,.int .i64 0,.int .i64 0,.slice none 0 0,.int .i64 0,.int .i64 0,.int .i64 0,.slice none 0 0,.slice A6 d.length c6,.int .i64 0,.slice none 0 0,.slice none 0 0] rfl (dI Vh.out _ _ _ _ _ _ _ _ _ _ _ _ _ _) rfl) rfl ?_
 have NN:=Vi.out.lo
 have hne:=Vi.out.ne
 have Xp:∀x0 x1 x2 x3 x4 x5 x6 x7 x8 x9 p9 tJ uy uU:Value,ax (fu w7 gr x0 x1 x2 x3 x4 x5 x6 x7 x8 x9 p9 tJ uy uU) w5.heap.size A6 d.length c6 d:=fun _ _ _ _ _ _ _ _ _ _ _ _ _ _=>ap X7.out fun q hq=>dZ (by
  have:=(agB X7.out q hq).1
  have:=UA.out.lt
  omega) _ _ _ _ _ _ _ _ _ _ _ _ _ _
 have xH:=Xp (.int .i64 1) (.int .i64 wa) (.int .i64 0) (.int .i64 0) (.int .i64 0) (.slice none 0 0) (.int .i64 0) (.int .i64 0) (.int .i64 0) (.slice none 0 0) (.slice A6 d.length c6) (.int .i64 0) (.slice none 0 0) (.slice none 0 0)
 exact⟨⟨A6,c6,none,0,none,0⟩,rfl,⟨bR xH,ag.nil,ag.nil,je xH,⟨agl _,agw _⟩,⟨agl _,agw _⟩,fun q hq=>nK xH hq,fun q hq=>(by cases hq),fun q hq=>(by cases hq)⟩,cL Vi.out.b NN _ _ _ _ _ _ _ _ _ _ _ _ _ _,fun q hq=>by
  rcases hq with hq | hq | hq
  ·exact agm UA.out.b.size (qB xH hq)
  ·cases hq
  ·cases hq⟩
theorem IR(l d rs:List Int)(wa:Int)(od:Nat)(n:Nat)(hn:n=l.length)(n1:1≤n)(n2:n≤1000)(hl:ah l=true)(Cf:mz (pF l)=wa)(hd:oP l wa=(d,0))(aaA:d.length=n)(bE:od≤4)(Gi:od≤n)(NF:a8 d (od:Int)=(rs,0))(EC:ah rs=true)(xo:rs.length=n-od)(po:Int)(ks:List Int)(uO:(fq n od rs 7).1=(po,ks))(s:Sb)(EB:s.od=(od:Int))(m:Ad)(A:Option Addr)(c:Nat)(hc:n≤c)(w:World)(hT:C0 w)(ha:ag .i64 w w.heap.size A l):
 Calls Tryz.prog 139 #[.int .i64 2,.slice A n c,io s m] w (XP (a7 wa od (d.take od) po ks rs) w):=by
 obtain⟨wx,e0,e1,e2,e3⟩:=cW w s m
 have E0:=aa e0
 have E1:=aa e1
 have E2:=aa e2
 have E4:Hid (wx.heap.size=w.heap.size+1):=aa (by rw[e0];simp)
 have bQ:=aa (fun W=>nV 2 (by omega) s m n W)
 rw[show Cp 2 s.od n=true from by rw[EB];show (if (2:Int)=2 then decide (0≤(od:Int)∧(od:Int)≤4∧(od:Int)≤(n:Int))else true)=true;rw[if_pos rfl];exact decide_eq_true (by omega)] at bQ
 have hch:=aa (fun W=>lp 2 (by omega) s m W)
 have Ex:=aa (fun W (h:Below w.heap.size w W)=>by
  have:=ft l (by omega) A w.heap.size c W (ha.below h)
  rw[hl,←hn] at this;exact this)
 have RJ:=aa (fun W (h:Below w.heap.size w W)=>by
  have:=my l n hn (by omega) A w.heap.size c W (hT.below h) (ha.below h)
  rw[Cf] at this;exact this)
 have hdn:=aa (fun W (h:Below w.heap.size w W)=>by
  have:=sW l n hn n2 wa A c W ((ha.below h).more h.size)
  rw[hd] at this;unfold jt at this;exact this)
 have hcv:io (PJ 2 s.od) oq= .agg #[.int .i64 2,.int .i64 0,.int .i64 (od:Int),.int .i64 0,.int .i64 0,.slice none 0 0,.int .i64 0,.int .i64 0,.int .i64 0,.slice none 0 0,.slice none 0 0,.int .i64 0,.slice none 0 0,.slice none 0 0]:=by rw[EB];rfl
 rw[hcv] at hch
 have c1:¬(n:Int)<1:=by omega
 have c2:¬4096<(n:Int):=by omega
 unfold io at bQ hch ⊢
 unfold nE at E0 E1 bQ hch ⊢
 obtain⟨⟨k0,k1,k2,k3,k4,k5,k6,k7,k8,k9,eu,eP,eO,eN⟩,_⟩:=ai E1.out
 have ab9:Hid (∀(A:Option Addr) (c:Nat) (hc:n≤c) (gs:Nat) (W:World) (hg:W.heap[gs]? =some (.cells #[.int .i64 2,.int .i64 wa,.int .i64 (od:Int),.int .i64 0,.int .i64 0,.slice none 0 0,.int .i64 0,.int .i64 0,.int .i64 0,.slice none 0 0,.slice none 0 0,.int .i64 0,.slice none 0 0,.slice none 0 0] 171 (0,0))) (ha:ag .i64 W W.heap.size A d),Calls Tryz.prog 188 #[.pointer (some ⟨gs,0,none⟩),.slice A n c] W (J1 gs wa od (d.take od) rs W)):=aa (fun A c hc gs W hg ha=>Dn wa od d rs n aaA.symm bE Gi (by omega) NF A c hc gs W hg ha)
 have UQ:=aa (fun (A2:Option Addr) (B c2:Nat) hc2 hc3 (W:World) hB ha2=>by
  have:=MA n od 6 6 rfl (by omega) n1 (by omega) Gi rs EC xo A2 B c2 hc2 hc3 W hB ha2
  unfold PtQ at this;rw[uO] at this;exact this)
 have Ey:(d.take od).length=od:=by rw[List.length_take];omega
 obtain⟨wm,WF⟩:∃wm,wm=d.take od:=⟨_,rfl⟩
 rw[←WF] at ab9 Ey ⊢
 have Hwl:=aa Ey
 have Hdn:=aa aaA
 clear e0 e1 e2 e3 hn n1 n2 hl Cf hd ha hT hcv aaA bE Gi NF EC xo uO EB Ey WF
 go_enter Tryz.func139,Tryz.ntmps139
 go_upto_region 1 with fail
 rw[←E0.out]
 have hr:=ago wx (.cells cE 171)
 have br:=ak (ac wx) (.cells cE 171)
 have hr3:(wx.alloc (.cells cE 171)).heap.size=wx.heap.size+1:=by simp
 unfold cE at hr br hr3
 obtain⟨wy,mi⟩:∃wy,wy=wx.alloc (.cells cE 171):=⟨_,rfl⟩
 unfold cE at mi
 rw[←mi] at hr br hr3 ⊢
 rw[E4.out] at hr hr3
 obtain⟨gr,hgr⟩:∃gr,gr=w.heap.size+1:=⟨_,rfl⟩
 rw[←hgr] at hr hr3 ⊢
 have HR:=aa hr
 have BY:=aa (E2.out.trans (br.mono (by rw[E4.out];omega)))
 have rJ:=aa hgr
 have HS:=aa hr3
 have Dc:Hid (∀W,Below wy.heap.size wy W→W.heap[w.heap.size]? =wx.heap[w.heap.size]?):=aa (fun W h=>(h.block _ (by omega)).trans (br.block _ (by rw[E4.out];omega)))
 obtain⟨⟨k0,k1,k2,k3,k4,k5,k6,k7,k8,k9,eu,eP,eO,eN⟩,_⟩:=ai ((Dc.out wy (ac wy)).trans E1.out)
 clear hr br hr3 mi hgr
 go_upto_region 7 with (first
  |(go_at_call 186;(with_reducible refine(bQ.out wy).mono ?_);rintro e w1 ⟨rfl,b1⟩;have TM:=af BY.out b1;obtain⟨⟨k0,k1,k2,k3,k4,k5,k6,k7,k8,k9,eu,eP,eO,eN⟩,_⟩:=ai ((Dc.out w1 b1).trans E1.out))
  |(go_at_call 135;(with_reducible refine(Ex.out w1 TM).mono ?_);rintro e w2 ⟨rfl,rfl⟩)
  |(go_at_call 187;(with_reducible refine(hch.out _).mono ?_);rintro e w3 ⟨rfl,b3⟩))
 have oT:=af TM b3
 have hv:=ago w3 (.cells #[.int .i64 2,.int .i64 0,.int .i64 (od:Int),.int .i64 0,.int .i64 0,.slice none 0 0,.int .i64 0,.int .i64 0,.int .i64 0,.slice none 0 0,.slice none 0 0,.int .i64 0,.slice none 0 0,.slice none 0 0] 171)
 have hM:PK w (w3.alloc (.cells #[.int .i64 2,.int .i64 0,.int .i64 (od:Int),.int .i64 0,.int .i64 0,.slice none 0 0,.int .i64 0,.int .i64 0,.int .i64 0,.slice none 0 0,.slice none 0 0,.int .i64 0,.slice none 0 0,.slice none 0 0] 171)) gr w3.heap.size #[.int .i64 2,.int .i64 0,.int .i64 (od:Int),.int .i64 0,.int .i64 0,.slice none 0 0,.int .i64 0,.int .i64 0,.int .i64 0,.slice none 0 0,.slice none 0 0,.int .i64 0,.slice none 0 0,.slice none 0 0]:=by
  have q1:=(agn.1 HR.out).1
  have q2:=b1.size
  have q3:=b3.size
  exact⟨(ags _ _ _ (by omega)).trans ((b3.block gr (by omega)).trans ((b1.block gr q1).trans HR.out)),hv,ak oT _,by have:=rJ.out;omega,by omega⟩
 obtain⟨wv,tY⟩:∃wv,wv=w3.alloc (.cells #[.int .i64 2,.int .i64 0,.int .i64 (od:Int),.int .i64 0,.int .i64 0,.slice none 0 0,.int .i64 0,.int .i64 0,.int .i64 0,.slice none 0 0,.slice none 0 0,.int .i64 0,.slice none 0 0,.slice none 0 0] 171):=⟨_,rfl⟩
 rw[←tY] at hM ⊢
 obtain⟨gc,mn⟩:∃gc,gc=w3.heap.size:=⟨_,rfl⟩
 rw[←mn] at hM ⊢
 have HM:=aa hM
 obtain⟨⟨k0,k1,k2,k3,k4,k5,k6,k7,k8,k9,eu,eP,eO,eN⟩,z0,z1,z2,z3,z4,z5,z6,z7,z8,z9,z10,z11,z12,z13⟩:=ai hM.c
 clear hM hv tY mn oT b3 b1 TM
 go_upto_region 17 with (go_at_call 137;(with_reducible refine(RJ.out wv HM.out.b).mono ?_);rintro e w4 ⟨rfl,rfl⟩)
 have Xr:=HM.out.set (cs':=#[.int .i64 2,.int .i64 wa,.int .i64 (od:Int),.int .i64 0,.int .i64 0,.slice none 0 0,.int .i64 0,.int .i64 0,.int .i64 0,.slice none 0 0,.slice none 0 0,.int .i64 0,.slice none 0 0,.slice none 0 0]) 1 (.int .i64 wa) rfl
 obtain⟨w5,qb⟩:∃w5,w5=w4.setCell ⟨gc,1,none⟩ (.int .i64 wa):=⟨_,rfl⟩
 rw[←qb] at Xr ⊢
 have UA:=aa Xr
 obtain⟨⟨k0,k1,k2,k3,k4,k5,k6,k7,k8,k9,eu,eP,eO,eN⟩,_⟩:=ai Xr.c
 clear Xr qb z0 z1 z2 z3 z4 z5 z6 z7 z8 z9 z10 z11 z12 z13
 go_upto_region 25 with (first
  |(go_at_call 136;(with_reducible refine(hdn.out w5 UA.out.b).mono ?_);rintro e w6 ⟨A6,c6,rfl,dC,b6⟩;have GA:=aa dC;have HM6:=aa (UA.out.below b6);rw[Hdn.out] at dC ⊢))
 (with_reducible refine(ab9.out A6 c6 (je dC).1 gc w6 HM6.out.c (ax.ints GA.out)).mono ?_);rintro e w7 ⟨rfl,A7,c7,Ar,cr,NW,NZ,SX,Gn⟩
 go_upto_region 25 with fail
 have aaH:w7.heap[gc]? =some (.cells #[.int .i64 2,.int .i64 wa,.int .i64 (od:Int),.int .i64 0,.int .i64 0,.slice none 0 0,.int .i64 0,.int .i64 0,.int .i64 0,.slice none 0 0,.slice A7 od c7,.int .i64 0,.slice none 0 0,.slice Ar rs.length cr] 171 (0,0)):=by
  rw[NW]
  show some (Obj.cells #[.int .i64 2,.int .i64 wa,.int .i64 (od:Int),.int .i64 0,.int .i64 0,.slice none 0 0,.int .i64 0,.int .i64 0,.int .i64 0,.slice none 0 0,.slice A7 wm.length c7,.int .i64 0,.slice none 0 0,.slice Ar rs.length cr] 171 (0,0))=_
  rw[Hwl.out]
 rw[Hwl.out] at NZ
 have YV:PK w w7 gr gc #[.int .i64 2,.int .i64 wa,.int .i64 (od:Int),.int .i64 0,.int .i64 0,.slice none 0 0,.int .i64 0,.int .i64 0,.int .i64 0,.slice none 0 0,.slice A7 od c7,.int .i64 0,.slice none 0 0,.slice Ar rs.length cr]:=by
  have h1:=HM6.out
  have h2:=h1.lt
  have h3:=h1.ne
  have h4:=h1.lo
  exact⟨(Gn.block gr (by omega) (by omega)).trans h1.r,aaH,h1.b.trans (Gn.below (fun q hq=>by omega) h1.b.size),h4,h3⟩
 have Vi:=aa YV
 have X7:=aa NZ
 have HOr:=aa SX
 obtain⟨⟨k0,k1,k2,k3,k4,k5,k6,k7,k8,k9,eu,eP,eO,eN⟩,z0,z1,z2,z3,z4,z5,z6,z7,z8,z9,z10,z11,z12,z13⟩:=ai aaH
 have Hs6:Hid (w5.heap.size≤w6.heap.size):=aa b6.size
 have Hs7:Hid (w5.heap.size≤w7.heap.size):=aa (agm b6.size Gn.size)
 clear YV aaH NW NZ SX Gn dC b6
 go_upto_region 28 with (go_at_call 189;(with_reducible refine(UQ.out Ar w7.heap.size cr (je HOr.out).1 (je HOr.out).2 w7 (agl _) (ax.ints HOr.out)).mono ?_);rintro e w8 ⟨Ak,ck,rfl,dU,b8⟩;have HM8:=aa (Vi.out.below b8);obtain⟨⟨k0,k1,k2,k3,k4,k5,k6,k7,k8,k9,eu,eP,eO,eN⟩,z0,z1,z2,z3,z4,z5,z6,z7,z8,z9,z10,z11,z12,z13⟩:=ai HM8.out.c)
 have aan:ax w8 w7.heap.size Ak ks.length ck ks:=dU
 have hM9:=(HM8.out.set (cs':=#[.int .i64 2,.int .i64 wa,.int .i64 (od:Int),.int .i64 0,.int .i64 0,.slice none 0 0,.int .i64 0,.int .i64 0,.int .i64 0,.slice none 0 0,.slice A7 od c7,.int .i64 po,.slice none 0 0,.slice Ar rs.length cr]) 11 (.int .i64 po) rfl).set (cs':=#[.int .i64 2,.int .i64 wa,.int .i64 (od:Int),.int .i64 0,.int .i64 0,.slice none 0 0,.int .i64 0,.int .i64 0,.int .i64 0,.slice none 0 0,.slice A7 od c7,.int .i64 po,.slice Ak ks.length ck,.slice Ar rs.length cr]) 12 (.slice Ak ks.length ck) rfl
 have mR:∀q,w5.heap.size≤q→((w8.setCell ⟨gc,11,none⟩ (.int .i64 po)).setCell ⟨gc,12,none⟩ (.slice Ak ks.length ck)).heap[q]? =w8.heap[q]? :=fun q hq=>by
  have:=UA.out.lt
  rw[agr _ _ _ _ (show q≠gc by omega),agr _ _ _ _ (show q≠gc by omega)]
 have b7s:w5.heap.size≤w7.heap.size:=Hs7.out
 have xH:ax ((w8.setCell ⟨gc,11,none⟩ (.int .i64 po)).setCell ⟨gc,12,none⟩ (.slice Ak ks.length ck)) w5.heap.size A7 od c7 wm:=ap (aO (aD X7.out b8 (agl _)) Hs6.out) fun q hq=>mR q (agB (aO (aD X7.out b8 (agl _)) Hs6.out) q hq).1
 have hR9:ax ((w8.setCell ⟨gc,11,none⟩ (.int .i64 po)).setCell ⟨gc,12,none⟩ (.slice Ak ks.length ck)) w5.heap.size Ar rs.length cr rs:=ap (aO (aD HOr.out b8 (agl _)) Hs6.out) fun q hq=>mR q (agB (aO (aD HOr.out b8 (agl _)) Hs6.out) q hq).1
 have hK9:ax ((w8.setCell ⟨gc,11,none⟩ (.int .i64 po)).setCell ⟨gc,12,none⟩ (.slice Ak ks.length ck)) w5.heap.size Ak ks.length ck ks:=ap (aO aan b7s) fun q hq=>mR q (agB (aO aan b7s) q hq).1
 obtain⟨w9,Yt⟩:∃w9,w9=(w8.setCell ⟨gc,11,none⟩ (.int .i64 po)).setCell ⟨gc,12,none⟩ (.slice Ak ks.length ck):=⟨_,rfl⟩
 rw[←Yt] at hM9 xH hR9 hK9 ⊢
 have HM9:=aa hM9
 have Da:=aa xH
 have FZ:=aa hR9
 have LA:=aa hK9
 obtain⟨⟨k0,k1,k2,k3,k4,k5,k6,k7,k8,k9,eu,eP,eO,eN⟩,_⟩:=ai hM9.c
 have yI:=hM9.r
 unfold cE at yI
 obtain⟨⟨r0,r1,r2,r3,r4,r5,r6,r7,r8,r9,r10,r11,r12,r13⟩,f0,f1,f2,f3,f4,f5,f6,f7,f8,f9,f10,f11,Lg,f13⟩:=ai yI
 have Pf:=aa yI
 clear hM9 xH hR9 hK9 Yt yI mR dU aan b8 b7s z0 z1 z2 z3 z4 z5 z6 z7 z8 z9 z10 z11 z12 z13
 go_wp2_with fail
 refine bodyPost_ret (gW rfl _ _ #[.int .i64 2,.int .i64 wa,.int .i64 (od:Int),.int .i64 0,.int .i64 0,.slice none 0 0,.int .i64 0,.int .i64 0,.int .i64 0,.slice none 0 0,.slice A7 od c7,.int .i64 po,.slice Ak ks.length ck,.slice Ar rs.length cr] rfl (dI Pf.out _ _ _ _ _ _ _ _ _ _ _ _ _ _) rfl) rfl ?_
 have NN:=HM9.out.lo
 have hne:=HM9.out.ne
 have hS:∀q,w5.heap.size≤q→∀x0 x1 x2 x3 x4 x5 x6 x7 x8 x9 p9 tJ uy uU:Value,(fu w9 gr x0 x1 x2 x3 x4 x5 x6 x7 x8 x9 p9 tJ uy uU).heap[q]? =w9.heap[q]? :=fun q hq _ _ _ _ _ _ _ _ _ _ _ _ _ _=>dZ (by have:=UA.out.lt;omega) _ _ _ _ _ _ _ _ _ _ _ _ _ _
 have hF:=fun (A:Option Addr) (n c:Nat) (l:List Int) (h:ax w9 w5.heap.size A n c l)=>(show ax (fu w9 gr (.int .i64 2) (.int .i64 wa) (.int .i64 (od:Int)) (.int .i64 0) (.int .i64 0) (.slice none 0 0) (.int .i64 0) (.int .i64 0) (.int .i64 0) (.slice none 0 0) (.slice A7 od c7) (.int .i64 po) (.slice Ak ks.length ck) (.slice Ar rs.length cr)) w5.heap.size A n c l from ap h fun q hq=>hS q (agB h q hq).1 _ _ _ _ _ _ _ _ _ _ _ _ _ _)
 refine⟨⟨A7,c7,Ak,ck,Ar,cr⟩, ?_,⟨bR (hF _ _ _ _ Da.out),bR (hF _ _ _ _ LA.out),bR (hF _ _ _ _ FZ.out), ?_,je LA.out,je FZ.out,fun q hq=>nK (hF _ _ _ _ Da.out) hq,fun q hq=>nK (hF _ _ _ _ LA.out) hq,fun q hq=>nK (hF _ _ _ _ FZ.out) hq⟩,cL HM9.out.b NN _ _ _ _ _ _ _ _ _ _ _ _ _ _,fun q hq=> ?_⟩
 ·show Ending.returned (.tuple #[.agg #[.int .i64 2,.int .i64 wa,.int .i64 (od:Int),.int .i64 0,.int .i64 0,.slice none 0 0,.int .i64 0,.int .i64 0,.int .i64 0,.slice none 0 0,.slice A7 od c7,.int .i64 po,.slice Ak ks.length ck,.slice Ar rs.length cr],.int .i64 0])=Ending.returned (.tuple #[.agg #[.int .i64 2,.int .i64 wa,.int .i64 (od:Int),.int .i64 0,.int .i64 0,.slice none 0 0,.int .i64 0,.int .i64 0,.int .i64 0,.slice none 0 0,.slice A7 wm.length c7,.int .i64 po,.slice Ak ks.length ck,.slice Ar rs.length cr],.int .i64 0])
  rw[Hwl.out]
 ·have:=je Da.out
  show wm.length≤c7∧c7≤9223372036854775807
  rw[Hwl.out];exact this
 ·refine agm UA.out.b.size ?_
  rcases hq with hq | hq | hq
  ·exact qB Da.out hq
  ·exact qB LA.out hq
  ·exact qB FZ.out hq
theorem Na(l:List Int)(j:Nat)(n:Nat)(hn:n=l.length)(n1:1≤n)(n2:n≤1000)(hl:ah l=true)(hj:j<n)(YL:∀i,i<j→ix l i=ix l 0)(hj2:ix l j≠ix l 0)(s:Sb)(m:Ad)(A:Option Addr)(c:Nat)(w:World)(ha:ag .i64 w w.heap.size A l):
 Calls Tryz.prog 139 #[.int .i64 0,.slice A n c,io s m] w fun e w'=>e= .returned (.tuple #[.agg cE,.int .i64 7])∧Below w.heap.size w w':=by
 obtain⟨wx,e0,e1,e2,e3⟩:=cW w s m
 have E0:=aa e0
 have E1:=aa e1
 have E2:=aa e2
 have E4:Hid (wx.heap.size=w.heap.size+1):=aa (by rw[e0];simp)
 have bQ:=aa (fun W=>nV 0 (by omega) s m n W)
 rw[show Cp 0 s.od n=true from rfl] at bQ
 have hch:=aa (fun W=>lp 0 (by omega) s m W)
 have Ex:=aa (fun W (h:Below w.heap.size w W)=>by
  have:=ft l (by omega) A w.heap.size c W (ha.below h)
  rw[hl,←hn] at this;exact this)
 obtain⟨b0,o0,rfl,hc0⟩:=ha.lt (show 0<l.length by omega)
 have hcell:Hid (∀W,Below w.heap.size w W→∀i,i<n→W.cell? ⟨b0,o0+i,none⟩=some (.int .i64 (ix l i))):=aa (fun W h i hi=>(h.cell (p:=⟨b0,o0+i,none⟩) hc0.1).trans (hc0.2 i (by omega)))
 have Hj1:=aa YL
 have hcv:io (PJ 0 s.od) oq= .agg #[.int .i64 0,.int .i64 0,.int .i64 0,.int .i64 0,.int .i64 0,.slice none 0 0,.int .i64 0,.int .i64 0,.int .i64 0,.slice none 0 0,.slice none 0 0,.int .i64 0,.slice none 0 0,.slice none 0 0]:=rfl
 rw[hcv] at hch
 have c1:¬(n:Int)<1:=by omega
 have c2:¬4096<(n:Int):=by omega
 unfold io at bQ hch ⊢
 unfold nE at E0 E1 bQ hch ⊢
 obtain⟨⟨k0,k1,k2,k3,k4,k5,k6,k7,k8,k9,eu,eP,eO,eN⟩,_⟩:=ai E1.out
 clear e0 e1 e2 e3 hn n2 hl ha hcv hc0 YL
 go_enter Tryz.func139,Tryz.ntmps139
 go_upto_region 1 with fail
 rw[←E0.out]
 have hr:=ago wx (.cells cE 171)
 have br:=ak (ac wx) (.cells cE 171)
 have hr3:(wx.alloc (.cells cE 171)).heap.size=wx.heap.size+1:=by simp
 unfold cE at hr br hr3
 obtain⟨wy,mi⟩:∃wy,wy=wx.alloc (.cells cE 171):=⟨_,rfl⟩
 unfold cE at mi
 rw[←mi] at hr br hr3 ⊢
 rw[E4.out] at hr hr3
 obtain⟨gr,hgr⟩:∃gr,gr=w.heap.size+1:=⟨_,rfl⟩
 rw[←hgr] at hr hr3 ⊢
 have HR:=aa hr
 have BY:=aa (E2.out.trans (br.mono (by rw[E4.out];omega)))
 have rJ:=aa hgr
 have HS:=aa hr3
 have Dc:Hid (∀W,Below wy.heap.size wy W→W.heap[w.heap.size]? =wx.heap[w.heap.size]?):=aa (fun W h=>(h.block _ (by omega)).trans (br.block _ (by rw[E4.out];omega)))
 obtain⟨⟨k0,k1,k2,k3,k4,k5,k6,k7,k8,k9,eu,eP,eO,eN⟩,_⟩:=ai ((Dc.out wy (ac wy)).trans E1.out)
 clear hr br hr3 mi hgr
 go_upto_region 7 with (first
  |(go_at_call 186;(with_reducible refine(bQ.out wy).mono ?_);rintro e w1 ⟨rfl,b1⟩;have TM:=af BY.out b1;obtain⟨⟨k0,k1,k2,k3,k4,k5,k6,k7,k8,k9,eu,eP,eO,eN⟩,_⟩:=ai ((Dc.out w1 b1).trans E1.out))
  |(go_at_call 135;(with_reducible refine(Ex.out w1 TM).mono ?_);rintro e w2 ⟨rfl,rfl⟩)
  |(go_at_call 187;(with_reducible refine(hch.out _).mono ?_);rintro e w3 ⟨rfl,b3⟩))
 have oT:=af TM b3
 have hv:=ago w3 (.cells #[.int .i64 0,.int .i64 0,.int .i64 0,.int .i64 0,.int .i64 0,.slice none 0 0,.int .i64 0,.int .i64 0,.int .i64 0,.slice none 0 0,.slice none 0 0,.int .i64 0,.slice none 0 0,.slice none 0 0] 171)
 have hM:PK w (w3.alloc (.cells #[.int .i64 0,.int .i64 0,.int .i64 0,.int .i64 0,.int .i64 0,.slice none 0 0,.int .i64 0,.int .i64 0,.int .i64 0,.slice none 0 0,.slice none 0 0,.int .i64 0,.slice none 0 0,.slice none 0 0] 171)) gr w3.heap.size #[.int .i64 0,.int .i64 0,.int .i64 0,.int .i64 0,.int .i64 0,.slice none 0 0,.int .i64 0,.int .i64 0,.int .i64 0,.slice none 0 0,.slice none 0 0,.int .i64 0,.slice none 0 0,.slice none 0 0]:=by
  have q1:=(agn.1 HR.out).1
  have q2:=b1.size
  have q3:=b3.size
  exact⟨(ags _ _ _ (by omega)).trans ((b3.block gr (by omega)).trans ((b1.block gr q1).trans HR.out)),hv,ak oT _,by have:=rJ.out;omega,by omega⟩
 obtain⟨wv,tY⟩:∃wv,wv=w3.alloc (.cells #[.int .i64 0,.int .i64 0,.int .i64 0,.int .i64 0,.int .i64 0,.slice none 0 0,.int .i64 0,.int .i64 0,.int .i64 0,.slice none 0 0,.slice none 0 0,.int .i64 0,.slice none 0 0,.slice none 0 0] 171):=⟨_,rfl⟩
 rw[←tY] at hM ⊢
 obtain⟨gc,mn⟩:∃gc,gc=w3.heap.size:=⟨_,rfl⟩
 rw[←mn] at hM ⊢
 have HM:=aa hM
 obtain⟨⟨k0,k1,k2,k3,k4,k5,k6,k7,k8,k9,eu,eP,eO,eN⟩,z0,z1,z2,z3,z4,z5,z6,z7,z8,z9,z10,z11,z12,z13⟩:=ai hM.c
 clear hM hv tY mn oT b3 b1 TM
 have aei:=hcell.out wv HM.out.b 0 (by omega)
 rw[Nat.add_zero] at aei
 have HJ2:=aa hj2
 have HJ:=aa hj
 have yI:=HM.out.r
 unfold cE at yI
 obtain⟨⟨r0,r1,r2,r3,r4,r5,r6,r7,r8,r9,r10,r11,r12,r13⟩,f0,f1,f2,f3,f4,f5,f6,f7,f8,f9,f10,f11,Lg,f13⟩:=ai yI
 have Pf:=aa yI
 clear yI hj2 z0 z1 z2 z3 z4 z5 z6 z7 z8 z9 z10 z11 z12 z13
 go_wp2_with fail
 go_loop [11,41] (fun _ iv=>∃i:Nat,i≤j∧iv= .int .i64 (i:Int)) (fun _ iv=>n-(intOf iv).toNat)
 case atStart=>exact⟨0,agw _,rfl⟩
 case round=>
  obtain⟨i,hi,rfl⟩:=hrel
  have dp:i<n:=by omega
  have nQ:(i:Int)<(n:Int):=by omega
  have i2:=agp ((i:Int)+1) (by omega)
  have hci:=hcell.out wv HM.out.b i dp
  have h0n:(0:Int)<(n:Int):=by omega
  by_cases hlt:i<j
  ·rw[Hj1.out i hlt] at hci
   have hq:(ix l 0 == ix l 0)=true:=by simp
   go_wp2_with fail
   go_round
   case rel=>exact⟨i+1,by omega,by go_num⟩
   case measure=>simp[intOf];omega
  ·have e:i=j:=by omega
   subst e
   have hq:(ix l i == ix l 0)=false:=by rw[beq_eq_false_iff_ne];exact HJ2.out
   go_wp2_with fail
   refine bodyPost_ret (gW rfl _ _ cE rfl (dI Pf.out _ _ _ _ _ _ _ _ _ _ _ _ _ _) rfl) rfl ?_
   exact⟨rfl,cL HM.out.b HM.out.lo _ _ _ _ _ _ _ _ _ _ _ _ _ _⟩
def bf(wa:Nat)(l:List Int):List Bool:=nb 1 3++nb wa 5++nb (aA l) 5++dz l (aA l)
theorem Iz(wa:Nat)(l:List Int):(bf wa l).length=13+aA l*l.length:=by
 unfold bf;simp[cB,j7];omega
theorem vK(wa:Nat)(Cf:wa≤30)(l row:List Int)(n:Nat)(hn:n=l.length)(n1:1≤n)(n2:n≤1000)(hl:ah l=true)(m:Ad)(B:Nat)(hQ:rD (aK (wa:Int) l) m n B row)
 (bs:List Bool) (hroom:bs.length+40000≤4000000) (g:Nat) (w:World) (hB:B≤w.heap.size) (hm:oC w B (aK (wa:Int) l) m) (h:WB w g bs) (hap:yh w g m.A):
 Calls Tryz.prog 95 #[.pointer (some ⟨g,0,none⟩),io (aK (wa:Int) l) m,.int .i64 (n:Int)] w (tG g (bs++bf wa l) (.int .i64 0) w):=by
 obtain⟨wx,e0,e1,e2,e3⟩:=cW w (aK (wa:Int) l) m
 have E0:=aa e0
 have E1:=aa e1
 have E2:=aa e2
 have bK:=aa (vN _ m n B row hQ wx (agm hB e2.size) (hm.below (e2.mono hB)))
 have H:=aa h
 have HX:=aa (h.keep e2)
 have NX:=aa (tA h e2 e3)
 have HAP:Hid (∀W,WK g w W→yh W g m.A):=aa (fun W k=>hap.keep k)
 have Db:Hid (∀W,WK g w W→ag .i64 W B m.A l):=aa (fun W k=>hm.wm.wk hap k)
 have HK0:Hid (WK g w wx):=aa (WK.of_below h.lt e2)
 have Ez:=ql hl
 have hwd:Hid (∀W,ag .i64 W B m.A l→Calls Tryz.prog 142 #[.slice m.A n m.c] W fun e w'=>e= .returned (.int .i64 (aA l:Int))∧∃q,w'=W.drewN q):=aa (fun W h=>iR l n hn (by omega) m.A B m.c W h)
 have hpB:Hid (bf wa l=nb 1 3++nb wa 5++nb (aA l) 5++dz l (aA l)):=aa rfl
 have NG:Hid (∀j,j<n→(dz (l.take j) (aA l)).length+aA l≤32000):=aa (fun j hj=>by
  rw[j7,List.length_take]
  have h1:aA l*min j l.length≤31*1000:=Nat.mul_le_mul Ez (by omega)
  omega)
 have NF:Hid (∀j,j<n→dz (l.take (j+1)) (aA l)=dz (l.take j) (aA l)++sb (ix l j) (aA l)):=aa (fun j hj=>se (by omega))
 have ED:Hid (dz (l.take n) (aA l)=dz l (aA l)):=aa (by rw[hn,List.take_length])
 have hcell:Hid (∀j,j<n→j<l.length):=aa (fun j hj=>by omega)
 have qQ:nE (aK (wa:Int) l) m=#[.int .i64 1,.int .i64 (wa:Int),.int .i64 0,.int .i64 0,.int .i64 0,.slice none 0 0,.int .i64 0,.int .i64 0,.int .i64 0,.slice none 0 0,.slice m.A n m.c,.int .i64 0,.slice m.Ak 0 m.ck,.slice m.Ar 0 m.cr]:=by rw[hn];rfl
 have hres:=aa (fun W=>iX 1 W)
 rw[show jB 1=false from rfl] at hres
 unfold io at bK ⊢
 rw[qQ] at E0 E1 bK ⊢
 generalize bf wa l=PB at*
 have PU:Hid (∀W,WK g wx W→W.heap[w.heap.size]? =some (.cells #[.int .i64 1,.int .i64 (wa:Int),.int .i64 0,.int .i64 0,.int .i64 0,.slice none 0 0,.int .i64 0,.int .i64 0,.int .i64 0,.slice none 0 0,.slice m.A n m.c,.int .i64 0,.slice m.Ak 0 m.ck,.slice m.Ar 0 m.cr] 171 (0,0))):=aa (fun W k=>(NX.out.keep k).2.trans E1.out)
 generalize aab:aA l=wd at*
 have p1:=aa (fun W h=>mq 1 3 1 3 rfl rfl (by omega) (by omega) (by omega) bs (by omega) g W h)
 have p2:=aa (fun W h=>mq wa 5 (wa:Int) 5 rfl rfl (by omega) (by omega) (by omega) (bs++nb 1 3) (by rw[List.length_append,cB];omega) g W h)
 have p3:=aa (fun W h=>mq wd 5 (wd:Int) 5 rfl rfl (by omega) (by omega) (by omega) (bs++nb 1 3++nb wa 5) (by rw[List.length_append,List.length_append,cB,cB];omega) g W h)
 have i1:=agq (wa:Int) (by omega)
 have i2:=agq (wd:Int) (by omega)
 have Bg:=aa hroom
 obtain⟨⟨k0,k1,k2,k3,k4,k5,k6,k7,k8,k9,eu,eP,eO,eN⟩,_⟩:=ai E1.out
 clear e0 e1 e2 e3 h hm hap qQ hroom aab hn hl
 go_enter Tryz.func95,Tryz.ntmps95
 go_upto_region 1 with fail
 rw[←E0.out]
 go_wp2_with (first
  |(go_at_call 141;(with_reducible refine bK.out.mono ?_);rintro e w1 ⟨rfl,b1⟩;have K1:=WK.of_below HX.out.lt b1;have W1:=HX.out.keep b1;have I1:=Db.out w1 (HK0.out.trans K1);obtain⟨⟨k0,k1,k2,k3,k4,k5,k6,k7,k8,k9,eu,eP,eO,eN⟩,_⟩:=ai (PU.out w1 K1))
  |(go_at_call 142;(with_reducible refine(hwd.out w1 I1).mono ?_);rintro e w2 ⟨rfl,q2,rfl⟩;have K2:=K1.drewN q2;have W2:=W1.drewN q2)
  |(go_at_call 143;(with_reducible refine(p1.out _ W2).mono ?_);rintro e w3 ⟨rfl,W3,k3_⟩;have K3:=K2.trans k3_;obtain⟨⟨k0,k1,k2,k3,k4,k5,k6,k7,k8,k9,eu,eP,eO,eN⟩,_⟩:=ai (PU.out w3 K3))
  |(go_at_call 143;(with_reducible refine(p2.out _ W3).mono ?_);rintro e w4 ⟨rfl,W4,k4_⟩;have K4:=K3.trans k4_;obtain⟨⟨k0,k1,k2,k3,k4,k5,k6,k7,k8,k9,eu,eP,eO,eN⟩,_⟩:=ai (PU.out w4 K4))
  |(go_at_call 143;(with_reducible refine(p3.out _ W4).mono ?_);rintro e w5 ⟨rfl,W5,k5_⟩;have K5:=K4.trans k5_;obtain⟨⟨k0,k1,k2,k3,k4,k5,k6,k7,k8,k9,eu,eP,eO,eN⟩,_⟩:=ai (PU.out w5 K5)))
 have HW5:=aa W5
 have HK5:=aa (HK0.out.trans K5)
 have abt:=aa K5
 clear k0 k1 k2 k3 k4 k5 k6 k7 k8 k9 eu eP eO eN W1 W2 W3 W4 W5 K1 K2 K3 K4 K5 k3_ k4_ k5_ I1 b1
 go_loopw [96] (fun jv wr=>∃j:Nat,j≤n∧jv= .int .i64 (j:Int)∧WB wr g (bs++nb 1 3++nb wa 5++nb wd 5++dz (l.take j) wd)∧WK g w wr∧WK g wx wr) (fun jv _=>n-(intOf jv).toNat)
 case atStart=>exact⟨0,agw _,rfl,by simpa [dz] using HW5.out,HK5.out,abt.out⟩
 case round=>
  obtain⟨j,hj,rfl,hWj,hKj,hKx⟩:=hrel
  obtain⟨wo,rfl⟩:∃wo:World,wo=wr:=⟨_,rfl⟩
  have HWj:=aa hWj
  have Zl:=aa hKj
  have HKx:=aa hKx
  clear hWj hKj hKx
  by_cases hlt:j<n
  ·obtain⟨b8,o8,e8,mV⟩:=(Db.out wo Zl.out).at_ (hcell.out j hlt)
   have hstep:=aa (NF.out j hlt)
   have RX:=NG.out j hlt
   have Sc:=aa (tP (ix l j) wd (by omega) (bs++nb 1 3++nb wa 5++nb wd 5++dz (l.take j) wd) (by have:=Bg.out;simp only[List.length_append,cB];omega) g wo HWj.out)
   have s5:(j:Int)<(n:Int):=by omega
   have s6:=agp ((j:Int)+1) (by omega)
   generalize ix l j=x at*
   rw[e8]
   clear RX
   go_wp2_with (go_at_call 144;(with_reducible refine Sc.out.mono ?_);rintro e w8 ⟨rfl,W8,q8⟩)
   refine⟨⟨j+1,hlt,by go_num, ?_,Zl.out.trans q8,HKx.out.trans q8⟩, ?_⟩
   ·rw[hstep.out,←List.append_assoc];exact W8
   ·simp[intOf];omega
  ·have ej:j=n:=by omega
   subst ej
   have hF:Hid (WB wo g (bs++PB)):=by
    have:=HWj.out
    rw[ED.out] at this
    rw[hpB.out]
    simp only[←List.append_assoc]
    exact aa this
   obtain⟨⟨k0,k1,k2,k3,k4,k5,k6,k7,k8,k9,eu,eP,eO,eN⟩,_⟩:=ai (PU.out wo HKx.out)
   go_wp2_with (go_at_call 146;(with_reducible refine(hres.out _).mono ?_);rintro e w6 ⟨rfl,rfl⟩)
   go_ret
   exact⟨rfl,hF.out,Zl.out⟩
theorem Ds(wa:Nat)(Cf:wa≤30)(l row:List Int)(n:Nat)(hn:n=l.length)(n1:1≤n)(n2:n≤1000)(hl:ah l=true)(m:Ad)(B:Nat)(hQ:rD (aK (wa:Int) l) m n B row)
 (w:World) (hB:B≤w.heap.size) (hm:oC w B (aK (wa:Int) l) m):
 Calls Tryz.prog 140 #[io (aK (wa:Int) l) m,.int .i64 (n:Int)] w fun e w'=>e= .returned (.int .i64 ((bf wa l).length:Int))∧Below w.heap.size w w':=by
 obtain⟨wx,e0,e1,e2,e3⟩:=cW w (aK (wa:Int) l) m
 have E0:=aa e0
 have E1:=aa e1
 have E2:=aa e2
 have E4:Hid (wx.heap.size=w.heap.size+1):=aa (by rw[e0];simp)
 have qQ:nE (aK (wa:Int) l) m=#[.int .i64 1,.int .i64 (wa:Int),.int .i64 0,.int .i64 0,.int .i64 0,.slice none 0 0,.int .i64 0,.int .i64 0,.int .i64 0,.slice none 0 0,.slice m.A n m.c,.int .i64 0,.slice m.Ak 0 m.ck,.slice m.Ar 0 m.cr]:=by rw[hn];rfl
 have hput:=aa (fun g (W:World) (hb:Below w.heap.size w W) (h:WB W g []) (hg:w.heap.size≤g)=>vK wa Cf l row n hn n1 n2 hl m B hQ [] (by simp) g W (agm hB hb.size) (hm.below (hb.mono hB)) h (h.apart fun q hq=>by have:=hm.l1 q hq;omega))
 have hlen:=aa (fun g W (h:WB W g (bf wa l))=>De (bf wa l) g W h)
 unfold io at hput ⊢
 rw[qQ] at E0 E1 hput ⊢
 simp only[List.nil_append] at hput
 generalize bf wa l=PB at*
 obtain⟨⟨k0,k1,k2,k3,k4,k5,k6,k7,k8,k9,eu,eP,eO,eN⟩,_⟩:=ai E1.out
 clear e0 e1 e2 hm qQ hn hl
 go_enter Tryz.func140,Tryz.ntmps140
 go_upto_region 1 with fail
 rw[←E0.out]
 go_upto_region 2 with fail
 have hv:=ago wx (.cells #[.slice none 0 0,.int .i64 0] 176)
 have bv:=ak (ac wx) (.cells #[.slice none 0 0,.int .i64 0] 176)
 obtain⟨wv,tY⟩:∃wv,wv=wx.alloc (.cells #[.slice none 0 0,.int .i64 0] 176):=⟨_,rfl⟩
 rw[←tY] at hv bv ⊢
 have Vf:Hid (WB wv wx.heap.size []):=aa ⟨none,0,hv,aq.nil _ _⟩
 have BV:=aa (af E2.out bv)
 obtain⟨⟨k0,k1,k2,k3,k4,k5,k6,k7,k8,k9,eu,eP,eO,eN⟩,_⟩:=ai ((bv.block _ e3).trans E1.out)
 obtain⟨gw,sO⟩:∃gw,gw=wx.heap.size:=⟨_,rfl⟩
 rw[←sO] at Vf ⊢
 have Uo:Hid (w.heap.size≤gw):=aa (by have:=E2.out.size;omega)
 clear hv bv tY sO e3
 go_wp2_with (first
  |(go_at_call 95;(with_reducible refine(hput.out gw wv BV.out Vf.out Uo.out).mono ?_);rintro e w3 ⟨rfl,W3,K3⟩)
  |(go_at_call 190;(with_reducible refine(hlen.out gw w3 W3).mono ?_);rintro e w4 ⟨rfl,q4,rfl⟩))
 go_ret
 refine⟨rfl, ?_⟩
 have h1:=BV.out.trans (K3.below Vf.out Uo.out)
 exact⟨h1.os,h1.tape,h1.output,h1.size,h1.block⟩
end
end Go.Proofs.YtbhfpehgacaidaaGreatDoor
