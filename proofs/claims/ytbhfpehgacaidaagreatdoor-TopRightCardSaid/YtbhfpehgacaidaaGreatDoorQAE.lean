/- A part of the proof of the given statement TopRight. Conditions: none. -/
import Derived.Test.YtbhfpehgacaidaaGreatDoorQAD
namespace Go.Proofs.YtbhfpehgacaidaaGreatDoor
set_option linter.unusedVariables false
set_option linter.unusedSimpArgs false
set_option maxRecDepth 100000
set_option maxHeartbeats 8000000
section
open Go.RowKit
theorem GH(n m:Int)(w:World):Calls Tryz.prog 78 #[.int .i64 n,.int .i64 m] w fun e w'=>e= .returned (.bool (decide (1≤n∧n≤m)))∧w'=w:=by
 obtain⟨b,hb⟩:∃b,b=decide (1≤n∧n≤m):=⟨_,rfl⟩
 rw[←hb]
 have Hb:=aa hb
 clear hb
 by_cases h1:1≤n
 all_goals by_cases h2:n≤m
 all_goals go_enter Tryz.func78,Tryz.ntmps78
 all_goals go_wp2_with fail
 all_goals go_ret
 all_goals refine⟨?_,rfl⟩
 all_goals rw[Hb.out]
 all_goals first | (rw[decide_eq_true (by omega)];rfl) | (rw[decide_eq_false (by omega)];rfl)
theorem BL(a s:Int)(w:World):Calls Tryz.prog 118 #[.int .i64 a,.int .i64 s] w fun e w'=>e= .returned (.bool (decide (0≤a∧a≤1125899906842624∧0≤s∧s≤2147483647)))∧w'=w:=by
 obtain⟨b,hb⟩:∃b,b=decide (0≤a∧a≤1125899906842624∧0≤s∧s≤2147483647):=⟨_,rfl⟩
 rw[←hb]
 have Hb:=aa hb
 clear hb
 by_cases h1:0≤a
 all_goals by_cases h2:a≤1125899906842624
 all_goals by_cases h3:0≤s
 all_goals by_cases h4:s≤2147483647
 all_goals go_enter Tryz.func118,Tryz.ntmps118
 all_goals go_wp2_with fail
 all_goals go_ret
 all_goals refine⟨?_,rfl⟩
 all_goals rw[Hb.out]
 all_goals first | (rw[decide_eq_true (by omega)];rfl) | (rw[decide_eq_false (by omega)];rfl)
theorem Er(n:Int)(w:World):Calls Tryz.prog 106 #[.int .i64 n] w fun e w'=>e= .returned (.bool (decide (0≤n∧n≤1099511627776)))∧w'=w:=by
 obtain⟨b,hb⟩:∃b,b=decide (0≤n∧n≤1099511627776):=⟨_,rfl⟩
 rw[←hb]
 have Hb:=aa hb
 clear hb
 by_cases h1:0≤n
 all_goals by_cases h2:n≤1099511627776
 all_goals go_enter Tryz.func106,Tryz.ntmps106
 all_goals go_wp2_with fail
 all_goals go_ret
 all_goals refine⟨?_,rfl⟩
 all_goals rw[Hb.out]
 all_goals first | (rw[decide_eq_true (by omega)];rfl) | (rw[decide_eq_false (by omega)];rfl)
def qw(n d:Int):Bool:=decide (1≤n∧n≤1048576∧1≤d∧d≤1048576)
theorem mA(n d:Int)(w:World):Calls Tryz.prog 77 #[.agg #[.int .i64 n,.int .i64 d]] w fun e w'=>e= .returned (.bool (qw n d))∧Below w.heap.size w w':=by
 have hb:Hid (qw n d=decide (1≤n∧n≤1048576∧1≤d∧d≤1048576)):=aa rfl
 generalize qw n d=b at*
 by_cases h1:1≤n
 all_goals by_cases h2:n≤1048576
 all_goals by_cases h3:1≤d
 all_goals by_cases h4:d≤1048576
 all_goals first | (exfalso;omega) | skip
 all_goals go_enter Tryz.func77,Tryz.ntmps77
 all_goals go_wp2_with fail
 all_goals go_ret
 all_goals refine⟨?_,ak (ac w) _⟩
 all_goals rw[hb.out]
 all_goals first | (rw[decide_eq_true (by omega)];rfl) | (rw[decide_eq_false (by omega)];rfl)
def wQ(p:Pg):Int:=jq p.first 1+jq p.last 2
theorem wP(p:Pg)(A:Option Addr)(c:Nat)(w:World):Calls Tryz.prog 114 #[ju p A c] w fun e w'=>e= .returned (.int .u8 (wQ p))∧Below w.heap.size w w':=by
 obtain⟨s,f,l,g,d⟩:=p
 have o1:bits .or .u8 0 1=1:=by first | decide | kernel_rfl
 have o2:bits .or .u8 0 2=2:=by first | decide | kernel_rfl
 have o3:bits .or .u8 1 2=3:=by first | decide | kernel_rfl
 unfold ju
 have k1:=(ay (ago w (.cells #[.int .i64 s,.bool f,.bool l,.bool g,.slice A d.length c] 124))).1
 obtain⟨V,hV⟩:∃V,V=wQ ⟨s,f,l,g,d⟩:=⟨_,rfl⟩
 rw[←hV]
 have HV:=aa hV
 clear hV k1
 cases f
 ·cases l
  ·go_enter Tryz.func114,Tryz.ntmps114
   go_wp2_with fail
   go_ret
   rw[HV.out]
   exact⟨rfl,ak (ac w) _⟩
  ·go_enter Tryz.func114,Tryz.ntmps114
   go_wp2_with fail
   go_ret
   rw[HV.out]
   exact⟨rfl,ak (ac w) _⟩
 ·cases l
  ·go_enter Tryz.func114,Tryz.ntmps114
   go_wp2_with fail
   go_ret
   rw[HV.out]
   exact⟨rfl,ak (ac w) _⟩
  ·go_enter Tryz.func114,Tryz.ntmps114
   go_wp2_with fail
   go_ret
   rw[HV.out]
   exact⟨rfl,ak (ac w) _⟩
theorem pS(p:Pg):(ez p).2=if cR p then 0 else 1:=by unfold ez;split <;> rfl
theorem lC(p:Pg)(A:Option Addr)(B c:Nat)(w:World)(hB:B≤w.heap.size)(hl:p.body.length≤50000)(ha:ag .u8 w B A p.body)(hby:aH p.body):
 Calls Tryz.prog 59 #[ju p A c] w fun e w'=>e= .returned (.bool (cR p))∧Below w.heap.size w w':=by
 have M:=aa (ago w (.cells #[.int .i64 p.seq,.bool p.first,.bool p.last,.bool p.guard,.slice A p.body.length c] 124))
 have B1:=aa (ak (ac w) (.cells #[.int .i64 p.seq,.bool p.first,.bool p.last,.bool p.guard,.slice A p.body.length c] 124))
 have hcon:=fun W (h:Below w.heap.size w W)=>kW p A B c W (agm hB h.size) hl (ha.below (h.mono hB)) hby
 have he:=pS p
 have cC:=aa (hcon _ B1.out)
 clear hcon
 generalize ez p=r at he cC
 obtain⟨r1,r2⟩:=r
 dsimp only at he
 have hOK:Hid (cR p=decide (r2=0)):=by
  show _=_
  rw[he]
  cases cR p <;> rfl
 unfold ju at*
 generalize cR p=OK at*
 generalize p.seq=sq at*
 generalize p.first=f at*
 generalize p.last=l at*
 generalize p.guard=gd at*
 generalize p.body.length=n at*
 obtain⟨⟨k0,k1,k2,k3,k4⟩,_⟩:=ay M.out
 clear he ha hby hl
 go_enter Tryz.func59,Tryz.ntmps59
 go_wp2_with fail
 (with_reducible refine cC.out.mono ?_);rintro e w2 ⟨A2,c2,rfl,cD,b2⟩
 have kG:=aa (kK B1.out b2)
 clear cD b2 k0 k1 k2 k3 k4
 by_cases h0:r2=0
 ·have hb:(r2 == 0)=true:=beq_iff_eq.2 h0
  go_wp2_with fail
  go_ret
  rw[hOK.out,decide_eq_true h0]
  exact⟨rfl,kG.out⟩
 ·have hb:(r2 == 0)=false:=beq_eq_false_iff_ne.2 h0
  go_wp2_with fail
  go_ret
  rw[hOK.out,decide_eq_false h0]
  exact⟨rfl,kG.out⟩
def yG(p:Pg):Bool:=p.guard && decide (3<p.body.length∧1≤ix p.body 0∧ix p.body 0≤8)
theorem Ep(p:Pg)(A:Option Addr)(B c:Nat)(w:World)(hB:B≤w.heap.size)(ha:ag .u8 w B A p.body)(hl:p.body.length≤50000):
 Calls Tryz.prog 60 #[ju p A c] w fun e w'=>e= .returned (.bool (yG p))∧Below w.heap.size w w':=by
 obtain⟨b,hb⟩:∃b,b=yG p:=⟨_,rfl⟩
 have Hb:Hid (b=(p.guard && decide (3<p.body.length∧1≤ix p.body 0∧ix p.body 0≤8))):=aa hb
 rw[←hb]
 clear hb
 obtain⟨sq,f,l,g,d⟩:=p
 unfold ju
 dsimp only at*
 cases g with
 |false=>
  go_enter Tryz.func60,Tryz.ntmps60
  go_wp2_with fail
  go_ret
  rw[Hb.out]
  exact⟨rfl,ak (ac w) _⟩
 |true=>
  by_cases h3:3<d.length
  ·have hI:(d.length:Int) > 3:=by omega
   obtain⟨b1,off,rfl,_,hcell⟩:=ha.lt (by omega)
   have ha2:=ha.below ((ak (ac w) (.cells #[.int .i64 sq,.bool f,.bool l,.bool true,.slice (some ⟨b1,off,none⟩) d.length c] 124)).mono hB)
   obtain⟨b',wL,e,x0⟩:=ha2.at_ (i:=0) (by omega)
   injection e with e;injection e with e1 e2;subst e1;subst e2
   rw[Nat.add_zero] at x0
   have SK:(0:Int)<(d.length:Int):=by omega
   have afS:0<d.length:=by omega
   generalize ix d 0=x at*
   clear ha ha2 hcell
   by_cases h1:1≤x
   all_goals by_cases h8:x≤8
   all_goals first | (exfalso;omega) | skip
   all_goals go_enter Tryz.func60,Tryz.ntmps60
   all_goals go_wp2_with fail
   all_goals go_ret
   all_goals refine⟨?_,ak (ac w) _⟩
   all_goals rw[Hb.out]
   all_goals first | (rw[decide_eq_true (by omega)];rfl) | (rw[decide_eq_false (by omega)];rfl)
  ·have hI:¬((3:Int)<(d.length:Int)):=by omega
   clear ha
   go_enter Tryz.func60,Tryz.ntmps60
   go_wp2_with fail
   go_ret
   refine⟨?_,ak (ac w) _⟩
   rw[Hb.out,decide_eq_false (by omega)]
   rfl
theorem tN{fn:Func}(h:fn.results=#[.cell 2 124])(tmps:Array Value)(w:World){g:Nat}{v0 v1 v2 v3 v4:Value}(ht:tmps.getD 2 undef= .pointer (some ⟨g,0,none⟩))
 (hc:w.cell? ⟨g,0,none⟩=some v0∧w.cell? ⟨g,1,none⟩=some v1∧w.cell? ⟨g,2,none⟩=some v2∧w.cell? ⟨g,3,none⟩=some v3∧w.cell? ⟨g,4,none⟩=some v4):
 (results fn tmps).run Tryz.prog w= .ok (.agg #[v0,v1,v2,v3,v4]) w:=by
 obtain⟨c0,c1,c2,c3,c4⟩:=hc
 have key:(results fn tmps).run Tryz.prog w=((asAddr (tmps.getD 2 undef)).run Tryz.prog w).andThen fun a w₁=>(loadVar 124 a).run Tryz.prog w₁:=by
  simp only[results,h]
  simp[Sem.run_bind,Result.andThen]
 rw[key,ht]
 simp[go_sem,c0,c1,c2,c3,c4]
def Ke(p:Pg)(w:World)(e:Ending)(w':World):Prop:=∃A c,e= .returned (ju p A c)∧aq w' w.heap.size A p.body.length c p.body∧Below w.heap.size w w'
theorem lm(p:Pg)(A:Option Addr)(B c:Nat)(w:World)(hB:B≤w.heap.size)(ha:ag .u8 w B A p.body)(hl:p.body.length≤50000):
 Calls Tryz.prog 61 #[ju p A c] w (Ke p w):=by
 obtain⟨sq,f,l,g,d⟩:=p
 unfold ju Ke
 dsimp only at*
 have Ha:=aa ((ha.below ((ak (ak (ac w) (.cells #[.int .i64 sq,.bool f,.bool l,.bool g,.slice A d.length c] 124)) (.cells #[.int .i64 0,.bool false,.bool false,.bool false,.slice none 0 0] 124)).mono hB)))
 have B1:=aa (ak (ak (ac w) (.cells #[.int .i64 sq,.bool f,.bool l,.bool g,.slice A d.length c] 124)) (.cells #[.int .i64 0,.bool false,.bool false,.bool false,.slice none 0 0] 124))
 obtain⟨w1,bj⟩:∃w1,w1=(w.alloc (.cells #[.int .i64 sq,.bool f,.bool l,.bool g,.slice A d.length c] 124)).alloc (.cells #[.int .i64 0,.bool false,.bool false,.bool false,.slice none 0 0] 124):=⟨_,rfl⟩
 have hz1:Hid (w1.heap.size=w.heap.size+2):=by show _=_;rw[bj];simp
 have M2:Hid (w1.heap[w.heap.size+1]? =some (.cells #[.int .i64 0,.bool false,.bool false,.bool false,.slice none 0 0] 124 (0,0))):=by
  show _=_
  have:=ago (w.alloc (.cells #[.int .i64 sq,.bool f,.bool l,.bool g,.slice A d.length c] 124)) (.cells #[.int .i64 0,.bool false,.bool false,.bool false,.slice none 0 0] 124)
  rw[World.size_alloc] at this
  rw[bj];exact this
 have M1:Hid (w1.heap[w.heap.size]? =some (.cells #[.int .i64 sq,.bool f,.bool l,.bool g,.slice A d.length c] 124 (0,0))):=by
  show _=_;rw[bj,ags _ _ _ (by simp)];exact ago w _
 rw[←bj] at Ha B1
 obtain⟨⟨k0,k1,k2,k3,k4⟩,_⟩:=ay M1.out
 clear ha
 go_enter Tryz.func61,Tryz.ntmps61
 go_upto_region 1 with fail
 rw[←bj]
 clear bj
 go_wp2_with (at_builtin;refine jU _ rfl (.const (.slice none 0 0)) (.tmp 4) rfl w1 none 0 rfl (aq.nil _ _) _ A d.length c d rfl rfl Ha.out (by omega) (ac _) ?_;intro A2 c2 w2 cD b2;obtain⟨K,f0,f1,f2,f3,f4⟩:=ay ((b2.block w.heap.size (by have:=hz1.out;omega)).trans M1.out);obtain⟨j0,j1,j2,j3,j4⟩:=K;obtain⟨K2,g0,g1,g2,g3,g4⟩:=ay ((b2.block (w.heap.size+1) (by have:=hz1.out;omega)).trans M2.out);obtain⟨i0,i1,i2,i3,i4⟩:=K2)
 have hne:w.heap.size+1≠w.heap.size:=by omega
 have HS:=(ay (W:=w2.setCell ⟨w.heap.size,4,none⟩ (.slice A2 d.length c2)) ((agr w2 ⟨w.heap.size,4,none⟩ _ _ hne).trans ((b2.block (w.heap.size+1) (by have:=hz1.out;omega)).trans M2.out))).1
 refine bodyPost_ret (tN rfl _ _ rfl (aM HS _ _ _ _ _)) rfl ?_
 refine⟨A2,c2,rfl, ?_, ?_⟩
 ·refine aq.of_other (aq.base cD (by have:=hz1.out;omega)) fun q hq=> ?_
  have yJ:=(agB cD q hq).1
  exact(fk (by have:=hz1.out;omega) _ _ _ _ _).trans (agr _ _ _ _ (by have:=hz1.out;show q≠w.heap.size;omega))
 ·exact cO ((B1.out.trans (b2.mono B1.out.size)).setCell (p:=⟨w.heap.size,4,none⟩) (agl _) _) (by omega) _ _ _ _ _
def pD(l:List Int)(k:Nat):List Int:=l++List.replicate (k-l.length) 0
def Bc(l f:List Int):List Int:=(List.range (pD l f.length).length).map fun i=>if i<f.length then bits .xor .u8 (ix (pD l f.length) i) (ix f i)else ix (pD l f.length) i
theorem wK(l:List Int)(k:Nat):(pD l k).length=max l.length k:=by simp[pD];omega
theorem Cz(l f:List Int):(Bc l f).length=max l.length f.length:=by simp[Bc,wK]
def BlR(l f ys:List Int)(i:Nat):Prop:=ys.length=(pD l f.length).length∧∀k,k<(pD l f.length).length→ix ys k=if k<i then bits .xor .u8 (ix (pD l f.length) k) (ix f k)else ix (pD l f.length) k
theorem OD(l f:List Int):BlR l f (pD l f.length) 0:=⟨rfl,fun k hk=>by rw[if_neg (by omega)]⟩
theorem XJ{l f ys:List Int}(h:BlR l f ys f.length):ys=Bc l f:=by
 refine jO _ _ (by rw[h.1];simp[Bc]) fun k hk=> ?_
 rw[h.1] at hk
 rw[h.2 k hk,Bc,eF _ _ _ hk]
theorem TG{l f ys:List Int}{i:Nat}(h:BlR l f ys i)(hi:i<f.length):BlR l f (ys.set i (bits .xor .u8 (ix ys i) (ix f i))) (i+1):=by
 have hp:=wK l f.length
 refine⟨by rw[List.length_set,h.1],fun k hk=> ?_⟩
 have h1:=h.2 i (by omega)
 rw[if_neg (by omega)] at h1
 rw[sJ _ _ _ _ (by rw[h.1];omega),h1,h.2 k hk]
 by_cases e:k=i
 ·rw[if_pos e,if_pos (by omega),e]
 ·rw[if_neg e]
  by_cases e2:k<i
  ·rw[if_pos e2,if_pos (by omega)]
  ·rw[if_neg e2,if_neg (by omega)]
def abA(l:List Int)(w0:World)(e:Ending)(w':World):Prop:=∃A c,e= .returned (.slice A l.length c)∧aq w' w0.heap.size A l.length c l∧Below w0.heap.size w0 w'
theorem AZ(l f:List Int)(n m:Nat)(hn:l.length=n)(hm:f.length=m)(hn5:n≤1000)(Gk:m≤1000)(A Af:Option Addr)(c cf:Nat)(w0 w:World)(hb:Below w0.heap.size w0 w)(ho:aq w w0.heap.size A n c l)(ha:ag .u8 w0 w0.heap.size Af f):
 Calls Tryz.prog 115 #[.slice A n c,.slice Af m cf] w (abA (Bc l f) w0):=by
 have Hn:=aa hn
 have Hm:=aa hm
 clear hn hm
 go_enter Tryz.func115,Tryz.ntmps115
 go_wp2_with fail
 go_loopw [0] (fun tv wr=>(∃(k:Nat) (A':Option Addr) (c':Nat),k≤m-n∧tv= .slice A' (n+k) c'∧aq wr w0.heap.size A' (n+k) c' (l++List.replicate k 0))∧Below w0.heap.size w0 wr) (fun tv _=>m-(match tv with | .slice _ n' _=>n' | _=>0))
 case atStart=>exact⟨⟨0,A,c,agw _,rfl,by simpa using ho⟩,hb⟩
 case round=>
  obtain⟨⟨k,A2,c2,hk,rfl,cD⟩,hb2⟩:=hrel
  obtain⟨wo,rfl⟩:∃wo:World,wo=wr:=⟨_,rfl⟩
  have Jg:=aa cD
  have Xj:=aa hb2
  clear cD hb2
  by_cases hlt:n+k<m
  ·have hI:((n+k:Nat):Int)<(m:Int):=by omega
   go_wp2_with (at_builtin;refine cF _ rfl (.tmp 12) (.tmp 13) rfl w0 _ _ _ _ rfl (Jg.out.alloc _) _ _ 1 1 [0] rfl rfl (dN _ _ _) (by omega) (Xj.out.alloc Xj.out.size _) ?_;intro A4 c4 w4 bE hb4)
   have mS:=aa bE
   have sR:=aa hb4
   clear bE hb4
   refine⟨⟨⟨k+1,A4,c4,by omega,by rw[Nat.add_assoc], ?_⟩,sR.out⟩, ?_⟩
   ·rw[List.replicate_succ',←List.append_assoc,←Nat.add_assoc]
    exact mS.out
   ·show m-(n+k+1)<m-(n+k)
    omega
  ·have hI:¬(((n+k:Nat):Int)<(m:Int)):=by omega
   have hk2:k=m-n:=by omega
   obtain⟨L,hL⟩:∃L,L=pD l f.length:=⟨_,rfl⟩
   obtain⟨N,hN⟩:∃N,N=n+k:=⟨_,rfl⟩
   have ach:l++List.replicate k 0=L:=by rw[hL,pD,Hm.out,Hn.out,hk2]
   have hLN:(pD l f.length).length=N:=by rw[wK,Hm.out,Hn.out,hN];omega
   have hNm:m≤N:=by omega
   have hst:=OD l f
   rw[ach,←hN] at Jg
   rw[←hL] at hst
   rw[←hN] at hI ⊢
   have fG:=aa hst
   have HL:=aa hLN
   have X4:=aa (ha.below Xj.out)
   clear hL hN hk2 ach hst hLN hk
   go_wp2_with fail
   go_loopw [5,6,17] (fun _ _ iv wr=>(∃(i:Nat) (ys:List Int),i≤m∧iv= .int .i64 i∧aq wr w0.heap.size A2 N c2 ys∧BlR l f ys i)∧Below w0.heap.size w0 wr) (fun _ _ iv _=>m-(intOf iv).toNat)
   case atStart=>exact⟨⟨0,L,agw _,rfl,Jg.out,fG.out⟩,Xj.out⟩
   case round=>
    obtain⟨⟨i,ys,hi,rfl,hO,hR⟩,hbr⟩:=hrel
    obtain⟨wp,rfl⟩:∃wp:World,wp=wr:=⟨_,rfl⟩
    have HO:=aa hO
    have HR:=aa hR
    have HBr:=aa hbr
    clear hR hbr
    by_cases him:i<m
    ·obtain⟨b,off,rfl,hcf⟩:=(ha.below HBr.out).at_ (i:=i) (by have:=Hm.out;omega)
     obtain⟨g,rfl,hg1,hg2⟩:=nL hO (by omega)
     have d1:=kj hO (i:=i) (by omega)
     have d3:=World.ownsRow.frozenAt hO i
     have RP:=aa (TG HR.out (show i<f.length by have:=Hm.out;omega))
     have YW:(i:Int)<(m:Int):=by omega
     have ES:(i:Int)<(N:Int):=by omega
     have hI3:i<N:=by omega
     have hI4:i<m:=him
     generalize ix f i=y at*
     clear hO
     go_wp2_with fail
     go_roundw
     case rel=>exact⟨⟨i+1,_,by omega,by go_num,qC HO.out i _,RP.out⟩,HBr.out.setCell (p:=⟨g,i,none⟩) hg1 _⟩
     case measure=>simp[intOf];omega
    ·have YW:¬((i:Int)<(m:Int)):=by omega
     obtain rfl:i=m:=by omega
     go_wp2_with fail
     go_ret
     have iu:ys=Bc l f:=XJ (by have:=HR.out;rw[Hm.out];exact this)
     have hlen:(Bc l f).length=N:=by rw[←iu,HR.out.1];exact HL.out
     refine⟨A2,c2, ?_, ?_,HBr.out⟩
     ·rw[hlen];rfl
     ·rw[hlen,←iu];exact HO.out
def aj(A:Option Addr):Option Nat:=A.map (·.block)
theorem ae(A:Option Addr)(n c:Nat):(Value.slice A n c).ownBlock=aj A:=by cases A <;> rfl
abbrev El (α:Type):=α×Option Addr×Nat
structure rG (α:Type) where
 enc:α→Option Addr→Nat→List Value
 dat:α→List Int
 k:Nat
 pos:0<k
 len:∀x A c,(enc x A c).length=k
 one:∀x A c,∀v∈enc x A c,v.oneCell'=true
section
variable {α : Type} (K : rG α)
def aN(E:List (El α)):List Value:=E.flatMap fun t=>K.enc t.1 t.2.1 t.2.2
theorem kA(E F:List (El α)):aN K (E++F)=aN K E++aN K F:=by simp[aN]
theorem iQ(t:El α):aN K [t]=K.enc t.1 t.2.1 t.2.2:=by simp[aN]
theorem cA:∀E:List (El α),(aN K E).length=E.length*K.k
 |[]=>by simp[aN]
 |t :: E=>by
  have:=cA E
  simp only[aN,List.flatMap_cons,List.length_append,List.length_cons] at this ⊢
  rw[this,K.len,Nat.succ_mul];omega
theorem nU:∀(E:List (El α)) (i j:Nat) (hi:i<E.length),j<K.k→(aN K E)[i*K.k+j]? =(K.enc E[i].1 E[i].2.1 E[i].2.2)[j]?
 |[],i,j,hi,_=>by simp at hi
 |t :: E,0,j,hi,hj=>by
  simp only[aN,List.flatMap_cons,Nat.zero_mul,Nat.zero_add,List.getElem_cons_zero]
  rw[List.getElem?_append_left (by rw[K.len];exact hj)]
 |t :: E,i+1,j,hi,hj=>by
  have:=nU E i j (by simpa using hi) hj
  simp only[aN,List.flatMap_cons,List.getElem_cons_succ] at this ⊢
  rw[List.getElem?_append_right (by rw[K.len,Nat.succ_mul];omega),K.len,←this]
  congr 1
  rw[Nat.succ_mul];omega
theorem fp(E:List (El α)):∀v∈aN K E,v.oneCell'=true:=by
 intro v hv
 obtain⟨t,_,h⟩:=List.mem_flatMap.1 hv
 exact K.one _ _ _ v h
def kH(w:World)(B:Nat)(E:List (El α)):Prop:=∀t∈E,ag .u8 w B t.2.1 (K.dat t.1)
def iE(w:World)(B:Nat)(A:Option Addr)(E:List (El α)):Prop:=Rd w B A (aN K E)∧kH K w B E
structure aV (ty:TypeId) (w:World) (B:Nat) (A:Option Addr) (n c:Nat) (E:List (El α)):Prop where
 row:w.ownsRow B ty K.k (.slice A n c) n (aN K E)
 len:E.length=n
 inn:kH K w w.heap.size E
 sep:∀t∈E,∀q,aj t.2.1=some q→B≤q∧q<w.heap.size∧aj A≠some q
 cap:∀t∈E,(K.dat t.1).length≤t.2.2∧t.2.2≤maxLen
end
section
variable {α : Type} {K : rG α} {w w' : World} {B n c : Nat} {A : Option Addr} {E : List (El α)} {ty : TypeId}
theorem kH.keep{B':Nat}(h:kH K w B E)(hk:∀t∈E,∀q,aj t.2.1=some q→w'.heap[q]? =w.heap[q]?)(hB:B≤B'):kH K w' B' E:=fun t ht h0=>by
 obtain⟨b,off,e,hb,hc⟩:=h t ht h0
 exact⟨b,off,e,by omega,fun i u hu=>(agy (hk t ht b (by rw[e];rfl))).trans (hc i u hu)⟩
theorem kH.below{B':Nat}(h:kH K w B E)(hb:Below B w w')(hB:B≤B'):kH K w' B' E:=fun t ht=>((h t ht).below hb).more hB
theorem iE.below(h:iE K w B A E)(hb:Below B w w'):iE K w' B A E:=⟨h.1.below hb,h.2.below hb (agl _)⟩
theorem iE.more{B':Nat}(h:iE K w B A E)(hB:B≤B'):iE K w B' A E:=⟨h.1.more hB,fun t ht=>(h.2 t ht).more hB⟩
theorem iE.at_(h:iE K w B A E){i:Nat}(hi:i<E.length):∃b off,A=some ⟨b,off,none⟩∧b<B∧∀j v,(K.enc E[i].1 E[i].2.1 E[i].2.2)[j]? =some v→w.cell? ⟨b,off+(i*K.k+j),none⟩=some v:=by
 have hp:0<(aN K E).length:=by rw[cA];exact Nat.mul_pos (by omega) K.pos
 obtain⟨b,off,e,hb,hc⟩:=h.1 hp
 refine⟨b,off,e,hb,fun j v hv=>hc _ _ ?_⟩
 have hj:j<K.k:=by have:=(List.getElem?_eq_some_iff.1 hv).1;rwa[K.len] at this
 rw[nU K E i j hi hj];exact hv
theorem aV.rd(h:aV K ty w B A n c E):iE K w w.heap.size A E:=⟨ip h.row,h.inn⟩
theorem aV.nil(w:World)(B:Nat):aV K ty w B none 0 0 []:=⟨by simpa [aN] using World.ownsRow_nil _ _ _ _,rfl,fun t h=>by simp at h,fun t h=>by simp at h,fun t h=>by simp at h⟩
theorem aV.base{B':Nat}(h:aV K ty w B A n c E)(hB:B'≤B):aV K ty w B' A n c E:=⟨aO h.row hB,h.len,h.inn,fun t ht q hq=>⟨by have:=(h.sep t ht q hq).1;omega,(h.sep t ht q hq).2⟩,h.cap⟩
theorem aV.kept(h:aV K ty w B A n c E)(hs:w.heap.size≤w'.heap.size)(hk:∀q,B≤q→q<w.heap.size→w'.heap[q]? =w.heap[q]?):aV K ty w' B A n c E:=
 ⟨V4 h.row hk,h.len,h.inn.keep (fun t ht q hq=>hk q (h.sep t ht q hq).1 (h.sep t ht q hq).2.1) hs,fun t ht q hq=>⟨(h.sep t ht q hq).1,by have:=(h.sep t ht q hq).2.1;omega,(h.sep t ht q hq).2.2⟩,h.cap⟩
theorem aV.below{B1:Nat}(h:aV K ty w B A n c E)(hb:Below B1 w w')(hB:w.heap.size≤B1):aV K ty w' B A n c E:=
 h.kept hb.size fun q _ hq=>hb.block q (by omega)
theorem aV.alloc(h:aV K ty w B A n c E)(o:Obj):aV K ty (w.alloc o) B A n c E:=h.kept (by simp) fun q _ hq=>ags _ _ _ hq
theorem aV.drew(h:aV K ty w B A n c E):aV K ty w.drew B A n c E:=h.kept (agl _) fun _ _ _=>rfl
theorem aV.push{A':Option Addr}{n' c':Nat}{F:List (El α)}(h:aV K ty w B A n c E)(hF:kH K w w.heap.size F)(hs:∀t∈F,∀q,aj t.2.1=some q→B≤q∧q<w.heap.size∧aj A≠some q)(hc:∀t∈F,(K.dat t.1).length≤t.2.2∧t.2.2≤maxLen)
 (hn:n'=n+F.length) (hr:w'.ownsRow B ty K.k (.slice A' n' c') n' (aN K E++aN K F)) (hg:w.grownBy w' (Value.slice A n c).ownBlock) (hat:(Value.slice A' n' c').ownBlock=(Value.slice A n c).ownBlock∨(Value.slice A' n' c').ownBlock=some w.heap.size):aV K ty w' B A' n' c' (E++F):=by
 rw[ae] at hg
 rw[ae,ae] at hat
 have hall:∀t∈E++F,∀q,aj t.2.1=some q→B≤q∧q<w.heap.size∧aj A≠some q:=fun t ht q hq=>by
  rcases agC.1 ht with h1 | h1
  ·exact h.sep t h1 q hq
  ·exact hs t h1 q hq
 have hd:kH K w w.heap.size (E++F):=fun t ht=>by
  rcases agC.1 ht with h1 | h1
  ·exact h.inn t h1
  ·exact hF t h1
 refine⟨by rw[kA];exact hr,by rw[List.length_append,h.len,hn],hd.keep (fun t ht q hq=>hg.block q (hall t ht q hq).2.1 (fun e=>(hall t ht q hq).2.2 e.symm)) hg.size,fun t ht q hq=> ?_,fun t ht=>(agC.1 ht).elim (h.cap t) (hc t)⟩
 obtain⟨a1,a2,a3⟩:=hall t ht q hq
 refine⟨a1,agz a2 hg.size,fun e=> ?_⟩
 rcases hat with h1 | h1
 ·exact a3 (h1.symm.trans e)
 ·rw[h1] at e
  injection e with e
  omega
end
def gY:rG Pg where
 enc p A c:=[.int .i64 p.seq,.bool p.first,.bool p.last,.bool p.guard,.slice A p.body.length c]
 dat p:=p.body
 k:=5
 pos:=by omega
 len _ _ _:=rfl
 one p A c v hv:=by
  simp only[List.mem_cons,List.not_mem_nil,or_false] at hv
  rcases hv with rfl | rfl | rfl | rfl | rfl <;> rfl
def ik(w:World)(B:Nat)(A:Option Addr)(n c:Nat)(E:List (El Pg)):Prop:=aV gY 124 w B A n c E
theorem su:(Tryz.prog.info? 124).map (fun i=>(i.zero,i.size,i.bytes))=some (some (.agg #[.int .i64 0,.bool false,.bool false,.bool false,.slice none 0 0]),5,40):=by kernel_rfl
theorem Y5{ops:Array Oper}{rest:List Oper}{o:Oper}{a:Act}{Q:Exit→Act→World→Prop}(w:World)(hgd:o.guard=none)(s x:Operand)
 (ho:o.op= .call {callee:=.builtin .append,args:=#[s,x],argTypes:=#[57,57]}) (W0:World) (A1:Option Addr) (n1 c1:Nat) (E:List (El Pg)) (hs:a.eval s= .slice A1 n1 c1) (hown:ik w W0.heap.size A1 n1 c1 E)
 (B1:Nat) (A:Option Addr) (n c:Nat) (F:List (El Pg)) (hx:a.eval x= .slice A n c) (hn:n=F.length) (hr:Rd w B1 A (aN gY F)) (hF:kH gY w w.heap.size F) (YB:∀t∈F,∀q,aj t.2.1=some q→W0.heap.size≤q∧q<w.heap.size∧aj A1≠some q) (hcF:∀t∈F,t.1.body.length≤t.2.2∧t.2.2≤maxLen)
 (hsz:n1+n≤100000) (hb:Below W0.heap.size W0 w)
 (h:∀A' c' w',ik w' W0.heap.size A' (n1+n) c' (E++F)→Below W0.heap.size W0 w'→wpList Tryz.prog ops Q rest (a.put o.dst (.slice A' (n1+n) c')) w'):wpList Tryz.prog ops Q (o :: rest) a w:=by
 obtain⟨i0,cw,hz0,hz1,hz2⟩:=info_parts su
 refine aP w hgd s x 57 ho W0.heap.size 124 i0 _ 5 40 Tryz.underlying57 cw hz0 hz1 hz2 rfl (by omega) _ n1 _ hs hown.row B1 A n c (aN gY F) hx (by rw[cA,hn];rfl) hr (fp gY F) (by simp only[maxLen];omega) (by omega) hb.size ?_
 intro A' c' w' h1 h2 h3
 exact h A' c' w' (hown.push hF YB hcF (by rw[hn]) h1 h2 h3) (aI hb hown.row h2 hb.size)
def cm(d:List Int):List Pg×Nat:=
 if h0:d=[] then([],0)
 else if h:(bL d).2.2=0∧0<(bL d).2.1 then((bL d).1 :: (cm (d.drop (bL d).2.1)).1,(cm (d.drop (bL d).2.1)).2)
 else((cm (d.drop 1)).1,(cm (d.drop 1)).2+1)
termination_by d.length
decreasing_by
  all_goals (have := List.length_pos_iff.2 h0; simp; omega)
theorem wB{d:List Int}(h:(bL d).2.2=0):12<(bL d).2.1∧(bL d).2.1≤d.length∧cR (bL d).1=true∧(aH d→aH (bL d).1.body)∧(bL d).1.body.length≤255:=by
 unfold bL at h ⊢
 split at h
 ·simp at h
 ·split at h
  ·simp at h
  ·split at h
   ·simp at h
   ·split at h
    ·simp at h
    ·split at h
     ·simp at h
     ·split at h
      ·simp at h
      ·rename_i h1 h2 h3 h4 h5 h6
       rw[if_neg h1,if_neg h2,if_neg h3,if_neg h4,if_neg h5,if_neg h6]
       have hm:fy (lB (Fm d) 4)≤255:=by unfold fy;split <;> omega
       have hl:((d.take (8+qa d)).drop 8).length=qa d:=by simp;omega
       refine⟨by show 12<8+qa d+4;omega,by show 8+qa d+4≤_;omega, ?_,fun hb=>(eZ hb _).drop 8,by show ((d.take (8+qa d)).drop 8).length≤255;omega⟩
       show decide (_∧_∧1≤((d.take (8+qa d)).drop 8).length∧((d.take (8+qa d)).drop 8).length≤fy (lB (Fm d) 4))=true
       rw[hl]
       exact decide_eq_true ⟨by show (0:Int)≤(UL d:Int);omega,by show (UL d:Int)≤2147483647;omega,by omega,by omega⟩
def Uf(l:List Int)(w:World)(e:Ending)(w':World):Prop:=
 ∃A c E,e= .returned (.tuple #[.slice A (cm l).1.length c,.int .i64 ((cm l).2:Int)])∧ik w' w.heap.size A (cm l).1.length c E∧E.map (·.1)=(cm l).1∧Below w.heap.size w w'
def ScR(l d:List Int)(P:List Pg)(t:Nat):Prop:=(cm l).1=P++(cm d).1∧(cm l).2=t+(cm d).2
theorem rY:cm []=([],0):=by rw[cm,dif_pos rfl]
theorem VA{l:List Int}{P:List Pg}{t:Nat}(h:ScR l [] P t):cm l=(P,t):=by
 obtain⟨h1,h2⟩:=h
 rw[rY] at h1 h2
 simp at h1 h2
 rw[←h1,←h2]
theorem zj{d:List Int}(h0:d≠[])(he:(bL d).2.2≠0):cm d=((cm (d.drop 1)).1,(cm (d.drop 1)).2+1):=by
 rw[cm,dif_neg h0,dif_neg (fun h=>he h.1)]
theorem Dv{d:List Int}(h0:d≠[])(he:(bL d).2.2=0):cm d=((bL d).1 :: (cm (d.drop (bL d).2.1)).1,(cm (d.drop (bL d).2.1)).2):=by
 have:=(wB he).1
 rw[cm,dif_neg h0,dif_pos ⟨he,by omega⟩]
theorem VB{l d:List Int}{P:List Pg}{t:Nat}(h:ScR l d P t)(h0:d≠[])(he:(bL d).2.2≠0):ScR l (d.drop 1) P (t+1):=by
 obtain⟨h1,h2⟩:=h
 rw[zj h0 he] at h1 h2
 exact⟨h1,by rw[h2];simp;omega⟩
theorem Zy{l d:List Int}{P:List Pg}{t:Nat}(h:ScR l d P t)(h0:d≠[])(he:(bL d).2.2=0):ScR l (d.drop (bL d).2.1) (P++[(bL d).1]) t:=by
 obtain⟨h1,h2⟩:=h
 rw[Dv h0 he] at h1 h2
 exact⟨by rw[h1];simp,h2⟩
theorem af{w w1 w2:World}(h:Below w.heap.size w w1)(h2:Below w1.heap.size w1 w2):Below w.heap.size w w2:=kK h h2
theorem Vz{w wo w2:World}{A2 A3:Option Addr}{k c2 n3 c3:Nat}{E:List (El Pg)}{l3:List Int}(h:ik wo w.heap.size A2 k c2 E)(hb:Below w.heap.size w wo)(b2:Below wo.heap.size wo w2)(h3:aq w2 wo.heap.size A3 n3 c3 l3):
 ∀q:Nat,aj A3=some q→w.heap.size≤q∧q<w2.heap.size∧aj A2≠some q:=fun q hq=>by
 have h1:=agB h3 q (by rw[ae];exact hq)
 refine⟨agm hb.size h1.1,h1.2,fun e=> ?_⟩
 have h2:=agB h.row q (by rw[ae];exact e)
 omega
theorem VL(w:World)(o:Obj)(vs:List Value)(arr:Array Value)(t:TypeId)(h:arr.toList=vs):Rd ((w.alloc o).alloc (.cells arr t)) (w.heap.size+2) (some ⟨w.heap.size+1,0,none⟩) vs:=by
 have:=dr (w.alloc o) vs arr t h
 rw[World.size_alloc] at this
 exact this
theorem XG{w2:World}{o1 o2:Obj}{B c3:Nat}{A3:Option Addr}{p:Pg}(h:aq w2 B A3 p.body.length c3 p.body):kH gY ((w2.alloc o1).alloc o2) ((w2.alloc o1).alloc o2).heap.size [(p,A3,c3)]:=fun t ht=>by
 rw[List.mem_singleton] at ht
 subst ht
 exact(h.ints.below (ak (ak (ac w2) o1) o2)).more (ak (ak (ac w2) o1) o2).size
theorem Du(l:List Int)(n:Nat)(hn:l.length=n)(hm:n≤50000)(hby:aH l)(A:Option Addr)(B c:Nat)(hc:n≤c)(cK:c≤9223372036854775807)(w:World)(hB:B≤w.heap.size)(ha:ag .u8 w B A l):
 Calls Tryz.prog 15 #[.slice A n c] w (Uf l w):=by
 have Hn:=aa hn
 clear hn
 go_enter Tryz.func15,Tryz.ntmps15
 go_wp2_with fail
 go_loopw [4,5,6,7,8,9] (fun ov tv iv _ _ _ wr=>(∃(a t k:Nat) (A':Option Addr) (c':Nat) (E:List (El Pg)),a≤n∧t≤a∧k≤a∧ov= .slice A' k c'∧tv= .int .i64 t∧iv= .int .i64 a∧ik wr w.heap.size A' k c' E∧ScR l (l.drop a) (E.map (·.1)) t)∧Below w.heap.size w wr) (fun _ _ iv _ _ _ _=>n-(intOf iv).toNat)
 case atStart=>exact⟨⟨0,0,0,none,0,[],by omega,by omega,by omega,rfl,rfl,rfl,aV.nil _ _,⟨by simp,by simp⟩⟩,ac w⟩
 case round=>
  obtain⟨⟨a,t,k,A2,c2,E,hab,hta,hka,rfl,rfl,rfl,hO,hR⟩,hb⟩:=hrel
  obtain⟨wo,rfl⟩:∃wo:World,wo=wr:=⟨_,rfl⟩
  have HO:=aa hO
  have HR:=aa hR
  have HB:=aa hb
  clear hO hR hb
  by_cases hlt:a<n
  ·have hI:(a:Int)<(n:Int):=by omega
   have hne:l.drop a≠[]:=fun e=>by have:=congrArg List.length e;simp at this;have:=Hn.out;omega
   have aW:=fun he=>VB HR.out hne he
   have dU:=fun he=>Zy HR.out hne he
   have UO:=fun (he:(bL (l.drop a)).2.2=0)=>wB he
   have hcon:=Mu l n Hn.out hm hby a hlt A B c hc cK wo (agm hB HB.out.size) (ha.below (HB.out.mono hB))
   have hld:(l.drop a).length=n-a:=by rw[List.length_drop,Hn.out]
   generalize bL (l.drop a)=r at aW dU UO hcon
   obtain⟨p,sz,er⟩:=r
   dsimp only at aW dU UO
   have cC:=aa hcon
   have gQ:=aa aW
   have PM:=aa dU
   have Hrk:=aa UO
   have Hld:=aa hld
   clear aW dU UO hcon hne hld
   by_cases her:er=0
   ·have h1:=Hrk.out her
    have h2:=aa (PM.out her)
    obtain⟨hs1,hs2,_,_,hbl⟩:=h1
    have hsz:sz≤n-a:=by have:=Hld.out;omega
    have i2:=agp ((a:Int)+(sz:Int)) (by omega)
    subst her
    clear gQ PM Hrk hs2
    go_wp2_with (first
     |(go_at_call 58;(with_reducible refine cC.out.mono ?_);rintro e w2 ⟨A3,c3,rfl,bF,b2⟩;dsimp only[ju] at bF ⊢;have O2:=HO.out.below b2 (agl _);have Jc:=Vz HO.out HB.out b2 bF)
     |(at_builtin;refine Y5 _ rfl (.tmp 27) (.tmp 29) rfl w A2 k c2 E rfl ((O2.alloc _).alloc _) _ _ 1 1 [(p,A3,c3)] rfl rfl (VL _ _ _ _ _ (by rw[iQ];rfl)) (XG bF) (fun t ht q hq=>by rw[List.mem_singleton] at ht;subst ht;have h9:=Jc q hq;exact⟨h9.1,by simp;omega,h9.2.2⟩) (fun t ht=>by rw[List.mem_singleton] at ht;subst ht;exact bJ bF) (by omega) (ak (ak (af HB.out b2) _) _) ?_;intro A5 c5 w5 bT b5))
    all_goals refine⟨⟨⟨a+sz,t,k+1,A5,c5,E++[(p,A3,c3)],by omega,by omega,by omega,rfl,rfl,by go_num,bT, ?_⟩,b5⟩, ?_⟩
    all_goals first
     |(have:=h2.out;rw[List.drop_drop] at this;rw[List.map_append];exact this)
     |(simp[intOf];omega)
   ·have hb:(er != 0)=true:=bne_iff_ne.2 her
    have h2:=aa (gQ.out her)
    have i1:=agp ((t:Int)+1) (by omega)
    have i2:=agp ((a:Int)+1) (by omega)
    clear gQ PM Hrk
    go_wp2_with (go_at_call 58;(with_reducible refine cC.out.mono ?_);rintro e w2 ⟨A3,c3,rfl,bF,b2⟩;dsimp only[ju] at bF ⊢)
    all_goals refine⟨⟨⟨a+1,t+1,k,A2,c2,E,by omega,by omega,by omega,rfl,by go_num,by go_num, ?_, ?_⟩,ak (af HB.out b2) _⟩, ?_⟩
    all_goals first
     |exact(HO.out.below b2 (agl _)).alloc _
     |(have:=h2.out;rw[List.drop_drop] at this;exact this)
     |(simp[intOf];omega)
  ·have hI:¬((a:Int)<(n:Int)):=by omega
   obtain rfl:a=n:=by omega
   have hR:=HR.out
   rw[List.drop_eq_nil_of_le (by have:=Hn.out;omega)] at hR
   have Hs:=aa (VA hR)
   clear hR
   go_wp2_with fail
   go_ret2
   refine⟨A2,c2,E, ?_, ?_, ?_,HB.out⟩
   ·rw[Hs.out]
    have:=HO.out.len
    simp only[List.length_map,this]
    rfl
   ·rw[Hs.out]
    have:=HO.out.len
    simp only[List.length_map,this]
    exact HO.out
   ·rw[Hs.out]
def MI(P:List Pg):Bool:=P.all cR
def fd(P:List Pg):List Int:=P.flatMap fun p=>VS (BC p)
def iJ(P:List Pg):List Int×Int:=if MI P then(fd P,0)else([],1)
def dM(E:List (El Pg)):Prop:=∀t∈E,aH t.1.body∧t.1.body.length≤255
theorem jb{w:World}{B:Nat}{A:Option Addr}{E:List (El Pg)}(h:iE gY w B A E){i:Nat}(hi:i<E.length):
 ∃b off,A=some ⟨b,off,none⟩∧b<B∧w.cell? ⟨b,off+i*5,none⟩=some (.int .i64 E[i].1.seq)∧w.cell? ⟨b,off+i*5+1,none⟩=some (.bool E[i].1.first)∧w.cell? ⟨b,off+i*5+2,none⟩=some (.bool E[i].1.last)∧
  w.cell? ⟨b,off+i*5+3,none⟩=some (.bool E[i].1.guard)∧w.cell? ⟨b,off+i*5+4,none⟩=some (.slice E[i].2.1 E[i].1.body.length E[i].2.2):=by
 obtain⟨b,off,e,hb,hc⟩:=h.at_ hi
 exact⟨b,off,e,hb,hc 0 _ rfl,hc 1 _ rfl,hc 2 _ rfl,hc 3 _ rfl,hc 4 _ rfl⟩
theorem Kt(p:Pg):(VS (BC p)).length=p.body.length+12:=by simp[VS,BC,aS];omega
theorem Ox{P:List Pg}{k:Nat}(h:k<P.length):fd (P.take (k+1))=fd (P.take k)++VS (BC P[k]):=by
 rw[agx h,fd,List.flatMap_append];simp[fd]
theorem rf:∀(P:List Pg),(∀p∈P,p.body.length≤255)→(fd P).length≤P.length*267
 |[],_=>by simp[fd]
 |p :: P,h=>by
  have h1:=rf P fun q hq=>h q (by simp[hq])
  have h2:=Kt p
  have h3:=h p (by simp)
  simp only[fd,List.flatMap_cons,List.length_append,List.length_cons] at h1 ⊢
  omega
theorem wR(E:List (El Pg))(n:Nat)(hn:n=E.length)(hm:n≤300)(hs:dM E)(A:Option Addr)(B c:Nat)(w:World)(hB:B≤w.heap.size)(ha:iE gY w B A E):
 Calls Tryz.prog 20 #[.slice A n c] w (dF (iJ (E.map (·.1))) w):=by
 have Hn:=aa hn
 clear hn
 go_enter Tryz.func20,Tryz.ntmps20
 go_wp2_with fail
 go_loopw [4,6,7,8,11] (fun ov _ _ _ iv wr=>(∃(i k:Nat) (A':Option Addr) (c':Nat),i≤n∧ov= .slice A' k c'∧iv= .int .i64 i∧k=(fd ((E.map (·.1)).take i)).length∧aq wr w.heap.size A' k c' (fd ((E.map (·.1)).take i))∧MI ((E.map (·.1)).take i)=true)∧Below w.heap.size w wr) (fun _ _ _ _ iv _=>n-(intOf iv).toNat)
 case atStart=>exact⟨⟨0,0,none,0,agw _,rfl,rfl,by simp[fd],by simpa [fd] using aq.nil _ _,rfl⟩,ac w⟩
 case round=>
  obtain⟨⟨i,k,A2,c2,hi,rfl,rfl,hk,hO,dU⟩,hb⟩:=hrel
  obtain⟨wo,rfl⟩:∃wo:World,wo=wr:=⟨_,rfl⟩
  have HO:=aa hO
  have HB:=aa hb
  have Hk:=aa hk
  have PM:=aa dU
  clear hO hb hk dU
  by_cases hlt:i<n
  ·have dv:i<E.length:=by have:=Hn.out;omega
   have ha2:=ha.below (HB.out.mono hB)
   obtain⟨b,off,rfl,sQ,x0,x1,x2,x3,x4⟩:=jb ha2 dv
   have hsm:=hs _ (agt dv)
   have iC:=ha2.2 _ (agt dv)
   have hst:=Ox (P:=E.map (·.1)) (k:=i) (by simpa using dv)
   have hall:MI ((E.map (·.1)).take (i+1))=(MI ((E.map (·.1)).take i) && cR E[i].1):=by
    rw[agx (by simpa using dv)];simp[MI]
   have hlen:(fd ((E.map (·.1)).take (i+1))).length≤90000:=by
    have:=rf ((E.map (·.1)).take (i+1)) fun q hq=>by
     have:=List.mem_of_mem_take hq
     obtain⟨t,ht,rfl⟩:=List.mem_map.1 this
     exact(hs t ht).2
    simp at this;omega
   have aW:cR E[i].1=false→iJ (E.map (·.1))=([],1):=fun h=>by
    unfold iJ
    have:MI (E.map (·.1))=false:=by
     simp only[MI,List.all_eq_false]
     exact⟨E[i].1,List.mem_map.2 ⟨_,agt dv,rfl⟩,by simp[h]⟩
    rw[this];rfl
   simp only[List.getElem_map] at hst
   generalize E[i]=t at*
   obtain⟨p,Ad,cd⟩:=t
   dsimp only at*
   have kJ:B≤wo.heap.size:=agm hB HB.out.size
   have hcon:=fun W (h:Below wo.heap.size wo W)=>kW p Ad B cd W (agm kJ h.size) (by omega) (ag.below (xs:=p.body) iC (h.mono kJ)) hsm.1
   unfold ju at hcon
   have hI:(i:Int)<(n:Int):=by omega
   have ac3:=hsm.2
   cases hp:cR p with
   |false=>
    have e1:ez p=([],1):=by unfold ez;rw[hp];rfl
    rw[e1] at hcon
    have cC:=aa hcon
    have Hr:=aa (aW hp)
    clear hcon aW hall hst iC hsm e1 hp
    go_wp2_with (go_at_call 70;(with_reducible refine(cC.out _ (ak (ac wo) _)).mono ?_);rintro e w2 ⟨A3,c3,rfl,bF,b2⟩;dsimp only at bF ⊢)
    go_ret2
    rw[Hr.out]
    exact⟨none,0,rfl,aq.nil _ _,af HB.out (af (ak (ac wo) _) b2)⟩
   |true=>
    have e1:ez p=(VS (BC p),0):=by unfold ez;rw[hp];rfl
    rw[e1] at hcon
    have hpl:=Kt p
    rw[hst,List.length_append,←Hk.out] at hlen
    obtain⟨L,hL⟩:∃L,L=VS (BC p):=⟨_,rfl⟩
    rw[←hL] at hcon hpl hst hlen
    have cC:=aa hcon
    have fG:=aa hst
    have ae2:L.length≤267:=by omega
    clear hpl
    have uR:Hid (MI ((E.map (·.1)).take (i+1))=true):=by show _=_;rw[hall,PM.out,hp];rfl
    clear hcon aW hall hst iC hsm e1 hp hL
    go_wp2_with (first
     |(go_at_call 70;(with_reducible refine(cC.out _ (ak (ac wo) _)).mono ?_);rintro e w2 ⟨A3,c3,rfl,bF,b2⟩;dsimp only at bF ⊢;have B2:=af (ak (ac wo) _) b2;have O2:=HO.out.below B2 (agl _))
     |(at_builtin;refine cF _ rfl (.tmp 23) (.tmp 24) rfl w A2 k c2 _ rfl O2 _ A3 L.length c3 L rfl rfl bF.ints (by omega) (af HB.out B2) ?_;intro A5 c5 w5 bT b5))
    all_goals refine⟨⟨⟨i+1,k+L.length,A5,c5,by omega,rfl,by go_num, ?_, ?_,uR.out⟩,b5⟩, ?_⟩
    all_goals first
     |(rw[fG.out];exact bT)
     |(rw[fG.out,List.length_append,Hk.out])
     |(simp[intOf];omega)
  ·obtain rfl:i=n:=by omega
   have hI:¬((i:Int)<(i:Int)):=by omega
   have qc:(E.map (·.1)).take i=E.map (·.1):=List.take_of_length_le (by have:=Hn.out;simp;omega)
   rw[qc] at HO Hk PM
   have Hr:Hid (iJ (E.map (·.1))=(fd (E.map (·.1)),0)):=by show _=_;unfold iJ;rw[PM.out];rfl
   go_wp2_with fail
   go_ret2
   rw[Hr.out]
   refine⟨A2,c2, ?_, ?_,HB.out⟩
   ·show _=Ending.returned (.tuple #[.slice A2 (fd (E.map (·.1))).length c2,.int .i64 0])
    rw[←Hk.out]
    rfl
   ·show aq _ _ A2 (fd (E.map (·.1))).length c2 (fd (E.map (·.1)))
    rw[←Hk.out]
    exact HO.out
end
end Go.Proofs.YtbhfpehgacaidaaGreatDoor
