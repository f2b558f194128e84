/- A part of the proof of the given statement TopRight. Conditions: none. -/
import Derived.Test.YtbhfpehgacaidaaGreatDoorQBE
namespace Go.Proofs.YtbhfpehgacaidaaGreatDoor
set_option linter.unusedVariables false
set_option linter.unusedSimpArgs false
set_option maxRecDepth 100000
set_option maxHeartbeats 8000000
section
open Go.RowKit
def jr(wa od:Nat)(l:List Int)(po:Int)(ks:List Int)(n:Nat)(rs:List Int):List Bool:=nb 2 3++nb wa 5++nb (aA l) 5++nb od 3++dz l (aA l)++sj po ks n od rs
theorem G7(wa od:Nat)(Cf:wa≤30)(l row:List Int)(po:Int)(ks rs:List Int)(n:Nat)(hn:od=l.length)(bE:od≤4)(Gi:od≤n)(n1:1≤n)(n2:n≤1000)(hl:ah l=true)(EC:ah rs=true)(xo:rs.length=n-od)(yK:lY po ks n od=true)(jV:ks.length≤9223372036854775807)(hC:fR po ks n od rs≤3000000)(m:Ad)(B:Nat)(hQ:rD (a7 (wa:Int) od l po ks rs) m n B row)
 (bs:List Bool) (hroom:bs.length+3040000≤4000000) (g:Nat) (w:World) (hB:B≤w.heap.size) (hm:oC w B (a7 (wa:Int) od l po ks rs) m) (h:WB w g bs) (hap:yh w g m.A) (aaR:yh w g m.Ak) (aaQ:yh w g m.Ar):
 Calls Tryz.prog 95 #[.pointer (some ⟨g,0,none⟩),io (a7 (wa:Int) od l po ks rs) m,.int .i64 (n:Int)] w (tG g (bs++jr wa od l po ks n rs) (.int .i64 0) w):=by
 obtain⟨wx,e0,e1,e2,e3⟩:=cW w (a7 (wa:Int) od l po ks rs) m
 have E0:=aa e0
 have E1:=aa e1
 have E2:=aa e2
 have bK:=aa (vN _ m n B row hQ wx (agm hB e2.size) (hm.below (e2.mono hB)))
 have H:=aa h
 have HX:=aa (h.keep e2)
 have NX:=aa (tA h e2 e3)
 have HAP:Hid (∀W,WK g w W→yh W g m.A):=aa (fun W k=>hap.keep k)
 have Db:Hid (∀W,WK g w W→ag .i64 W B m.A l):=aa (fun W k=>hm.wm.wk hap k)
 have HK0:Hid (WK g w wx):=aa (WK.of_below h.lt e2)
 have Ez:=ql hl
 obtain⟨rn,Ab⟩:∃rn,rn=rs.length:=⟨_,rfl⟩
 obtain⟨kn,yN⟩:∃kn,kn=ks.length:=⟨_,rfl⟩
 have CQ:Hid (∀W,WK g w W→∀bo:List Bool,bo.length+3000000≤4000000→WB W g bo→Calls Tryz.prog 147 #[.pointer (some ⟨g,0,none⟩),.agg #[.int .i64 po,.slice m.Ak kn m.ck],.int .i64 (n:Int),.int .i64 (od:Int),.slice m.Ar rn m.cr] W (tG g (bo++sj po ks n od rs) (.int .i64 0) W)):=aa (fun W k bo hbo hW=>by
  have:=QE po ks n od n1 (by omega) Gi rs EC xo yK m.Ak m.Ar B m.ck m.cr hm.c3.1 hm.c3.2 bo (by omega) g W (agm hB k.kp.size) jV hW (hm.ks.wk aaR k) (aaR.keep k) (hm.rs.wk aaQ k) (aaQ.keep k)
  rw[←yN,←Ab] at this
  exact this)
 have hwd:Hid (∀W,ag .i64 W B m.A l→Calls Tryz.prog 142 #[.slice m.A od m.c] W fun e w'=>e= .returned (.int .i64 (aA l:Int))∧∃q,w'=W.drewN q):=aa (fun W h=>iR l od hn (by omega) m.A B m.c W h)
 have hpB:Hid (jr wa od l po ks n rs=nb 2 3++nb wa 5++nb (aA l) 5++nb od 3++dz l (aA l)++sj po ks n od rs):=aa rfl
 have NG:Hid (∀j,j<od→(dz (l.take j) (aA l)).length+aA l≤32000):=aa (fun j hj=>by
  rw[j7,List.length_take]
  have h1:aA l*min j l.length≤31*1000:=Nat.mul_le_mul Ez (by omega)
  omega)
 have NF:Hid (∀j,j<od→dz (l.take (j+1)) (aA l)=dz (l.take j) (aA l)++sb (ix l j) (aA l)):=aa (fun j hj=>se (by omega))
 have ED:Hid (dz (l.take od) (aA l)=dz l (aA l)):=aa (by rw[hn,List.take_length])
 have hcell:Hid (∀j,j<od→j<l.length):=aa (fun j hj=>by omega)
 have qQ:nE (a7 (wa:Int) od l po ks rs) m=#[.int .i64 2,.int .i64 (wa:Int),.int .i64 (od:Int),.int .i64 0,.int .i64 0,.slice none 0 0,.int .i64 0,.int .i64 0,.int .i64 0,.slice none 0 0,.slice m.A od m.c,.int .i64 po,.slice m.Ak kn m.ck,.slice m.Ar rn m.cr]:=by rw[hn,yN,Ab];rfl
 have hres:=aa (fun W=>iX 2 W)
 rw[show jB 2=true from rfl] at hres
 unfold io at bK ⊢
 rw[qQ] at E0 E1 bK ⊢
 generalize jr wa od l po ks n rs=PB at*
 have PU:Hid (∀W,WK g wx W→W.heap[w.heap.size]? =some (.cells #[.int .i64 2,.int .i64 (wa:Int),.int .i64 (od:Int),.int .i64 0,.int .i64 0,.slice none 0 0,.int .i64 0,.int .i64 0,.int .i64 0,.slice none 0 0,.slice m.A od m.c,.int .i64 po,.slice m.Ak kn m.ck,.slice m.Ar rn m.cr] 171 (0,0))):=aa (fun W k=>(NX.out.keep k).2.trans E1.out)
 generalize aab:aA l=wd at*
 have p1:=aa (fun W h=>mq 2 3 2 3 rfl rfl (by omega) (by omega) (by omega) bs (by omega) g W h)
 have p2:=aa (fun W h=>mq wa 5 (wa:Int) 5 rfl rfl (by omega) (by omega) (by omega) (bs++nb 2 3) (by rw[List.length_append,cB];omega) g W h)
 have p3:=aa (fun W h=>mq wd 5 (wd:Int) 5 rfl rfl (by omega) (by omega) (by omega) (bs++nb 2 3++nb wa 5) (by rw[List.length_append,List.length_append,cB,cB];omega) g W h)
 have p4:=aa (fun W h=>mq od 3 (od:Int) 3 rfl rfl (by omega) (by omega) (by omega) (bs++nb 2 3++nb wa 5++nb wd 5) (by simp only[List.length_append,cB];omega) g W h)
 have i3:=agq (od:Int) (by omega)
 have i1:=agq (wa:Int) (by omega)
 have i2:=agq (wd:Int) (by omega)
 have Bg:=aa hroom
 obtain⟨⟨k0,k1,k2,k3,k4,k5,k6,k7,k8,k9,eu,eP,eO,eN⟩,_⟩:=ai E1.out
 have Hn:=aa hn
 clear e0 e1 e2 e3 h hm hap qQ hroom aab hn hl Ab yN xo yK jV hC aaR aaQ
 go_enter Tryz.func95,Tryz.ntmps95
 go_upto_region 1 with fail
 rw[←E0.out]
 go_wp2_with (first
  |(go_at_call 141;(with_reducible refine bK.out.mono ?_);rintro e w1 ⟨rfl,b1⟩;have K1:=WK.of_below HX.out.lt b1;have W1:=HX.out.keep b1;have I1:=Db.out w1 (HK0.out.trans K1);obtain⟨⟨k0,k1,k2,k3,k4,k5,k6,k7,k8,k9,eu,eP,eO,eN⟩,_⟩:=ai (PU.out w1 K1))
  |(go_at_call 142;(with_reducible refine(hwd.out w1 I1).mono ?_);rintro e w2 ⟨rfl,q2,rfl⟩;have K2:=K1.drewN q2;have W2:=W1.drewN q2)
  |(go_at_call 143;(with_reducible refine(p1.out _ W2).mono ?_);rintro e w3 ⟨rfl,W3,k3_⟩;have K3:=K2.trans k3_;obtain⟨⟨k0,k1,k2,k3,k4,k5,k6,k7,k8,k9,eu,eP,eO,eN⟩,_⟩:=ai (PU.out w3 K3))
  |(go_at_call 143;(with_reducible refine(p2.out _ W3).mono ?_);rintro e w4 ⟨rfl,W4,k4_⟩;have K4:=K3.trans k4_;obtain⟨⟨k0,k1,k2,k3,k4,k5,k6,k7,k8,k9,eu,eP,eO,eN⟩,_⟩:=ai (PU.out w4 K4))
  |(go_at_call 143;(with_reducible refine(p3.out _ W4).mono ?_);rintro e w5 ⟨rfl,W5,k5_⟩;have K5:=K4.trans k5_;obtain⟨⟨k0,k1,k2,k3,k4,k5,k6,k7,k8,k9,eu,eP,eO,eN⟩,_⟩:=ai (PU.out w5 K5))
  |(go_at_call 143;(with_reducible refine(p4.out _ W5).mono ?_);rintro e w6 ⟨rfl,W6,k6_⟩;have K6:=K5.trans k6_;obtain⟨⟨k0,k1,k2,k3,k4,k5,k6,k7,k8,k9,eu,eP,eO,eN⟩,_⟩:=ai (PU.out w6 K6)))
 have HW5:=aa W6
 have HK5:=aa (HK0.out.trans K6)
 have abt:=aa K6
 clear k0 k1 k2 k3 k4 k5 k6 k7 k8 k9 eu eP eO eN W1 W2 W3 W4 W5 W6 K1 K2 K3 K4 K5 K6 k3_ k4_ k5_ k6_ I1 b1
 go_loopw [96] (fun jv wr=>∃j:Nat,j≤od∧jv= .int .i64 (j:Int)∧WB wr g (bs++nb 2 3++nb wa 5++nb wd 5++nb od 3++dz (l.take j) wd)∧WK g w wr∧WK g wx wr) (fun jv _=>od-(intOf jv).toNat)
 case atStart=>exact⟨0,agw _,rfl,by simpa [dz] using HW5.out,HK5.out,abt.out⟩
 case round=>
  obtain⟨j,hj,rfl,hWj,hKj,hKx⟩:=hrel
  obtain⟨wo,rfl⟩:∃wo:World,wo=wr:=⟨_,rfl⟩
  have HWj:=aa hWj
  have Zl:=aa hKj
  have HKx:=aa hKx
  clear hWj hKj hKx
  by_cases hlt:j<od
  ·obtain⟨b8,o8,e8,mV⟩:=(Db.out wo Zl.out).at_ (hcell.out j hlt)
   have hstep:=aa (NF.out j hlt)
   have RX:=NG.out j hlt
   have Sc:=aa (tP (ix l j) wd (by omega) (bs++nb 2 3++nb wa 5++nb wd 5++nb od 3++dz (l.take j) wd) (by have:=Bg.out;simp only[List.length_append,cB];omega) g wo HWj.out)
   have s5:(j:Int)<(od:Int):=by omega
   have s6:=agp ((j:Int)+1) (by omega)
   generalize ix l j=x at*
   rw[e8]
   clear RX
   go_wp2_with (go_at_call 144;(with_reducible refine Sc.out.mono ?_);rintro e w8 ⟨rfl,W8,q8⟩)
   refine⟨⟨j+1,hlt,by go_num, ?_,Zl.out.trans q8,HKx.out.trans q8⟩, ?_⟩
   ·rw[hstep.out,←List.append_assoc];exact W8
   ·simp[intOf];omega
  ·have ej:j=od:=by omega
   subst ej
   have hF:Hid (WB wo g (bs++nb 2 3++nb wa 5++nb wd 5++nb j 3++dz l wd)):=by
    have:=HWj.out
    rw[ED.out] at this
    exact aa this
   have hbl:(bs++nb 2 3++nb wa 5++nb wd 5++nb j 3++dz l wd).length+3000000≤4000000:=by
    have:=Bg.out
    have h1:(dz l wd).length≤31*4:=by
     rw[j7,←Hn.out]
     exact Nat.mul_le_mul Ez bE
    simp only[List.length_append,cB]
    omega
   obtain⟨⟨k0,k1,k2,k3,k4,k5,k6,k7,k8,k9,eu,eP,eO,eN⟩,_⟩:=ai (PU.out wo HKx.out)
   have Hpp:=aa (CQ.out wo Zl.out _ hbl hF.out)
   clear hbl
   go_wp2_with (first
    |(go_at_call 146;(with_reducible refine(hres.out _).mono ?_);rintro e w6 ⟨rfl,rfl⟩)
    |(go_at_call 147;(with_reducible refine Hpp.out.mono ?_);rintro e w7 ⟨rfl,W7,K7⟩))
   go_ret
   refine⟨rfl, ?_,Zl.out.trans K7⟩
   rw[hpB.out]
   simp only[←List.append_assoc]
   exact W7
theorem Dt(wa od:Nat)(Cf:wa≤30)(l row:List Int)(po:Int)(ks rs:List Int)(n:Nat)(hn:od=l.length)(bE:od≤4)(Gi:od≤n)(n1:1≤n)(n2:n≤1000)(hl:ah l=true)(EC:ah rs=true)(xo:rs.length=n-od)(yK:lY po ks n od=true)(jV:ks.length≤9223372036854775807)(hC:fR po ks n od rs≤3000000)(m:Ad)(B:Nat)(hQ:rD (a7 (wa:Int) od l po ks rs) m n B row)
 (w:World) (hB:B≤w.heap.size) (hm:oC w B (a7 (wa:Int) od l po ks rs) m):
 Calls Tryz.prog 140 #[io (a7 (wa:Int) od l po ks rs) m,.int .i64 (n:Int)] w fun e w'=>e= .returned (.int .i64 ((jr wa od l po ks n rs).length:Int))∧Below w.heap.size w w':=by
 obtain⟨wx,e0,e1,e2,e3⟩:=cW w (a7 (wa:Int) od l po ks rs) m
 have E0:=aa e0
 have E1:=aa e1
 have E2:=aa e2
 have E4:Hid (wx.heap.size=w.heap.size+1):=aa (by rw[e0];simp)
 obtain⟨rn,Ab⟩:∃rn,rn=rs.length:=⟨_,rfl⟩
 obtain⟨kn,yN⟩:∃kn,kn=ks.length:=⟨_,rfl⟩
 have qQ:nE (a7 (wa:Int) od l po ks rs) m=#[.int .i64 2,.int .i64 (wa:Int),.int .i64 (od:Int),.int .i64 0,.int .i64 0,.slice none 0 0,.int .i64 0,.int .i64 0,.int .i64 0,.slice none 0 0,.slice m.A od m.c,.int .i64 po,.slice m.Ak kn m.ck,.slice m.Ar rn m.cr]:=by rw[hn,yN,Ab];rfl
 have hput:=aa (fun g (W:World) (hb:Below w.heap.size w W) (h:WB W g []) (hg:w.heap.size≤g)=>G7 wa od Cf l row po ks rs n hn bE Gi n1 n2 hl EC xo yK jV hC m B hQ [] (by simp) g W (agm hB hb.size) (hm.below (hb.mono hB)) h (h.apart fun q hq=>by have:=hm.l1 q hq;omega) (h.apart fun q hq=>by have:=hm.l2 q hq;omega) (h.apart fun q hq=>by have:=hm.l3 q hq;omega))
 have hlen:=aa (fun g W (h:WB W g (jr wa od l po ks n rs))=>De (jr wa od l po ks n rs) g W h)
 unfold io at hput ⊢
 rw[qQ] at E0 E1 hput ⊢
 simp only[List.nil_append] at hput
 generalize jr wa od l po ks n rs=PB at*
 obtain⟨⟨k0,k1,k2,k3,k4,k5,k6,k7,k8,k9,eu,eP,eO,eN⟩,_⟩:=ai E1.out
 clear e0 e1 e2 hm qQ hn hl Ab yN xo yK jV hC
 go_enter Tryz.func140,Tryz.ntmps140
 go_upto_region 1 with fail
 rw[←E0.out]
 go_upto_region 2 with fail
 have hv:=ago wx (.cells #[.slice none 0 0,.int .i64 0] 176)
 have bv:=ak (ac wx) (.cells #[.slice none 0 0,.int .i64 0] 176)
 obtain⟨wv,tY⟩:∃wv,wv=wx.alloc (.cells #[.slice none 0 0,.int .i64 0] 176):=⟨_,rfl⟩
 rw[←tY] at hv bv ⊢
 have Vf:Hid (WB wv wx.heap.size []):=aa ⟨none,0,hv,aq.nil _ _⟩
 have BV:=aa (af E2.out bv)
 obtain⟨⟨k0,k1,k2,k3,k4,k5,k6,k7,k8,k9,eu,eP,eO,eN⟩,_⟩:=ai ((bv.block _ e3).trans E1.out)
 obtain⟨gw,sO⟩:∃gw,gw=wx.heap.size:=⟨_,rfl⟩
 rw[←sO] at Vf ⊢
 have Uo:Hid (w.heap.size≤gw):=aa (by have:=E2.out.size;omega)
 clear hv bv tY sO e3
 go_wp2_with (first
  |(go_at_call 95;(with_reducible refine(hput.out gw wv BV.out Vf.out Uo.out).mono ?_);rintro e w3 ⟨rfl,W3,K3⟩)
  |(go_at_call 190;(with_reducible refine(hlen.out gw w3 W3).mono ?_);rintro e w4 ⟨rfl,q4,rfl⟩))
 go_ret
 refine⟨rfl, ?_⟩
 have h1:=BV.out.trans (K3.below Vf.out Uo.out)
 exact⟨h1.os,h1.tape,h1.output,h1.size,h1.block⟩
def AW(o:Int):Array Value:=#[
 .int .i64 0,.int .i64 0,.int .i64 0,.int .i64 0,.int .i64 0,.slice none 0 0,.int .i64 0,.int .i64 0,.int .i64 0,.slice none 0 0,.slice none 0 0,.int .i64 0,.slice none 0 0,.slice none 0 0,
 .int .i64 1,.int .i64 0,.int .i64 0,.int .i64 0,.int .i64 0,.slice none 0 0,.int .i64 0,.int .i64 0,.int .i64 0,.slice none 0 0,.slice none 0 0,.int .i64 0,.slice none 0 0,.slice none 0 0,
 .int .i64 2,.int .i64 0,.int .i64 o,.int .i64 0,.int .i64 0,.slice none 0 0,.int .i64 0,.int .i64 0,.int .i64 0,.slice none 0 0,.slice none 0 0,.int .i64 0,.slice none 0 0,.slice none 0 0]
theorem TC(d:List Int)(o:Int)(ho:(iK d 5).1=o)(n:Nat)(hn:n=d.length)(n2:n≤4096)(A:Option Addr)(c:Nat)(w:World)(ha:ag .i64 w w.heap.size A d):
 Calls Tryz.prog 138 #[.slice A n c,.int .i64 0] w fun e w'=>∃g,e= .returned (.slice (some ⟨g,0,none⟩) 3 3)∧w'.heap[g]? =some (.cells (AW o) 171 (0,0))∧w.heap.size≤g∧Below w.heap.size w w':=by
 have hb:=aa (fun W (h:Below w.heap.size w W)=>by
  have:=OG d (by omega) A c W ((ha.below h).more h.size)
  unfold abl at this
  rw[ho,←hn] at this;exact this)
 have hcc:Hid (AW o=#[
 .int .i64 0,.int .i64 0,.int .i64 0,.int .i64 0,.int .i64 0,.slice none 0 0,.int .i64 0,.int .i64 0,.int .i64 0,.slice none 0 0,.slice none 0 0,.int .i64 0,.slice none 0 0,.slice none 0 0,
 .int .i64 1,.int .i64 0,.int .i64 0,.int .i64 0,.int .i64 0,.slice none 0 0,.int .i64 0,.int .i64 0,.int .i64 0,.slice none 0 0,.slice none 0 0,.int .i64 0,.slice none 0 0,.slice none 0 0,
 .int .i64 2,.int .i64 0,.int .i64 o,.int .i64 0,.int .i64 0,.slice none 0 0,.int .i64 0,.int .i64 0,.int .i64 0,.slice none 0 0,.slice none 0 0,.int .i64 0,.slice none 0 0,.slice none 0 0]):=aa rfl
 generalize AW o=CC at*
 clear hn ha ho
 go_enter Tryz.func138,Tryz.ntmps138
 go_upto_region 1 with fail
 have hx:=ago w (.cells #[.slice A n c] 39)
 have bx:=ak (ac w) (.cells #[.slice A n c] 39)
 obtain⟨wx,hwx⟩:∃wx,wx=w.alloc (.cells #[.slice A n c] 39):=⟨_,rfl⟩
 rw[←hwx] at hx bx ⊢
 have k0:=jf hx
 have BX:=aa bx
 clear hwx hx bx
 go_upto_region 2 with (go_at_call 182;(with_reducible refine(hb.out wx BX.out).mono ?_);rintro e w1 ⟨rfl,b1⟩)
 rw[←hcc.out]
 have Aa:=(ags (w1.alloc (.cells CC 171)) (.cells #[.slice (some ⟨w1.heap.size,0,none⟩) 3 3] 93) w1.heap.size (by simp)).trans (ago w1 (.cells CC 171))
 have Ce:((w1.alloc (.cells CC 171)).alloc (.cells #[.slice (some ⟨w1.heap.size,0,none⟩) 3 3] 93)).cell? ⟨w1.heap.size+1,0,none⟩=some (.slice (some ⟨w1.heap.size,0,none⟩) 3 3):=by
  have:=ago (w1.alloc (.cells CC 171)) (.cells #[.slice (some ⟨w1.heap.size,0,none⟩) 3 3] 93)
  have e:(w1.alloc (.cells CC 171)).heap.size=w1.heap.size+1:=by simp
  rw[e] at this
  exact jf this
 have lz:Below w.heap.size w ((w1.alloc (.cells CC 171)).alloc (.cells #[.slice (some ⟨w1.heap.size,0,none⟩) 3 3] 93)):=af BX.out (ak (ak b1 _) _)
 obtain⟨wy,mi⟩:∃wy,wy=(w1.alloc (.cells CC 171)).alloc (.cells #[.slice (some ⟨w1.heap.size,0,none⟩) 3 3] 93):=⟨_,rfl⟩
 rw[←mi] at Aa Ce lz ⊢
 have HY1:=aa Aa
 have BY:=aa lz
 obtain⟨g1,hg1⟩:∃g1,g1=w1.heap.size:=⟨_,rfl⟩
 rw[←hg1] at Ce HY1 ⊢
 have PQ:Hid (w.heap.size≤g1):=aa (by have:=BX.out.size;have:=b1.size;omega)
 clear mi Aa lz hg1 b1 k0
 go_wp2_with fail
 go_ret
 exact⟨g1,rfl,HY1.out,PQ.out,BY.out⟩
end
end Go.Proofs.YtbhfpehgacaidaaGreatDoor
