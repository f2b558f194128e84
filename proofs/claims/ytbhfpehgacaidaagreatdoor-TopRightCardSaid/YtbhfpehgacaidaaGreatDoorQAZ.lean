/- A part of the proof of the given statement TopRight. Conditions: none. -/
import Derived.Test.YtbhfpehgacaidaaGreatDoorQAY
namespace Go.Proofs.YtbhfpehgacaidaaGreatDoor
set_option linter.unusedVariables false
set_option linter.unusedSimpArgs false
set_option maxRecDepth 100000
set_option maxHeartbeats 8000000
section
open Go.RowKit
theorem aa4{ops:Array Oper}{rest:List Oper}{o:Oper}{a:Act}{Q:Exit→Act→World→Prop}(w2:World)(hgd:o.guard=none)(s x:Operand)
 (ho:o.op= .call {callee:=.builtin .append,args:=#[s,x],argTypes:=#[39,39]}) (B:Nat) (A1:Option Addr) (n1 c1:Nat) (L:List Int) (hs:a.eval s= .slice A1 n1 c1) (hown:ax w2 B A1 n1 c1 L)
 (i:Int) (arr:Array Value) (fo:arr.toList=[.int .i64 i]) (ty:TypeId)
 (hx:a.eval x= .slice (some ⟨w2.heap.size,0,none⟩) 1 1) (hsz:n1+1≤1000000) (hB:B≤w2.heap.size)
 (h:∀A' c' w',ax w' B A' (n1+1) c' (L++[i])→dl A1 w2 w'→Below B w2 w'→(aj A'=aj A1∨aj A'=some (w2.heap.size+1))→wpList Tryz.prog ops Q rest (a.put o.dst (.slice A' (n1+1) c')) w'):wpList Tryz.prog ops Q (o :: rest) a (w2.alloc (.cells arr ty)):=by
 obtain⟨i0,cw,hz0,hz1,hz2⟩:=info_parts gR
 refine aP _ hgd s x 39 ho B 3 i0 _ 1 8 Tryz.underlying39 cw hz0 hz1 hz2 rfl (by omega) _ n1 _ hs (hown.alloc _) (w2.heap.size+1) _ 1 1 [.int .i64 i] hx (by rfl) (dr w2 _ _ _ fo) (fun u hu=>by rw[List.mem_singleton] at hu;subst hu;rfl) (by simp only[maxLen];omega) (by omega) (by simp;omega) ?_
 intro A' c' w' h1 h2 h3
 refine h A' c' w' ?_ (dl.lit h2) (aI ((ak (ac w2) _).mono hB) (hown.alloc _) h2 (by simp;omega)) ?_
 ·unfold ax
  rw[List.map_append]
  exact h1
 ·rw[ae,ae] at h3
  simpa using h3
theorem QO(w:World)(x:Int)(arr:Array Value)(fo:arr=#[.int .i64 x]):ax (w.alloc (.cells arr 3)) w.heap.size (some ⟨w.heap.size,0,none⟩) 1 1 [x]:=by
 subst fo;exact World.ownsRow_lit w #[.int .i64 x] 1 (agl _) (by simp[maxLen]) (by simp)
def ZQ(l:List Int)(w:World)(e:Ending)(w':World):Prop:=∃A c,e= .returned (.slice A l.length c)∧ax w' w.heap.size A l.length c l∧Below w.heap.size w w'
def szN(o n warm:Nat):List Int:=if n%2 ^ o=0∧warm≤n/2 ^ o then((n/2 ^ o-warm:Nat):Int) :: List.replicate (2 ^ o-1) ((n/2 ^ o:Nat):Int)else []
def aJ(o:Int)(n warm:Nat):List Int:=if 0≤o∧o≤8 then szN o.toNat n warm else []
theorem Bj(o:Nat):1≤2 ^ o:=Nat.two_pow_pos o
theorem P7(o:Nat)(h:o≤8):2 ^ o≤256:=Nat.pow_le_pow_right (n:=2) (by omega) h
theorem kS(o:Int)(n warm:Nat):(aJ o n warm).length≤256:=by
 unfold aJ
 split
 ·rename_i h
  unfold szN
  split
  ·have:=P7 o.toNat (by omega)
   have:=Bj o.toNat
   simp;omega
  ·simp
 ·simp
theorem oY{o:Int}{n warm:Nat}(h:aJ o n warm≠[]):(aJ o n warm).sum=((n-warm:Nat):Int)∧warm≤n∧(∀s∈aJ o n warm,0≤s∧s≤(n:Int)):=by
 unfold aJ szN at*
 split at h
 ·split at h
  ·rename_i h1 h2
   obtain⟨k,hk⟩:∃k,k=n/2 ^ o.toNat:=⟨_,rfl⟩
   have hn:n=2 ^ o.toNat*k:=by have:=Nat.div_add_mod n (2 ^ o.toNat);rw[h2.1,←hk] at this;omega
   have hp:=Bj o.toNat
   rw[if_pos h1,if_pos h2]
   rw[←hk] at h2 ⊢
   obtain⟨E,hE⟩:∃E,2 ^ o.toNat=E+1:=⟨2 ^ o.toNat-1,by omega⟩
   rw[hE] at hn ⊢
   have hs:∀(m:Nat) (x:Int),(List.replicate m x).sum=m*x:=by
    intro m x
    induction m with
    |zero=>simp
    |succ m ih=>rw[List.replicate_succ,List.sum_cons,ih];push_cast;rw[Int.add_mul,Int.one_mul];omega
   have aft:n=E*k+k:=by rw[hn,Nat.add_mul,Nat.one_mul]
   rw[List.sum_cons,Nat.add_sub_cancel,hs]
   have hc:((E:Int)*(k:Int))=((E*k:Nat):Int):=by push_cast;rfl
   rw[hc]
   generalize E*k=Ek at*
   refine⟨by omega,by omega,fun s hm=> ?_⟩
   rcases List.mem_cons.1 hm with rfl | hm
   ·omega
   ·rw[List.eq_of_mem_replicate hm];omega
  ·exact absurd rfl h
 ·exact absurd rfl h
theorem DG(n warm:Nat)(h1:1≤n)(h2:n≤4096)(hw:warm≤n)(w:World):Calls Tryz.prog 236 #[.int .i64 (n:Int),.int .i64 (warm:Int)] w fun e w'=>e= .returned (.bool true)∧w'=w:=by
 have c1:(1:Int)≤(n:Int):=by omega
 have c2:(n:Int)≤4096:=by omega
 have c3:(0:Int)≤(warm:Int):=by omega
 have c4:(warm:Int)≤(n:Int):=by omega
 clear h1 h2 hw
 go_enter Tryz.func236,Tryz.ntmps236
 go_wp2_with fail
 go_ret
 exact⟨rfl,rfl⟩
theorem nD(o:Int)(n warm:Nat)(h1:1≤n)(h2:n≤4096)(hw:warm≤n)(w:World):
 Calls Tryz.prog 192 #[.int .i64 o,.int .i64 (n:Int),.int .i64 (warm:Int)] w (ZQ (aJ o n warm) w):=by
 have hrow:=aa (DG n warm h1 h2 hw)
 by_cases ho:0≤o∧o≤8
 case neg=>
  have hr:Hid (aJ o n warm=[]):=aa (by unfold aJ;rw[if_neg ho])
  by_cases cM:o<0
  ·go_enter Tryz.func192,Tryz.ntmps192
   go_wp2_with (go_at_call 236;(with_reducible refine(hrow.out _).mono ?_);rintro e w1 ⟨rfl,rfl⟩)
   go_ret
   rw[hr.out]
   exact⟨none,0,rfl,ax.nil _ _,ac _⟩
  ·have cD:8<o:=by omega
   go_enter Tryz.func192,Tryz.ntmps192
   go_wp2_with (go_at_call 236;(with_reducible refine(hrow.out _).mono ?_);rintro e w1 ⟨rfl,rfl⟩)
   go_ret
   rw[hr.out]
   exact⟨none,0,rfl,ax.nil _ _,ac _⟩
 case pos=>
  obtain⟨k,rfl⟩:∃k:Nat,o=(k:Int):=⟨o.toNat,by omega⟩
  have hr:Hid (aJ (k:Int) n warm=szN k n warm):=aa (by unfold aJ;rw[if_pos ho];rfl)
  have lS:=P7 k (by omega)
  have Ac:=Bj k
  have c1:¬(k:Int)<0:=by omega
  have c2:¬8<(k:Int):=by omega
  have hdm:=Nat.div_add_mod n (2 ^ k)
  have hsz:Hid (szN k n warm=if n%2 ^ k=0∧warm≤n/2 ^ k then((n/2 ^ k-warm:Nat):Int) :: List.replicate (2 ^ k-1) ((n/2 ^ k:Nat):Int)else []):=aa rfl
  have hle:n/2 ^ k≤n:=Nat.div_le_self _ _
  have hE:(2:Int) ^ k=((2 ^ k:Nat):Int):=by simp
  have hsh:(n:Int)/((2 ^ k:Nat):Int)=((n/2 ^ k:Nat):Int):=by rw[Int.natCast_ediv]
  rw[hr.out,hsz.out]
  clear hr hsz
  generalize n/2 ^ k=q at*
  generalize n%2 ^ k=r at*
  generalize 2 ^ k=E at*
  obtain⟨P,hP⟩:∃P,P=E*q:=⟨_,rfl⟩
  rw[←hP] at hdm
  have UX:(q:Int)*(E:Int)=(P:Int):=by rw[hP,Int.mul_comm];push_cast;rfl
  have j1:=agp (P:Int) (by omega)
  have j2:=agp ((q:Int)-(warm:Int)) (by omega)
  have j3:=agp (E:Int) (by omega)
  clear hP
  by_cases hz:r=0
  case neg=>
   have d1:¬(P:Int)=(n:Int):=by omega
   rw[if_neg (fun h=>hz h.1)]
   clear hdm lS Ac hle ho
   go_enter Tryz.func192,Tryz.ntmps192
   go_wp2_with (go_at_call 236;(with_reducible refine(hrow.out _).mono ?_);rintro e w1 ⟨rfl,rfl⟩)
   go_ret
   exact⟨none,0,rfl,ax.nil _ _,ac _⟩
  case pos=>
   have d1:(P:Int)=(n:Int):=by omega
   by_cases jl:warm≤q
   case neg=>
    have d2:(q:Int)<(warm:Int):=by omega
    rw[if_neg (fun h=>jl h.2)]
    clear hdm lS Ac hle ho
    go_enter Tryz.func192,Tryz.ntmps192
    go_wp2_with (go_at_call 236;(with_reducible refine(hrow.out _).mono ?_);rintro e w1 ⟨rfl,rfl⟩)
    go_ret
    exact⟨none,0,rfl,ax.nil _ _,ac _⟩
   case pos=>
    have d2:¬(q:Int)<(warm:Int):=by omega
    rw[if_pos ⟨hz,jl⟩]
    have hv:Hid ((q:Int)-(warm:Int)=((q-warm:Nat):Int)):=aa (by omega)
    clear hdm hle ho hz
    go_enter Tryz.func192,Tryz.ntmps192
    go_wp2_with (go_at_call 236;(with_reducible refine(hrow.out _).mono ?_);rintro e w1 ⟨rfl,rfl⟩)
    have hf:decide (q<warm)=false:=decide_eq_false (by omega)
    rw[hf]
    have hst:=aa (QO w1 ((q:Int)-(warm:Int)) _ rfl)
    have Js:=aa (ak (ac w1) (.cells #[.int .i64 ((q:Int)-(warm:Int))] 3))
    obtain⟨wx,hwx⟩:∃wx,wx=w1.alloc (.cells #[.int .i64 ((q:Int)-(warm:Int))] 3):=⟨_,rfl⟩
    rw[←hwx] at hst Js ⊢
    rw[hv.out] at hst
    clear hwx
    go_loopg [8] (E-1) (fun gh sv wr=>∃(j:Nat) (A:Option Addr) (c:Nat),j+gh=E-1∧sv= .slice A (j+1) c∧ax wr w1.heap.size A (j+1) c (((q-warm:Nat):Int) :: List.replicate j (q:Int))∧Below w1.heap.size w1 wr)
    case atStart=>exact⟨0,_,_,by omega,rfl,hst.out,Js.out⟩
    case round=>
     obtain⟨j,A,c,hj,rfl,hO,hB⟩:=hrel
     obtain⟨wo,rfl⟩:∃wo:World,wo=wr:=⟨_,rfl⟩
     have HO:=aa hO
     have HB:=aa hB
     have Hj:=aa hj
     have Jh:j≤E-1:=by omega
     clear hO hB hj
     by_cases hlt:j<E-1
     ·have hlI:((j+1:Nat):Int)<(E:Int):=by omega
      have afx:(j:Int)+1<(E:Int):=by omega
      go_wp2_with (at_builtin;refine aa4 wo rfl (.tmp 43) (.tmp 45) rfl w1.heap.size A (j+1) c _ rfl HO.out (q:Int) _ rfl _ rfl (by omega) HB.out.size ?_;intro A6 c6 w6 dC kp6 b6 at6)
      go_roundg (E-1-(j+1))
      case measure=>have:=Hj.out;omega
      case rel=>exact⟨j+1,A6,c6,by omega,rfl,by rw[List.replicate_succ'];exact dC,HB.out.trans b6⟩
     ·have hjj:j=E-1:=by omega
      have hlI:¬(j:Int)+1<(E:Int):=by omega
      go_wp2_with fail
      go_ret
      have h0:=HO.out
      rw[hjj] at h0
      refine⟨A,c, ?_, ?_,HB.out⟩
      ·rw[List.length_cons,List.length_replicate,show E-1+1=E by omega];rfl
      ·rw[List.length_cons,List.length_replicate];exact h0
def kB(k:Int):Bool:=decide ((0≤k∧k≤25)∨k=31)
def lY(o:Int)(ks:List Int)(n warm:Nat):Bool:=decide ((aJ o n warm).length≠0) && decide (ks.length=(aJ o n warm).length) && ks.all kB
theorem KI{ks:List Int}(h:ks.all kB=true){i:Nat}(hi:i<ks.length):kB (ix ks i)=true:=List.all_eq_true.1 h _ (lg hi)
theorem abV{ks:List Int}{i:Nat}(hi:i<ks.length)(h:kB (ix ks i)=false):ks.all kB=false:=by
 cases e:ks.all kB with
 |false=>rfl
 |true=>rw[KI e hi] at h;cases h
theorem DL(o:Int)(ks:List Int)(n warm:Nat)(h1:1≤n)(h2:n≤4096)(hw:warm≤n)(A:Option Addr)(B c:Nat)(w:World)(hB:B≤w.heap.size)(jV:ks.length≤9223372036854775807)(ha:ag .i64 w B A ks):
 Calls Tryz.prog 204 #[.agg #[.int .i64 o,.slice A ks.length c],.int .i64 (n:Int),.int .i64 (warm:Int)] w fun e w'=>e= .returned (.bool (lY o ks n warm))∧Below w.heap.size w w':=by
 have hsz:=aa (nD o n warm h1 h2 hw)
 have hm:Hid (lY o ks n warm=(decide ((aJ o n warm).length≠0) && decide (ks.length=(aJ o n warm).length) && ks.all kB)):=aa rfl
 have KO:=kS o n warm
 have Ha:=aa ha
 clear ha
 generalize lY o ks n warm=R at hm ⊢
 generalize aJ o n warm=sz at*
 obtain⟨ns,ud⟩:∃ns,ns=sz.length:=⟨_,rfl⟩
 obtain⟨nk,Gj⟩:∃nk,nk=ks.length:=⟨_,rfl⟩
 rw[←Gj]
 rw[←ud,←Gj] at hm
 rw[←Gj] at jV
 rw[←ud] at KO
 have Gx:=aa ud
 have Hnk:=aa Gj
 clear ud Gj
 go_enter Tryz.func204,Tryz.ntmps204
 go_upto_region 1 with fail
 have hx:(w.alloc (.cells #[.int .i64 o,.slice A nk c] 169)).heap[w.heap.size]? =some (.cells #[.int .i64 o,.slice A nk c] 169 (0,0)):=ago w _
 have bx:=ak (ac w) (.cells #[.int .i64 o,.slice A nk c] 169)
 obtain⟨wx,hwx⟩:∃wx,wx=w.alloc (.cells #[.int .i64 o,.slice A nk c] 169):=⟨_,rfl⟩
 rw[←hwx] at hx bx ⊢
 have BX:=aa bx
 obtain⟨⟨k0,k1⟩,z0,z1⟩:=aB hx
 clear hwx hx bx
 have ND:Hid (∀w,Calls Tryz.prog 192 #[.int .i64 o,.int .i64 (n:Int),.int .i64 (warm:Int)] w fun e w'=>∃A c,e= .returned (.slice A ns c)∧ax w' w.heap.size A ns c sz∧Below w.heap.size w w'):=aa (fun w=>by have:=hsz.out w;rw[Gx.out];exact this)
 by_cases hz:ns=0
 ·have hzI:((ns:Int) == 0)=true:=by rw[beq_iff_eq];omega
  have hR:Hid (R=false):=aa (by rw[hm.out,decide_eq_false (fun h=>h hz),Bool.false_and,Bool.false_and])
  clear KO hz
  go_wp2_with (go_at_call 192;(with_reducible refine(ND.out _).mono ?_);rintro e w1 ⟨A1,c1,rfl,cM,b1⟩)
  go_ret
  rw[hR.out]
  exact⟨rfl,af BX.out b1⟩
 ·have hzI:((ns:Int) == 0)=false:=by rw[beq_eq_false_iff_ne];omega
  have hzN:(ns == 0)=false:=by rw[beq_eq_false_iff_ne];exact hz
  have rM:Hid (R=(decide (nk=ns) && ks.all kB)):=aa (by rw[hm.out,decide_eq_true hz,Bool.true_and])
  clear KO
  by_cases hl:nk=ns
  case neg=>
   have hlI:¬(nk:Int)=(ns:Int):=by omega
   have hR:Hid (R=false):=aa (by rw[rM.out,decide_eq_false hl,Bool.false_and])
   clear hz hl
   go_wp2_with (go_at_call 192;(with_reducible refine(ND.out _).mono ?_);rintro e w1 ⟨A1,c1,rfl,cM,b1⟩;have n1:=later b1 k1)
   go_ret
   rw[hR.out]
   exact⟨rfl,af BX.out b1⟩
  case pos=>
   have hlI:(nk:Int)=(ns:Int):=by omega
   have yM:Hid (R=ks.all kB):=aa (by rw[rM.out,decide_eq_true hl,Bool.true_and])
   clear hm rM
   clear hz hl
   go_wp2_with (go_at_call 192;(with_reducible refine(ND.out _).mono ?_);rintro e w1 ⟨A1,c1,rfl,cM,b1⟩;have n1:=later b1 k1)
   have B1:=aa (af BX.out b1)
   have ha1:=(Ha.out.below (B1.out.mono hB))
   have HA1:=aa ha1
   clear n1 ha1
   go_loop [9,29] (fun _ iv=>∃i:Nat,i≤nk∧iv= .int .i64 (i:Int)∧∀j,j<i→kB (ix ks j)=true) (fun _ iv=>nk-(intOf iv).toNat)
   case atStart=>exact⟨0,agw _,rfl,fun j h=>absurd h (by omega)⟩
   case round=>
    obtain⟨i,hi,rfl,hj⟩:=hrel
    have Hj:=aa hj
    clear hj
    by_cases hlt:i<nk
    ·obtain⟨b2,o2,e2,hc2⟩:=HA1.out.at_ (show i<ks.length by rw[←Hnk.out];exact hlt)
     subst e2
     have hkb:Hid (kB (ix ks i)=decide ((0≤ix ks i∧ix ks i≤25)∨ix ks i=31)):=aa rfl
     have hno:Hid (kB (ix ks i)=false→ks.all kB=false):=aa (fun h=>abV (by rw[←Hnk.out];exact hlt) h)
     have nQ:(i:Int)<(nk:Int):=by omega
     have afJ:(i:Int)<(ns:Int):=by omega
     have i2:=agp ((i:Int)+1) (by omega)
     obtain⟨x,hx⟩:∃x,ix ks i=x:=⟨_,rfl⟩
     rw[hx] at hc2 hkb hno
     have Hx:=aa hx
     clear hx
     by_cases hx1:x<0
     ·go_wp2_with fail
      go_ret
      rw[yM.out,hno.out (by rw[hkb.out,decide_eq_false (by omega)])]
      exact⟨rfl,B1.out⟩
     ·by_cases hx2:25<x
      ·by_cases hx3:x=31
       ·subst hx3
        go_wp2_with fail
        go_round
        case rel=>exact⟨i+1,by omega,by go_num,fun j hj=>by
         by_cases e:j=i
         ·subst e;rw[Hx.out,hkb.out];rfl
         ·exact Hj.out j (by omega)⟩
        case measure=>simp[intOf];omega
       ·have Ys:(x == 31)=false:=by rw[beq_eq_false_iff_ne];exact hx3
        go_wp2_with fail
        go_ret
        rw[yM.out,hno.out (by rw[hkb.out,decide_eq_false (by omega)])]
        exact⟨rfl,B1.out⟩
      ·go_wp2_with fail
       go_round
       case rel=>exact⟨i+1,by omega,by go_num,fun j hj=>by
        by_cases e:j=i
        ·subst e;rw[Hx.out,hkb.out,decide_eq_true (by omega)]
        ·exact Hj.out j (by omega)⟩
       case measure=>simp[intOf];omega
    ·have e:i=nk:=by omega
     subst e
     go_wp2_with fail
     go_ret
     refine⟨?_,B1.out⟩
     rw[yM.out,show ks.all kB=true from List.all_eq_true.2 fun x hx=>by
      obtain⟨j,hj,rfl⟩:=kZ hx
      exact Hj.out j (by rw[Hnk.out];exact hj)]
     rfl
theorem wH(n warm:Nat)(h1:1≤n)(h2:n≤4096)(hw:warm≤n)(l:List Int)(hl:ah l=true)(hn:l.length=n-warm)(A:Option Addr)(B c:Nat)(w:World)(ha:ag .i64 w B A l):
 Calls Tryz.prog 232 #[.int .i64 (n:Int),.int .i64 (warm:Int),.slice A l.length c] w fun e w'=>e= .returned (.bool true)∧w'=w:=by
 have hrow:=aa (DG n warm h1 h2 hw)
 obtain⟨m,hm⟩:∃m,m=l.length:=⟨_,rfl⟩
 rw[←hm] at hn ⊢
 have Hm:=aa hm
 have i1:=agp ((n:Int)-(warm:Int)) (by omega)
 have i3:(m:Int)=(n:Int)-(warm:Int):=by omega
 have i4:((m:Int) == (n:Int)-(warm:Int))=true:=by rw[beq_iff_eq];exact i3
 have I3:=aa i3
 have Sq:m≤4096:=by omega
 clear hn hm i3
 go_enter Tryz.func232,Tryz.ntmps232
 go_wp2_with (go_at_call 236;(with_reducible refine(hrow.out _).mono ?_);rintro e w1 ⟨rfl,rfl⟩)
 go_loop [8,23] (fun _ iv=>∃i:Nat,i≤m∧iv= .int .i64 (i:Int)) (fun _ iv=>m-(intOf iv).toNat)
 case atStart=>exact⟨0,agw _,rfl⟩
 case round=>
  obtain⟨i,hi,rfl⟩:=hrel
  by_cases hlt:i<m
  ·obtain⟨b2,o2,rfl,hc2⟩:=ha.at_ (show i<l.length by rw[←Hm.out];exact hlt)
   have hwx:=cX.1 (aZ.1 hl i (by rw[←Hm.out];exact hlt))
   have nQ:(i:Int)<(m:Int):=by omega
   have i2:=agp ((i:Int)+1) (by omega)
   generalize ix l i=x at*
   have hx1:¬x< -1073741824:=by omega
   have hx2:¬1073741824≤x:=by omega
   clear hwx
   go_wp2_with fail
   go_round
   case rel=>exact⟨i+1,by omega,by go_num⟩
   case measure=>simp[intOf];omega
  ·have e:i=m:=by omega
   subst e
   go_wp2_with fail
   go_ret
   exact⟨rfl,rfl⟩
def mH(l:List Int):Nat:=5+aA l*l.length
theorem DJ(l:List Int)(hm:l.length≤1000000)(A:Option Addr)(B c:Nat)(w:World)(ha:ag .i64 w B A l):
 Calls Tryz.prog 234 #[.slice A l.length c] w fun e w'=>e= .returned (.int .i64 (mH l:Int))∧∃q,w'=w.drewN q:=by
 have hw:=aa (iR l l.length rfl (by omega) A B c w ha)
 have hle:=rQ l
 have hr:Hid ((mH l:Int)=5+((aA l*l.length:Nat):Int)):=aa (by unfold mH;push_cast;rfl)
 obtain⟨P,hP⟩:∃P,P=aA l*l.length:=⟨_,rfl⟩
 have hPb:P≤32000000:=by rw[hP];exact agm (Nat.mul_le_mul hle hm) (by omega)
 have UX:(aA l:Int)*(l.length:Int)=(P:Int):=by rw[hP];push_cast;rfl
 rw[←hP] at hr
 generalize aA l=wd at*
 generalize l.length=n at*
 have i1:=agp (P:Int) (by omega)
 have i2:=agp (5+(P:Int)) (by omega)
 clear hP
 go_enter Tryz.func234,Tryz.ntmps234
 go_wp2_with (go_at_call 142;(with_reducible refine hw.out.mono ?_);rintro e w1 ⟨rfl,q,rfl⟩)
 go_ret
 rw[hr.out]
 exact⟨rfl,q,rfl⟩
def lq(l:List Int):Int:=if mH l<dX (fZ l 25).1 l then 31 else((fZ l 25).1:Int)
theorem JM(l:List Int)(hl:ah l=true)(hm:l.length≤1000000)(A:Option Addr)(B c:Nat)(w:World)(ha:ag .i64 w B A l):
 Calls Tryz.prog 233 #[.slice A l.length c] w fun e w'=>e= .returned (.int .i64 (lq l))∧∃q,w'=w.drewN q:=by
 have hb:=aa (Mr l hl l.length rfl hm A B c w ha)
 have hw:=aa (DJ l hm A B c w ha)
 have hs:=aa (fun q=>vY (fZ l 25).1 (FJ l 25) l hl l.length rfl hm A B c (w.drewN q) (ha.drewN q))
 have hr:Hid (lq l=if mH l<dX (fZ l 25).1 l then 31 else((fZ l 25).1:Int)):=aa rfl
 generalize dX (fZ l 25).1 l=s at*
 generalize mH l=r at*
 generalize (fZ l 25).1=k at*
 generalize l.length=n at*
 by_cases h:r<s
 ·rw[if_pos h] at hr
  have hI:(r:Int)<(s:Int):=by omega
  go_enter Tryz.func233,Tryz.ntmps233
  go_wp2_with (first
   |(go_at_call 265;(with_reducible refine hb.out.mono ?_);rintro e w1 ⟨rfl,rfl⟩)
   |(go_at_call 234;(with_reducible refine hw.out.mono ?_);rintro e w1 ⟨rfl,q,rfl⟩)
   |(go_at_call 235;(with_reducible refine(hs.out _).mono ?_);rintro e w1 ⟨rfl,rfl⟩))
  go_ret
  rw[hr.out]
  exact⟨rfl,q,rfl⟩
 ·rw[if_neg h] at hr
  have hI:¬(r:Int)<(s:Int):=by omega
  go_enter Tryz.func233,Tryz.ntmps233
  go_wp2_with (first
   |(go_at_call 265;(with_reducible refine hb.out.mono ?_);rintro e w1 ⟨rfl,rfl⟩)
   |(go_at_call 234;(with_reducible refine hw.out.mono ?_);rintro e w1 ⟨rfl,q,rfl⟩)
   |(go_at_call 235;(with_reducible refine(hs.out _).mono ?_);rintro e w1 ⟨rfl,rfl⟩))
  go_ret
  rw[hr.out]
  exact⟨rfl,q,rfl⟩
def dL(sz:List Int)(i:Nat):Nat:=((sz.take i).map Int.toNat).sum
def aY(sz l:List Int)(i:Nat):List Int:=(l.drop (dL sz i)).take (ix sz i).toNat
def kq(k:Int)(p:List Int):Nat:=5+if k=31 then mH p else dX k.toNat p
def dc(ks sz l:List Int):Nat→Nat
 |0=>4
 |i+1=>dc ks sz l i+kq (ix ks i) (aY sz l i)
def fR(o:Int)(ks:List Int)(n warm:Nat)(l:List Int):Nat:=if lY o ks n warm=true then dc ks (aJ o n warm) l (aJ o n warm).length else 0
theorem sY{sz:List Int}{i:Nat}(h:i<sz.length):dL sz (i+1)=dL sz i+(ix sz i).toNat:=by
 unfold dL;rw[bW h];simp
theorem nA:∀l:List Int,(∀x∈l,0≤x)→(((l.map Int.toNat).sum:Nat):Int)=l.sum
 |[],_=>rfl
 |x :: l,h=>by
  have h1:=nA l fun y hy=>h y (List.mem_cons_of_mem _ hy)
  have h2:=h x List.mem_cons_self
  rw[List.map_cons,List.sum_cons,List.sum_cons]
  omega
theorem Ct{sz:List Int}(i:Nat):dL sz i≤(sz.map Int.toNat).sum:=by
 unfold dL
 conv=>rhs;rw[←List.take_append_drop i sz,List.map_append,List.sum_append_nat]
 omega
theorem rR{l:List Int}(h:ah l=true)(a d:Nat):ah ((l.drop a).take d)=true:=
 List.all_eq_true.2 fun x hx=>List.all_eq_true.1 h x (List.mem_of_mem_drop (List.mem_of_mem_take hx))
theorem Ee{k:Int}(hk:kB k=true){p:List Int}(hp:p.length≤4096):kq k p≤300000:=by
 unfold kq
 unfold kB at hk
 have hk:=of_decide_eq_true hk
 split
 ·have h1:=rQ p
  have h2:aA p*p.length≤32*4096:=Nat.mul_le_mul h1 hp
  unfold mH
  omega
 ·have:=uV (k:=k.toNat) (by omega) p
  omega
theorem sZ{ks sz l:List Int}(hk:ks.all kB=true)(hl:l.length≤4096)(hlen:ks.length=sz.length):∀i,i≤sz.length→dc ks sz l i≤4+300000*i
 |0,_=>by simp[dc]
 |i+1,h=>by
  have h1:=sZ hk hl hlen i (by omega)
  have h2:kq (ix ks i) (aY sz l i)≤300000:=Ee (KI hk (by omega)) (by unfold aY;simp;omega)
  rw[dc];omega
theorem vX(w:World)(A:Option Addr)(n c lo:Nat)(h:lo≤n)(h2:n≤c):(Instr.slice 39 (.slice A n c) (some (.int .i64 (lo:Int))) none none).run Tryz.prog w= .ok (.slice (if c=lo then A else A.map fun x=>x.add lo) (n-lo) (c-lo)) w:=by
 have h1:(0:Int)≤(lo:Int)∧(lo:Int)≤(n:Int):=by omega
 obtain⟨i0,cw,hz0,hz1,hz2⟩:=info_parts gR
 simp[Instr.slice,run_underlying Tryz.underlying39,Instr.sliceBounds,Instr.sliceBound,asIntOf,h1,sizeOf,typeInfo,cw,hz1]
 intro hx;omega
theorem nO{k:IntKind}{w:World}{B:Nat}{A:Option Addr}{l:List Int}{n:Nat}(h:ag k w B A l):ag k w B A (l.take n):=fun hn=>by
 have h1:0<(l.map (Value.int k)).length:=by simp at hn ⊢;omega
 obtain⟨b,off,e,hb,hc⟩:=h h1
 refine⟨b,off,e,hb,fun i u hu=>hc i u ?_⟩
 rw[List.map_take,List.getElem?_take] at hu
 split at hu
 ·exact hu
 ·cases hu
theorem zI(o:Int)(ks:List Int)(n warm:Nat)(h1:1≤n)(h2:n≤4096)(hw:warm≤n)(l:List Int)(hl:ah l=true)(CR:l.length=n-warm)(A A2:Option Addr)(B c c2:Nat)(hc2:l.length≤c2)(hc3:c2≤9223372036854775807)(w:World)(hB:B≤w.heap.size)(jV:ks.length≤9223372036854775807)(ha:ag .i64 w B A ks)(ha2:ag .i64 w B A2 l):
 Calls Tryz.prog 191 #[.agg #[.int .i64 o,.slice A ks.length c],.int .i64 (n:Int),.int .i64 (warm:Int),.slice A2 l.length c2] w fun e w'=>e= .returned (.int .i64 (fR o ks n warm l:Int))∧Below w.heap.size w w':=by
 have bK:=aa (fun W (hb:Below w.heap.size w W)=>DL o ks n warm h1 h2 hw A B c W (agm hB hb.size) jV (ha.below (hb.mono hB)))
 have NH:=aa (fun W (hb:Below w.heap.size w W)=>wH n warm h1 h2 hw l hl CR A2 B c2 W (ha2.below (hb.mono hB)))
 have aad:=aa (nD o n warm h1 h2 hw)
 have CX:Hid (fR o ks n warm l=if lY o ks n warm=true then dc ks (aJ o n warm) l (aJ o n warm).length else 0):=aa rfl
 have yK:lY o ks n warm=true→ks.length=(aJ o n warm).length∧ks.all kB=true∧aJ o n warm≠[]:=fun h=>by
  unfold lY at h
  simp only[Bool.and_eq_true,decide_eq_true_eq] at h
  exact⟨h.1.2,h.2,fun e=>h.1.1 (by rw[e];rfl)⟩
 have EA:=fun h=>oY (o:=o) (n:=n) (warm:=warm) h
 have xl:=kS o n warm
 have Ha:=aa ha
 have X4:=aa ha2
 generalize fR o ks n warm l=R at*
 generalize lY o ks n warm=mb at*
 generalize aJ o n warm=sz at*
 obtain⟨nk,Gj⟩:∃nk,nk=ks.length:=⟨_,rfl⟩
 obtain⟨m,hm⟩:∃m,m=l.length:=⟨_,rfl⟩
 have HM:=aa hm
 have Hnk:=aa Gj
 rw[←Gj] at jV bK ⊢
 rw[←hm] at NH hc2 ⊢
 clear ha ha2 hm Gj
 cases mb with
 |false=>
  have hR:Hid (R=0):=aa (by rw[CX.out,if_neg (by simp)])
  clear yK EA CR
  go_enter Tryz.func191,Tryz.ntmps191
  go_wp2_with (go_at_call 204;(with_reducible refine(bK.out _ (ak (ac w) _)).mono ?_);rintro e w1 ⟨rfl,b1⟩)
  go_ret
  rw[hR.out]
  exact⟨rfl,af (ak (ac w) _) b1⟩
 |true=>
  obtain⟨jx,hk2,hk3⟩:=yK rfl
  obtain⟨hs1,_,hs2⟩:=EA hk3
  have hR:Hid (R=dc ks sz l sz.length):=aa (by rw[CX.out,if_pos rfl])
  have Hk1:=aa jx
  have Hcl:Hid (∀i,i≤sz.length→dc ks sz l i≤4+300000*i):=aa (sZ hk2 (by rw[CR];omega) jx)
  have Ut:Hid (∀i,dL sz i≤l.length):=aa (fun i=>by
   have e1:=Ct (sz:=sz) i
   have e2:=nA sz fun x hx=>(hs2 x hx).1
   rw[hs1] at e2
   omega)
  have Hsn:Hid (∀i,i<sz.length→dL sz (i+1)=dL sz i+(ix sz i).toNat):=aa (fun i h=>sY h)
  have Hs2:=aa hs2
  have Hln:=aa CR
  have Hk2:=aa hk2
  obtain⟨ns,ud⟩:∃ns,ns=sz.length:=⟨_,rfl⟩
  have Gx:=aa ud
  rw[←ud] at xl
  clear yK EA CR jx hk2 hk3 hs1 hs2 ud CX
  go_enter Tryz.func191,Tryz.ntmps191
  go_upto_region 1 with fail
  have hx:(w.alloc (.cells #[.int .i64 o,.slice A nk c] 169)).heap[w.heap.size]? =some (.cells #[.int .i64 o,.slice A nk c] 169 (0,0)):=ago w _
  have bx:=ak (ac w) (.cells #[.int .i64 o,.slice A nk c] 169)
  obtain⟨wx,hwx⟩:∃wx,wx=w.alloc (.cells #[.int .i64 o,.slice A nk c] 169):=⟨_,rfl⟩
  rw[←hwx] at hx bx ⊢
  have BX:=aa bx
  obtain⟨⟨k0,k1⟩,z0,z1⟩:=aB hx
  clear hwx hx bx
  go_wp2_with (first
   |(go_at_call 204;(with_reducible refine(bK.out _ BX.out).mono ?_);rintro e w1 ⟨rfl,b1⟩;have b1':=af BX.out b1;have k2:=later b1 k0;have k3:=later b1 k1)
   |(go_at_call 232;(with_reducible refine(NH.out _ b1').mono ?_);rintro e w2 ⟨rfl,rfl⟩)
   |(go_at_call 192;(with_reducible refine(aad.out _).mono ?_);rintro e w3 ⟨A3,c3,rfl,bF,b3⟩))
  have B3:=aa (af b1' b3)
  have k4:=later b3 k2
  have k5:=later b3 k3
  rw[←Gx.out] at bF ⊢
  have oD:=aa bF.ints
  have HA3:=aa (Ha.out.below (B3.out.mono hB))
  have HL3:=aa (X4.out.below (B3.out.mono hB))
  clear b1 b1' b3 k0 k1 k2 k3 z0 z1 bF
  go_loopw [3,9,31] (fun sv cv iv wr=>∃(i:Nat) (Ar:Option Addr) (cr:Nat),i≤ns∧iv= .int .i64 (i:Int)∧cv= .int .i64 (dc ks sz l i:Int)∧sv= .slice Ar (m-dL sz i) cr∧m-dL sz i≤cr∧cr≤9223372036854775807∧ag .i64 w3 B Ar (l.drop (dL sz i))∧∃q,wr=w3.drewN q) (fun _ _ iv _=>ns-(intOf iv).toNat)
  case atStart=>exact⟨0,A2,c2,agw _,rfl,rfl,rfl,by show m-0≤c2;omega,hc3,HL3.out,0,rfl⟩
  case round=>
   obtain⟨i,Ar,cr,hi,rfl,rfl,rfl,mW,Xe,dp,q,rfl⟩:=hrel
   obtain⟨wo,NB⟩:∃wo,wo=w3.drewN q:=⟨_,rfl⟩
   have Db:=aa (dp.drewN q)
   have HOo:=aa (oD.out.drewN q)
   have HAo:=aa (HA3.out.drewN q)
   have d0:(w3.drewN q).cell? ⟨w.heap.size,0,none⟩=some (.int .i64 o):=k4
   have d1:(w3.drewN q).cell? ⟨w.heap.size,1,none⟩=some (.slice A nk c):=k5
   rw[←NB] at Db HOo HAo d0 d1 ⊢
   have FU:=aa dp
   have Hwo:=aa NB
   clear dp NB k4 k5
   by_cases hlt:i<ns
   ·have Gl:i<sz.length:=by rw[←Gx.out];exact hlt
    have hlk:i<ks.length:=by rw[Hk1.out];exact Gl
    have yl:=Hsn.out i Gl
    have KY:=Ut.out (i+1)
    have qP:=Hcl.out i (by omega)
    have hs2:=Hs2.out (ix sz i) (lg Gl)
    have hkb:=KI Hk2.out hlk
    have hcs:Hid (dc ks sz l (i+1)=dc ks sz l i+kq (ix ks i) (aY sz l i)):=aa rfl
    have tZ:Hid (aY sz l i=(l.drop (dL sz i)).take (ix sz i).toNat):=aa rfl
    have hpl:(aY sz l i).length=(ix sz i).toNat:=by rw[tZ.out,List.length_take,List.length_drop];omega
    have hpw:ah (aY sz l i)=true:=by rw[tZ.out];exact rR hl _ _
    obtain⟨b4,o4,e4,PC⟩:=HOo.out.at_ Gl
    obtain⟨b5,o5,e5,hck⟩:=HAo.out.at_ hlk
    subst e4
    subst e5
    obtain⟨s,hs⟩:∃s:Nat,ix sz i=(s:Int):=⟨(ix sz i).toNat,by omega⟩
    rw[hs] at PC hs2 yl tZ hpl
    rw[Int.toNat_natCast] at yl tZ hpl
    have uK:Hid (kq (ix ks i) (aY sz l i)=5+if ix ks i=31 then mH (aY sz l i)else dX (ix ks i).toNat (aY sz l i)):=aa rfl
    have acv:=Ee hkb (show (aY sz l i).length≤4096 by rw[hpl];omega)
    have Gm:(0≤ix ks i∧ix ks i≤25)∨ix ks i=31:=by unfold kB at hkb;exact of_decide_eq_true hkb
    have qd:Hid (∀W,ag .i64 W B Ar (l.drop (dL sz i))→ag .i64 W B Ar (aY sz l i)):=aa (fun W h=>by rw[tZ.out];exact nO h)
    generalize aY sz l i=p at*
    generalize dc ks sz l i=co at*
    obtain⟨co1,aaE⟩:∃co1,dc ks sz l (i+1)=co1:=⟨_,rfl⟩
    rw[aaE] at hcs
    have ado:=aa aaE
    clear aaE
    generalize ix ks i=k at*
    have Ph:=HM.out
    rw[←Ph] at KY
    have rN:(l.drop (dL sz i)).length=m-dL sz i:=by rw[List.length_drop,Ph]
    obtain⟨a,Xo⟩:∃a,dL sz i=a:=⟨_,rfl⟩
    obtain⟨a1,xG⟩:∃a1,dL sz (i+1)=a1:=⟨_,rfl⟩
    rw[Xo] at mW Db yl qd rN FU ⊢
    rw[xG] at KY yl
    have nz:=aa xG
    obtain⟨Ax,PI⟩:∃Ax,Ax=if cr=s then Ar else Ar.map fun x=>x.add s:=⟨_,rfl⟩
    have YM:∀W,(Instr.slice 39 (.slice Ar (m-a) cr) (some (.int .i64 (s:Int))) none none).run Tryz.prog W= .ok (.slice Ax (m-a-s) (cr-s)) W:=fun W=>by rw[PI];exact vX W Ar (m-a) cr s (by omega) mW
    have ye:Hid (ag .i64 w3 B Ax (l.drop a1)):=by
     have:=gi (p:=s) FU.out (by rw[rN];omega) (c:=cr) (by rw[rN];omega)
     rw[←PI,List.drop_drop,show a+s=a1 by omega] at this
     exact aa this
    have Hm1:Hid (m-a-s=m-a1):=aa (by omega)
    have PN:Hid (m-a1≤cr-s∧cr-s≤9223372036854775807):=aa (by omega)
    have PL:=aa hpl
    have s1:(s:Int)≤(cr:Int):=by omega
    have s2:(0:Int)≤(s:Int):=by omega
    have s3:(i:Int)<(ns:Int):=by omega
    have s4:(i:Int)<(nk:Int):=by have:=Hk1.out;have:=Hnk.out;have:=Gx.out;omega
    have i1:=agp ((i:Int)+1) (by omega)
    have XY:Hid (i+1≤ns):=aa hlt
    have Gg:s≤4096:=by have:=HM.out;have:=Hln.out;omega
    clear PI rN Xo xG yl KY Ph Gl hlk hpl hs hi hs2 mW hlt
    by_cases hk31:k=31
    ·subst hk31
     have EC:Hid (∀W,ag .i64 W B Ar p→∀cx,Calls Tryz.prog 234 #[.slice Ar s cx] W fun e w'=>e= .returned (.int .i64 (mH p:Int))∧∃q,w'=W.drewN q):=aa (fun W h cx=>by
      have:=DJ p (by rw[PL.out];omega) Ar B cx W h
      rw[PL.out] at this;exact this)
     have Sw:Hid (kq 31 p=5+mH p):=aa (by rw[uK.out,if_pos rfl])
     have aas:mH p≤300000:=by have:=Sw.out;omega
     generalize mH p=rw_ at*
     have i2:=agp (5+(rw_:Int)) (by omega)
     have i3:=agp ((co:Int)+(5+(rw_:Int))) (by omega)
     have UX:=aa (qd.out wo Db.out)
     clear acv hkb Gm uK qP aas
     go_wp2_with (go_at_call 234;(with_reducible refine(EC.out _ UX.out _).mono ?_);rintro e w5 ⟨rfl,q5,rfl⟩)
     refine⟨⟨i+1,Ax,cr-s,XY.out,by go_num, ?_, ?_, ?_,PN.out.2, ?_,q+q5, ?_⟩, ?_⟩
     ·rw[ado.out,hcs.out,Sw.out];push_cast;rfl
     ·rw[nz.out,←Hm1.out]
     ·rw[nz.out];exact PN.out.1
     ·rw[nz.out];exact ye.out
     ·rw[Hwo.out,World.drewN_drewN]
     ·have:=XY.out;simp[intOf];omega
    ·obtain⟨kn,rfl⟩:∃kn:Nat,k=(kn:Int):=⟨k.toNat,by omega⟩
     have yN:kn≤25:=by omega
     have NF:Hid (∀W,ag .i64 W B Ar p→∀cx,Calls Tryz.prog 235 #[.int .i64 (kn:Int),.slice Ar s cx] W fun e w'=>e= .returned (.int .i64 (dX kn p:Int))∧w'=W):=aa (fun W h cx=>vY kn yN p hpw s PL.out.symm (by omega) Ar B cx W h)
     have Sw:Hid (kq (kn:Int) p=5+dX kn p):=aa (by rw[uK.out,if_neg hk31];rfl)
     have aas:dX kn p≤300000:=by have:=Sw.out;omega
     generalize dX kn p=rw_ at*
     have i2:=agp (5+(rw_:Int)) (by omega)
     have i3:=agp ((co:Int)+(5+(rw_:Int))) (by omega)
     have UX:=aa (qd.out wo Db.out)
     clear acv hkb Gm uK qP aas
     go_wp2_with (go_at_call 235;(with_reducible refine(NF.out _ UX.out _).mono ?_);rintro e w5 ⟨rfl,rfl⟩)
     refine⟨⟨i+1,Ax,cr-s,XY.out,by go_num, ?_, ?_, ?_,PN.out.2, ?_,q, ?_⟩, ?_⟩
     ·rw[ado.out,hcs.out,Sw.out];push_cast;rfl
     ·rw[nz.out,←Hm1.out]
     ·rw[nz.out];exact PN.out.1
     ·rw[nz.out];exact ye.out
     ·exact Hwo.out
     ·have:=XY.out;simp[intOf];omega
   ·have e:i=ns:=by omega
    subst e
    go_wp2_with fail
    go_ret
    refine⟨by rw[hR.out,←Gx.out];first | rfl | (rw[Gx.out];rfl), ?_⟩
    rw[Hwo.out]
    exact⟨B3.out.os,B3.out.tape,B3.out.output,B3.out.size,B3.out.block⟩
theorem xZ(x:Int)(n:Nat)(hn:n≤32):bits .and .u64 (IntKind.u64.wrap x) ((2 ^ n-1:Nat):Int)=(((x%((2 ^ n:Nat):Int)).toNat:Nat):Int):=by
 have hp:(2:Nat) ^ n≤2 ^ 32:=Nat.pow_le_pow_right (by omega) hn
 have Gh:0<(2:Nat) ^ n:=Nat.two_pow_pos n
 have hm:(2 ^ n-1)%2 ^ 64=2 ^ n-1:=Nat.mod_eq_of_lt (by omega)
 show IntKind.u64.wrap ((BitVec.ofInt 64 (IntKind.u64.wrap x) &&& BitVec.ofInt 64 ((2 ^ n-1:Nat):Int)).toNat:Int)=_
 rw[BitVec.toNat_and,BitVec.ofInt_natCast,BitVec.toNat_ofNat,hm,BitVec.toNat_ofInt,Nat.and_two_pow_sub_one_eq_mod]
 rw[IntKind.wrap_u64,IntKind.wrap_u64]
 have h1:(x%18446744073709551616%((2 ^ 64:Nat):Int))=x%18446744073709551616:=by
  have:((2 ^ 64:Nat):Int)=18446744073709551616:=by rfl
  rw[this,Int.emod_emod_of_dvd _ (Int.dvd_refl _)]
 rw[h1]
 have h2:(((x%18446744073709551616).toNat%2 ^ n:Nat):Int)=x%((2 ^ n:Nat):Int):=by
  have h3:((x%18446744073709551616).toNat:Int)=x%18446744073709551616:=Int.toNat_of_nonneg (Int.emod_nonneg _ (by omega))
  rw[Int.natCast_emod,h3]
  refine Int.emod_emod_of_dvd x ?_
  have h4:(18446744073709551616:Int)=((2 ^ n:Nat):Int)*((2 ^ (64-n):Nat):Int):=by
   rw[←Int.natCast_mul,←Nat.pow_add,show n+(64-n)=64 by omega];rfl
  exact⟨_,h4⟩
 have h5:(x%18446744073709551616).toNat%2 ^ n<2 ^ n:=Nat.mod_lt _ Gh
 have h6:(((x%18446744073709551616).toNat%2 ^ n:Nat):Int)%18446744073709551616=(((x%18446744073709551616).toNat%2 ^ n:Nat):Int):=Int.emod_eq_of_lt (by omega) (by omega)
 rw[h6,h2]
 exact(Int.toNat_of_nonneg (Int.emod_nonneg _ (by omega))).symm
def sb(x:Int)(n:Nat):List Bool:=nb (x%((2 ^ n:Nat):Int)).toNat n
theorem Qr(x:Int)(n:Nat):(sb x n).length=n:=cB _ _
theorem Qq(x:Int)(n:Nat):(x%((2 ^ n:Nat):Int)).toNat<2 ^ n:=by
 have:=Nat.two_pow_pos n
 have h1:=Int.emod_lt_of_pos x (show (0:Int)<((2 ^ n:Nat):Int)by omega)
 have h2:=Int.emod_nonneg x (show ((2 ^ n:Nat):Int)≠0 by omega)
 omega
theorem tP(x:Int)(n:Nat)(hn:n≤32)(bs:List Bool)(hs:bs.length+n≤4000000)(g:Nat)(w:World)(h:WB w g bs):
 Calls Tryz.prog 144 #[.pointer (some ⟨g,0,none⟩),.int .i64 x,.int .i64 (n:Int)] w (tG g (bs++sb x n) (.tuple #[]) w):=by
 have Pv:=aa (qi (x%((2 ^ n:Nat):Int)).toNat n (by have:=Qq x n;have:(2:Nat) ^ n≤2 ^ 32:=Nat.pow_le_pow_right (by omega) hn;omega) (by omega) (Qq x n) bs hs g w h)
 have hand:=xZ x n hn
 have hE:(2:Int) ^ n=((2 ^ n:Nat):Int):=by simp
 have hsb:Hid (sb x n=nb (x%((2 ^ n:Nat):Int)).toNat n):=aa rfl
 have hp:(2:Nat) ^ n≤2 ^ 32:=Nat.pow_le_pow_right (by omega) hn
 have Gh:0<(2:Nat) ^ n:=Nat.two_pow_pos n
 generalize (x%((2 ^ n:Nat):Int)).toNat=y at*
 generalize (2:Nat) ^ n=E at*
 have i1:=agq (E:Int) (by omega)
 have i2:IntKind.u64.wrap ((E:Int)-1)=((E-1:Nat):Int):=by rw[agq _ (by omega)];omega
 obtain⟨E1,hE1⟩:∃E1,E1=E-1:=⟨_,rfl⟩
 rw[←hE1] at hand i2
 obtain⟨ux,hux⟩:∃ux,IntKind.u64.wrap x=ux:=⟨_,rfl⟩
 rw[hux] at hand
 clear hE1 hp Gh
 go_enter Tryz.func144,Tryz.ntmps144
 go_wp2_with (go_at_call 143;(with_reducible refine Pv.out.mono ?_);rintro e w1 ⟨rfl,B1,K1⟩)
 go_end0
 rw[hsb.out]
 exact⟨rfl,B1,K1⟩
theorem Lc{x:Int}(hx:aX x=true):∀f w,w≤31→grow x f w≤31
 |0,w,h=>h
 |f+1,w,h=>by
  unfold grow
  split
  ·rename_i q
   refine Lc hx f (w+1) ?_
   by_cases e:w=31
   ·subst e
    have h1:dS x ((31:Nat):Int)=true:=by
     have h2:=cX.1 hx
     have e1:QT 31=true:=by decide
     have e2:yC 31= -1073741824:=by decide
     have e3:qO 31=1073741823:=by decide
     show (QT 31 && decide (yC 31≤x) && decide (x≤qO 31))=true
     rw[e1,e2,e3,decide_eq_true (by omega),decide_eq_true (by omega)];rfl
    rw[h1] at q;exact absurd q.2.2 (by simp)
   ·omega
  ·exact h
theorem ql{l:List Int}(h:ah l=true):aA l≤31:=by
 have:∀(l:List Int),(∀x∈l,aX x=true)→∀w,w≤31→l.foldl (fun w x=>need x w) w≤31:=by
  intro l
  induction l with
  |nil=>intro _ w h;exact h
  |cons x l ih=>intro hx w h;exact ih (fun y hy=>hx y (List.mem_cons_of_mem _ hy)) _ (Lc (hx x List.mem_cons_self) 33 w h)
 exact this l (List.all_eq_true.1 h) 0 (by omega)
def dz(p:List Int)(n:Nat):List Bool:=p.flatMap fun x=>sb x n
theorem j7(p:List Int)(n:Nat):(dz p n).length=n*p.length:=by
 unfold dz
 induction p with
 |nil=>simp
 |cons x p ih=>rw[List.flatMap_cons,List.length_append,ih,Qr,List.length_cons,Nat.mul_succ];omega
theorem se{p:List Int}{n j:Nat}(h:j<p.length):dz (p.take (j+1)) n=dz (p.take j) n++sb (ix p j) n:=by
 unfold dz;rw[bW h,List.flatMap_append];simp
def sk(k:Int)(p:List Int):List Bool:=nb k.toNat 5++if k=31 then nb (aA p) 5++dz p (aA p)else eR k.toNat p
theorem MD(k:Int)(p:List Int):(sk k p).length=kq k p:=by
 unfold sk kq mH
 rw[List.length_append,cB]
 split
 ·rw[List.length_append,cB,j7]
 ·rw[pR]
def eD(ks sz l:List Int):Nat→List Bool
 |0=>[]
 |i+1=>eD ks sz l i++sk (ix ks i) (aY sz l i)
theorem tQ(ks sz l:List Int):∀i,(eD ks sz l i).length+4=dc ks sz l i
 |0=>rfl
 |i+1=>by
  have:=tQ ks sz l i
  rw[eD,dc,List.length_append,MD];omega
def sj(o:Int)(ks:List Int)(n warm:Nat)(l:List Int):List Bool:=nb o.toNat 4++eD ks (aJ o n warm) l (aJ o n warm).length
theorem ZR{o:Int}{ks:List Int}{n warm:Nat}(h:lY o ks n warm=true):0≤o∧o≤8:=by
 unfold lY at h
 simp only[Bool.and_eq_true,decide_eq_true_eq] at h
 have h1:=h.1.1
 unfold aJ at h1
 split at h1
 ·assumption
 ·exact absurd rfl h1
end
end Go.Proofs.YtbhfpehgacaidaaGreatDoor
