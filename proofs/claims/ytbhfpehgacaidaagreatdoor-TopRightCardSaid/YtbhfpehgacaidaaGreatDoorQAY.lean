/- A part of the proof of the given statement TopRight. Conditions: none. -/
import Derived.Test.YtbhfpehgacaidaaGreatDoorQAX
namespace Go.Proofs.YtbhfpehgacaidaaGreatDoor
set_option linter.unusedVariables false
set_option linter.unusedSimpArgs false
set_option maxRecDepth 100000
set_option maxHeartbeats 8000000
section
open Go.RowKit
theorem LX{b:List Int}(hby:aH b)(hm:b.length≤3000)(h:jS uP b=0):∃(I:List eC) (a:Nat) (P F:List Pg) (L:List Pk),dh b=(I,(a:Int),0)∧a<b.length∧1≤I.length∧I.length≤4∧(∀i∈I,jw i=true)∧CO (b.drop a)=(P,[])∧dB P=L∧fX I.length L=false∧L.length≤250∧(∀p∈L,aH p.data∧p.data.length≤48000)∧nu (cV I.length L)=(L,0)∧eM L=(P,0)∧P.length≤250∧(∀p∈P,aH p.body∧p.body.length≤255)∧cz P=(F,0)∧F.length≤250∧(∀p∈F,aH p.body∧p.body.length≤255)∧MI F=true∧mU I++fd F++dy F=b:=by
 obtain⟨I,a,F,P,L,hs⟩:=Cr h
 obtain⟨h1,h2,h3,h4⟩:=NT hby hs.head
 have hI4:I.length≤4:=by have:=Aw b;rw[hs.head] at this;exact this
 have Gs:aH (b.drop a):=hby.drop a
 have bQ:=qK Gs (by rw[List.length_drop];omega)
 have acz:CO (b.drop a)=(P,[]):=by unfold CO;rw[hs.scan];exact hs.mend
 have hsc:=(iM _ (b.drop a) (agl _) Gs).2
 rw[hs.scan] at hsc
 rw[acz,hs.scan] at bQ
 dsimp only at bQ
 have ym:=zO F
 rw[hs.mend] at ym
 dsimp only at ym
 have YK:=tX bQ.1 bQ.2.1
 rw[hs.join] at YK
 have YB:∀p∈F,aH p.body∧p.body.length≤255:=fun p hp=>⟨(hsc p hp).2,(fK (hsc p hp).1).2.1⟩
 have hsP:∀p∈P,aH p.body∧p.body.length≤255:=fun p hp=>⟨(bQ.1 p hp).2.2,by have:=(vr bQ.1 p hp).2;omega⟩
 have htf:=tK (P:=P) (by omega) fun p hp=>(hsP p hp).1
 have hab:a<b.length:=by
  have h5:=congrArg List.length hs.whole
  rw[List.length_append,List.length_append,List.length_take] at h5
  have:=htf.2.2
  omega
 refine⟨I,a,P,F,L,hs.head,hab,h3,hI4,h4,acz,hs.join,hs.flow,by omega,fun p hp=>⟨(YK.2 p hp).1,by have:=(YK.2 p hp).2;have:=bQ.2.2.1;omega⟩,CI h3 hI4 hs.order hs.flow,hs.split,by omega,hsP,hs.guard,bQ.2.2.2.2,YB, ?_, ?_⟩
 ·unfold MI
  rw[List.all_eq_true]
  exact fun p hp=>(hsc p hp).1
 ·rw[Qd hs.guard,←h2]
  exact hs.whole.symm
theorem Dh(b:List Int)(n:Nat)(hn:b.length=n)(hby:aH b)(afr:n≤9223372036854775807)(A:Option Addr)(B c:Nat)(hc:n≤c)(cK:c≤9223372036854775807)(w:World)(hk:Calls Tryz.prog 4 #[] w fun e w'=>e= .returned (.bool true)∧Below w.heap.size w w')(hB:B≤w.heap.size)(ha:ag .u8 w B A b):
 Calls Tryz.prog 3 #[.slice A n c] w fun e w'=>e= .returned (.bool true)∧Below w.heap.size w w':=by
 have Hk:=aa hk
 have Ha:=aa ha
 have Hn:=aa hn
 by_cases hm:n≤3000
 case neg=>
  have hmI:(n:Int) > 3000:=by omega
  clear hk ha hn
  go_enter Tryz.func3,Tryz.ntmps3
  go_wp2_with (go_at_call 4;(with_reducible refine Hk.out.mono ?_);rintro e w1 ⟨rfl,b1⟩)
  go_ret
  exact⟨rfl,b1⟩
 case pos=>
  have hmI:¬(n:Int) > 3000:=by omega
  have hjr:=fun W (h:Below w.heap.size w W)=>I8 b n hn hm hby A B c hc cK W (agm hB h.size) (ha.below (h.mono hB))
  have Hjr:=aa hjr
  clear hjr
  by_cases h0:jS uP b=0
  case neg=>
   have hjf:=fun W (h:Below w.heap.size w W)=>xQ b n hn hm hby A B c hc cK W (agm hB h.size) (ha.below (h.mono hB))
   have Hjf:=aa hjf
   rw[decide_eq_false h0] at Hjr
   generalize jS uP b=N at*
   have hNI:(N:Int) > 0:=by omega
   clear hjf hk ha hn h0
   go_enter Tryz.func3,Tryz.ntmps3
   go_wp2_with (first
    |(go_at_call 4;(with_reducible refine Hk.out.mono ?_);rintro e w1 ⟨rfl,b1⟩)
    |(go_at_call 5;(with_reducible refine(Hjr.out w1 b1).mono ?_);rintro e w2 ⟨rfl,b2⟩;have CF:=af b1 b2)
    |(go_at_call 6;(with_reducible refine(Hjf.out w2 CF).mono ?_);rintro e w3 ⟨A3,c3,rfl,b3⟩))
   go_ret
   refine⟨?_,af CF b3⟩
   show Ending.returned (.bool (decide (0<N)))=_
   rw[decide_eq_true (by omega)]
  case pos=>
   obtain⟨I,a,P,F,L,s1,s2,s3,s4,s5,s6,s7,s8,s9,s10,s11,s12,s13,s14,Yl,VC,s17,UM,s19⟩:=LX hby (by omega) h0
   have kx:=fun W (h:Below w.heap.size w W)=>AE b n hn hm hby A B c hc cK W (agm hB h.size) (ha.below (h.mono hB)) I a s1 (by omega) s4 P [] s6 L s7 s8 (by omega)
   have Hrd:=aa kx
   rw[decide_eq_true h0] at Hjr
   have hwr:=fun (A1:Option Addr) (c1:Nat) (g:Nat) (T:List fT) (c2:Nat) (W:World) (hI:Rd W W.heap.size A1 (ew I)) (hr:OW W W.heap.size (some ⟨g,0,none⟩) T) (hH:fU I.length L T)=>xJ I I.length rfl s3 s4 s5 A1 W.heap.size c1 W (agl _) hI T hH.1.symm (fun t ht=>by
    obtain⟨i,hi,rfl⟩:=List.getElem_of_mem ht
    have h1:=hH.2 i hi
    refine⟨?_,fun e he=> ?_⟩
    ·have h2:=congrArg List.length h1
     rw[List.length_map] at h2
     have h3:=List.length_filter_le (fun p:Pk=>decide (p.stream=(i:Int))) L
     omega
    ·have h2:e.1∈L.filter fun p=>decide (p.stream=(i:Int)):=by rw[←h1];exact List.mem_map_of_mem he
     have:=(s10 e.1 (List.mem_filter.1 h2).1).2
     omega) (some ⟨g,0,none⟩) c2 hr L (by rw[hH.nam];exact s11) (by omega) (fun p hp=>by have:=(s10 p hp).2;omega) P s12 (by omega) s14 F Yl (by omega) s17 UM
   unfold dF at hwr
   rw[s19] at hwr
   dsimp only at hwr
   have Hwr:=aa hwr
   have hsm:=fun (A2:Option Addr) (c2:Nat) (W:World) (h:Below w.heap.size w W) (hi:ag .u8 W W.heap.size A2 b)=>Mc b b b.length n rfl hn.symm hby hby A2 A W.heap.size B c2 c W hi (ha.below (h.mono hB))
   have Pb:=aa hsm
   unfold Kd at Hrd
   rw[show ([]:List Hl).length=0 from rfl] at Hrd
   clear kx hwr hsm hk ha hn h0 s1 s2 s3 s4 s5 s6 s7 s8 s9 s10 s11 s12 s13 s14 Yl VC s17 UM s19
   go_enter Tryz.func3,Tryz.ntmps3
   go_wp2_with (first
    |(go_at_call 4;(with_reducible refine Hk.out.mono ?_);rintro e w1 ⟨rfl,b1⟩)
    |(go_at_call 5;(with_reducible refine(Hjr.out w1 b1).mono ?_);rintro e w2 ⟨rfl,b2⟩;have CF:=af b1 b2)
    |(go_at_call 7;(with_reducible refine(Hrd.out w2 CF).mono ?_);rintro e w3 ⟨A1,c1,g,T,A3,c3,rfl,bF,hr3,hH3,b3,_⟩;have oT:=af CF b3)
    |(go_at_call 8;(with_reducible refine(Hwr.out A1 c1 g T I.length w3 bF.rd hr3 hH3).mono ?_);rintro e w4 ⟨A4,c4,rfl,bE,b4⟩;have b14:=af oT b4)
    |(go_at_call 9;(with_reducible refine(Pb.out A4 c4 w4 b14 bE.ints).mono ?_);rintro e w5 ⟨rfl,qb⟩;have lZ:=qb.symm;clear qb;subst lZ))
   go_ret
   refine⟨?_,b14⟩
   first
    |rfl
    |(show Ending.returned (.bool (decide (b=b)))=_;rw[decide_eq_true rfl])
def aX(x:Int):Bool:=decide (-1073741824≤x) && decide (x<1073741824)
theorem cX{x:Int}:aX x=true↔ -1073741824≤x∧x<1073741824:=by simp[aX]
def ah(xs:List Int):Bool:=xs.all aX
theorem aZ{xs:List Int}:ah xs=true↔∀k,k<xs.length→aX (ix xs k)=true:=by
 simp only[ah,List.all_eq_true]
 exact⟨fun h k hk=>h _ (lg hk),fun h x hx=>by obtain⟨k,hk,rfl⟩:=kZ hx;exact h k hk⟩
theorem eB{xs:List Int}{k:Nat}(hk:k<xs.length)(h:aX (ix xs k)=false):ah xs=false:=by
 cases e:ah xs with
 |false=>rfl
 |true=>rw[aZ.1 e k hk] at h;cases h
def dR(x:Int):Nat:=if 0≤x then(2*x).toNat else(-2*x-1).toNat
theorem Ff{x:Int}(h:aX x=true):dR x<2147483648:=by
 have:=cX.1 h
 unfold dR;split <;> omega
def oQ(k:Nat)(x:Int):Nat:=if dR x/2 ^ k<32 then dR x/2 ^ k+1+k else 65
theorem Fx{k:Nat}(hk:k≤25)(x:Int):oQ k x≤65:=by unfold oQ;split <;> omega
def dX(k:Nat)(l:List Int):Nat:=(l.map (oQ k)).sum
theorem uV{k:Nat}(hk:k≤25):∀l:List Int,dX k l≤65*l.length
 |[]=>by simp[dX]
 |x :: l=>by
  have:=uV hk l
  have:=Fx hk x
  simp only[dX,List.map_cons,List.sum_cons,List.length_cons] at*
  omega
theorem ze{k:Nat}{l:List Int}{i:Nat}(h:i<l.length):dX k (l.take (i+1))=dX k (l.take i)+oQ k (ix l i):=by
 rw[bW h];simp[dX]
def fZ(l:List Int):Nat→Nat×Nat
 |0=>(0,dX 0 l)
 |k+1=>if dX (k+1) l<(fZ l k).2 then(k+1,dX (k+1) l)else fZ l k
theorem FJ(l:List Int):∀k,(fZ l k).1≤k
 |0=>agl _
 |k+1=>by
  have:=FJ l k
  unfold fZ;split <;> simp <;> omega
def uo(k:Nat)(x:Int):List Bool:=if dR x/2 ^ k<32 then jX (dR x/2 ^ k)++nb (dR x%2 ^ k) k else jX 32++nb (dR x) 32
theorem AR(k:Nat)(x:Int):(uo k x).length=oQ k x:=by
 unfold uo oQ;split <;> simp[jW,cB]
def eR(k:Nat)(l:List Int):List Bool:=l.flatMap (uo k)
theorem pR(k:Nat):∀l:List Int,(eR k l).length=dX k l
 |[]=>rfl
 |x :: l=>by
  have:=pR k l
  simp only[eR,dX,List.flatMap_cons,List.length_append,List.map_cons,List.sum_cons,AR] at*
  omega
theorem Fy{k:Nat}{l:List Int}{i:Nat}(h:i<l.length):eR k (l.take (i+1))=eR k (l.take i)++uo k (ix l i):=by
 rw[bW h];simp[eR]
theorem rZ(x:Int)(w:World):Calls Tryz.prog 238 #[.int .i64 x] w fun e w'=>e= .returned (.bool (aX x))∧w'=w:=by
 by_cases h: -1073741824≤x
 ·have hr:Hid (aX x=decide (x<1073741824)):=aa (by unfold aX;rw[decide_eq_true h,Bool.true_and])
  go_enter Tryz.func238,Tryz.ntmps238
  go_wp2_with fail
  go_ret
  rw[hr.out];exact⟨rfl,rfl⟩
 ·have hr:Hid (aX x=false):=aa (by unfold aX;rw[decide_eq_false h,Bool.false_and])
  go_enter Tryz.func238,Tryz.ntmps238
  go_wp2_with fail
  go_ret
  rw[hr.out];exact⟨rfl,rfl⟩
theorem vZ(k:Nat)(hk:k≤25)(w:World):Calls Tryz.prog 237 #[.int .i64 (k:Int)] w fun e w'=>e= .returned (.bool true)∧w'=w:=by
 have c1:(0:Int)≤(k:Int):=by omega
 have c2:(k:Int)≤25:=by omega
 go_enter Tryz.func237,Tryz.ntmps237
 go_wp2_with fail
 go_ret
 exact⟨rfl,rfl⟩
theorem zn(x:Int)(hx:aX x=true)(w:World):Calls Tryz.prog 239 #[.int .i64 x] w fun e w'=>e= .returned (.int .u64 (dR x:Int))∧w'=w:=by
 have Hx:=aa hx
 have hb:=cX.1 hx
 have hw:=rZ x w
 rw[hx] at hw
 have Hw:=aa hw
 clear hw hx
 have i1:=agp (2*x) (by omega)
 have i2:=agp (-2*x) (by omega)
 have i3:=agp (-2*x-1) (by omega)
 by_cases h:0≤x
 ·have j1:=agq (2*x) (by omega)
  have hf:Hid ((dR x:Int)=2*x):=aa (by unfold dR;rw[if_pos h];omega)
  go_enter Tryz.func239,Tryz.ntmps239
  go_wp2_with (go_at_call 238;(with_reducible refine Hw.out.mono ?_);rintro e w1 ⟨rfl,rfl⟩)
  go_ret
  rw[hf.out];exact⟨rfl,rfl⟩
 ·have h2:x<0:=by omega
  have j1:=agq (-2*x-1) (by omega)
  have hf:Hid ((dR x:Int)= -2*x-1):=aa (by unfold dR;rw[if_neg h];omega)
  go_enter Tryz.func239,Tryz.ntmps239
  go_wp2_with (go_at_call 238;(with_reducible refine Hw.out.mono ?_);rintro e w1 ⟨rfl,rfl⟩)
  go_ret
  rw[hf.out];exact⟨rfl,rfl⟩
theorem KB(v k:Nat):(v:Int)/2 ^ k=((v/2 ^ k:Nat):Int):=by rw[Int.natCast_ediv];simp
theorem Mq(k:Nat)(hk:k≤25)(x:Int)(hx:aX x=true)(w:World):Calls Tryz.prog 266 #[.int .i64 (k:Int),.int .i64 x] w fun e w'=>e= .returned (.int .i64 (oQ k x:Int))∧w'=w:=by
 have hw:=rZ x
 rw[hx] at hw
 have Hw:=aa hw
 have Hp:=aa (vZ k hk)
 have Hf:=aa (zn x hx)
 have hlt:=Ff hx
 have hsh:=KB (dR x) k
 have hle:dR x/2 ^ k≤dR x:=Nat.div_le_self _ _
 have hc:Hid (oQ k x=if dR x/2 ^ k<32 then dR x/2 ^ k+1+k else 65):=aa rfl
 generalize dR x=f at*
 generalize f/2 ^ k=q at*
 clear hw hx
 have i1:=agp (q:Int) (by omega)
 have i2:=agp ((q:Int)+1) (by omega)
 have i3:=agp ((q:Int)+1+(k:Int)) (by omega)
 by_cases h:q<32
 ·have h1:(q:Int)<32:=by omega
  go_enter Tryz.func266,Tryz.ntmps266
  go_wp2_with (first
   |(go_at_call 237;(with_reducible refine(Hp.out _).mono ?_);rintro e w1 ⟨rfl,rfl⟩)
   |(go_at_call 238;(with_reducible refine(Hw.out _).mono ?_);rintro e w1 ⟨rfl,rfl⟩)
   |(go_at_call 239;(with_reducible refine(Hf.out _).mono ?_);rintro e w1 ⟨rfl,rfl⟩))
  go_ret
  rw[hc.out,if_pos h]
  exact⟨by push_cast;rfl,rfl⟩
 ·have h1:¬(q:Int)<32:=by omega
  go_enter Tryz.func266,Tryz.ntmps266
  go_wp2_with (first
   |(go_at_call 237;(with_reducible refine(Hp.out _).mono ?_);rintro e w1 ⟨rfl,rfl⟩)
   |(go_at_call 238;(with_reducible refine(Hw.out _).mono ?_);rintro e w1 ⟨rfl,rfl⟩)
   |(go_at_call 239;(with_reducible refine(Hf.out _).mono ?_);rintro e w1 ⟨rfl,rfl⟩))
  go_ret
  rw[hc.out,if_neg h]
  exact⟨rfl,rfl⟩
theorem vY(k:Nat)(hk:k≤25)(l:List Int)(hl:ah l=true)(n:Nat)(hn:n=l.length)(hm:n≤1000000)(A:Option Addr)(b c:Nat)(w:World)(ha:ag .i64 w b A l):
 Calls Tryz.prog 235 #[.int .i64 (k:Int),.slice A n c] w fun e w'=>e= .returned (.int .i64 (dX k l:Int))∧w'=w:=by
 subst hn
 go_enter Tryz.func235,Tryz.ntmps235
 go_wp2_with fail
 go_loop [5,10] (fun sv iv=>∃i:Nat,i≤l.length∧iv= .int .i64 (i:Int)∧sv= .int .i64 (dX k (l.take i):Int)) (fun _ iv=>l.length-(intOf iv).toNat)
 case atStart=>exact⟨0,agw _,rfl,rfl⟩
 case round=>
  obtain⟨i,hi,rfl,rfl⟩:=hrel
  by_cases hlt:i<l.length
  ·obtain⟨b1,o1,rfl,hc1⟩:=ha.at_ hlt
   have hco:=aa (Mq k hk (ix l i) (aZ.1 hl i hlt))
   have qP:=Fx hk (ix l i)
   have KO:=uV hk (l.take i)
   rw[List.length_take] at KO
   have l8:Hid (dX k (l.take (i+1))=dX k (l.take i)+oQ k (ix l i)):=aa (ze hlt)
   generalize dX k (l.take i)=s at*
   generalize oQ k (ix l i)=z at*
   have i1:=agp ((s:Int)+(z:Int)) (by omega)
   have i2:=agp ((i:Int)+1) (by omega)
   have nQ:(i:Int)<(l.length:Int):=by omega
   go_wp2_with (go_at_call 266;(with_reducible refine(hco.out _).mono ?_);rintro e w1 ⟨rfl,rfl⟩)
   go_round
   case rel=>exact⟨i+1,by omega,by go_num,by rw[l8.out];push_cast;rfl⟩
   case measure=>simp[intOf];omega
  ·have e:i=l.length:=by omega
   subst e
   go_wp2_with fail
   go_ret
   exact⟨by first | rfl | rw[List.take_length],rfl⟩
theorem Ym(k:Nat)(K:Int)(hK:K=(k:Int))(hk:k≤25)(l:List Int)(hl:ah l=true)(n:Nat)(hn:n=l.length)(hm:n≤1000000)(A:Option Addr)(b c:Nat)(w:World)(ha:ag .i64 w b A l):
 Calls Tryz.prog 235 #[.int .i64 K,.slice A n c] w fun e w'=>e= .returned (.int .i64 (dX k l:Int))∧w'=w:=by
 subst hK;exact vY k hk l hl n hn hm A b c w ha
theorem Mr(l:List Int)(hl:ah l=true)(n:Nat)(hn:n=l.length)(hm:n≤1000000)(A:Option Addr)(b c:Nat)(w:World)(ha:ag .i64 w b A l):
 Calls Tryz.prog 265 #[.slice A n c] w fun e w'=>e= .returned (.int .i64 ((fZ l 25).1:Int))∧w'=w:=by
 subst hn
 have h0:=Ym 0 0 rfl (by omega) l hl _ rfl hm A b c w ha
 have H0:=aa h0
 clear h0
 go_enter Tryz.func265,Tryz.ntmps265
 go_wp2_with (go_at_call 235;(with_reducible refine H0.out.mono ?_);rintro e w1 ⟨rfl,rfl⟩)
 go_loop [3,4,5,6] (fun bv lv kv _=>∃k:Nat,k≤25∧kv= .int .i64 ((k:Int)+1)∧bv= .int .i64 ((fZ l k).1:Int)∧lv= .int .i64 ((fZ l k).2:Int)) (fun _ _ kv _=>30-(intOf kv).toNat)
 case atStart=>exact⟨0,agw _,rfl,rfl,rfl⟩
 case round=>
  obtain⟨k,hk,rfl,rfl,rfl⟩:=hrel
  by_cases hlt:k<25
  ·have hsm:=Ym (k+1) ((k:Int)+1) (by omega) (by omega) l hl _ rfl hm A b c _ ha
   have hstep:Hid (fZ l (k+1)=if dX (k+1) l<(fZ l k).2 then(k+1,dX (k+1) l)else fZ l k):=aa rfl
   have KO:=uV (show k+1≤25 by omega) l
   generalize dX (k+1) l=s at*
   have Pb:=aa hsm
   clear hsm
   generalize fZ l k=p at*
   obtain⟨p1,p2⟩:=p
   dsimp only at*
   have c1:(k:Int)+1≤25:=by omega
   have i1:=agp ((k:Int)+1+1) (by omega)
   by_cases hs:s<p2
   ·have YA:(s:Int)<(p2:Int):=by omega
    go_wp2_with (go_at_call 235;(with_reducible refine Pb.out.mono ?_);rintro e w1 ⟨rfl,rfl⟩)
    go_round
    case rel=>exact⟨k+1,by omega,by go_num,by rw[hstep.out,if_pos hs];go_num,by rw[hstep.out,if_pos hs]⟩
    case measure=>simp[intOf];omega
   ·have YA:¬(s:Int)<(p2:Int):=by omega
    go_wp2_with (go_at_call 235;(with_reducible refine Pb.out.mono ?_);rintro e w1 ⟨rfl,rfl⟩)
    go_round
    case rel=>exact⟨k+1,by omega,by go_num,by rw[hstep.out,if_neg hs],by rw[hstep.out,if_neg hs]⟩
    case measure=>simp[intOf];omega
  ·have e:k=25:=by omega
   subst e
   go_wp2_with fail
   go_ret
   exact⟨rfl,rfl⟩
def yh(w:World)(g:Nat)(A:Option Addr):Prop:=∀q,aj A=some q→F5 w g q
theorem yh.keep{w w':World}{g:Nat}{A:Option Addr}(h:yh w g A)(k:WK g w w'):yh w' g A:=fun q hq=>((h q hq).keep k).1
theorem ag.wk{k:IntKind}{w w':World}{g B:Nat}{A:Option Addr}{l:List Int}(h:ag k w B A l)(ha:yh w g A)(hk:WK g w w'):ag k w' B A l:=fun hn=>by
 obtain⟨b,off,e,hb,hc⟩:=h hn
 exact⟨b,off,e,hb,fun i u hu=>(agy ((ha b (by rw[e];rfl)).keep hk).2).trans (hc i u hu)⟩
theorem yh.none(w:World)(g:Nat):yh w g none:=fun q h=>by cases h
theorem WB.apart{w:World}{g:Nat}{bs:List Bool}(h:WB w g bs){A:Option Addr}(hA:∀q,aj A=some q→q<g):yh w g A:=fun q hq=>
 ⟨by have:=hA q hq;omega,fun e=>by have:=(h.row e).1;have:=hA q hq;omega,by have:=hA q hq;have:=h.lt;omega⟩
theorem yh.fresh{w w':World}{g:Nat}{bs:List Bool}(h:WB w g bs)(hb:Below w.heap.size w w'){A:Option Addr}(hA:∀q,aj A=some q→w.heap.size≤q∧q<w'.heap.size):yh w' g A:=fun q hq=>
 ⟨by have:=(hA q hq).1;have:=h.lt;omega,fun e=>by rw[wj h.lt hb] at e;have:=(h.row e).2;have:=(hA q hq).1;omega,(hA q hq).2⟩
theorem Vm(n:Nat)(N:Int)(hN:N=(n:Int))(hn:n≤4096)(bs:List Bool)(hs:bs.length+n+1≤4000000)(g:Nat)(w:World)(h:WB w g bs):
 Calls Tryz.prog 240 #[.pointer (some ⟨g,0,none⟩),.int .i64 N] w (tG g (bs++jX n) (.int .i64 0) w):=by
 subst hN;exact vy n hn bs hs g w h
theorem Qt(k:Nat)(hk:k≤25)(l:List Int)(hl:ah l=true)(bs:List Bool)(hs:bs.length+dX k l≤4000000)(hm:l.length≤1000000)(A:Option Addr)(b c:Nat)(g:Nat)(w:World)(h:WB w g bs)(ha:ag .i64 w b A l)(hap:yh w g A):
 Calls Tryz.prog 193 #[.pointer (some ⟨g,0,none⟩),.int .i64 (k:Int),.slice A l.length c] w (tG g (bs++eR k l) (.int .i64 0) w):=by
 have H:=aa h
 have Ha:=aa ha
 have Hap:=aa hap
 have Hp:=aa (vZ k hk)
 have Hs:=aa hs
 clear h hs
 go_enter Tryz.func193,Tryz.ntmps193
 go_wp2_with (go_at_call 237;(with_reducible refine(Hp.out _).mono ?_);rintro e w1 ⟨rfl,rfl⟩)
 go_loop [18] (fun iv=>∃i:Nat,i≤l.length∧iv= .int .i64 (i:Int)) (fun iv=>l.length-(intOf iv).toNat)
 case atStart=>exact⟨0,agw _,rfl⟩
 case round=>
  obtain⟨i,hi,rfl⟩:=hrel
  by_cases hlt:i<l.length
  ·obtain⟨b1,o1,rfl,hc1⟩:=Ha.out.at_ hlt
   have Ex:=fun w=>rZ (ix l i) w
   rw[aZ.1 hl i hlt] at Ex
   have Hww:=aa Ex
   clear Ex
   have i2:=agp ((i:Int)+1) (by omega)
   have nQ:(i:Int)<(l.length:Int):=by omega
   go_wp2_with (go_at_call 238;(with_reducible refine(Hww.out _).mono ?_);rintro e w1 ⟨rfl,rfl⟩)
   go_round
   case rel=>exact⟨i+1,by omega,by go_num⟩
   case measure=>simp[intOf];omega
  ·have e:i=l.length:=by omega
   subst e
   clear hlt hi
   go_wp2_with fail
   go_loopw [28] (fun iv wr=>∃i:Nat,i≤l.length∧iv= .int .i64 (i:Int)∧WB wr g (bs++eR k (l.take i))∧WK g _ wr) (fun iv _=>l.length-(intOf iv).toNat)
   case atStart=>exact⟨0,agw _,rfl,by simpa [eR] using H.out,WK.refl _ _⟩
   case round=>
    obtain⟨i,hi,rfl,hB,hK⟩:=hrel
    obtain⟨wo,rfl⟩:∃wo:World,wo=wr:=⟨_,rfl⟩
    have HB:=aa hB
    have HK:=aa hK
    clear hB
    by_cases hlt:i<l.length
    ·have haw:=Ha.out.wk Hap.out hK
     obtain⟨b1,o1,rfl,hc1⟩:=haw.at_ hlt
     have hwx:=aZ.1 hl i hlt
     have hff:=aa (zn (ix l i) hwx)
     have li:=Ff hwx
     have l8:Hid (bs++eR k (l.take (i+1))=bs++eR k (l.take i)++uo k (ix l i)):=aa (by rw[Fy hlt,List.append_assoc])
     have Jr:Hid (uo k (ix l i)=if dR (ix l i)/2 ^ k<32 then jX (dR (ix l i)/2 ^ k)++nb (dR (ix l i)%2 ^ k) k else jX 32++nb (dR (ix l i)) 32):=aa rfl
     have hroom:Hid (((bs++eR k (l.take i)).length:Nat)+65≤4000066∧(bs++eR k (l.take i)).length+(uo k (ix l i)).length≤4000000):=by
      refine aa ?_
      have h1:=Hs.out
      have h2:dX k l=dX k (l.take (i+1))+dX k (l.drop (i+1)):=by
       conv=>lhs;rw[←List.take_append_drop (i+1) l]
       simp only[dX,List.map_append,List.sum_append_nat]
      rw[ze hlt] at h2
      rw[List.length_append,pR,AR]
      omega
     generalize bs++eR k (l.take i)=bo at*
     generalize uo k (ix l i)=cb at*
     generalize dR (ix l i)=f at*
     have hsh:=KB f k
     have hqk:f/2 ^ k*2 ^ k≤f:=Nat.div_mul_le_self _ _
     have hqm:f%2 ^ k=f-f/2 ^ k*2 ^ k:=by have:=Nat.div_add_mod f (2 ^ k);rw[Nat.mul_comm] at this;omega
     have ym:f%2 ^ k<2 ^ k:=Nat.mod_lt _ (Nat.two_pow_pos k)
     have hle:f/2 ^ k≤f:=Nat.div_le_self _ _
     generalize Ck:f%2 ^ k=md at*
     generalize f/2 ^ k=q at*
     have i2:=agp ((i:Int)+1) (by omega)
     have nQ:(i:Int)<(l.length:Int):=by omega
     have i3:=agp (q:Int) (by omega)
     have La:=hroom.out
     by_cases h32:q<32
     ·rw[if_pos h32] at Jr
      have hqI:(q:Int)<32:=by omega
      obtain⟨P,hP⟩:∃P,P=q*2 ^ k:=⟨_,rfl⟩
      have UX:(q:Int)*2 ^ k=(P:Int):=by rw[hP];push_cast;rfl
      rw[←hP] at hqk hqm
      have i4:=agq (P:Int) (by omega)
      have i5:=agq (md:Int) (by omega)
      have afu:(f:Int)-(P:Int)=(md:Int):=by omega
      have qP:(jX q++nb md k).length=q+1+k:=by rw[List.length_append,jW,cB]
      have hcb:=Jr.out
      rw[hcb,qP] at La
      have Pt:=aa (fun W h=>vy q (by omega) bo (by omega) g W h)
      have Pv:=aa (fun W h=>qi md k (by omega) (by omega) ym (bo++jX q) (by rw[List.length_append,jW];omega) g W h)
      clear hP hqk hqm ym La qP hcb hle Ck li hwx hK
      go_wp2_with (first
       |(go_at_call 239;(with_reducible refine(hff.out _).mono ?_);rintro e w1 ⟨rfl,rfl⟩)
       |(go_at_call 240;(with_reducible refine(Pt.out _ HB.out).mono ?_);rintro e w2 ⟨rfl,B2,K2⟩)
       |(go_at_call 143;(with_reducible refine(Pv.out _ B2).mono ?_);rintro e w3 ⟨rfl,B3,K3⟩))
      refine⟨⟨i+1,by omega,by go_num, ?_,(HK.out.trans K2).trans K3⟩,by simp[intOf];omega⟩
      rw[l8.out,Jr.out,←List.append_assoc];exact B3
     ·rw[if_neg h32] at Jr
      have hqI:¬(q:Int)<32:=by omega
      have qP:(jX 32++nb f 32).length=65:=by rw[List.length_append,jW,cB]
      have hcb:=Jr.out
      rw[hcb,qP] at La
      have Pt:=aa (fun W h=>Vm 32 32 rfl (by omega) bo (by omega) g W h)
      have Pv:=aa (fun W h=>mq f 32 (f:Int) 32 rfl rfl (by omega) (by omega) (by omega) (bo++jX 32) (by rw[List.length_append,jW];omega) g W h)
      clear hqk hqm ym La qP hcb hle Ck li hwx hK
      go_wp2_with (first
       |(go_at_call 239;(with_reducible refine(hff.out _).mono ?_);rintro e w1 ⟨rfl,rfl⟩)
       |(go_at_call 240;(with_reducible refine(Pt.out _ HB.out).mono ?_);rintro e w2 ⟨rfl,B2,K2⟩)
       |(go_at_call 143;(with_reducible refine(Pv.out _ B2).mono ?_);rintro e w3 ⟨rfl,B3,K3⟩))
      refine⟨⟨i+1,by omega,by go_num, ?_,(HK.out.trans K2).trans K3⟩,by simp[intOf];omega⟩
      rw[l8.out,Jr.out,←List.append_assoc];exact B3
    ·have e:i=l.length:=by omega
     subst e
     go_wp2_with fail
     go_ret
     have:=HB.out
     rw[List.take_length] at this
     exact⟨rfl,this,HK.out⟩
theorem gR:(Tryz.prog.info? 3).map (fun i=>(i.zero,i.size,i.bytes))=some (some (.int .i64 0),1,8):=by kernel_rfl
def ax(w:World)(B:Nat)(A:Option Addr)(n c:Nat)(l:List Int):Prop:=w.ownsRow B 3 1 (.slice A n c) n (l.map (.int .i64))
theorem IG(w:World):ax (w.alloc (.cells #[] 3)) w.heap.size (some ⟨w.heap.size,0,none⟩) 0 0 []:=zK w _ _
theorem ax.ints{w:World}{B:Nat}{A:Option Addr}{n c:Nat}{l:List Int}(h:ax w B A n c l):ag .i64 w w.heap.size A l:=bR h
theorem ax.base{w:World}{B B':Nat}{A:Option Addr}{n c:Nat}{l:List Int}(h:ax w B A n c l)(hB:B'≤B):ax w B' A n c l:=aO h hB
theorem ax.alloc{w:World}{B:Nat}{A:Option Addr}{n c:Nat}{l:List Int}(h:ax w B A n c l)(o:Obj):ax (w.alloc o) B A n c l:=World.ownsRow.alloc h o
theorem ax.below{w w':World}{B B1:Nat}{A:Option Addr}{n c:Nat}{l:List Int}(h:ax w B A n c l)(hb:Below B1 w w')(hB:w.heap.size≤B1):ax w' B A n c l:=aD h hb hB
theorem ax.nil(w:World)(B:Nat):ax w B none 0 0 []:=World.ownsRow_nil _ _ _ _
theorem Lq{ops:Array Oper}{rest:List Oper}{o:Oper}{a:Act}{Q:Exit→Act→World→Prop}(w:World)(hgd:o.guard=none)(s x:Operand)
 (ho:o.op= .call {callee:=.builtin .append,args:=#[s,x],argTypes:=#[39,39]}) (W0:World) (A1:Option Addr) (n c1:Nat) (xs:List Int) (hs:a.eval s= .slice A1 n c1) (hown:ax w W0.heap.size A1 n c1 xs)
 (B1:Nat) (A:Option Addr) (m c:Nat) (news:List Int) (hx:a.eval x= .slice A m c) (hl:news.length=m) (hr:ag .i64 w B1 A news) (hsz:n+m≤1000000) (hb:Below W0.heap.size W0 w)
 (h:∀A' c' w',ax w' W0.heap.size A' (n+m) c' (xs++news)→Below W0.heap.size W0 w'→wpList Tryz.prog ops Q rest (a.put o.dst (.slice A' (n+m) c')) w'):wpList Tryz.prog ops Q (o :: rest) a w:=by
 obtain⟨i0,cw,hz0,hz1,hz2⟩:=info_parts gR
 refine aP w hgd s x 39 ho W0.heap.size 3 i0 _ 1 8 Tryz.underlying39 cw hz0 hz1 hz2 rfl (by omega) _ n _ hs hown B1 A m c (news.map (Value.int .i64)) hx (by simpa using hl) hr (bY _ _) (by simp only[maxLen];omega) (by omega) hb.size fun A' c' w' h2 h3 _=>h A' c' w' ?_ (aI hb hown h3 hb.size)
 unfold ax
 rw[List.map_append]
 exact h2
theorem TN{ops:Array Oper}{rest:List Oper}{o:Oper}{a:Act}{Q:Exit→Act→World→Prop}(w:World)(hgd:o.guard=none)(s x:Operand)
 (ho:o.op= .call {callee:=.builtin .append,args:=#[s,x],argTypes:=#[39,39]}) (W0:World) (A1:Option Addr) (c1:Nat) (hs:a.eval s= .slice A1 0 c1) (hown:ax w W0.heap.size A1 0 c1 [])
 (B1:Nat) (A:Option Addr) (m c:Nat) (news:List Int) (hx:a.eval x= .slice A m c) (hl:news.length=m) (hr:ag .i64 w B1 A news) (hsz:m≤1000000) (hb:Below W0.heap.size W0 w)
 (h:∀A' c' w',ax w' W0.heap.size A' m c' news→Below W0.heap.size W0 w'→wpList Tryz.prog ops Q rest (a.put o.dst (.slice A' m c')) w'):wpList Tryz.prog ops Q (o :: rest) a w:=by
 refine Lq w hgd s x ho W0 A1 0 c1 [] hs hown B1 A m c news hx hl hr (by omega) hb fun A' c' w' h1 h2=> ?_
 rw[Nat.zero_add] at h1 ⊢
 exact h A' c' w' h1 h2
def QT(b:Int):Bool:=decide (1≤b) && decide (b≤31)
def yC(b:Int):Int:=if QT b=true then-(2 ^ (b-1).toNat)else 0
def qO(b:Int):Int:=if QT b=true then 2 ^ (b-1).toNat-1 else 0
def dS(x b:Int):Bool:=QT b && decide (yC b≤x) && decide (x≤qO b)
theorem qD{b:Int}:QT b=true↔1≤b∧b≤31:=by simp[QT]
theorem sx{b:Int}(h:¬(1≤b∧b≤31)):QT b=false:=by
 cases e:QT b with
 |false=>rfl
 |true=>exact absurd (qD.1 e) h
theorem Rc{b:Int}(h:QT b=false):yC b=0:=by simp[yC,h]
theorem KU{b:Int}(h:QT b=false):qO b=0:=by simp[qO,h]
theorem p30{k:Nat}(h:(k:Int)≤30):(1:Int)≤2 ^ k∧(2:Int) ^ k≤1073741824:=by
 have h1:(1:Nat)≤2 ^ k:=Nat.one_le_two_pow
 have h2:(2:Nat) ^ k≤2 ^ 30:=Nat.pow_le_pow_right (by omega) (by omega)
 have e:((2 ^ k:Nat):Int)=2 ^ k:=by simp
 omega
theorem ZW{k:Nat}(h:(k:Int)≤30):yC ((k:Int)+1)= -(2 ^ k):=by
 rw[yC,if_pos (qD.2 ⟨by omega,by omega⟩),show ((k:Int)+1-1).toNat=k by omega]
theorem WU{k:Nat}(h:(k:Int)≤30):qO ((k:Int)+1)=2 ^ k-1:=by
 rw[qO,if_pos (qD.2 ⟨by omega,by omega⟩),show ((k:Int)+1-1).toNat=k by omega]
theorem D4(b:Int)(w:World):Calls Tryz.prog 87 #[.int .i64 b] w fun e w'=>e= .returned (.int .i64 (yC b))∧w'=w:=by
 by_cases h1:b<1
 ·have hn:=aa (Rc (sx (b:=b) (by omega)))
  go_enter Tryz.func87,Tryz.ntmps87
  go_wp2
  go_ret
  exact⟨by rw[hn.out];rfl,rfl⟩
 ·by_cases h2:31<b
  ·have hn:=aa (Rc (sx (b:=b) (by omega)))
   go_enter Tryz.func87,Tryz.ntmps87
   go_wp2
   go_ret
   exact⟨by rw[hn.out];rfl,rfl⟩
  ·obtain⟨k,rfl⟩:∃k:Nat,b=(k:Int)+1:=⟨(b-1).toNat,by omega⟩
   have hk:(k:Int)≤30:=by omega
   have e1:(k:Int)+1-1=(k:Int):=by omega
   have hp:=p30 hk
   have hz:=aa (ZW hk)
   clear h1 h2
   go_enter Tryz.func87,Tryz.ntmps87
   go_wp2
   go_ret
   refine⟨?_,rfl⟩
   rw[hz.out]
   generalize (2:Int) ^ k=x at*
   simp[wrap64]
   try omega
theorem Am(b:Int)(w:World):Calls Tryz.prog 88 #[.int .i64 b] w fun e w'=>e= .returned (.int .i64 (qO b))∧w'=w:=by
 by_cases h1:b<1
 ·have hn:=aa (KU (sx (b:=b) (by omega)))
  go_enter Tryz.func88,Tryz.ntmps88
  go_wp2
  go_ret
  exact⟨by rw[hn.out];rfl,rfl⟩
 ·by_cases h2:31<b
  ·have hn:=aa (KU (sx (b:=b) (by omega)))
   go_enter Tryz.func88,Tryz.ntmps88
   go_wp2
   go_ret
   exact⟨by rw[hn.out];rfl,rfl⟩
  ·obtain⟨k,rfl⟩:∃k:Nat,b=(k:Int)+1:=⟨(b-1).toNat,by omega⟩
   have hk:(k:Int)≤30:=by omega
   have e1:(k:Int)+1-1=(k:Int):=by omega
   have hp:=p30 hk
   have hz:=aa (WU hk)
   clear h1 h2
   go_enter Tryz.func88,Tryz.ntmps88
   go_wp2
   go_ret
   refine⟨?_,rfl⟩
   rw[hz.out]
   generalize (2:Int) ^ k=x at*
   simp[wrap64]
   try omega
theorem dJ(x b:Int)(w:World):Calls Tryz.prog 37 #[.int .i64 x,.int .i64 b] w fun e w'=>e= .returned (.bool (dS x b))∧w'=w:=by
 by_cases h1:1≤b
 ·by_cases h2:b≤31
  ·have hb:=aa (qD.2 ⟨h1,h2⟩)
   go_enter Tryz.func37,Tryz.ntmps37
   by_cases h3:yC b≤x
   ·by_cases h4:x≤qO b
    all_goals
     go_wp2_with (first | ((with_reducible refine(D4 _ _).mono ?_);rintro e w' ⟨rfl,rfl⟩) | ((with_reducible refine(Am _ _).mono ?_);rintro e w' ⟨rfl,rfl⟩))
     go_ret
     refine⟨?_,rfl⟩
     simp[dS,hb.out, *]
   ·go_wp2_with (first | ((with_reducible refine(D4 _ _).mono ?_);rintro e w' ⟨rfl,rfl⟩) | ((with_reducible refine(Am _ _).mono ?_);rintro e w' ⟨rfl,rfl⟩))
    go_ret
    refine⟨?_,rfl⟩
    have h5:decide (yC b≤x)=false:=decide_eq_false (by omega)
    simp[dS,hb.out,h5]
  ·have hb:=aa (sx (b:=b) (by omega))
   go_enter Tryz.func37,Tryz.ntmps37
   go_wp2
   go_ret
   refine⟨?_,rfl⟩
   simp[dS,hb.out]
 ·have hb:=aa (sx (b:=b) (by omega))
  go_enter Tryz.func37,Tryz.ntmps37
  go_wp2
  go_ret
  refine⟨?_,rfl⟩
  simp[dS,hb.out]
def grow(x:Int):Nat→Nat→Nat
 |0,w=>w
 |f+1,w=>if x≠0∧w<32∧dS x (w:Int)=false then grow x f (w+1)else w
def need(x:Int)(w:Nat):Nat:=grow x 33 w
theorem Lb(x:Int):∀f w,w≤32→grow x f w≤32∧w≤grow x f w
 |0,w,h=>⟨h,agl _⟩
 |f+1,w,h=>by
  unfold grow;split
  ·rename_i q;have:=Lb x f (w+1) (by omega);omega
  ·omega
theorem AA(x:Int):∀f w,w≤32→32<w+f→grow x (f+1) w=grow x f w
 |0,w,h,h2=>by omega
 |f+1,w,h,h2=>by
  rw[grow];conv=>rhs;rw[grow]
  split
  ·rename_i q;exact AA x f (w+1) (by omega) (by omega)
  ·rfl
theorem Te(x:Int)(f g w:Nat)(h:w≤32)(h2:32<w+f):grow x (f+g) w=grow x f w:=by
 induction g with
 |zero=>rfl
 |succ g ih=>rw[←Nat.add_assoc,AA x (f+g) w h (by omega),ih]
theorem MK{x:Int}{w:Nat}(h:x≠0)(hw:w<32)(hf:dS x (w:Int)=false):need x (w+1)=need x w:=by
 unfold need
 conv=>rhs;rw[grow,if_pos ⟨h,hw,hf⟩]
 exact Te x 32 1 (w+1) (by omega) (by omega)
theorem sA{x:Int}{w:Nat}(h:¬(x≠0∧w<32∧dS x (w:Int)=false)):need x w=w:=by
 unfold need;rw[grow,if_neg h]
theorem Wf{x:Int}{w:Nat}(h:w≤32):need x w≤32∧w≤need x w:=Lb x 33 w h
def aA(l:List Int):Nat:=l.foldl (fun w x=>need x w) 0
theorem rQ(l:List Int):aA l≤32:=by
 have:∀(l:List Int) w,w≤32→l.foldl (fun w x=>need x w) w≤32:=by
  intro l
  induction l with
  |nil=>intro w h;exact h
  |cons x l ih=>intro w h;exact ih _ (Wf h).1
 exact this l 0 (by omega)
theorem GI{l:List Int}{k:Nat}(h:k<l.length):aA (l.take (k+1))=need (ix l k) (aA (l.take k)):=by
 rw[List.take_add_one,List.getElem?_eq_getElem h,←dQ h]
 simp[aA]
theorem iR(l:List Int)(n:Nat)(hn:n=l.length)(hm:n≤140737488355328)(A:Option Addr)(b c:Nat)(w:World)(ha:ag .i64 w b A l):
 Calls Tryz.prog 142 #[.slice A n c] w fun e w'=>e= .returned (.int .i64 (aA l:Int))∧∃m,w'=w.drewN m:=by
 subst hn
 go_enter Tryz.func142,Tryz.ntmps142
 go_wp2
 go_loopw [3,8] (fun v i wr=>(∃k:Nat,k≤l.length∧i= .int .i64 k∧v= .int .i64 (aA (l.take k):Int))∧∃m,wr=w.drewN m) (fun _ i _=>l.length-(intOf i).toNat)
 case atStart=>exact⟨⟨0,agw _,rfl,rfl⟩,0,rfl⟩
 case round=>
  obtain⟨⟨k,hk,rfl,rfl⟩,n,rfl⟩:=hrel
  by_cases hlt:k<l.length
  ·obtain⟨b1,o1,rfl,hc1⟩:=ha.at_ hlt
   have hws:=aa (GI hlt)
   have hw0:=rQ (l.take k)
   obtain⟨v,hv⟩:∃v,v=aA (l.take k):=⟨_,rfl⟩
   obtain⟨x,hx⟩:∃x,x=ix l k:=⟨_,rfl⟩
   rw[←hx,←hv] at hws
   rw[←hv] at hw0
   rw[←hx] at hc1
   rw[←hv]
   clear hx hv
   go_wp2
   obtain⟨wo,NB⟩:∃wo,wo=w.drewN n:=⟨_,rfl⟩
   rw[←NB]
   have Hwo:=aa NB
   clear NB hc1
   go_loopw [3] (fun v' wr=>(∃u:Nat,u≤32∧v'= .int .i64 u∧need x u=need x v)∧∃m,wr=wo.drewN m) (fun v' _=>32-(intOf v').toNat)
   case atStart=>exact⟨⟨v,hw0,rfl,rfl⟩,0,rfl⟩
   case round=>
    obtain⟨⟨u,hu,rfl,Pt⟩,n2,rfl⟩:=hrel
    have Hun:=aa Pt
    clear Pt
    by_cases hx0:x=0
    ·have Gd:(x != 0)=false:=by simp[hx0]
     have ud:=aa (sA (x:=x) (w:=u) (by simp[hx0]))
     clear hx0
     go_wp2
     constructor
     ·exact⟨⟨k+1,by omega,by go_num,by rw[hws.out,←Hun.out,ud.out]⟩,n+n2,by rw[Hwo.out,World.drewN_drewN]⟩
     ·simp[intOf];omega
    ·have Gd:(x != 0)=true:=by simp[hx0]
     by_cases hu2:u<32
     ·have huI:(u:Int)<32:=by omega
      cases hf:dS x (u:Int)with
      |true=>
       have ud:=aa (sA (x:=x) (w:=u) (by simp[hf]))
       clear hx0
       go_wp2_with ((with_reducible refine(dJ _ _ _).mono ?_);rintro e w' ⟨rfl,rfl⟩)
       constructor
       ·exact⟨⟨k+1,by omega,by go_num,by rw[hws.out,←Hun.out,ud.out]⟩,n+n2,by rw[Hwo.out,World.drewN_drewN]⟩
       ·simp[intOf];omega
      |false=>
       have ud:=aa (MK hx0 hu2 hf)
       clear hx0
       go_wp2_with ((with_reducible refine(dJ _ _ _).mono ?_);rintro e w' ⟨rfl,rfl⟩)
       go_roundw
       case rel=>exact⟨⟨u+1,by omega,by go_num,by rw[ud.out,Hun.out]⟩,n2,rfl⟩
       case measure=>simp[intOf];omega
     ·have huI:(32:Int)≤(u:Int):=by omega
      have ud:=aa (sA (x:=x) (w:=u) (by omega))
      clear hx0
      go_wp2
      constructor
      ·exact⟨⟨k+1,by omega,by go_num,by rw[hws.out,←Hun.out,ud.out]⟩,n+n2,by rw[Hwo.out,World.drewN_drewN]⟩
      ·simp[intOf];omega
  ·have e:k=l.length:=by omega
   subst e
   rw[List.take_length]
   go_wp2
   go_ret
   exact⟨rfl,n,rfl⟩
end
end Go.Proofs.YtbhfpehgacaidaaGreatDoor
