/- A part of the proof of the given statement TopRight. Conditions: none. -/
import Derived.Test.YtbhfpehgacaidaaGreatDoorQBC
namespace Go.Proofs.YtbhfpehgacaidaaGreatDoor
set_option linter.unusedVariables false
set_option linter.unusedSimpArgs false
set_option maxRecDepth 100000
set_option maxHeartbeats 8000000
section
open Go.RowKit
set_option maxRecDepth 100000
theorem Eu:(Tryz.prog.info? 3).map (fun i=>(i.zero,i.size,i.bytes))=some (some (.int .i64 0),1,8):=by kernel_rfl
theorem eI(xs:List Int)(n:Nat)(hn:n=xs.length)(hm:n≤140737488355328)(A:Option Addr)(b c:Nat)(w:World)(ha:ag .i64 w b A xs):
 Calls Tryz.prog 244 #[.slice A n c] w fun e w'=>e= .returned (.bool (ah xs))∧w=w':=by
 subst hn
 go_enter Tryz.func244,Tryz.ntmps244
 go_wp2
 go_loop [4,7] (fun _ i=>∃k:Nat,k≤xs.length∧i= .int .i64 k∧∀j,j<k→aX (ix xs j)=true) (fun _ i=>xs.length-(intOf i).toNat)
 case atStart=>exact⟨0,agw _,rfl,fun j h=>absurd h (by omega)⟩
 case round=>
  obtain⟨k,hk,rfl,hj⟩:=hrel
  have Hj:=aa hj
  clear hj
  by_cases hlt:k<xs.length
  ·obtain⟨b1,o1,rfl,hc1⟩:=ha.at_ hlt
   by_cases bj:ix xs k< -1073741824
   ·have hn:Hid (aX (ix xs k)=false):=by show _=_;simp[aX];omega
    go_wp2
    go_ret
    exact⟨aC (eB hlt hn.out).symm,rfl⟩
   ·by_cases hw2:1073741824≤ix xs k
    ·have hn:Hid (aX (ix xs k)=false):=by show _=_;simp[aX];omega
     go_wp2
     go_ret
     exact⟨aC (eB hlt hn.out).symm,rfl⟩
    ·have hn:Hid (aX (ix xs k)=true):=by show _=_;simp[aX];omega
     go_wp2
     go_round
     case rel=>
      refine⟨k+1,by omega,by go_num,fun j h=> ?_⟩
      by_cases e:j=k
      ·subst e;exact hn.out
      ·exact Hj.out j (by omega)
     case measure=>simp[intOf];omega
  ·go_wp2
   go_ret
   exact⟨aC (aZ.2 fun j hj=>Hj.out j (by omega)).symm,rfl⟩
def rE(B:Nat)(r:List Int×Int)(w:World)(e:Ending)(w':World):Prop:=
 ∃A c,e= .returned (.tuple #[.slice A r.1.length c,.int .i64 r.2])∧w'.ownsRow B 3 1 (.slice A r.1.length c) r.1.length (r.1.map (.int .i64))∧Below w.heap.size w w'
theorem eh{B:Nat}{x:Int}{w w':World}(hb:Below w.heap.size w w'):rE B ([],x) w (.returned (.tuple #[.slice none 0 0,.int .i64 x])) w':=⟨none,0,rfl,World.ownsRow_nil _ _ _ _,hb⟩
theorem Mn(l:List Int)(o:Int)(hm:l.length≤9223372036854775807)(h:iH l o=false)(A:Option Addr)(c:Nat)(w:World):
 Calls Tryz.prog 218 #[.slice A l.length c,.int .i64 o] w (rE w.heap.size (a8 l o) w):=by
 rw[Mm h]
 have hn:¬(0≤o∧o≤4∧o≤l.length):=by rw[←kX,h];simp
 by_cases h1:o<0
 ·clear hn
  go_enter Tryz.func218,Tryz.ntmps218
  go_wp2_with fail
  go_ret2
  exact eh (ac w)
 ·by_cases h2:4<o
  ·clear hn
   go_enter Tryz.func218,Tryz.ntmps218
   go_wp2_with fail
   go_ret2
   exact eh (ac w)
  ·have h3:(l.length:Int)<o:=by omega
   clear hn
   go_enter Tryz.func218,Tryz.ntmps218
   go_wp2_with fail
   go_ret2
   exact eh (ac w)
theorem Qx(l:List Int)(o:Nat)(ho:o≤4)(Sj:o≤l.length)(hm:l.length≤17592186044415)(A:Option Addr)(c:Nat)(w:World)(ha:ag .i64 w w.heap.size A l):
 Calls Tryz.prog 218 #[.slice A l.length c,.int .i64 (o:Int)] w (rE w.heap.size (a8 l o) w):=by
 have dU:=aa (kX (l:=l) (o:=(o:Int)) |>.2 ⟨by omega,by omega,by omega⟩)
 have e1:(0:Int)≤(o:Int):=by omega
 have e2:(o:Int)≤4:=by omega
 have e3:(o:Int)≤(l.length:Int):=by omega
 cases hw:ah l with
 |false=>
  have Hw:=aa hw
  clear hw
  go_enter Tryz.func218,Tryz.ntmps218
  go_wp2_with fail
  (with_reducible refine(eI l _ rfl (by omega) _ _ _ _ ha).mono ?_);rintro e w' ⟨rfl,rfl⟩
  rw[Hw.out]
  go_wp2_with fail
  go_ret2
  rw[Ml dU.out Hw.out]
  exact eh (ac w)
 |true=>
  have Hw:=aa hw
  clear hw
  obtain⟨i0,cw,hz0,hz1,hz2⟩:=info_parts Eu
  go_enter Tryz.func218,Tryz.ntmps218
  go_wp2_with fail
  (with_reducible refine(eI l _ rfl (by omega) _ _ _ _ ha).mono ?_);rintro e w' ⟨rfl,rfl⟩
  rw[Hw.out]
  go_wp2_with (at_builtin;refine aP _ rfl (.const (.slice none 0 0)) (.tmp 23) 39 rfl w.heap.size 3 i0 _ 1 8 Tryz.underlying39 cw hz0 hz1 hz2 rfl (by omega) (.slice none 0 0) 0 [] rfl (World.ownsRow_nil _ _ _ _) w.heap.size A l.length c (l.map (Value.int .i64)) rfl (by simp) ha (bY _ _) (by simp only[maxLen];omega) (by omega) (agl _) ?_;intro A1 k1 w1 cM hg1 aaP)
  have hb1:Hid (Below w.heap.size w w1):=aI (ac w) (World.ownsRow_nil w w.heap.size 3 1) hg1 (agl _)
  rw[Nat.zero_add,List.nil_append] at cM
  have cM:=aa cM
  clear hg1 aaP
  go_loopw [6,7,26] (fun ov _ jv wr=>(∃(j m:Nat) (A:Option Addr) (c:Nat),j≤o∧m+j=l.length∧jv= .int .i64 j∧ov= .slice A m c∧wr.ownsRow w.heap.size 3 1 (.slice A m c) m ((ni l j).map (.int .i64)))∧Below w.heap.size w wr) (fun _ _ jv _=>o-(intOf jv).toNat)
  case atStart=>exact⟨⟨0,l.length,A1,k1,agw _,rfl,rfl,rfl,cM.out⟩,hb1.out⟩
  case round=>
   obtain⟨⟨j,m,A2,c2,hj,hmj,rfl,rfl,cD⟩,hbl⟩:=hrel
   obtain⟨wo,rfl⟩:∃wo:World,wo=wr:=⟨_,rfl⟩
   have ym:=BG cD
   obtain⟨xs,Ps⟩:∃xs,xs=ni l j:=⟨_,rfl⟩
   rw[←Ps] at cD ym
   have Hxs:=aa Ps
   clear Ps
   obtain⟨ae0,aeZ⟩:=bJ cD
   by_cases hlt:j<o
   ·have rM:1≤m:=by omega
    go_wp2_with fail
    go_loopw [7] (fun iv wi=>(∃i:Nat,i+1≤m∧iv= .int .i64 i∧wi.ownsRow w.heap.size 3 1 (.slice A2 m c2) m ((yH xs i).map (.int .i64)))∧Below w.heap.size w wi) (fun iv _=>m-(intOf iv).toNat)
    case atStart=>exact⟨⟨0,by omega,rfl,by rw[Nz];exact cD⟩,hbl⟩
    case round=>
     obtain⟨⟨i,hi,rfl,bF⟩,hbi⟩:=hrel
     clear cD hbl
     by_cases jR:i+1<m
     ·obtain⟨g,rfl,hBg,CU⟩:=eW bF (by omega)
      have d1:=ki bF (i:=i) (by omega)
      rw[nP (by omega),if_neg (by omega)] at d1
      have d2:=ki bF (i:=i+1) jR
      rw[nP (by omega),if_neg (by omega)] at d2
      have d3:=World.ownsRow.frozenAt bF i
      have sM:=aa (RF (l:=xs) (k:=i) (by omega))
      have hO:=aa bF
      have ES:((i:Int)+1<(m:Int)):=by omega
      go_wp2_with fail
      have t1:=agp ((i:Int)+1) (by omega)
      have t2:(0:Int)≤(i:Int)+1:=by omega
      have t3:((i:Int)+1).toNat=i+1:=by omega
      have t4:(i:Int)<(m:Int):=by omega
      have t5:(i:Int).toNat=i:=by omega
      go_still_tail 13,(by kernel_rfl)
      go_wp2_with fail
      go_roundw
      case rel=>
       refine⟨⟨i+1,by omega,by go_num, ?_⟩,(hbi.setCell (p:=⟨g,i,none⟩) hBg _).drew⟩
       rw[←sM.out]
       exact u9 hO.out i _
      case measure=>simp[intOf];omega
     ·have e:i=m-1:=by omega
      subst e
      have hd:=aa (NA xs)
      have hc:=V5 bF (m:=m-1) (by omega)
      have hI3:(m:Int)≤((m-1:Nat):Int)+1:=by omega
      have he:Hid ((yH xs (m-1)).take (m-1)=ni l (j+1)):=by
       have:=hd.out
       rw[ym] at this
       show _=_
       rw[this,Hxs.out];rfl
      rw[←List.map_take,he.out] at hc
      have hC:=aa hc
      clear hc
      go_wp2_with fail
      go_roundw
      case rel=>exact⟨⟨j+1,m-1,A2,c2,by omega,by omega,by go_num,rfl,hC.out⟩,hbi⟩
      case measure=>simp[intOf];omega
   ·have e:j=o:=by omega
    subst e
    go_wp2_with fail
    (with_reducible refine(eI xs _ (by omega) (by omega) _ _ _ _ (bR cD)).mono ?_);rintro e w' ⟨rfl,rfl⟩
    cases hq:ah xs with
    |true=>
     have Hq:=aa hq
     clear hq
     go_wp2_with fail
     go_ret2
     rw[GG dU.out Hw.out (by rw[Int.toNat_natCast,←Hxs.out];exact Hq.out),Int.toNat_natCast,←Hxs.out]
     subst ym
     exact⟨A2,c2,rfl,cD,hbl⟩
    |false=>
     have Hq:=aa hq
     clear hq
     go_wp2_with fail
     go_ret2
     rw[Mi dU.out Hw.out (by rw[Int.toNat_natCast,←Hxs.out];exact Hq.out)]
     exact eh hbl
set_option maxRecDepth 100000
theorem j6(l:List Int)(o:Int)(hm:l.length≤17592186044415)(A:Option Addr)(c:Nat)(w:World)(ha:ag .i64 w w.heap.size A l):
 Calls Tryz.prog 218 #[.slice A l.length c,.int .i64 o] w (rE w.heap.size (a8 l o) w):=by
 cases h:iH l o with
 |false=>exact Mn l o (by omega) h A c w
 |true=>
  obtain⟨h1,h2,h3⟩:=kX.1 h
  obtain⟨n,rfl⟩:∃n:Nat,o=(n:Int):=⟨o.toNat,by omega⟩
  exact Qx l n (by omega) (by omega) hm A c w ha
set_option maxRecDepth 100000
theorem T9(x:Int):XO x=max x (wrap64 (-x)):=by unfold XO;split <;> omega
theorem rU(r:List Int)(n:Nat)(hn:n=r.length)(hm:n≤140737488355328)(o:Int)(h0:0≤o)(h4:o≤4)(A:Option Addr)(b c:Nat)(w:World)(ha:ag .i64 w b A r):
 Calls Tryz.prog 219 #[.slice A n c,.int .i64 o] w fun e w'=>e= .returned (.int .i64 (uA r o n))∧w=w':=by
 subst hn
 go_enter Tryz.func219,Tryz.ntmps219
 go_wp2
 go_loop [5,6,7,10] (fun s _ _ i=>∃k:Nat,k≤r.length∧i= .int .i64 k∧s= .int .i64 (uA r o k)) (fun _ _ _ i=>r.length-(intOf i).toNat)
 case atStart=>exact⟨0,agw _,rfl,rfl⟩
 case round=>
  obtain⟨k,hk,rfl,rfl⟩:=hrel
  by_cases hlt:k<r.length
  ·obtain⟨b1,o1,rfl,hc1⟩:=ha.at_ hlt
   by_cases h:4≤(k:Int)+o
   ·have hs:=aa (Vo (r:=r) h)
    go_wp2
    go_round
    case rel=>exact⟨k+1,by omega,by go_num,by rw[hs.out];first | rfl | (rw[T9])⟩
    case measure=>simp[intOf];omega
   ·have hs:=aa (PV (r:=r) h)
    go_wp2
    go_round
    case rel=>exact⟨k+1,by omega,by go_num,by rw[hs.out]⟩
    case measure=>simp[intOf];omega
  ·have e:k=r.length:=by omega
   subst e
   go_wp2
   go_ret
   exact⟨rfl,rfl⟩
def abl(x:Int)(w:World)(e:Ending)(w':World):Prop:=e= .returned (.int .i64 x)∧Below w.heap.size w w'
theorem OG(l:List Int)(hm:l.length≤17592186044415)(A:Option Addr)(c:Nat)(w:World)(ha:ag .i64 w w.heap.size A l):
 Calls Tryz.prog 182 #[.slice A l.length c] w (abl (iK l 5).1 w):=by
 go_enter Tryz.func182,Tryz.ntmps182
 go_wp2_with fail
 go_loopw [3,4,5,6,7,8] (fun bv lv ov _ _ _ wr=>(∃k:Nat,k≤5∧ov= .int .i64 k∧bv= .int .i64 (iK l k).1∧lv= .int .i64 (iK l k).2)∧Below w.heap.size w wr) (fun _ _ ov _ _ _ _=>5-(intOf ov).toNat)
 case atStart=>exact⟨⟨0,by omega,rfl,rfl,rfl⟩,ac w⟩
 case round=>
  obtain⟨⟨k,hk,rfl,rfl,rfl⟩,hbl⟩:=hrel
  have xF:=aa hbl
  by_cases hlt:k<5
  ·have hI:(k:Int)≤4:=by omega
   have hsu:Hid (iK l (k+1)=tz l (iK l k) k):=rfl
   generalize hst:iK l k=st at hsu ⊢
   clear hst
   have CR:= @Mj l k
   by_cases h:(a8 l k).2=0
   ·have he:((a8 l k).2 != 0)=false:=by simp[h]
    have hwp:=aa (show uA (a8 l k).1 k (a8 l k).1.length=iF l k from by unfold iF;rw[if_pos h])
    have hs:Hid (tz l st k=if st.2<0 then(↑k,iF l k)else if iF l k<st.2 then(↑k,iF l k)else st):=by show _=_;unfold tz;rw[if_pos h]
    clear h
    by_cases h1:st.2<0
    ·go_wp2_with fail
     (with_reducible refine(j6 l k hm _ _ _ ((ha.below xF.out).more xF.out.size)).mono ?_);rintro e w1 ⟨A1,c1,rfl,cM,b1⟩
     go_wp2_with fail
     (with_reducible refine(rU (a8 l k).1 _ rfl (by omega) k (by omega) hI _ _ _ _ (bR cM)).mono ?_);rintro e w' ⟨rfl,rfl⟩
     rw[hwp.out]
     go_wp2_with fail
     go_roundw
     case rel=>exact⟨⟨k+1,by omega,by go_num,by rw[hsu.out,hs.out,if_pos h1],by rw[hsu.out,hs.out,if_pos h1]⟩,kK xF.out b1⟩
     case measure=>simp[intOf];omega
    ·by_cases h2:iF l k<st.2
     ·go_wp2_with fail
      (with_reducible refine(j6 l k hm _ _ _ ((ha.below xF.out).more xF.out.size)).mono ?_);rintro e w1 ⟨A1,c1,rfl,cM,b1⟩
      go_wp2_with fail
      (with_reducible refine(rU (a8 l k).1 _ rfl (by omega) k (by omega) hI _ _ _ _ (bR cM)).mono ?_);rintro e w' ⟨rfl,rfl⟩
      rw[hwp.out]
      go_wp2_with fail
      go_roundw
      case rel=>exact⟨⟨k+1,by omega,by go_num,by rw[hsu.out,hs.out,if_neg (by omega),if_pos h2],by rw[hsu.out,hs.out,if_neg (by omega),if_pos h2]⟩,kK xF.out b1⟩
      case measure=>simp[intOf];omega
     ·go_wp2_with fail
      (with_reducible refine(j6 l k hm _ _ _ ((ha.below xF.out).more xF.out.size)).mono ?_);rintro e w1 ⟨A1,c1,rfl,cM,b1⟩
      go_wp2_with fail
      (with_reducible refine(rU (a8 l k).1 _ rfl (by omega) k (by omega) hI _ _ _ _ (bR cM)).mono ?_);rintro e w' ⟨rfl,rfl⟩
      rw[hwp.out]
      go_wp2_with fail
      go_roundw
      case rel=>exact⟨⟨k+1,by omega,by go_num,by rw[hsu.out,hs.out,if_neg (by omega),if_neg (by omega)],by rw[hsu.out,hs.out,if_neg (by omega),if_neg (by omega)]⟩,kK xF.out b1⟩
      case measure=>simp[intOf];omega
   ·have he:((a8 l k).2 != 0)=true:=by simp[h]
    have hs:Hid (tz l st k=st):=by show _=_;unfold tz;rw[if_neg h]
    clear h
    go_wp2_with fail
    (with_reducible refine(j6 l k hm _ _ _ ((ha.below xF.out).more xF.out.size)).mono ?_);rintro e w1 ⟨A1,c1,rfl,cM,b1⟩
    go_wp2_with fail
    go_roundw
    case rel=>exact⟨⟨k+1,by omega,by go_num,by rw[hsu.out,hs.out],by rw[hsu.out,hs.out]⟩,kK xF.out b1⟩
    case measure=>simp[intOf];omega
  ·have e:k=5:=by omega
   subst e
   go_wp2_with fail
   go_ret
   exact⟨rfl,hbl⟩
set_option maxRecDepth 100000
theorem aa3(xs:List Int)(n:Nat)(hn:n=xs.length)(hm:n≤140737488355328)(k:Nat)(h1:1≤k)(h2:k≤n)(kI:Int)(hkI:kI=(k:Int))(A:Option Addr)(b c:Nat)(p:Addr)(w:World)(hp:w.cell? p=some (.slice A n c))(ha:ag .i64 w b A xs):
 Calls Tryz.prog 269 #[.int .i64 kI,.pointer (some p)] w fun e w'=>e= .returned (.int .i64 (pk xs k))∧w=w':=by
 subst hkI
 obtain⟨b1,o1,rfl,hc⟩:=ha.at_ (i:=n-k) (by omega)
 have hpk:Hid (pk xs k=ix xs (n-k)):=by show _=_;unfold pk;rw[hn]
 have afI:(((n:Int)-(k:Int)).toNat)=n-k:=by omega
 have g1:(k:Int)≤(n:Int):=by omega
 have g2:(n:Int)-(k:Int)<(n:Int):=by omega
 clear hn
 go_enter Tryz.func269,Tryz.ntmps269
 go_wp2
 go_ret
 exact⟨kU hpk.out.symm,rfl⟩
theorem N4(xs:List Int)(n:Nat)(hn:n=xs.length)(hm:n≤140737488355328)(hw:ah xs=true)(o:Nat)(ho:o≤4)(Gi:o≤n)(A:Option Addr)(c:Nat)(w:World)(ha:ag .i64 w w.heap.size A xs):
 Calls Tryz.prog 245 #[.slice A n c,.int .i64 (o:Int)] w (abl (eQ xs o) w):=by
 have hb:=ak (ac w) (.cells #[.slice A n c] 39)
 have hc:(w.alloc (.cells #[.slice A n c] 39)).cell? ⟨w.heap.size,0,none⟩=some (.slice A n c):=by simp[World.cell?_alloc_new]
 have ha':=ha.below hb
 have Hw:=aa hw
 have hA1:=fun k h1 h2 kI hk=>aa3 xs n hn hm k h1 h2 kI hk A _ c _ _ hc ha'
 have HA:=aa hA1
 have Hn:=aa hn
 clear hA1 hw hc ha hn
 rcases o with _ | _ | _ | _ | _ | o
 ·go_enter Tryz.func245,Tryz.ntmps245
  go_wp2_with fail
  go_ret
  exact⟨rfl,hb⟩
 ·go_enter Tryz.func245,Tryz.ntmps245
  go_wp2_with fail
  (with_reducible refine(HA.out 1 (by omega) (by omega) 1 rfl).mono ?_);rintro e w' ⟨rfl,rfl⟩
  go_wp2_with fail
  go_ret
  exact⟨rfl,hb⟩
 ·obtain⟨p1,p1'⟩:=cH Hw.out (k:=1) (by omega) (by rw[←Hn.out];omega)
  obtain⟨p2,p2'⟩:=cH Hw.out (k:=2) (by omega) (by rw[←Hn.out];omega)
  go_enter Tryz.func245,Tryz.ntmps245
  go_wp2_with fail
  (with_reducible refine(HA.out 1 (by omega) (by omega) 1 rfl).mono ?_);rintro e w' ⟨rfl,rfl⟩
  go_wp2_with fail
  (with_reducible refine(HA.out 2 (by omega) (by omega) 2 rfl).mono ?_);rintro e w' ⟨rfl,rfl⟩
  go_wp2_with fail
  go_ret
  exact⟨rfl,hb⟩
 ·obtain⟨p1,p1'⟩:=cH Hw.out (k:=1) (by omega) (by rw[←Hn.out];omega)
  obtain⟨p2,p2'⟩:=cH Hw.out (k:=2) (by omega) (by rw[←Hn.out];omega)
  obtain⟨p3,p3'⟩:=cH Hw.out (k:=3) (by omega) (by rw[←Hn.out];omega)
  go_enter Tryz.func245,Tryz.ntmps245
  go_wp2_with fail
  (with_reducible refine(HA.out 1 (by omega) (by omega) 1 rfl).mono ?_);rintro e w' ⟨rfl,rfl⟩
  go_wp2_with fail
  (with_reducible refine(HA.out 2 (by omega) (by omega) 2 rfl).mono ?_);rintro e w' ⟨rfl,rfl⟩
  go_wp2_with fail
  (with_reducible refine(HA.out 3 (by omega) (by omega) 3 rfl).mono ?_);rintro e w' ⟨rfl,rfl⟩
  go_wp2_with fail
  go_ret
  exact⟨rfl,hb⟩
 ·obtain⟨p1,p1'⟩:=cH Hw.out (k:=1) (by omega) (by rw[←Hn.out];omega)
  obtain⟨p2,p2'⟩:=cH Hw.out (k:=2) (by omega) (by rw[←Hn.out];omega)
  obtain⟨p3,p3'⟩:=cH Hw.out (k:=3) (by omega) (by rw[←Hn.out];omega)
  obtain⟨p4,p4'⟩:=cH Hw.out (k:=4) (by omega) (by rw[←Hn.out];omega)
  go_enter Tryz.func245,Tryz.ntmps245
  go_wp2_with fail
  (with_reducible refine(HA.out 1 (by omega) (by omega) 1 rfl).mono ?_);rintro e w' ⟨rfl,rfl⟩
  go_wp2_with fail
  (with_reducible refine(HA.out 2 (by omega) (by omega) 2 rfl).mono ?_);rintro e w' ⟨rfl,rfl⟩
  go_wp2_with fail
  (with_reducible refine(HA.out 3 (by omega) (by omega) 3 rfl).mono ?_);rintro e w' ⟨rfl,rfl⟩
  go_wp2_with fail
  (with_reducible refine(HA.out 4 (by omega) (by omega) 4 rfl).mono ?_);rintro e w' ⟨rfl,rfl⟩
  go_wp2_with fail
  go_ret
  exact⟨rfl,hb⟩
 ·omega
set_option maxRecDepth 100000
theorem Ru(w:World)(k:IntKind)(x:Int)(t:TypeId):ag k (w.alloc (.cells #[.int k x] t)) (w.heap.size+1) (some ⟨w.heap.size,0,none⟩) [x]:=dH _ _ _ _ _ rfl
theorem Xx(xs:List Int)(n:Nat)(hn:n=xs.length)(hm:n≤140737488355328)(A:Option Addr)(b c:Nat)(w:World)(ha:ag .i64 w b A xs):
 Calls Tryz.prog 244 #[.slice A n c] w fun e w'=>e= .returned (.bool (ah xs))∧Below w.heap.size w w':=
 (eI xs n hn hm A b c w ha).mono fun e w' ⟨h,hw⟩=>⟨h,by rw[←hw];exact ac w⟩
theorem OM(warm rest:List Int)(o:Int)(hm:warm.length≤9223372036854775807)(h:jN warm o=false)(A B:Option Addr)(n c d:Nat)(w:World):
 Calls Tryz.prog 205 #[.slice A warm.length c,.slice B n d,.int .i64 o] w (rE w.heap.size (iD warm rest o) w):=by
 rw[OJ h]
 have hn:¬(0≤o∧o≤4∧(warm.length:Int)=o):=by rw[←mL,h];simp
 by_cases h1:o<0
 ·clear hn
  go_enter Tryz.func205,Tryz.ntmps205
  go_wp2_with fail
  go_ret2
  exact eh (ac w)
 ·by_cases h2:4<o
  ·clear hn
   go_enter Tryz.func205,Tryz.ntmps205
   go_wp2_with fail
   go_ret2
   exact eh (ac w)
  ·have h3:((warm.length:Int) != o)=true:=by simp;omega
   clear hn
   go_enter Tryz.func205,Tryz.ntmps205
   go_wp2_with fail
   go_ret2
   exact eh (ac w)
theorem TL(warm rest:List Int)(o:Nat)(ho:o≤4)(Sj:warm.length=o)(hm:rest.length≤17592186044000)(A B:Option Addr)(c d:Nat)(w:World)(ha:ag .i64 w w.heap.size A warm)(hb:ag .i64 w w.heap.size B rest):
 Calls Tryz.prog 205 #[.slice A o c,.slice B rest.length d,.int .i64 (o:Int)] w (rE w.heap.size (iD warm rest o) w):=by
 have dU:=aa (mL (warm:=warm) (o:=(o:Int)) |>.2 ⟨by omega,by omega,by omega⟩)
 have e1:(0:Int)≤(o:Int):=by omega
 have e2:(o:Int)≤4:=by omega
 have e3:((o:Int) != (o:Int))=false:=by simp
 have Hol:=aa Sj
 clear Sj
 obtain⟨i0,cw,hz0,hz1,hz2⟩:=info_parts Eu
 cases hw:ah warm with
 |false=>
  have Hw:=aa hw
  clear hw
  go_enter Tryz.func205,Tryz.ntmps205
  go_wp2_with fail
  (with_reducible refine(eI warm _ Hol.out.symm (by omega) _ _ _ _ ha).mono ?_);rintro e w' ⟨rfl,rfl⟩
  rw[Hw.out]
  go_wp2_with fail
  go_ret2
  rw[TK dU.out Hw.out]
  exact eh (ac w)
 |true=>
  have Hw:=aa hw
  clear hw
  cases hw2:ah rest with
  |false=>
   have Va:=aa hw2
   clear hw2
   go_enter Tryz.func205,Tryz.ntmps205
   go_wp2_with fail
   (with_reducible refine(eI warm _ Hol.out.symm (by omega) _ _ _ _ ha).mono ?_);rintro e w' ⟨rfl,rfl⟩
   rw[Hw.out]
   go_wp2_with fail
   (with_reducible refine(eI rest _ rfl (by omega) _ _ _ _ hb).mono ?_);rintro e w' ⟨rfl,rfl⟩
   rw[Va.out]
   go_wp2_with fail
   go_ret2
   rw[TJ dU.out Hw.out Va.out]
   exact eh (ac w)
  |true=>
   have Va:=aa hw2
   clear hw2
   go_enter Tryz.func205,Tryz.ntmps205
   go_wp2_with fail
   (with_reducible refine(eI warm _ Hol.out.symm (by omega) _ _ _ _ ha).mono ?_);rintro e w' ⟨rfl,rfl⟩
   rw[Hw.out]
   go_wp2_with fail
   (with_reducible refine(eI rest _ rfl (by omega) _ _ _ _ hb).mono ?_);rintro e w' ⟨rfl,rfl⟩
   rw[Va.out]
   go_wp2_with (at_builtin;refine aP _ rfl (.const (.slice none 0 0)) (.tmp 32) 39 rfl w.heap.size 3 i0 _ 1 8 Tryz.underlying39 cw hz0 hz1 hz2 rfl (by omega) (.slice none 0 0) 0 [] rfl (World.ownsRow_nil _ _ _ _) w.heap.size A o c (warm.map (Value.int .i64)) rfl (by rw[List.length_map,Hol.out];omega) ha (bY _ _) (by simp only[maxLen];omega) (by omega) (agl _) ?_;intro A1 k1 w1 cM hg1 aaP)
   have hb1:Hid (Below w.heap.size w w1):=aI (ac w) (World.ownsRow_nil w w.heap.size 3 1) hg1 (agl _)
   rw[Nat.zero_add,List.nil_append] at cM
   have adP:=aa cM
   clear hg1 aaP cM
   go_loopw [8,10,11,36] (fun ov _ _ iv wr=>(∃(k:Nat) (out:List Int) (A:Option Addr) (c:Nat),k≤rest.length∧iv= .int .i64 k∧ov= .slice A (o+k) c∧wr.ownsRow w.heap.size 3 1 (.slice A (o+k) c) (o+k) (out.map (.int .i64))∧ah out=true∧jT o out (rest.drop k)=jT o warm rest)∧Below w.heap.size w wr)
    (fun _ _ _ iv _=>rest.length-(intOf iv).toNat)
   case atStart=>exact⟨⟨0,warm,A1,k1,agw _,rfl,rfl,adP.out,Hw.out,rfl⟩,hb1.out⟩
   case round=>
    obtain⟨⟨k,out,A2,c2,hk,rfl,rfl,cD,NB,mf⟩,hbl⟩:=hrel
    have NN:=aa (BG cD)
    have aaa:=aa NB
    have aaM:=aa mf
    have aaL:=aa hbl
    have Jg:=aa cD
    clear NB mf hbl cD
    by_cases hlt:k<rest.length
    ·obtain⟨bB,oB,rfl,hcB⟩:=(hb.below aaL.out).at_ hlt
     have hx:=cX.1 (aZ.1 Va.out k hlt)
     obtain⟨gb1,gb2⟩:=Tc (xs:=out) ho (by rw[NN.out];omega) aaa.out
     obtain⟨hx1,hx2⟩:=hx
     have hdr:=aa (XD hlt)
     go_wp2_with fail
     (with_reducible refine(N4 out _ NN.out.symm (by omega) aaa.out o ho (by omega) _ _ _ (bR Jg.out)).mono ?_);rintro e w2 ⟨rfl,b2⟩
     have hb2:=aa (kK aaL.out b2)
     have bF:=aa (aD Jg.out b2 (agl _))
     clear b2
     go_wp2_with fail
     (with_reducible refine(Xx [ix rest k+eQ out o] 1 rfl (by omega) _ _ _ _ (Ru _ _ _ _)).mono ?_);rintro e w3 ⟨rfl,b3⟩
     have hb3:=aa (kK (ak hb2.out _) b3)
     have bF:=aa (aD (bF.out.alloc _) b3 (agl _))
     clear b3
     rw[show ah [ix rest k+eQ out o]=aX (ix rest k+eQ out o)from by simp[ah]]
     cases hy:aX (ix rest k+eQ out o)with
     |false=>
      have Hy:=aa hy
      clear hy
      go_wp2_with fail
      go_ret2
      rw[JX dU.out Hw.out Va.out (by rw[Int.toNat_natCast,←aaM.out,hdr.out,jT,if_neg (by rw[Hy.out];simp)])]
      exact eh hb3.out
     |true=>
      have Hy:=aa hy
      clear hy
      go_wp2_with (at_builtin;refine aP _ rfl (.tmp 49) (.tmp 51) 39 rfl w.heap.size 3 i0 _ 1 8 Tryz.underlying39 cw hz0 hz1 hz2 rfl (by omega) (.slice A2 (o+k) c2) (o+k) _ rfl (bF.out.alloc _) _ _ 1 1 [.int .i64 (ix rest k+eQ out o)] rfl rfl (dN _ _ _) (by simp[Value.oneCell']) (by simp only[maxLen];omega) (by omega) (by have:=hb3.out.size;simp at this ⊢;omega) ?_;intro A4 k4 w4 bE hg4 sS)
      have hb4:=aa (aI (ak hb3.out _) (bF.out.alloc _) hg4 (by have:=hb3.out.size;simp at this ⊢;omega))
      have mS:=aa bE
      clear hg4 sS bE
      go_wp2_with fail
      go_roundw
      case rel=>
       refine⟨⟨k+1,out++[ix rest k+eQ out o],A4,k4,by omega,by go_num,rfl, ?_,CH aaa.out Hy.out, ?_⟩,hb4.out⟩
       ·rw[List.map_append];exact mS.out
       ·rw[←aaM.out,hdr.out,jT,if_pos Hy.out]
      case measure=>simp[intOf];omega
    ·have e:k=rest.length:=by omega
     subst e
     have hl:Hid (jT o warm rest=some out):=by
      show _=_
      rw[←aaM.out,List.drop_length,jT]
     go_wp2_with fail
     go_ret2
     rw[JW dU.out Hw.out Va.out (by rw[Int.toNat_natCast];exact hl.out)]
     have hl2:=NN.out
     exact⟨A2,c2,by rw[hl2];rfl,by rw[hl2];exact Jg.out,aaL.out⟩
theorem OO(warm rest:List Int)(o:Int)(hm:rest.length≤17592186044000)(yM:warm.length≤9223372036854775807)(A B:Option Addr)(c d:Nat)(w:World)(ha:ag .i64 w w.heap.size A warm)(hb:ag .i64 w w.heap.size B rest):
 Calls Tryz.prog 205 #[.slice A warm.length c,.slice B rest.length d,.int .i64 o] w (rE w.heap.size (iD warm rest o) w):=by
 cases h:jN warm o with
 |false=>exact OM warm rest o yM h A B _ c d w
 |true=>
  obtain⟨h1,h2,h3⟩:=mL.1 h
  subst h3
  exact TL warm rest warm.length (by omega) rfl hm A B c d w ha hb
theorem JU(wa:Int)(l:List Int)(n:Nat)(hn:n=l.length)(n2:n≤1000)(m:Ad)(B:Nat)(w:World)(hB:B≤w.heap.size)(hm:oC w B (aK wa l) m):
 Calls Tryz.prog 161 #[io (aK wa l) m,.int .i64 (n:Int)] w (jt (Kh l wa) w):=by
 obtain⟨wx,e0,e1,e2,e3⟩:=cW w (aK wa l) m
 have E0:=aa e0
 have E1:=aa e1
 have E2:=aa e2
 have hup:=aa (Ki l n hn n2 wa m.A m.c wx ((hm.wm.below (e2.mono hB)).more (by omega)))
 have qQ:nE (aK wa l) m=#[.int .i64 1,.int .i64 wa,.int .i64 0,.int .i64 0,.int .i64 0,.slice none 0 0,.int .i64 0,.int .i64 0,.int .i64 0,.slice none 0 0,.slice m.A n m.c,.int .i64 0,.slice m.Ak 0 m.ck,.slice m.Ar 0 m.cr]:=by rw[hn];rfl
 unfold io
 rw[qQ] at E0 E1 ⊢
 obtain⟨⟨k0,k1,k2,k3,k4,k5,k6,k7,k8,k9,eu,eP,eO,eN⟩,_⟩:=ai E1.out
 unfold jt at hup
 generalize Kh l wa=r at*
 clear e0 e1 e2 hm qQ hn n2
 go_enter Tryz.func161,Tryz.ntmps161
 go_upto_region 1 with fail
 rw[←E0.out]
 go_wp2_with (go_at_call 209;(with_reducible refine hup.out.mono ?_);rintro e w1 ⟨A1,c1,rfl,cM,b1⟩)
 go_ret2
 exact⟨A1,c1,rfl,aO cM E2.out.size,af E2.out b1⟩
theorem JV(wa:Int)(od:Nat)(l:List Int)(po:Int)(ks rs:List Int)(n:Nat)(hn:od=l.length)(adJ:rs.length≤1000)(d:List Int)(hd:iD l rs (od:Int)=(d,0))(rN:d.length≤1000)(m:Ad)(B:Nat)(w:World)(hB:B≤w.heap.size)(hm:oC w B (a7 wa od l po ks rs) m):
 Calls Tryz.prog 161 #[io (a7 wa od l po ks rs) m,.int .i64 (n:Int)] w (jt (Kh d wa) w):=by
 obtain⟨wx,e0,e1,e2,e3⟩:=cW w (a7 wa od l po ks rs) m
 have E0:=aa e0
 have E1:=aa e1
 have E2:=aa e2
 have mf:=OO l rs (od:Int) (by omega) (by have:=hm.c1;have e:l.length=(a7 wa od l po ks rs).wm.length:=rfl;omega) m.A m.Ar m.c m.cr wx ((hm.wm.below (e2.mono hB)).more (by omega)) ((hm.rs.below (e2.mono hB)).more (by omega))
 rw[hd] at mf
 unfold rE at mf
 dsimp only at mf
 have hup:=aa (fun A c W (h:ag .i64 W W.heap.size A d)=>Ki d d.length rfl rN wa A c W h)
 obtain⟨rn,Ab⟩:∃rn,rn=rs.length:=⟨_,rfl⟩
 obtain⟨kn,yN⟩:∃kn,kn=ks.length:=⟨_,rfl⟩
 rw[←hn,←Ab] at mf
 have Zj:=aa mf
 have qQ:nE (a7 wa od l po ks rs) m=#[.int .i64 2,.int .i64 wa,.int .i64 (od:Int),.int .i64 0,.int .i64 0,.slice none 0 0,.int .i64 0,.int .i64 0,.int .i64 0,.slice none 0 0,.slice m.A od m.c,.int .i64 po,.slice m.Ak kn m.ck,.slice m.Ar rn m.cr]:=by rw[hn,yN,Ab];rfl
 unfold io
 rw[qQ] at E0 E1 ⊢
 obtain⟨⟨k0,k1,k2,k3,k4,k5,k6,k7,k8,k9,eu,eP,eO,eN⟩,_⟩:=ai E1.out
 unfold jt at hup
 generalize Kh d wa=r at*
 clear e0 e1 e2 hm qQ hn Ab yN mf hd rN adJ
 go_enter Tryz.func161,Tryz.ntmps161
 go_upto_region 1 with fail
 rw[←E0.out]
 go_wp2_with (first
  |(go_at_call 205;(with_reducible refine Zj.out.mono ?_);rintro e w1 ⟨A1,c1,rfl,cM,b1⟩;have z1:=later b1 k1)
  |(go_at_call 209;(with_reducible refine(hup.out A1 c1 w1 (bR cM)).mono ?_);rintro e w2 ⟨A2,c2,rfl,cD,b2⟩))
 go_ret2
 exact⟨A2,c2,rfl,aO cD (agm E2.out.size b1.size),af (af E2.out b1) b2⟩
def rD(s:Sb)(m:Ad)(n:Nat)(B:Nat)(row:List Int):Prop:=
 ∀w:World,B≤w.heap.size→oC w B s m→
  (Calls Tryz.prog 160 #[io s m,.int .i64 (n:Int)] w fun e w'=>e= .returned (.bool true)∧Below w.heap.size w w')∧
  Calls Tryz.prog 161 #[io s m,.int .i64 (n:Int)] w (jt (row,0) w)
theorem Km(s:Sb)(m:Ad)(n:Nat)(B:Nat)(row:List Int)(h:rD s m n B row)(w:World)(hB:B≤w.heap.size)(hm:oC w B s m):
 Calls Tryz.prog 109 #[io s m,.int .i64 (n:Int)] w (jt (row,0) w):=by
 obtain⟨wx,e0,e1,e2,e3⟩:=cW w s m
 have E0:=aa e0
 have E1:=aa e1
 have E2:=aa e2
 have hst:=aa (h wx (agm hB e2.size) (hm.below (e2.mono hB))).1
 have mf:=aa (fun W (hb:Below wx.heap.size wx W)=>(h W (agm hB (agm e2.size hb.size)) ((hm.below (e2.mono hB)).below (hb.mono (agm hB e2.size)))).2)
 have cZ:Hid (∀W,Below wx.heap.size wx W→W.heap[w.heap.size]? =some (.cells (nE s m) 171 (0,0))):=aa (fun W h=>(h.block _ e3).trans e1)
 unfold jt at mf ⊢
 dsimp only at mf ⊢
 unfold io at hst mf ⊢
 unfold nE at E0 E1 hst mf cZ ⊢
 obtain⟨⟨k0,k1,k2,k3,k4,k5,k6,k7,k8,k9,eu,eP,eO,eN⟩,_⟩:=ai E1.out
 clear e0 e1 e2 e3 h hm
 go_enter Tryz.func109,Tryz.ntmps109
 go_upto_region 1 with fail
 rw[←E0.out]
 go_wp2_with (first
  |(go_at_call 160;(with_reducible refine hst.out.mono ?_);rintro e w1 ⟨rfl,b1⟩;obtain⟨⟨k0,k1,k2,k3,k4,k5,k6,k7,k8,k9,eu,eP,eO,eN⟩,_⟩:=ai (cZ.out _ b1))
  |(go_at_call 161;(with_reducible refine(mf.out w1 b1).mono ?_);rintro e w2 ⟨A2,c2,rfl,cD,b2⟩))
 go_ret2
 exact⟨A2,c2,rfl,aO cD (agm E2.out.size b1.size),af (af E2.out b1) b2⟩
theorem vN(s:Sb)(m:Ad)(n:Nat)(B:Nat)(row:List Int)(h:rD s m n B row)(w:World)(hB:B≤w.heap.size)(hm:oC w B s m):
 Calls Tryz.prog 141 #[io s m,.int .i64 (n:Int)] w fun e w'=>e= .returned (.bool true)∧Below w.heap.size w w':=by
 obtain⟨wx,e0,e1,e2,e3⟩:=cW w s m
 have E0:=aa e0
 have E1:=aa e1
 have E2:=aa e2
 have hr:=aa (Km s m n B row h wx (agm hB e2.size) (hm.below (e2.mono hB)))
 unfold jt at hr
 dsimp only at hr
 unfold io at hr ⊢
 unfold nE at E0 E1 hr ⊢
 obtain⟨⟨k0,k1,k2,k3,k4,k5,k6,k7,k8,k9,eu,eP,eO,eN⟩,_⟩:=ai E1.out
 clear e0 e1 e2 e3 h hm
 go_enter Tryz.func141,Tryz.ntmps141
 go_upto_region 1 with fail
 rw[←E0.out]
 go_wp2_with (go_at_call 109;(with_reducible refine hr.out.mono ?_);rintro e w2 ⟨A2,c2,rfl,cD,b2⟩)
 go_ret
 exact⟨rfl,af E2.out b2⟩
theorem pu(wa:Int)(l row:List Int)(n:Nat)(hn:n=l.length)(n1:1≤n)(n2:n≤1000)(w1:0≤wa)(w2:wa≤30)(hl:ah l=true)(hr:Kh l wa=(row,0))(m:Ad)(B:Nat):rD (aK wa l) m n B row:=fun w hB hm=>
 ⟨Bq wa l n hn n1 (by omega) w1 w2 hl m B w hB hm,by rw[←hr];exact JU wa l n hn n2 m B w hB hm⟩
theorem Ia(wa:Int)(od:Nat)(l:List Int)(po:Int)(ks rs row d:List Int)(n:Nat)(hn:od=l.length)(bE:od≤4)(Gi:od≤n)(n1:1≤n)(n2:n≤1000)(w1:0≤wa)(w2:wa≤30)(hl:ah l=true)(EC:ah rs=true)(xo:rs.length=n-od)(bK:lY po ks n od=true)(jV:ks.length≤9223372036854775807)
 (hd:iD l rs (od:Int)=(d,0)) (rN:d.length≤1000) (hr:Kh d wa=(row,0)) (m:Ad) (B:Nat):rD (a7 wa od l po ks rs) m n B row:=fun w hB hm=>
 ⟨Br wa od l po ks rs n hn bE Gi n1 (by omega) w1 w2 hl EC xo bK jV m B w hB hm,by rw[←hr];exact JV wa od l po ks rs n hn (by omega) d hd rN m B w hB hm⟩
set_option maxRecDepth 100000
def uk(k:Nat)(x:Int):Bool:=aX x && !(x.tmod (2 ^ k) != 0)
def oP(l:List Int)(n:Int):List Int×Int:=if 0≤n∧n≤30 then(if l.all (uk n.toNat)=true then(l.map (· /2 ^ n.toNat),0)else([],6))else([],1)
theorem sW(l:List Int)(m:Nat)(hn:m=l.length)(hm:m≤1000)(n:Int)(A:Option Addr)(c:Nat)(w:World)(ha:ag .i64 w w.heap.size A l):
 Calls Tryz.prog 136 #[.slice A m c,.int .i64 n] w (jt (oP l n) w):=by
 by_cases h1:n<0
 ·have hr:=aa (show oP l n=([],1)from if_neg (by omega))
  go_enter Tryz.func136,Tryz.ntmps136
  go_wp2
  go_ret2
  rw[hr.out]
  exact dx (ac w)
 by_cases h2:30<n
 ·have hr:=aa (show oP l n=([],1)from if_neg (by omega))
  go_enter Tryz.func136,Tryz.ntmps136
  go_wp2
  go_ret2
  rw[hr.out]
  exact dx (ac w)
 obtain⟨s,rfl⟩:=Int.eq_ofNat_of_zero_le (show 0≤n by omega)
 have s30:s≤30:=by omega
 have abN:(s:Int)≤30:=by omega
 have hd:Hid (oP l (s:Int)=if l.all (uk s)=true then(l.map (· /2 ^ s),0)else([],6)):=by show _=_;rw[oP,if_pos ⟨by omega,by omega⟩,Int.toNat_natCast]
 have Hn:=aa hn
 clear hn h1 h2
 go_enter Tryz.func136,Tryz.ntmps136
 go_wp2
 go_loopw [6,17] (fun v i wr=>(∃(k:Nat) (A':Option Addr) (c':Nat),k≤m∧i= .int .i64 k∧v= .slice A' k c'∧ax wr w.heap.size A' k c' ((l.take k).map (· /2 ^ s))∧∀j,j<k→uk s (ix l j)=true)∧Below w.heap.size w wr) (fun _ i _=>m-(intOf i).toNat)
 case atStart=>exact⟨⟨0,none,0,agw _,rfl,rfl,by simpa using ax.nil _ _,fun j h=>absurd h (by omega)⟩,ac w⟩
 case round=>
  obtain⟨⟨k,A2,c2,hk,rfl,rfl,ho,hj⟩,hb⟩:=hrel
  obtain⟨wo,rfl⟩:∃wo:World,wo=wr:=⟨_,rfl⟩
  have ua:=aa ho
  have hb':=aa hb
  have Hj:=aa hj
  clear ho hb hj
  by_cases hlt:k<m
  ·have jV:k<l.length:=by have:=Hn.out;omega
   obtain⟨b1,o1,rfl,hc1⟩:=(ha.below hb'.out).at_ jV
   have hst:=aa (D3 (f:=(· /2 ^ s)) jV)
   have Lz:Hid (uk s (ix l k)=false→oP l (s:Int)=([],6)):=fun h=>by rw[hd.out,TZ jV h];rfl
   obtain⟨x,hx⟩:∃x,x=ix l k:=⟨_,rfl⟩
   have Hx:=aa hx
   rw[←hx] at hst hc1 Lz
   clear hx
   cases hf:aX x with
   |false=>
    have hr:=aa (Lz.out (by simp[uk,hf]))
    go_wp2_with ((with_reducible refine(iL _ _).mono ?_);rintro e w' ⟨rfl,rfl⟩)
    go_ret2
    rw[hr.out]
    exact dx hb'.out
   |true=>
    have Pw:=p30 abN
    have hw:=IntWalk.wrap64_in (2 ^ s) (by omega)
    obtain⟨y,hy⟩:∃y,x/2 ^ s=y:=⟨_,rfl⟩
    cases hg:(x.tmod (2 ^ s) != 0)with
    |true=>
     have hr:=aa (Lz.out (by simp only[uk,hf,hg];rfl))
     clear hy
     go_wp2_with ((with_reducible refine(iL _ _).mono ?_);rintro e w' ⟨rfl,rfl⟩)
     go_ret2
     rw[hr.out]
     exact dx hb'.out
    |false=>
     have Z9:Hid (uk s (ix l k)=true):=by show _=_;rw[←Hx.out];simp only[uk,hf,hg];rfl
     have Hy:=aa hy
     go_wp2_with (first | (at_builtin;refine Lq _ rfl (.tmp 31) (.tmp 35) rfl w _ _ _ _ rfl (ua.out.alloc _) _ _ 1 1 [y] rfl rfl (dN _ _ _) (by omega) (ak hb'.out _) ?_;intro A4 c4 w4 bE hb4) | ((with_reducible refine(iL _ _).mono ?_);rintro e w' ⟨rfl,rfl⟩))
     have mS:=aa bE
     have sR:=aa hb4
     clear bE hb4
     go_roundw
     case rel=>
      refine⟨⟨k+1,A4,c4,by omega,by go_num,rfl, ?_,fun i hi=> ?_⟩,sR.out⟩
      ·rw[hst.out,Hy.out];exact mS.out
      ·by_cases e:i=k
       ·subst e;exact Z9.out
       ·exact Hj.out i (by omega)
     case measure=>simp[intOf];omega
  ·have e:k=m:=by omega
   subst e
   have hr:Hid (oP l (s:Int)=(l.map (· /2 ^ s),0)):=by show _=_;rw[hd.out,if_pos (Ls fun j hj=>Hj.out j (by have:=Hn.out;omega))]
   have hL:Hid ((l.take k).map (· /2 ^ s)=l.map (· /2 ^ s)∧(l.map (· /2 ^ s)).length=k):=by show _∧_;rw[Hn.out,List.take_length];exact⟨rfl,by simp⟩
   go_wp2_with fail
   go_ret2
   rw[hr.out]
   refine⟨A2,c2, ?_, ?_,hb'.out⟩
   ·rw[hL.out.2];rfl
   ·rw[hL.out.2];have:=ua.out;rw[hL.out.1] at this;exact this
set_option maxRecDepth 100000
structure Rw (w:World) (B:Nat) (A:Option Addr) (r:Nat) (RA:Nat→Option Addr) (RC:Nat→Nat) (R:Nat→List Int):Prop where
 out:0<r→∃b off,A=some ⟨b,off,none⟩∧b<B∧∀i,i<r→w.cell? ⟨b,off+i,none⟩=some (.slice (RA i) (R i).length (RC i))
 ints:∀i,i<r→ag .i64 w B (RA i) (R i)
 len:∀i,i<r→(R i).length≤9223372036854775807
 cap:∀i,i<r→(R i).length≤RC i
section
variable {w w' : World} {B B2 r : Nat} {A : Option Addr} {RA : Nat → Option Addr} {RC : Nat → Nat} {R : Nat → List Int}
theorem Rw.below(h:Rw w B A r RA RC R)(hb:Below B w w'):Rw w' B A r RA RC R:=
 {h with
  out:=fun h0=>by
   obtain⟨b,off,e,hB,hc⟩:=h.out h0
   exact⟨b,off,e,hB,fun i hi=>(hb.cell (p:=⟨b,off+i,none⟩) hB).trans (hc i hi)⟩
  ints:=fun i hi=>(h.ints i hi).below hb}
theorem Rw.more(h:Rw w B A r RA RC R)(hB:B≤B2):Rw w B2 A r RA RC R:=
 {h with
  out:=fun h0=>by
   obtain⟨b,off,e,hb,hc⟩:=h.out h0
   exact⟨b,off,e,by omega,hc⟩
  ints:=fun i hi=>(h.ints i hi).more hB}
theorem Rw.nil{RA:Nat→Option Addr}{RC:Nat→Nat}{R:Nat→List Int}:Rw w B A 0 RA RC R:=⟨fun h=>by omega,fun i h=>by omega,fun i h=>by omega,fun i h=>by omega⟩
theorem Rw.at_(h:Rw w B A r RA RC R){i:Nat}(hi:i<r):∃b off,A=some ⟨b,off,none⟩∧w.cell? ⟨b,off+i,none⟩=some (.slice (RA i) (R i).length (RC i)):=by
 obtain⟨b,off,e,_,hc⟩:=h.out (by omega)
 exact⟨b,off,e,hc i hi⟩
theorem Rw.drewN(h:Rw w B A r RA RC R)(n:Nat):Rw (w.drewN n) B A r RA RC R:=⟨h.out,h.ints,h.len,h.cap⟩
theorem Rw.cong{R':Nat→List Int}(h:Rw w B A r RA RC R)(he:∀i,i<r→R' i=R i):Rw w B A r RA RC R':=
 ⟨fun h0=>by
  obtain⟨b,off,e,hb,hc⟩:=h.out h0
  exact⟨b,off,e,hb,fun i hi=>by rw[he i hi];exact hc i hi⟩,fun i hi=>by rw[he i hi];exact h.ints i hi,fun i hi=>by rw[he i hi];exact h.len i hi,fun i hi=>by rw[he i hi];exact h.cap i hi⟩
end
set_option maxRecDepth 100000
theorem ax.other{w w':World}{B:Nat}{A:Option Addr}{n c:Nat}{l:List Int}(h:ax w B A n c l)(hk:∀q,(Value.slice A n c).ownBlock=some q→w'.heap[q]? =w.heap[q]?):ax w' B A n c l:=ap h hk
theorem ax.lt{w:World}{B:Nat}{A:Option Addr}{n c:Nat}{l:List Int}(h:ax w B A n c l):∀q,(Value.slice A n c).ownBlock=some q→B≤q∧q<w.heap.size:=fun q hq=>agB h q hq
theorem ax.len{w:World}{B:Nat}{A:Option Addr}{n c:Nat}{l:List Int}(h:ax w B A n c l):l.length=n:=BG h
theorem ax.drewN{w:World}{B:Nat}{A:Option Addr}{n c:Nat}{l:List Int}(h:ax w B A n c l)(m:Nat):ax (w.drewN m) B A n c l:=sw h m
theorem iV:(Tryz.prog.info? 39).map (fun i=>(i.zero,i.size,i.bytes))=some (some (.slice none 0 0),1,24):=by kernel_rfl
theorem ac7{ops:Array Oper}{rest:List Oper}{o:Oper}{a:Act}{Q:Exit→Act→World→Prop}(w:World)(hgd:o.guard=none)(s x:Operand)
 (ho:o.op= .call {callee:=.builtin .append,args:=#[s,x],argTypes:=#[47,47]}) (B:Nat) (A1:Option Addr) (n c1:Nat) (vs:List Value) (hs:a.eval s= .slice A1 n c1) (hown:w.ownsRow B 39 1 (.slice A1 n c1) n vs)
 (B1:Nat) (A:Option Addr) (c:Nat) (v:Value) (hx:a.eval x= .slice A 1 c) (hr:Rd w B1 A [v]) (h1:v.oneCell'=true) (hsz:n+1≤100000) (hB:B≤w.heap.size)
 (h:∀A' c' w',w'.ownsRow B 39 1 (.slice A' (n+1) c') (n+1) (vs++[v])→w.grownBy w' (Value.slice A1 n c1).ownBlock→((Value.slice A' (n+1) c').ownBlock=(Value.slice A1 n c1).ownBlock∨(Value.slice A' (n+1) c').ownBlock=some w.heap.size)→wpList Tryz.prog ops Q rest (a.put o.dst (.slice A' (n+1) c')) w'):wpList Tryz.prog ops Q (o :: rest) a w:=by
 obtain⟨i0,cw,hz0,hz1,hz2⟩:=info_parts iV
 exact aP w hgd s x 47 ho B 39 i0 _ 1 24 Tryz.underlying47 cw hz0 hz1 hz2 rfl (by omega) _ n vs hs hown B1 A 1 c [v] hx rfl hr (by intro u hu;simp at hu;subst hu;exact h1) (by simp only[maxLen];omega) (by omega) hB h
def tB(xs:List Int)(w:World)(e:Ending)(w':World):Prop:=∃A c,e= .returned (.slice A xs.length c)∧ax w' w.heap.size A xs.length c xs∧Below w.heap.size w w'
theorem tH(xs:List Int)(n:Nat)(hn:n=xs.length)(hm:n≤100000)(A:Option Addr)(c:Nat)(w:World)(ha:ag .i64 w w.heap.size A xs):
 Calls Tryz.prog 179 #[.slice A n c] w (tB xs w):=by
 have Hn:=aa hn
 clear hn
 cases A with
 |none=>
  have hx:xs=[]:=by
   cases xs with
   |nil=>rfl
   |cons a l=>obtain⟨b,o,h,_⟩:=ha.at_ (i:=0) (by simp);cases h
  subst hx
  have h0:n=0:=by have:=Hn.out;simpa using this
  subst h0
  have hnil:=fun w=>Lib.run_eql_slice_nil (P:=Tryz.prog) w 39 3 none 0 c 0 0 Tryz.underlying39
  go_enter Tryz.func179,Tryz.ntmps179
  go_wp2_with fail
  go_ret
  exact⟨none,0,rfl,ax.nil _ _,ac w⟩
 |some ad=>
  have hnil:=fun w=>Lib.run_eql_slice_nil (P:=Tryz.prog) w 39 3 (some ad) n c 0 0 Tryz.underlying39
  go_enter Tryz.func179,Tryz.ntmps179
  go_wp2_with (at_builtin;refine TN _ rfl (.tmp 5) (.tmp 6) rfl w _ _ rfl (IG w) _ _ n c xs rfl Hn.out.symm (ha.below (ak (ac w) _)) (by omega) (ak (ac w) _) ?_;intro A1 c1 w1 cM hb1)
  go_ret
  have h:=Hn.out
  exact⟨A1,c1,by rw[←h];rfl,by rw[←h];exact cM,hb1⟩
end
end Go.Proofs.YtbhfpehgacaidaaGreatDoor
