/- A part of the proof of the given statement TopRight. Conditions: none. -/
import Derived.Test.YtbhfpehgacaidaaGreatDoorQAO
import Derived.Test.YtbhfpehgacaidaaGreatDoorQAU
namespace Go.Proofs.YtbhfpehgacaidaaGreatDoor
set_option linter.unusedVariables false
set_option linter.unusedSimpArgs false
set_option maxRecDepth 100000
set_option maxHeartbeats 8000000
section
open Go.RowKit
theorem VU{P Q:List Pg}(hl:P.length=Q.length)(h:∀i,i<P.length→wJ P i=wJ Q i):P=Q:=by
 apply List.ext_getElem hl
 intro i h1 h2
 have:=h i h1
 rwa[pC h1,pC h2] at this
theorem VR{P Q:List Pk}(hl:P.length=Q.length)(h:∀i,i<P.length→oH P i=oH Q i):P=Q:=by
 apply List.ext_getElem hl
 intro i h1 h2
 have:=h i h1
 rwa[pB h1,pB h2] at this
theorem vW(E F:List (El Pg))(n k:Nat)(hn:n=E.length)(hk:k=F.length)(hm:n≤400)(hs:dM E)(hs2:dM F)(A A2:Option Addr)(B B2 c c2:Nat)(w:World)(hB:B≤w.heap.size)(YZ:B2≤w.heap.size)(ha:iE gY w B A E)(hb:iE gY w B2 A2 F):
 Calls Tryz.prog 23 #[.slice A n c,.slice A2 k c2] w fun e w'=>e= .returned (.bool (decide (E.map (·.1)=F.map (·.1))))∧Below w.heap.size w w':=by
 have Hn:=aa hn
 have Hk:=aa hk
 have nS:(E.map (·.1)).length=n:=by simp[hn]
 have hQl:(F.map (·.1)).length=k:=by simp[hk]
 clear hn hk
 obtain⟨P,hP⟩:∃P,P=E.map (·.1):=⟨_,rfl⟩
 obtain⟨Q,hQ⟩:∃Q,Q=F.map (·.1):=⟨_,rfl⟩
 rw[←hP] at nS ⊢
 rw[←hQ] at hQl ⊢
 have HP:=aa hP
 have pZ:=aa nS
 have HQ:=aa hQ
 have HQl:=aa hQl
 clear hP nS hQ hQl
 by_cases Gj:n=k
 case neg=>
  have hI:((n:Int) != (k:Int))=true:=by rw[bne_iff_ne];omega
  have hne:Hid (¬P=Q):=fun e=>Gj (by rw[←pZ.out,←HQl.out,e])
  go_enter Tryz.func23,Tryz.ntmps23
  go_wp2_with fail
  go_ret
  rw[decide_eq_false hne.out]
  exact⟨rfl,ac w⟩
 subst Gj
 have hI:((n:Int) != (n:Int))=false:=by simp
 go_enter Tryz.func23,Tryz.ntmps23
 go_wp2_with fail
 go_loopw [5,6,7,15] (fun _ _ _ iv wr=>(∃i:Nat,i≤n∧iv= .int .i64 i∧∀j,j<i→wJ P j=wJ Q j)∧Below w.heap.size w wr) (fun _ _ _ iv _=>n-(intOf iv).toNat)
 case atStart=>exact⟨⟨0,agw _,rfl,fun j h=>absurd h (by omega)⟩,ac w⟩
 case round=>
  obtain⟨⟨i,hi,rfl,hR⟩,hb9⟩:=hrel
  obtain⟨wo,rfl⟩:∃wo:World,wo=wr:=⟨_,rfl⟩
  have HB:=aa hb9
  have HR:=aa hR
  clear hb9 hR
  by_cases hlt:i<n
  ·have dv:i<E.length:=by have:=Hn.out;omega
   have hiF:i<F.length:=by have:=Hk.out;omega
   have nQ:(i:Int)<(n:Int):=by omega
   have ha2:=ha.below (HB.out.mono hB)
   have hb2:=hb.below (HB.out.mono YZ)
   obtain⟨b,off,rfl,sQ,x0,x1,x2,x3,x4⟩:=jb ha2 dv
   obtain⟨b',wL,rfl,aer,y0,y1,y2,y3,y4⟩:=jb hb2 hiF
   have qf:=ha2.2 _ (agt dv)
   have Az:=hb2.2 _ (agt hiF)
   have hs1:=hs _ (agt dv)
   have RT:=hs2 _ (agt hiF)
   have Ac:wJ P i=E[i].1:=by rw[pC (by have:=pZ.out;omega)];simp[HP.out]
   have lS:wJ Q i=F[i].1:=by rw[pC (by have:=HQl.out;omega)];simp[HQ.out]
   have aW:E[i].1≠F[i].1→P≠Q:=fun h e=>h (by rw[←Ac,←lS,e])
   have ue:E[i].1=F[i].1→∀j,j<i+1→wJ P j=wJ Q j:=fun h j hj=>by
    by_cases e:j=i
    ·rw[e,Ac,lS,h]
    ·exact HR.out j (by omega)
   generalize E[i]=t at*
   generalize F[i]=u at*
   obtain⟨⟨s1,f1,l1,g1,b1⟩,A3,c3⟩:=t
   obtain⟨⟨s2,f2,l2,g2,b2⟩,A4,c4⟩:=u
   dsimp only at*
   have gQ:=aa aW
   have FT:=aa ue
   obtain⟨wb,ig⟩:∃wb,wb=(wo.alloc (.cells #[.int .i64 s1,.bool f1,.bool l1,.bool g1,.slice A3 b1.length c3] 124)).alloc (.cells #[.int .i64 s2,.bool f2,.bool l2,.bool g2,.slice A4 b2.length c4] 124):=⟨_,rfl⟩
   have Bb:Hid (Below wo.heap.size wo wb):=by rw[ig];exact aa (ak (ak (ac wo) _) _)
   have m1:wb.heap[wo.heap.size]? =some (.cells #[.int .i64 s1,.bool f1,.bool l1,.bool g1,.slice A3 b1.length c3] 124 (0,0)):=by
    rw[ig,heap_alloc_old _ _ (by simp)];exact ago wo _
   have m2:wb.heap[wo.heap.size+1]? =some (.cells #[.int .i64 s2,.bool f2,.bool l2,.bool g2,.slice A4 b2.length c4] 124 (0,0)):=by
    have h9:=ago (wo.alloc (.cells #[.int .i64 s1,.bool f1,.bool l1,.bool g1,.slice A3 b1.length c3] 124)) (.cells #[.int .i64 s2,.bool f2,.bool l2,.bool g2,.slice A4 b2.length c4] 124)
    rw[World.size_alloc] at h9
    rw[ig];exact h9
   have heq:=vv b1 b2 b1.length b2.length rfl rfl hs1.1 RT.1 A3 A4 B B2 c3 c4 wb (ag.below (xs:=b1) qf (Bb.out.mono (agm hB HB.out.size))) (ag.below (xs:=b2) Az (Bb.out.mono (agm YZ HB.out.size)))
   obtain⟨⟨j0,j1,j2,j3,j4⟩,_⟩:=ay m1
   obtain⟨⟨k0,k1,k2,k3,k4⟩,_⟩:=ay m2
   have C5:=aa heq
   clear heq qf Az hs1 RT Ac lS aW ue m1 m2 ha2 hb2
   have Gc:=ak (ac wo) (.cells #[.int .i64 s1,.bool f1,.bool l1,.bool g1,.slice A3 b1.length c3] 124)
   have z0:=later Gc y0
   have z1:=later Gc y1
   have z2:=later Gc y2
   have z3:=later Gc y3
   have z4:=later Gc y4
   have LT1:=aa Gc
   clear Gc
   go_upto_region 7 with fail
   rw[←ig]
   clear ig x0 x1 x2 x3 x4 y0 y1 y2 y3 y4 z0 z1 z2 z3 z4
   by_cases hx0:s1=s2
   ·have hb0:(s1 != s2)=false:=by simp[hx0]
    have Hx0:=aa hx0
    clear hx0
    by_cases hx1:f1=f2
    ·have hb1:(f1 != f2)=false:=by simp[hx1]
     have Hx1:=aa hx1
     clear hx1
     by_cases hx2:l1=l2
     ·have hb2:(l1 != l2)=false:=by simp[hx2]
      have Hx2:=aa hx2
      clear hx2
      by_cases hx3:g1=g2
      ·have hb3:(g1 != g2)=false:=by simp[hx3]
       have Hx3:=aa hx3
       clear hx3
       cases Xd:decide (b1=b2)with
       |false=>
        rw[Xd] at C5
        have Ys:¬b1=b2:=of_decide_eq_false Xd
        have hne:P≠Q:=fun e=>gQ.out (fun e2=>Ys (by injection e2)) e
        have yT:=aa hne
        clear hne
        go_wp2_with (go_at_call 21;(with_reducible refine C5.out.mono ?_);rintro e w' ⟨rfl,rfl⟩)
        go_ret
        rw[decide_eq_false yT.out]
        exact⟨rfl,af HB.out Bb.out⟩
       |true=>
        rw[Xd] at C5
        have Hx4:Hid (b1=b2):=aa (of_decide_eq_true Xd)
        clear Xd
        go_wp2_with (go_at_call 21;(with_reducible refine C5.out.mono ?_);rintro e w' ⟨rfl,rfl⟩)
        refine⟨⟨⟨i+1,by omega,by go_num,FT.out (by rw[Hx0.out,Hx1.out,Hx2.out,Hx3.out,Hx4.out])⟩,af HB.out Bb.out⟩,by simp[intOf];omega⟩
      ·have hb3:(g1 != g2)=true:=bne_iff_ne.2 hx3
       have hne:P≠Q:=fun e=>gQ.out (fun e2=>hx3 (by injection e2)) e
       have yT:=aa hne
       clear hne
       go_wp2_with (go_at_call 21;(with_reducible refine C5.out.mono ?_);rintro e w' ⟨rfl,rfl⟩)
       go_ret
       rw[decide_eq_false yT.out]
       exact⟨rfl,af HB.out Bb.out⟩
     ·have hb2:(l1 != l2)=true:=bne_iff_ne.2 hx2
      have hne:P≠Q:=fun e=>gQ.out (fun e2=>hx2 (by injection e2)) e
      have yT:=aa hne
      clear hne
      go_wp2_with (go_at_call 21;(with_reducible refine C5.out.mono ?_);rintro e w' ⟨rfl,rfl⟩)
      go_ret
      rw[decide_eq_false yT.out]
      exact⟨rfl,af HB.out Bb.out⟩
    ·have hb1:(f1 != f2)=true:=bne_iff_ne.2 hx1
     have hne:P≠Q:=fun e=>gQ.out (fun e2=>hx1 (by injection e2)) e
     have yT:=aa hne
     clear hne
     go_wp2_with (go_at_call 21;(with_reducible refine C5.out.mono ?_);rintro e w' ⟨rfl,rfl⟩)
     go_ret
     rw[decide_eq_false yT.out]
     exact⟨rfl,af HB.out Bb.out⟩
   ·have hb0:(s1 != s2)=true:=bne_iff_ne.2 hx0
    have hne:P≠Q:=fun e=>gQ.out (fun e2=>hx0 (by injection e2)) e
    have yT:=aa hne
    clear hne
    go_wp2_with (go_at_call 21;(with_reducible refine C5.out.mono ?_);rintro e w' ⟨rfl,rfl⟩)
    go_ret
    rw[decide_eq_false yT.out]
    exact⟨rfl,af HB.out Bb.out⟩
  ·obtain rfl:i=n:=by omega
   have nQ:¬(i:Int)<(i:Int):=by omega
   have hpq:Hid (P=Q):=VU (by rw[pZ.out,HQl.out]) fun j hj=>HR.out j (by have:=pZ.out;omega)
   go_wp2_with fail
   go_ret
   rw[decide_eq_true hpq.out]
   exact⟨rfl,HB.out⟩
theorem Tk(E:List (El Pk))(n:Nat)(hn:n=E.length)(hm:n≤1000)(A1 A:Option Addr)(B k c1 c:Nat)(hk:k≤1000)(w:World)(hB:B≤w.heap.size)(ha:iE iA w B A E):
 Calls Tryz.prog 26 #[.slice A1 k c1,.slice A n c] w fun e w'=>e= .returned (.bool (fX k (E.map (·.1))))∧Below w.heap.size w w':=by
 obtain⟨RR,cN⟩:∃RR,RR=fX k (E.map (·.1)):=⟨_,rfl⟩
 have Hn:=aa hn
 have HR:=aa cN
 rw[←cN]
 clear hn cN
 go_enter Tryz.func26,Tryz.ntmps26
 go_wp2_with fail
 go_loopw [6,9] (fun _ iv wr=>(∃i:Nat,i≤n∧iv= .int .i64 i∧∀j (h:j<E.length),j<i→0≤E[j].1.stream∧E[j].1.stream<(k:Int))∧Below w.heap.size w wr) (fun _ iv _=>n-(intOf iv).toNat)
 case atStart=>exact⟨⟨0,agw _,rfl,fun j _ h=>absurd h (by omega)⟩,ac w⟩
 case round=>
  obtain⟨⟨i,hi,rfl,hR⟩,hb⟩:=hrel
  obtain⟨wo,rfl⟩:∃wo:World,wo=wr:=⟨_,rfl⟩
  have HB:=aa hb
  have HA:=aa hR
  clear hb hR
  by_cases hlt:i<n
  ·have dv:i<E.length:=by have:=Hn.out;omega
   have nQ:(i:Int)<(n:Int):=by omega
   obtain⟨b,off,rfl,sQ,x0,x1,x2,x3,x4,x5⟩:=kh (ha.below (HB.out.mono hB)) dv
   have aW:¬(0≤E[i].1.stream∧E[i].1.stream<(k:Int))→RR=true:=fun h=>by
    rw[HR.out]
    unfold fX
    rw[List.any_eq_true]
    exact⟨E[i].1,List.mem_map.2 ⟨_,agt dv,rfl⟩,decide_eq_true (by omega)⟩
   have l8:0≤E[i].1.stream∧E[i].1.stream<(k:Int)→∀j (h:j<E.length),j<i+1→0≤E[j].1.stream∧E[j].1.stream<(k:Int):=fun h j hj hji=>by
    by_cases e:j=i
    ·subst e;exact h
    ·exact HA.out j hj (by omega)
   generalize E[i]=t at*
   obtain⟨⟨st,dV,ln,ky,hd,dt⟩,Ad,cd⟩:=t
   dsimp only at*
   have gQ:=aa aW
   have XW:=aa l8
   clear aW l8
   by_cases h0:0≤st
   ·by_cases h1:st<(k:Int)
    ·have g1:¬st<0:=by omega
     have g2:¬(k:Int)≤st:=by omega
     go_wp2_with fail
     exact⟨⟨⟨i+1,by omega,by go_num,XW.out (by omega)⟩,ak HB.out _⟩,by simp[intOf];omega⟩
    ·have g1:¬st<0:=by omega
     have g2:(k:Int)≤st:=by omega
     go_wp2_with fail
     go_ret
     rw[gQ.out (by omega)]
     exact⟨rfl,ak HB.out _⟩
   ·have g1:st<0:=by omega
    go_wp2_with fail
    go_ret
    rw[gQ.out (by omega)]
    exact⟨rfl,ak HB.out _⟩
  ·obtain rfl:i=n:=by omega
   have nQ:¬(i:Int)<(i:Int):=by omega
   have hr:Hid (RR=false):=by
    show _=_
    rw[HR.out]
    unfold fX
    rw[List.any_eq_false]
    intro p hp
    obtain⟨t,ht,rfl⟩:=List.mem_map.1 hp
    obtain⟨j,hj,rfl⟩:=List.getElem_of_mem ht
    have:=HA.out j hj (by have:=Hn.out;omega)
    simp only[decide_eq_true_eq]
    omega
   go_wp2_with fail
   go_ret
   rw[hr.out]
   exact⟨rfl,HB.out⟩
def wU(s:Nat)(L:List Pk):Bool:=match L.find? (fun p=>decide (p.stream=(s:Int)))with
 |some p=> !p.key
 |none=>false
theorem KH(k:Nat)(L:List Pk):Rp k L=(List.range k).any fun s=>wU s L:=rfl
theorem XC{L:List Pk}{s:Nat}{i:Nat}(h:i<L.length)(hn:∀j (hj:j<L.length),j<i→L[j].stream≠(s:Int))(hs:L[i].stream=(s:Int)):L.find? (fun p=>decide (p.stream=(s:Int)))=some L[i]:=by
 rw[List.find?_eq_some_iff_getElem]
 refine⟨decide_eq_true hs,i,h,rfl,fun j hj=> ?_⟩
 have:=hn j (by omega) hj
 simp[this]
theorem XB{L:List Pk}{s:Nat}(hn:∀j (hj:j<L.length),L[j].stream≠(s:Int)):L.find? (fun p=>decide (p.stream=(s:Int)))=none:=by
 rw[List.find?_eq_none]
 intro p hp
 obtain⟨j,hj,rfl⟩:=List.getElem_of_mem hp
 have:=hn j hj
 simp[this]
theorem Ww(E:List (El Pk))(n:Nat)(hn:n=E.length)(hm:n≤1000)(A1 A:Option Addr)(B k c1 c:Nat)(hk:k≤1000)(w:World)(hB:B≤w.heap.size)(ha:iE iA w B A E):
 Calls Tryz.prog 27 #[.slice A1 k c1,.slice A n c] w fun e w'=>e= .returned (.bool (Rp k (E.map (·.1))))∧Below w.heap.size w w':=by
 obtain⟨RR,cN⟩:∃RR,RR=Rp k (E.map (·.1)):=⟨_,rfl⟩
 obtain⟨L,hL⟩:∃L,L=E.map (·.1):=⟨_,rfl⟩
 have Hn:=aa hn
 rw[←cN]
 rw[←hL] at cN
 have HR:=aa cN
 have HL:=aa hL
 have PG:L.length=n:=by rw[hL,List.length_map];omega
 have Pi:=aa PG
 clear hn cN hL PG
 go_enter Tryz.func27,Tryz.ntmps27
 go_wp2_with fail
 go_loopw [5,7,10,15] (fun _ _ sv _ wr=>(∃s:Nat,s≤k∧sv= .int .i64 s∧∀j,j<s→wU j L=false)∧Below w.heap.size w wr) (fun _ _ sv _ _=>k-(intOf sv).toNat)
 case atStart=>exact⟨⟨0,agw _,rfl,fun j h=>absurd h (by omega)⟩,ac w⟩
 case round=>
  obtain⟨⟨s,hs,rfl,hR⟩,hb⟩:=hrel
  obtain⟨wo,rfl⟩:∃wo:World,wo=wr:=⟨_,rfl⟩
  have HB:=aa hb
  have HA:=aa hR
  clear hb hR
  by_cases hlt:s<k
  ·have YA:(s:Int)<(k:Int):=by omega
   go_wp2_with fail
   go_loopw [7,15] (fun _ iv wr=>(∃i:Nat,i≤n∧iv= .int .i64 i∧∀j (h:j<L.length),j<i→L[j].stream≠(s:Int))∧Below wo.heap.size wo wr) (fun _ iv _=>n-(intOf iv).toNat)
   case atStart=>exact⟨⟨0,agw _,rfl,fun j _ h=>absurd h (by omega)⟩,ac wo⟩
   case round=>
    obtain⟨⟨i,hi,rfl,hR⟩,hb⟩:=hrel
    obtain⟨wp,rfl⟩:∃wp:World,wp=wr:=⟨_,rfl⟩
    have kG:=aa hb
    have HA2:=aa hR
    clear hb hR
    by_cases jR:i<n
    ·have dv:i<E.length:=by have:=Hn.out;omega
     have CT:i<L.length:=by have:=Pi.out;omega
     have nQ:(i:Int)<(n:Int):=by omega
     obtain⟨b,off,rfl,sQ,x0,x1,x2,x3,x4,x5⟩:=kh (ha.below ((af HB.out kG.out).mono hB)) dv
     have hpe:L[i]=E[i].1:=by simp only[HL.out,List.getElem_map]
     have hfd:=XC (s:=s) CT HA2.out
     have l8:E[i].1.stream≠(s:Int)→∀j (h:j<L.length),j<i+1→L[j].stream≠(s:Int):=fun h j hj hji=>by
      by_cases e:j=i
      ·subst e;rw[hpe];exact h
      ·exact HA2.out j hj (by omega)
     rw[hpe] at hfd
     generalize E[i]=t at*
     obtain⟨⟨st,dV,ln,ky,hd,dt⟩,Ad,cd⟩:=t
     dsimp only at*
     have Hfd:=aa hfd
     have XW:=aa l8
     clear hfd l8 hpe
     by_cases h0:st=(s:Int)
     ·have g1:(st != (s:Int))=false:=by simp[h0]
      have hka:Hid (wU s L= !ky):=by
       show _=_
       unfold wU
       rw[Hfd.out h0]
      clear h0
      cases ky with
      |true=>
       have KT:Hid (∀j,j<s+1→wU j L=false):=fun j hj=>by
        by_cases e:j=s
        ·rw[e,hka.out];rfl
        ·exact HA.out j (by omega)
       go_wp2_with fail
       exact⟨⟨⟨s+1,by omega,by go_num,KT.out⟩,af HB.out (ak kG.out _)⟩,by simp[intOf];omega⟩
      |false=>
       have hr:Hid (RR=true):=by
        show _=_
        rw[HR.out,KH,List.any_eq_true]
        exact⟨s,List.mem_range.2 hlt,by rw[hka.out];rfl⟩
       go_wp2_with fail
       go_ret
       rw[hr.out]
       exact⟨rfl,af HB.out (ak kG.out _)⟩
     ·have g1:(st != (s:Int))=true:=bne_iff_ne.2 h0
      go_wp2_with fail
      exact⟨⟨⟨i+1,by omega,by go_num,XW.out h0⟩,ak kG.out _⟩,by simp[intOf];omega⟩
    ·obtain rfl:i=n:=by omega
     have nQ:¬(i:Int)<(i:Int):=by omega
     have KT:Hid (∀j,j<s+1→wU j L=false):=fun j hj=>by
      by_cases e:j=s
      ·rw[e]
       unfold wU
       rw[XB fun j hj=>HA2.out j hj (by have:=Pi.out;omega)]
      ·exact HA.out j (by omega)
     go_wp2_with fail
     exact⟨⟨⟨s+1,by omega,by go_num,KT.out⟩,af HB.out kG.out⟩,by simp[intOf];omega⟩
  ·obtain rfl:s=k:=by omega
   have YA:¬(s:Int)<(s:Int):=by omega
   have hr:Hid (RR=false):=by
    show _=_
    rw[HR.out,KH,List.any_eq_false]
    intro j hj
    rw[HA.out j (List.mem_range.1 hj)]
    simp
   go_wp2_with fail
   go_ret
   rw[hr.out]
   exact⟨rfl,HB.out⟩
theorem Xy(l:List Int):(JA l).2.2.2≠0→(JA l).1=UJ:=by
 unfold JA
 split
 ·intro _;rfl
 ·split
  ·intro _;rfl
  ·dsimp only
   unfold frT
   split
   ·intro _;rfl
   ·split
    ·intro _;rfl
    ·split
     ·intro _;rfl
     ·split
      ·intro _;rfl
      ·intro h;exact absurd rfl h
def abJ(W:World)(g:Nat)(x0 x1 x2:Value):World:=((W.setCell ⟨g,0,none⟩ x0).setCell ⟨g,1,none⟩ x1).setCell ⟨g,2,none⟩ x2
theorem JE{W:World}{g:Nat}{a a':Array Value}(h:W.heap[g]? =some (.cells a 37 (0,0)))(j:Nat)(v:Value)(hv:a.setIfInBounds j v=a'):(W.setCell ⟨g,j,none⟩ v).heap[g]? =some (.cells a' 37 (0,0)):=by
 rw[agA _ g j _ _ _ h,hv]
theorem vQ{W:World}{g:Nat}{v0 v1 v2:Value}(h:W.heap[g]? =some (.cells #[v0,v1,v2] 37 (0,0)))(x0 x1 x2:Value):(abJ W g x0 x1 x2).heap[g]? =some (.cells #[x0,x1,x2] 37 (0,0)):=
 JE (a:=#[x0,x1,v2]) (JE (a:=#[x0,v1,v2]) (JE h 0 x0 rfl) 1 x1 rfl) 2 x2 rfl
theorem pn{B g:Nat}{w W:World}(h:Below B w W)(hg:B≤g)(x0 x1 x2:Value):Below B w (abJ W g x0 x1 x2):=
 ((h.setCell (p:=⟨g,0,none⟩) hg _).setCell (p:=⟨g,1,none⟩) hg _).setCell (p:=⟨g,2,none⟩) hg _
theorem pA{fn:Func}(h:fn.results=#[.cell 2 37,.tmp 3,.tmp 4,.tmp 5])(tmps:Array Value)(w:World){g:Nat}{v0 v1 v2:Value}(ht:tmps.getD 2 undef= .pointer (some ⟨g,0,none⟩))(hr:w.heap[g]? =some (.cells #[v0,v1,v2] 37 (0,0))):
 (results fn tmps).run Tryz.prog w= .ok (.tuple #[.agg #[v0,v1,v2],tmps.getD 3 undef,tmps.getD 4 undef,tmps.getD 5 undef]) w:=by
 obtain⟨c0,c1,c2⟩:=xM hr
 have key:(results fn tmps).run Tryz.prog w=((asAddr (tmps.getD 2 undef)).run Tryz.prog w).andThen fun a w₁=>((loadVar 37 a).run Tryz.prog w₁).andThen fun x w₂=>.ok (.tuple #[x,tmps.getD 3 undef,tmps.getD 4 undef,tmps.getD 5 undef]) w₂:=by
  simp only[results,h]
  simp[Sem.run_bind,Result.andThen]
 rw[key,ht]
 simp[go_sem,c0,c1,c2]
def Y9(r:Fh×Int×Int×Int)(w:World)(e:Ending)(w':World):Prop:=
 e= .returned (.tuple #[.agg #[.int .i64 r.1.r,.int .i64 r.1.c,.int .i64 r.1.bt],.int .i64 r.1.st,.int .i64 r.1.ln,.int .i64 r.2.2.2])∧Below w.heap.size w w'
theorem JB(l:List Int)(n:Nat)(hn:n=l.length)(hm:n≤50000)(hby:aH l)(A:Option Addr)(B c:Nat)(hc:n≤c)(cK:c≤9223372036854775807)(w:World)(hB:B≤w.heap.size)(ha:ag .u8 w B A l):
 Calls Tryz.prog 124 #[.slice A n c] w (Y9 (JA l) w):=by
 have M0:Hid ((w.alloc (.cells #[.int .i64 0,.int .i64 0,.int .i64 0] 37)).heap[w.heap.size]? =some (.cells #[.int .i64 0,.int .i64 0,.int .i64 0] 37 (0,0))):=aa (ago w _)
 have K0:Hid (Below w.heap.size w (w.alloc (.cells #[.int .i64 0,.int .i64 0,.int .i64 0] 37))):=aa (ak (ac w) _)
 have ml:=fun W (b:Below w.heap.size w W)=>JC l n hn hm hby A B c hc cK W (agm hB b.size) (ha.below (b.mono hB))
 have hz:=Xy l
 generalize JA l=r at*
 obtain⟨⟨st,ln,rr,ch,bt,ls⟩,hd,bd,x⟩:=r
 dsimp only at hz ml
 have Gy:=aa ml
 clear ml ha hn
 go_enter Tryz.func124,Tryz.ntmps124
 go_upto_region 1 with fail
 obtain⟨W0,hW0⟩:∃W0,W0=w.alloc (.cells #[.int .i64 0,.int .i64 0,.int .i64 0] 37):=⟨_,rfl⟩
 obtain⟨b,sP⟩:∃b,b=w.heap.size:=⟨_,rfl⟩
 rw[←hW0] at M0 K0
 rw[←sP] at M0
 rw[←hW0,←sP]
 have Uw:=aa sP
 have acA:=Gy.out W0 K0.out
 have aeL:=aa acA
 have hbW:b<W0.heap.size:=(agn.1 M0.out).1
 clear hW0 sP acA Gy
 go_upto_region 2 with (go_at_call 154;(with_reducible refine aeL.out.mono ?_);rintro e w1 ⟨A1,k1,rfl,cM,b1⟩;dsimp only[fhV])
 have M1:Hid (w1.heap[b]? =some (.cells #[.int .i64 0,.int .i64 0,.int .i64 0] 37 (0,0))):=aa ((b1.block b hbW).trans M0.out)
 have K1:Hid (Below w.heap.size w w1):=aa (K0.out.trans (b1.mono K0.out.size))
 obtain⟨f,hf⟩:∃f,f=w1.heap.size:=⟨_,rfl⟩
 have hbf:b≠f:=by have:=b1.size;omega
 have CV:f≠b:=fun e=>hbf e.symm
 obtain⟨W2,hW2⟩:∃W2,W2=w1.alloc (.cells #[.int .i64 st,.int .i64 ln,.int .i64 rr,.int .i64 ch,.int .i64 bt,.slice A1 ls.length k1,.slice none 0 0] 95):=⟨_,rfl⟩
 have M2:Hid (W2.heap[b]? =some (.cells #[.int .i64 0,.int .i64 0,.int .i64 0] 37 (0,0))):=aa (by rw[hW2];exact(ags w1 _ b (by have:=b1.size;omega)).trans M1.out)
 have N2:Hid (W2.heap[f]? =some (.cells #[.int .i64 st,.int .i64 ln,.int .i64 rr,.int .i64 ch,.int .i64 bt,.slice A1 ls.length k1,.slice none 0 0] 95 (0,0))):=aa (by rw[hW2,hf];exact ago w1 _)
 have K2:Hid (Below w.heap.size w W2):=aa (by rw[hW2];exact ak K1.out _)
 have lU:=hW2
 rw[←lU,←hf]
 obtain⟨c0,c1,c2⟩:=xM M2.out
 obtain⟨⟨d0,d1,d2,d3,d4,d5,d6⟩,_⟩:=aw N2.out
 have z0:=agv W2 b 0 _ _ M2.out
 have z1:=agv W2 b 1 _ _ M2.out
 have z2:=agv W2 b 2 _ _ M2.out
 have Hbf:=aa hbf
 clear lU hW2 hf M1 K1 b1 cM M0 K0 hbW
 by_cases hx:x=0
 ·subst hx
  go_upto_region 4 with fail
  go_region_held3 (fun w'=>w'.cell? ⟨f,0,none⟩=some (.int .i64 st)∧w'.cell? ⟨f,1,none⟩=some (.int .i64 ln)∧w'.cell? ⟨f,2,none⟩=some (.int .i64 rr)∧w'.cell? ⟨f,3,none⟩=some (.int .i64 ch)∧w'.cell? ⟨f,4,none⟩=some (.int .i64 bt)) (first | (go_keep;done) | exact⟨cell_set_ne (cell_set_ne (cell_set_ne d0 CV) CV) CV,cell_set_ne (cell_set_ne (cell_set_ne d1 CV) CV) CV,cell_set_ne (cell_set_ne (cell_set_ne d2 CV) CV) CV,cell_set_ne (cell_set_ne (cell_set_ne d3 CV) CV) CV,cell_set_ne (cell_set_ne (cell_set_ne d4 CV) CV) CV⟩) (fail)
  go_wp2_with fail
  first
   |(refine bodyPost_ret (pA rfl _ _ rfl (vQ (W:=W2.drew) M2.out _ _ _)) rfl ?_
     exact⟨rfl,pn K2.out.drew (by have:=Uw.out;omega) _ _ _⟩)
   |(refine bodyPost_ret (pA rfl _ _ rfl (g:=b) (v0:=.int .i64 rr) (v1:=.int .i64 ch) (v2:=.int .i64 bt) ?_) rfl ?_
     ·exact vQ M2.out _ _ _
     ·exact⟨rfl,(pn K2.out (by have:=Uw.out;omega) _ _ _).drew⟩)
 ·have hf0:=hz hx
  unfold UJ at hf0
  injection hf0 with h1 h2 h3 h4 h5 h6
  subst h1;subst h2;subst h3;subst h4;subst h5
  have Gd:(x != 0)=true:=bne_iff_ne.2 hx
  clear h6 hz hx
  go_wp2_with fail
  refine bodyPost_ret (pA rfl _ _ rfl (vQ M2.out _ _ _)) rfl ?_
  exact⟨rfl,pn K2.out (by have:=Uw.out;omega) _ _ _⟩
def OI(i:eC)(p:Pk):Bool:=
 if i.kd=1 then decide ((JA p.data).2.2.2=0) && (decide ((JA p.data).1.r=i.fr) && (decide ((JA p.data).1.c=i.fc) && decide ((JA p.data).1.bt=i.fb)))
 else if p.key=false then true
 else decide ((Qj p.data).2.2.2.2=0) && (decide ((Qj p.data).1=i.s1) && (decide ((Qj p.data).2.1=i.s2) && (decide ((Qj p.data).2.2.1=i.s3) && decide ((Qj p.data).2.2.2.1=i.s4))))
theorem XL(i:eC)(p:Pk)(n:Nat)(hn:n=p.data.length)(hm:n≤50000)(hby:aH p.data)(A:Option Addr)(B c:Nat)(hc:n≤c)(cK:c≤9223372036854775807)(w:World)(hB:B≤w.heap.size)(ha:ag .u8 w B A p.data):
 Calls Tryz.prog 74 #[ku i,.agg #[.int .i64 p.stream,.int .i64 p.pat,.int .i64 p.plen,.bool p.key,.bool p.hid,.slice A n c]] w fun e w'=>e= .returned (.bool (OI i p))∧Below w.heap.size w w':=by
 obtain⟨RR,cN⟩:∃RR,RR=OI i p:=⟨_,rfl⟩
 rw[←cN]
 unfold OI at cN
 have hlk:=fun W (b:Below w.heap.size w W)=>JB p.data n hn hm hby A B c hc cK W (agm hB b.size) (ha.below (b.mono hB))
 have hst:=fun W (b:Below w.heap.size w W)=>G5 p.data hby n hn hm A B c W (ha.below (b.mono hB))
 unfold Y9 at hlk
 unfold stV at hst
 generalize JA p.data=fr at*
 generalize Qj p.data=sp at*
 obtain⟨st,dV,ln,ky,hd,dt⟩:=p
 obtain⟨kd,rn,rd,i3,i4,i5,i6,i7,i8,i9⟩:=i
 obtain⟨⟨fst,fln,frr,fch,fbt,fls⟩,_,_,fx⟩:=fr
 obtain⟨y1,y2,y3,y4,y5⟩:=sp
 unfold ku
 dsimp only at*
 have PO:=aa hlk
 have fG:=aa hst
 have HR:=aa cN
 have M0:=aa (ago w (.cells (dT ⟨kd,rn,rd,i3,i4,i5,i6,i7,i8,i9⟩) 43))
 have K0:=aa (ak (ak (ac w) (.cells (dT ⟨kd,rn,rd,i3,i4,i5,i6,i7,i8,i9⟩) 43)) (.cells #[.int .i64 st,.int .i64 dV,.int .i64 ln,.bool ky,.bool hd,.slice A n c] 52))
 clear hlk hst cN hn ha
 go_enter Tryz.func74,Tryz.ntmps74
 go_upto_region 1 with fail
 obtain⟨b,hb⟩:∃b,b=w.heap.size:=⟨_,rfl⟩
 obtain⟨W0,hW0⟩:∃W0,W0=(w.alloc (.cells (dT ⟨kd,rn,rd,i3,i4,i5,i6,i7,i8,i9⟩) 43)).alloc (.cells #[.int .i64 st,.int .i64 dV,.int .i64 ln,.bool ky,.bool hd,.slice A n c] 52):=⟨_,rfl⟩
 have M1:Hid (W0.heap[b]? =some (.cells (dT ⟨kd,rn,rd,i3,i4,i5,i6,i7,i8,i9⟩) 43 (0,0))):=aa (by rw[hW0,hb];exact(ags _ _ _ (by simp)).trans M0.out)
 have N1:Hid (W0.heap[b+1]? =some (.cells #[.int .i64 st,.int .i64 dV,.int .i64 ln,.bool ky,.bool hd,.slice A n c] 52 (0,0))):=aa (by
  have:=ago (w.alloc (.cells (dT ⟨kd,rn,rd,i3,i4,i5,i6,i7,i8,i9⟩) 43)) (.cells #[.int .i64 st,.int .i64 dV,.int .i64 ln,.bool ky,.bool hd,.slice A n c] 52)
  rw[World.size_alloc] at this
  rw[hW0,hb];exact this)
 rw[←hW0] at K0
 have lU:=hW0
 unfold dT at lU
 dsimp only at lU
 rw[←lU,←hb]
 have Hb:=aa hb
 have af6:b<W0.heap.size:=(agn.1 M1.out).1
 unfold dT at M1
 dsimp only at M1
 clear hW0 lU hb M0
 obtain⟨m0,m1,m2,m3,m4,m5,m6,m7,m8,m9⟩:=aQ M1.out
 obtain⟨⟨n0,n1,n2,n3,n4,n5⟩,_⟩:=bH N1.out
 have acr:=aa (PO.out W0 K0.out)
 have ab8:=aa (fG.out W0 K0.out)
 clear PO fG
 by_cases hk:kd=1
 ·have hr:=HR.out
  rw[if_pos hk] at hr
  have PR:=aa hr
  subst hk
  clear hr HR ab8
  go_upto_region 3 with (go_at_call 124;(with_reducible refine acr.out.mono ?_);rintro e w1 ⟨rfl,b1⟩)
  have K1:=aa (ak (K0.out.trans (b1.mono K0.out.size)) (.cells #[.int .i64 frr,.int .i64 fch,.int .i64 fbt] 37))
  have o2:=later b1 m2
  have o3:=later b1 m3
  have o4:=later b1 m4
  have o5:=later b1 m5
  obtain⟨g,hg⟩:∃g,g=w1.heap.size:=⟨_,rfl⟩
  have N2:(w1.alloc (.cells #[.int .i64 frr,.int .i64 fch,.int .i64 fbt] 37)).heap[g]? =some (.cells #[.int .i64 frr,.int .i64 fch,.int .i64 fbt] 37 (0,0)):=by rw[hg];exact ago w1 _
  obtain⟨W2,hW2⟩:∃W2,W2=w1.alloc (.cells #[.int .i64 frr,.int .i64 fch,.int .i64 fbt] 37):=⟨_,rfl⟩
  have b2:Below w1.heap.size w1 W2:=by rw[hW2];exact ak (ac w1) _
  rw[←hW2] at N2 K1 ⊢
  rw[←hg]
  obtain⟨e0,e1,e2⟩:=xM N2
  have q3:=later b2 o3
  have q4:=later b2 o4
  have q5:=later b2 o5
  clear hg hW2 b1 b2 o2 o3 o4 o5 m0 m1 m2 m3 m4 m5 m6 m7 m8 m9 n0 n1 n2 n3 n4 n5 N2
  by_cases hx:fx=0
  ·subst hx
   go_wp2_with fail
   all_goals go_ret
   all_goals rw[PR.out]
   all_goals refine⟨?_,K1.out⟩
   all_goals first
    |(show Ending.returned (.bool true)=_;refine congrArg Ending.returned (congrArg Value.bool ?_);simp[*];done)
    |(show Ending.returned (.bool false)=_;refine congrArg Ending.returned (congrArg Value.bool ?_);simp[*];done)
  ·have Gd:(fx == 0)=false:=beq_eq_false_iff_ne.2 hx
   have SK:=decide_eq_false hx
   have HX:=aa SK
   clear hx SK
   go_wp2_with fail
   go_ret
   rw[PR.out,HX.out]
   exact⟨rfl,K1.out⟩
 ·have hr:=HR.out
  rw[if_neg hk] at hr
  have hkb:(kd == 1)=false:=beq_eq_false_iff_ne.2 hk
  have Hk:=aa hk
  clear hk HR acr
  cases ky with
  |false=>
   rw[if_pos rfl] at hr
   have PR:=aa hr
   clear hr
   go_wp2_with fail
   go_ret
   rw[PR.out]
   exact⟨rfl,K0.out⟩
  |true=>
   rw[if_neg (by simp)] at hr
   have PR:=aa hr
   clear hr
   rcases (show ¬y5=0∨(y5=0∧¬y1=i6)∨(y5=0∧y1=i6∧¬y2=i7)∨(y5=0∧y1=i6∧y2=i7∧¬y3=i8)∨(y5=0∧y1=i6∧y2=i7∧y3=i8)by omega)with h1 | ⟨h1,h2⟩ | ⟨h1,h2,h3⟩ | ⟨h1,h2,h3,h4⟩ | ⟨h1,h2,h3,h4⟩
   all_goals go_upto_region 7 with (go_at_call 125;(with_reducible refine ab8.out.mono ?_);rintro e w1 ⟨rfl,b1⟩)
   all_goals have K1:=aa (K0.out.trans (b1.mono K0.out.size))
   all_goals have o6:=later b1 m6
   all_goals have o7:=later b1 m7
   all_goals have o8:=later b1 m8
   all_goals have o9:=later b1 m9
   all_goals go_wp2_with fail
   all_goals go_ret
   all_goals rw[PR.out]
   all_goals refine⟨?_,K1.out⟩
   all_goals first
    |(show Ending.returned (.bool true)=_;refine congrArg Ending.returned (congrArg Value.bool ?_);simp[*];done)
    |(show Ending.returned (.bool false)=_;refine congrArg Ending.returned (congrArg Value.bool ?_);simp[*];done)
    |(show Ending.returned (.bool (y4 == i9))=_;refine congrArg Ending.returned (congrArg Value.bool ?_);simp[*];rfl)
    |(show Ending.returned (.bool (decide (y4=i9)))=_;refine congrArg Ending.returned (congrArg Value.bool ?_);simp[*];done)
def xU(I:List eC)(p:Pk):Bool:=decide (0≤p.stream∧p.stream<(I.length:Int)) && !OI (I.getD p.stream.toNat qh) p
def uP(I:List eC)(L:List Pk):Bool:=L.any (xU I)
theorem ZH{w:World}{B:Nat}{A:Option Addr}{I:List eC}(h:Rd w B A (ew I)){s:Nat}(hs:s<I.length)(i:eC)(hi:I.getD s qh=i):
 ∃b off,A=some ⟨b,off,none⟩∧b<B∧w.cell? ⟨b,off+s*10,none⟩=some (.int .i64 i.kd)∧w.cell? ⟨b,off+s*10+1,none⟩=some (.int .i64 i.rn)∧w.cell? ⟨b,off+s*10+2,none⟩=some (.int .i64 i.rd)∧w.cell? ⟨b,off+s*10+3,none⟩=some (.int .i64 i.fr)∧w.cell? ⟨b,off+s*10+4,none⟩=some (.int .i64 i.fc)∧w.cell? ⟨b,off+s*10+5,none⟩=some (.int .i64 i.fb)∧w.cell? ⟨b,off+s*10+6,none⟩=some (.int .i64 i.s1)∧w.cell? ⟨b,off+s*10+7,none⟩=some (.int .i64 i.s2)∧w.cell? ⟨b,off+s*10+8,none⟩=some (.int .i64 i.s3)∧w.cell? ⟨b,off+s*10+9,none⟩=some (.int .i64 i.s4):=by
 have e:I[s]=i:=by rw[←hi];simp[hs]
 have:=xh h hs
 rw[e] at this
 exact this
theorem FK(I:List eC)(E:List (El Pk))(n k:Nat)(hn:n=E.length)(hk:k=I.length)(hk4:k≤1000)(hm:n≤1000)(hby:∀t∈E,aH t.1.data∧t.1.data.length≤50000)(EO:∀t∈E,t.1.data.length≤t.2.2∧t.2.2≤maxLen)(A1 A:Option Addr)(B c1 c:Nat)(w:World)(hB:B≤w.heap.size)(hI:Rd w B A1 (ew I))(ha:iE iA w B A E):
 Calls Tryz.prog 29 #[.slice A1 k c1,.slice A n c] w fun e w'=>e= .returned (.bool (uP I (E.map (·.1))))∧Below w.heap.size w w':=by
 obtain⟨RR,cN⟩:∃RR,RR=uP I (E.map (·.1)):=⟨_,rfl⟩
 have Hn:=aa hn
 have Hk:=aa hk
 have HR:=aa cN
 rw[←cN]
 clear hn cN hk
 go_enter Tryz.func29,Tryz.ntmps29
 go_wp2_with fail
 go_loopw [6,9] (fun _ iv wr=>(∃i:Nat,i≤n∧iv= .int .i64 i∧∀j (h:j<E.length),j<i→xU I E[j].1=false)∧Below w.heap.size w wr) (fun _ iv _=>n-(intOf iv).toNat)
 case atStart=>exact⟨⟨0,agw _,rfl,fun j _ h=>absurd h (by omega)⟩,ac w⟩
 case round=>
  obtain⟨⟨i,hi,rfl,hR⟩,hb⟩:=hrel
  obtain⟨wo,rfl⟩:∃wo:World,wo=wr:=⟨_,rfl⟩
  have HB:=aa hb
  have HA:=aa hR
  clear hb hR
  by_cases hlt:i<n
  ·have dv:i<E.length:=by have:=Hn.out;omega
   have nQ:(i:Int)<(n:Int):=by omega
   have kx:=ha.below (HB.out.mono hB)
   obtain⟨b,off,rfl,sQ,x0,x1,x2,x3,x4,x5⟩:=kh kx dv
   have aW:xU I E[i].1=true→RR=true:=fun h=>by
    rw[HR.out]
    unfold uP
    rw[List.any_eq_true]
    exact⟨E[i].1,List.mem_map.2 ⟨_,agt dv,rfl⟩,h⟩
   have l8:xU I E[i].1=false→∀j (h:j<E.length),j<i+1→xU I E[j].1=false:=fun h j hj hji=>by
    by_cases e:j=i
    ·subst e;exact h
    ·exact HA.out j hj (by omega)
   have iC:=kx.2 _ (agt dv)
   have aaK:=hby _ (agt dv)
   have aaD:=EO _ (agt dv)
   have xE:=fun (WC:eC) W (b:Below wo.heap.size wo W)=>XL WC E[i].1 E[i].1.data.length rfl aaK.2 aaK.1 E[i].2.1 B E[i].2.2 aaD.1 (agm aaD.2 (by decide)) W (agm hB (agm HB.out.size b.size)) (ag.below (xs:=E[i].1.data) iC (b.mono (agm hB HB.out.size)))
   generalize E[i]=t at*
   obtain⟨⟨st,dV,ln,ky,hd,dt⟩,Ad,cd⟩:=t
   dsimp only at*
   have gQ:=aa aW
   have XW:=aa l8
   have adp:=aa xE
   clear aW l8 xE iC aaK aaD kx
   go_upto_region 4 with fail
   obtain⟨wb,ig⟩:∃wb,wb=wo.alloc (.cells #[.int .i64 st,.int .i64 dV,.int .i64 ln,.bool ky,.bool hd,.slice Ad dt.length cd] 52):=⟨_,rfl⟩
   have Mo:wb.heap[wo.heap.size]? =some (.cells #[.int .i64 st,.int .i64 dV,.int .i64 ln,.bool ky,.bool hd,.slice Ad dt.length cd] 52 (0,0)):=by rw[ig];exact ago wo _
   have bb:Below wo.heap.size wo wb:=by rw[ig];exact ak (ac wo) _
   rw[←ig]
   obtain⟨⟨n0,n1,n2,n3,n4,n5⟩,_⟩:=bH Mo
   obtain⟨f,hf⟩:∃f,f=wo.heap.size:=⟨_,rfl⟩
   rw[←hf] at n0 n1 n2 n3 n4 n5 ⊢
   have XZ:=aa bb
   have Hf:=aa hf
   clear ig Mo bb hf x0 x1 x2 x3 x4 x5
   by_cases h0:0≤st
   case neg=>
    have SK:decide (0≤st)=false:=decide_eq_false h0
    have hno:Hid (xU I ⟨st,dV,ln,ky,hd,dt⟩=false):=aa (by unfold xU;rw[decide_eq_false (by show ¬(0≤st∧_);omega)];rfl)
    go_quiet (fail)
    go_wp2_with fail
    exact⟨⟨⟨i+1,by omega,by go_num,XW.out hno.out⟩,below_drewN (af HB.out XZ.out) _⟩,by simp[intOf];omega⟩
   by_cases h1:st<(k:Int)
   case neg=>
    have hno:Hid (xU I ⟨st,dV,ln,ky,hd,dt⟩=false):=aa (by unfold xU;rw[decide_eq_false (by show ¬(0≤st∧st<_);have:=Hk.out;omega)];rfl)
    go_quiet (fail)
    go_wp2_with fail
    exact⟨⟨⟨i+1,by omega,by go_num,XW.out hno.out⟩,below_drewN (af HB.out XZ.out) _⟩,by simp[intOf];omega⟩
   obtain⟨s,rfl⟩:∃s:Nat,st=(s:Int):=⟨st.toNat,by omega⟩
   have hsk:s<I.length:=by have:=Hk.out;omega
   obtain⟨WC,aau⟩:∃WC,WC=I.getD s qh:=⟨_,rfl⟩
   obtain⟨b1,km,rfl,hb1,y0,y1,y2,y3,y4,y5,y6,y7,y8,y9⟩:=ZH (hI.below ((af HB.out XZ.out).mono hB)) hsk WC aau.symm
   have hdd:Hid (xU I ⟨(s:Int),dV,ln,ky,hd,dt⟩= !OI WC ⟨(s:Int),dV,ln,ky,hd,dt⟩):=aa (by
    unfold xU
    dsimp only
    rw[decide_eq_true (by have:=Hk.out;omega),Int.toNat_natCast,←aau,Bool.true_and])
   have hbl:=adp.out WC
   generalize OI WC ⟨(s:Int),dV,ln,ky,hd,dt⟩=bv at*
   obtain⟨i0,i1,i2,i3,i4,i5,i6,i7,i8,i9⟩:=WC
   unfold ku at hbl
   dsimp only at*
   have qg:=aa hbl
   have s0:(0:Int)≤(s:Int):=by omega
   clear hbl adp aau
   cases bv with
   |true=>
    go_region_held3 (fun w'=>w'.cell? ⟨f,0,none⟩=some (.int .i64 (s:Int))∧w'.cell? ⟨f,1,none⟩=some (.int .i64 dV)∧w'.cell? ⟨f,2,none⟩=some (.int .i64 ln)∧w'.cell? ⟨f,3,none⟩=some (.bool ky)∧w'.cell? ⟨f,4,none⟩=some (.bool hd)∧w'.cell? ⟨f,5,none⟩=some (.slice Ad dt.length cd)∧w'.cell? ⟨b1,km+s*10,none⟩=some (.int .i64 i0)∧w'.cell? ⟨b1,km+s*10+1,none⟩=some (.int .i64 i1)∧w'.cell? ⟨b1,km+s*10+2,none⟩=some (.int .i64 i2)∧w'.cell? ⟨b1,km+s*10+3,none⟩=some (.int .i64 i3)∧w'.cell? ⟨b1,km+s*10+4,none⟩=some (.int .i64 i4)∧w'.cell? ⟨b1,km+s*10+5,none⟩=some (.int .i64 i5)∧w'.cell? ⟨b1,km+s*10+6,none⟩=some (.int .i64 i6)∧w'.cell? ⟨b1,km+s*10+7,none⟩=some (.int .i64 i7)∧w'.cell? ⟨b1,km+s*10+8,none⟩=some (.int .i64 i8)∧w'.cell? ⟨b1,km+s*10+9,none⟩=some (.int .i64 i9)) (first | (go_keep;done) | exact⟨later B5 n0,later B5 n1,later B5 n2,later B5 n3,later B5 n4,later B5 n5,later B5 y0,later B5 y1,later B5 y2,later B5 y3,later B5 y4,later B5 y5,later B5 y6,later B5 y7,later B5 y8,later B5 y9⟩)
     (first
       |(go_at_call 74;(first | (with_reducible refine(qg.out _ XZ.out).mono ?_) | (with_reducible refine(qg.out _ XZ.out.drew).mono ?_));rintro e w5 ⟨rfl,b5⟩;have B5:Below wb.heap.size wb w5:=⟨b5.os,b5.tape,b5.output,b5.size,b5.block⟩))
    go_wp2_with fail
    exact⟨⟨⟨i+1,by omega,by go_num,XW.out hdd.out⟩,af (af HB.out XZ.out) B5⟩,by simp[intOf];omega⟩
   |false=>
    go_region_held3 (fun w'=>w'.cell? ⟨f,0,none⟩=some (.int .i64 (s:Int))∧w'.cell? ⟨f,1,none⟩=some (.int .i64 dV)∧w'.cell? ⟨f,2,none⟩=some (.int .i64 ln)∧w'.cell? ⟨f,3,none⟩=some (.bool ky)∧w'.cell? ⟨f,4,none⟩=some (.bool hd)∧w'.cell? ⟨f,5,none⟩=some (.slice Ad dt.length cd)∧w'.cell? ⟨b1,km+s*10,none⟩=some (.int .i64 i0)∧w'.cell? ⟨b1,km+s*10+1,none⟩=some (.int .i64 i1)∧w'.cell? ⟨b1,km+s*10+2,none⟩=some (.int .i64 i2)∧w'.cell? ⟨b1,km+s*10+3,none⟩=some (.int .i64 i3)∧w'.cell? ⟨b1,km+s*10+4,none⟩=some (.int .i64 i4)∧w'.cell? ⟨b1,km+s*10+5,none⟩=some (.int .i64 i5)∧w'.cell? ⟨b1,km+s*10+6,none⟩=some (.int .i64 i6)∧w'.cell? ⟨b1,km+s*10+7,none⟩=some (.int .i64 i7)∧w'.cell? ⟨b1,km+s*10+8,none⟩=some (.int .i64 i8)∧w'.cell? ⟨b1,km+s*10+9,none⟩=some (.int .i64 i9)) (first | (go_keep;done) | exact⟨later B5 n0,later B5 n1,later B5 n2,later B5 n3,later B5 n4,later B5 n5,later B5 y0,later B5 y1,later B5 y2,later B5 y3,later B5 y4,later B5 y5,later B5 y6,later B5 y7,later B5 y8,later B5 y9⟩)
     (first
       |(go_at_call 74;(first | (with_reducible refine(qg.out _ XZ.out).mono ?_) | (with_reducible refine(qg.out _ XZ.out.drew).mono ?_));rintro e w5 ⟨rfl,b5⟩;have B5:Below wb.heap.size wb w5:=⟨b5.os,b5.tape,b5.output,b5.size,b5.block⟩))
    go_wp2_with fail
    go_ret
    rw[gQ.out hdd.out]
    exact⟨rfl,af (af HB.out XZ.out) B5⟩
  ·obtain rfl:i=n:=by omega
   have nQ:¬(i:Int)<(i:Int):=by omega
   have hr:Hid (RR=false):=by
    show _=_
    rw[HR.out]
    unfold uP
    rw[List.any_eq_false]
    intro p hp
    obtain⟨t,ht,rfl⟩:=List.mem_map.1 hp
    obtain⟨j,hj,rfl⟩:=List.getElem_of_mem ht
    rw[HA.out j hj (by have:=Hn.out;omega)]
    simp
   go_wp2_with fail
   go_ret
   rw[hr.out]
   exact⟨rfl,HB.out⟩
def oO(L:List (Int×Int)):List Value:=L.flatMap fun x=>[.int .i64 x.1,.int .i64 x.2]
theorem Oo(L M:List (Int×Int)):oO (L++M)=oO L++oO M:=by simp[oO]
theorem Om(L:List (Int×Int)):(oO L).length=L.length*2:=by
 induction L with
 |nil=>rfl
 |cons a L ih=>simp only[oO,List.flatMap_cons,List.length_append,List.length_cons,List.length_nil] at ih ⊢;rw[ih];omega
theorem JF(L:List (Int×Int)):∀u∈oO L,u.oneCell'=true:=fun u hu=>by
 obtain⟨i,_,h⟩:=List.mem_flatMap.1 hu
 simp only[List.mem_cons,List.not_mem_nil,or_false] at h
 rcases h with rfl | rfl <;> rfl
def mh(w:World)(B:Nat)(A:Option Addr)(n c:Nat)(L:List (Int×Int)):Prop:=w.ownsRow B 56 2 (.slice A n c) n (oO L)∧L.length=n
theorem mh.nil(w:World)(B:Nat):mh w B none 0 0 []:=⟨World.ownsRow_nil _ _ _ _,rfl⟩
theorem mh.below{w w':World}{B B1 n c:Nat}{A:Option Addr}{L:List (Int×Int)}(h:mh w B A n c L)(hb:Below B1 w w')(hB:w.heap.size≤B1):mh w' B A n c L:=⟨aD h.1 hb hB,h.2⟩
theorem mh.alloc{w:World}{B n c:Nat}{A:Option Addr}{L:List (Int×Int)}(h:mh w B A n c L)(o:Obj):mh (w.alloc o) B A n c L:=⟨World.ownsRow.alloc h.1 o,h.2⟩
theorem mh.lt{w:World}{B n c q:Nat}{A:Option Addr}{L:List (Int×Int)}(h:mh w B A n c L)(hq:aj A=some q):B≤q∧q<w.heap.size:=agB h.1 q (by rw[ae];exact hq)
theorem mh.kept{w w':World}{B n c:Nat}{A:Option Addr}{L:List (Int×Int)}(h:mh w B A n c L)(hk:∀q,aj A=some q→w'.heap[q]? =w.heap[q]?):mh w' B A n c L:=
 ⟨ap h.1 fun q hq=>hk q (by rw[←ae A n c];exact hq),h.2⟩
theorem JJ:(Tryz.prog.info? 56).map (fun i=>(i.zero,i.size,i.bytes))=some (some (.agg #[.int .i64 0,.int .i64 0]),2,16):=by kernel_rfl
theorem TU{ops:Array Oper}{rest:List Oper}{o:Oper}{a:Act}{Q:Exit→Act→World→Prop}(w2:World)(hgd:o.guard=none)(s x:Operand)
 (ho:o.op= .call {callee:=.builtin .append,args:=#[s,x],argTypes:=#[25,25]}) (B:Nat) (A1:Option Addr) (n1 c1:Nat) (L:List (Int×Int)) (hs:a.eval s= .slice A1 n1 c1) (hown:mh w2 B A1 n1 c1 L)
 (i:Int×Int) (arr:Array Value) (fo:arr.toList=oO [i]) (ty:TypeId)
 (hx:a.eval x= .slice (some ⟨w2.heap.size,0,none⟩) 1 1) (hsz:n1+1≤100000) (hB:B≤w2.heap.size)
 (h:∀A' c' w',mh w' B A' (n1+1) c' (L++[i])→dl A1 w2 w'→Below B w2 w'→wpList Tryz.prog ops Q rest (a.put o.dst (.slice A' (n1+1) c')) w'):wpList Tryz.prog ops Q (o :: rest) a (w2.alloc (.cells arr ty)):=by
 obtain⟨i0,cw,hz0,hz1,hz2⟩:=info_parts JJ
 refine aP _ hgd s x 25 ho B 56 i0 _ 2 16 Tryz.underlying25 cw hz0 hz1 hz2 rfl (by omega) _ n1 _ hs (hown.alloc _).1 (w2.heap.size+1) _ 1 1 (oO [i]) hx (by rw[Om];rfl) (dr w2 _ _ _ fo) (JF _) (by simp only[maxLen];omega) (by omega) (by simp;omega) ?_
 intro A' c' w' h1 h2 h3
 exact h A' c' w' ⟨by rw[Oo];exact h1,by rw[List.length_append,hown.2];rfl⟩ (dl.lit h2) (aI ((ak (ac w2) _).mono hB) (hown.alloc _).1 h2 (by simp;omega))
def FO(W:World)(o n:Nat):Prop:=∃A c L,W.heap[o]? =some (.cells #[.slice A n c] 25 (0,0))∧mh W (o+1) A n c L
theorem FO.below{W W':World}{o n:Nat}(h:FO W o n)(hb:Below W.heap.size W W'):FO W' o n:=by
 obtain⟨A,c,L,h1,h2⟩:=h
 exact⟨A,c,L,(hb.block o (agn.1 h1).1).trans h1,h2.below hb (agl _)⟩
theorem FO.lt{W:World}{o n:Nat}(h:FO W o n):o<W.heap.size:=by
 obtain⟨A,c,L,h1,h2⟩:=h
 exact(agn.1 h1).1
theorem jf{W:World}{o:Nat}{v:Value}{t:TypeId}(h:W.heap[o]? =some (.cells #[v] t (0,0))):W.cell? ⟨o,0,none⟩=some v:=(agu _ _ _ _ _ _ h).trans rfl
def aeU(o n:Nat)(w:World)(e:Ending)(w':World):Prop:=e= .returned (.tuple #[])∧FO w' o n∧Below o w w'
theorem gT(bad:Bool)(kind:Int)(o n:Nat)(hn:n≤1000)(w:World)(h:FO w o n):
 Calls Tryz.prog 19 #[.bool bad,.int .i64 kind,.pointer (some ⟨o,0,none⟩)] w (aeU o (n+bN bad) w):=by
 cases bad with
 |false=>
  have H:=aa h
  clear h
  go_enter Tryz.func19,Tryz.ntmps19
  go_wp2_with fail
  go_end0
  exact⟨rfl,H.out,Below.refl _ _⟩
 |true=>
  have hlt:=h.lt
  obtain⟨A,c,L,h1,h2⟩:=h
  have H1:=aa h1
  have H2:=aa h2
  have k0:=jf h1
  have z0:=agv w o 0 _ _ h1
  clear h1 h2
  go_enter Tryz.func19,Tryz.ntmps19
  go_wp2_with (at_builtin;refine TU w rfl (.tmp 6) (.tmp 9) rfl (o+1) A n c L rfl H2.out ((-1:Int),kind) _ rfl _ rfl (by omega) (by omega) ?_;intro A6 c6 w6 dC kp6 b6;have M6:=(b6.block o (by omega)).trans H1.out;have k6:=jf M6;have z6:=agv w6 o 0 _ _ M6)
  go_end0
  have b7:Below o w w6:=b6.mono (by omega)
  refine⟨rfl,⟨A6,c6,L++[((-1:Int),kind)], ?_, ?_⟩,b7.setCell (p:=⟨o,0,none⟩) (agl _) _⟩
  ·rw[agA _ o 0 _ _ _ M6];rfl
  ·exact dC.kept fun q hq=>agr _ _ _ _ (by have:=(dC.lt hq).1;show q≠o;omega)
end
end Go.Proofs.YtbhfpehgacaidaaGreatDoor
