/- A part of the proof of the given statement TopRight. Conditions: none. -/
import Derived.Test.YtbhfpehgacaidaaGreatDoorQBG
namespace Go.Proofs.YtbhfpehgacaidaaGreatDoor
set_option linter.unusedVariables false
set_option linter.unusedSimpArgs false
set_option maxRecDepth 100000
set_option maxHeartbeats 8000000
section
open Go.RowKit
set_option maxRecDepth 100000
theorem iN(R:Nat→List Int)(r:Nat)(hr1:r≤1000)(hR:∀i,i<r→(R i).length≤100000)(RA:Nat→Option Addr)(RC:Nat→Nat)(A:Option Addr)(b c:Nat)(w:World)(h:Rw w b A r RA RC R):
 Calls Tryz.prog 131 #[.slice A r c] w fun e w'=>e= .returned (.bool (eU R r))∧w=w':=by
 by_cases h1:r<1
 ·have hr:=aa (qr (R:=R) (r:=r) (by omega))
  have hI:(r:Int)<1:=by omega
  clear h1
  go_enter Tryz.func131,Tryz.ntmps131
  go_wp2
  go_ret
  exact⟨aC hr.out.symm,rfl⟩
 have YW:(1:Int)≤(r:Int):=by omega
 by_cases h2:8<r
 ·have hr:=aa (qr (R:=R) (r:=r) (by omega))
  have hI:(8:Int)<(r:Int):=by omega
  clear h1 h2
  go_enter Tryz.func131,Tryz.ntmps131
  go_wp2
  go_ret
  exact⟨aC hr.out.symm,rfl⟩
 have ES:(r:Int)≤8:=by omega
 have r0:0<r:=by omega
 obtain⟨b0,o0,rfl,hz⟩:=h.at_ r0
 rw[Nat.add_zero] at hz
 have l0:=hR 0 r0
 by_cases h3:4096<(R 0).length
 ·have hr:=aa (qr (R:=R) (r:=r) (by omega))
  have hI:(4096:Int)<((R 0).length:Int):=by omega
  clear h1 h2 h3
  go_enter Tryz.func131,Tryz.ntmps131
  go_wp2
  go_ret
  exact⟨aC hr.out.symm,rfl⟩
 have hI3:((R 0).length:Int)≤4096:=by omega
 have Pa:Hid ((∀i,i<r→lK R i=true)→eU R r=true):=fun h=>fl.2 ⟨by omega,by omega,by omega,fun i hi=>pw.1 (h i hi)⟩
 clear h1 h2 h3
 go_enter Tryz.func131,Tryz.ntmps131
 go_wp2
 go_loop [4,6,24,37] (fun _ _ iv _=>∃k:Nat,k≤r∧iv= .int .i64 k∧∀i,i<k→lK R i=true) (fun _ _ iv _=>r-(intOf iv).toNat)
 case atStart=>exact⟨0,agw _,rfl,fun i h=>absurd h (by omega)⟩
 case round=>
  obtain⟨k,hk,rfl,hj⟩:=hrel
  have Hj:=aa hj
  clear hj
  by_cases hlt:k<r
  ·obtain⟨b1,o1,e1,hc⟩:=h.at_ hlt
   simp only[Option.some.injEq,Addr.mk.injEq,and_true] at e1
   obtain⟨rfl,rfl⟩:=e1
   have lk:=hR k hlt
   have dp:=h.ints k hlt
   by_cases hl:(R k).length=(R 0).length
   ·have hne:(((R k).length:Int) != ((R 0).length:Int))=false:=by simp[hl]
    have Hl:=aa hl
    clear hl
    obtain⟨m,hm⟩:∃m,m=(R k).length:=⟨_,rfl⟩
    have Hm:=aa hm
    rw[←hm] at hc hne lk
    clear hm
    obtain⟨Ak,hA⟩:∃Ak,Ak=RA k:=⟨_,rfl⟩
    rw[←hA] at hc dp
    clear hA
    go_wp2
    go_loop [6,37] (fun _ iv=>∃j:Nat,j≤m∧iv= .int .i64 j∧∀i,i<j→aX (ix (R k) i)=true) (fun _ iv=>m-(intOf iv).toNat)
    case atStart=>exact⟨0,agw _,rfl,fun i h=>absurd h (by omega)⟩
    case round=>
     obtain⟨j,hjl,rfl,hw⟩:=hrel
     have Hw:=aa hw
     clear hw
     by_cases jR:j<m
     ·obtain⟨b2,o2,rfl,hc2⟩:=dp.at_ (i:=j) (by rw[←Hm.out];exact jR)
      cases hb:aX (ix (R k) j)with
      |false=>
       have hr:=aa (zm hlt (Mg (eB (by rw[←Hm.out];exact jR) hb)))
       have Hb:=aa hb
       clear hb
       go_wp2_with ((with_reducible refine(rS _ _).mono ?_);rintro e w' ⟨rfl,rfl⟩;rw[Hb.out])
       go_ret
       exact⟨aC hr.out.symm,rfl⟩
      |true=>
       have Hb:=aa hb
       clear hb
       go_wp2_with ((with_reducible refine(rS _ _).mono ?_);rintro e w' ⟨rfl,rfl⟩;rw[Hb.out])
       go_round
       case rel=>
        refine⟨j+1,by omega,by go_num,fun i hi=> ?_⟩
        by_cases e:i=j
        ·subst e;exact Hb.out
        ·exact Hw.out i (by omega)
       case measure=>simp[intOf];omega
     ·have dU:Hid (lK R k=true):=pw.2 ⟨Hl.out,aZ.2 fun i hi=>Hw.out i (by have:=Hm.out;omega)⟩
      go_wp2
      go_round
      case rel=>
       refine⟨k+1,by omega,by go_num,fun i hi=> ?_⟩
       by_cases e:i=k
       ·subst e;exact dU.out
       ·exact Hj.out i (by omega)
      case measure=>simp[intOf];omega
   ·have hne:(((R k).length:Int) != ((R 0).length:Int))=true:=by simp;omega
    have hr:=aa (zm hlt (Mf hl))
    clear hl
    go_wp2
    go_ret
    exact⟨aC hr.out.symm,rfl⟩
  ·have hr:=aa (Pa.out fun i hi=>Hj.out i (by omega))
   go_wp2
   go_ret
   exact⟨aC hr.out.symm,rfl⟩
set_option maxRecDepth 100000
structure bO (w:World) (B:Nat) (A:Option Addr) (n c m:Nat) (RA:Nat→Option Addr) (RC:Nat→Nat) (R:Nat→List Int):Prop where
 outer:w.ownsRow B 39 1 (.slice A n c) n ((List.range n).map fun i=>Value.slice (RA i) m (RC i))
 inner:∀i,i<n→ax w B (RA i) m (RC i) (R i)
 sep:∀i j,i<n→j<n→i≠j→∀q,(Value.slice (RA i) m (RC i)).ownBlock=some q→(Value.slice (RA j) m (RC j)).ownBlock≠some q
 osep:∀i,i<n→∀q,(Value.slice A n c).ownBlock=some q→(Value.slice (RA i) m (RC i)).ownBlock≠some q
section
variable {w w' : World} {B n c m : Nat} {A : Option Addr} {RA : Nat → Option Addr} {RC : Nat → Nat} {R : Nat → List Int}
theorem bO.other(h:bO w B A n c m RA RC R)(hk:∀q,((Value.slice A n c).ownBlock=some q∨∃i,i<n∧(Value.slice (RA i) m (RC i)).ownBlock=some q)→w'.heap[q]? =w.heap[q]?):bO w' B A n c m RA RC R:=
 {h with
  outer:=ap h.outer fun q hq=>hk q (.inl hq)
  inner:=fun i hi=>(h.inner i hi).other fun q hq=>hk q (.inr ⟨i,hi,hq⟩)}
theorem bO.lt(h:bO w B A n c m RA RC R):∀q,((Value.slice A n c).ownBlock=some q∨∃i,i<n∧(Value.slice (RA i) m (RC i)).ownBlock=some q)→B≤q∧q<w.heap.size:=fun q hq=>by
 rcases hq with hq | ⟨i,hi,hq⟩
 ·exact agB h.outer q hq
 ·exact(h.inner i hi).lt q hq
theorem bO.below{B1:Nat}(h:bO w B A n c m RA RC R)(hb:Below B1 w w')(hB:w.heap.size≤B1):bO w' B A n c m RA RC R:=
 h.other fun q hq=>hb.block q (agz (h.lt q hq).2 hB)
theorem bO.drewN(h:bO w B A n c m RA RC R)(k:Nat):bO (w.drewN k) B A n c m RA RC R:=h.other fun _ _=>rfl
theorem bO.drew(h:bO w B A n c m RA RC R):bO w.drew B A n c m RA RC R:=h.other fun _ _=>rfl
theorem bO.base{B':Nat}(h:bO w B A n c m RA RC R)(hB:B'≤B):bO w B' A n c m RA RC R:=
 {h with outer:=aO h.outer hB,inner:=fun i hi=>(h.inner i hi).base hB}
theorem bO.addr(h:bO w B A n c m RA RC R)(hn:0<n):∃g,A=some ⟨g,0,none⟩∧B≤g∧g<w.heap.size∧∀i,i<n→w.cell? ⟨g,i,none⟩=some (.slice (RA i) m (RC i)):=by
 obtain⟨g,rfl,h1,h2⟩:=eW h.outer hn
 refine⟨g,rfl,h1,h2,fun i hi=> ?_⟩
 rw[World.ownsRow.cellAt h.outer i (by omega)]
 simp[hi]
theorem bO.len(h:bO w B A n c m RA RC R){i:Nat}(hi:i<n):(R i).length=m:=(h.inner i hi).len
theorem bO.rw(h:bO w B A n c m RA RC R)(hm:m≤9223372036854775807):Rw w w.heap.size A n RA RC R:=
 ⟨fun h0=>by
  obtain⟨g,rfl,h1,h2,h3⟩:=h.addr h0
  exact⟨g,0,rfl,h2,fun i hi=>by rw[Nat.zero_add,h3 i hi,h.len hi]⟩,
  fun i hi=>ax.ints (h.inner i hi),fun i hi=>by rw[h.len hi];exact hm,fun i hi=>by rw[h.len hi];exact(bJ (h.inner i hi)).1⟩
theorem bO.cong{R':Nat→List Int}(h:bO w B A n c m RA RC R)(he:∀i,i<n→R' i=R i):bO w B A n c m RA RC R':=
 {h with inner:=fun i hi=>by rw[he i hi];exact h.inner i hi}
theorem bO.set_{t g:Nat}(h:bO w B A n c m RA RC R)(ht:t<n)(hg:RA t=some ⟨g,0,none⟩)(i:Nat)(x:Int):bO (w.setCell ⟨g,i,none⟩ (.int .i64 x)) B A n c m RA RC (fun j=>if j=t then(R t).set i x else R j):=by
 have UR:(Value.slice (RA t) m (RC t)).ownBlock=some g:=by rw[hg];rfl
 refine {h with outer:=ap h.outer fun q hq=>agr _ _ _ _ (fun e=>h.osep t ht q hq (by rw[e];exact UR)),inner:=fun j hj=> ?_}
 by_cases e:j=t
 ·subst e
  rw[if_pos rfl]
  have dp:=h.inner j hj
  unfold ax at dp ⊢
  rw[hg] at dp ⊢
  exact u9 dp i x
 ·rw[if_neg e]
  exact(h.inner j hj).other fun q hq=>agr _ _ _ _ (fun e'=>h.sep j t hj ht e q hq (by rw[e'];exact UR))
end
theorem QR(w:World)(B m:Nat)(RA:Nat→Option Addr)(RC:Nat→Nat)(R:Nat→List Int):bO w B none 0 0 m RA RC R:=
 ⟨World.ownsRow_nil _ _ _ _,fun i h=>by omega,fun i j h=>by omega,fun i h=>by omega⟩
theorem bO.push{w w4:World}{B n c m c4:Nat}{A A4:Option Addr}{RA:Nat→Option Addr}{RC:Nat→Nat}{R:Nat→List Int}{A':Option Addr}{c':Nat}{l:List Int}{Z:Nat}
 (h:bO w B A n c m RA RC R) (hz:∀q,((Value.slice A n c).ownBlock=some q∨∃i,i<n∧(Value.slice (RA i) m (RC i)).ownBlock=some q)→q<Z) (hn:ax w Z A' m c' l) (hBZ:B≤Z) (hl:l=R n)
 (ho:w4.ownsRow B 39 1 (.slice A4 (n+1) c4) (n+1) (((List.range n).map fun i=>Value.slice (RA i) m (RC i))++[.slice A' m c'])) (hg:w.grownBy w4 (Value.slice A n c).ownBlock)
 (hat:(Value.slice A4 (n+1) c4).ownBlock=(Value.slice A n c).ownBlock∨(Value.slice A4 (n+1) c4).ownBlock=some w.heap.size):
 bO w4 B A4 (n+1) c4 m (fun i=>if i=n then A' else RA i) (fun i=>if i=n then c' else RC i) R:=by
 have hout:∀q,(Value.slice A' m c').ownBlock=some q→Z≤q∧q<w.heap.size:=hn.lt
 refine⟨?_,fun i hi=> ?_,fun i j hi hj uM q hq=> ?_,fun i hi q hq=> ?_⟩
 ·have e:((List.range (n+1)).map fun i=>Value.slice (if i=n then A' else RA i) m (if i=n then c' else RC i))=((List.range n).map fun i=>Value.slice (RA i) m (RC i))++[.slice A' m c']:=by
   rw[List.range_succ,List.map_append]
   congr 1
   ·apply List.map_congr_left
    intro i hi
    have:i≠n:=by simp at hi;omega
    simp[this]
   ·simp
  rw[e];exact ho
 ·by_cases e:i=n
  ·subst e
   simp only[if_true]
   rw[←hl]
   exact(ax.other hn fun q hq=>hg.block q (hout q hq).2 (fun e'=>by have:=hz q (.inl e'.symm);have:=(hout q hq).1;omega)).base hBZ
  ·simp only[if_neg e]
   have hi':i<n:=by omega
   exact ax.other (h.inner i hi') fun q hq=>hg.block q ((h.inner i hi').lt q hq).2 (fun e'=>h.osep i hi' q e'.symm hq)
 ·by_cases ei:i=n
  ·subst ei
   have ej:j≠i:=fun e=>uM e.symm
   simp only[if_true] at hq
   simp only[if_neg ej]
   intro e'
   have:=hz q (.inr ⟨j,by omega,e'⟩)
   have:=(hout q hq).1
   omega
  ·simp only[if_neg ei] at hq
   by_cases ej:j=n
   ·subst ej
    simp only[if_true]
    intro e'
    have:=hz q (.inr ⟨i,by omega,hq⟩)
    have:=(hout q e').1
    omega
   ·simp only[if_neg ej]
    exact h.sep i j (by omega) (by omega) uM q hq
 ·by_cases ei:i=n
  ·subst ei
   simp only[if_true]
   intro e'
   have h1:=hout q e'
   rcases hat with h2 | h2
   ·rw[h2] at hq;have:=hz q (.inl hq);omega
   ·rw[h2] at hq;simp at hq;omega
  ·simp only[if_neg ei]
   intro e'
   have hi':i<n:=by omega
   rcases hat with h2 | h2
   ·rw[h2] at hq;exact h.osep i hi' q hq e'
   ·rw[h2] at hq;simp at hq;have:=((h.inner i hi').lt q e').2;omega
def Zt(R:Nat→List Int)(r m:Nat)(w:World)(e:Ending)(w':World):Prop:=∃A c RA RC,e= .returned (.slice A r c)∧bO w' w.heap.size A r c m RA RC R∧Below w.heap.size w w'
theorem un(R:Nat→List Int)(r m:Nat)(hr1:r≤1000)(hm:m≤10000)(hR:∀i,i<r→(R i).length=m)(RA:Nat→Option Addr)(RC:Nat→Nat)(A:Option Addr)(c:Nat)(w:World)(h:Rw w w.heap.size A r RA RC R):
 Calls Tryz.prog 133 #[.slice A r c] w (Zt R r m w):=by
 have HR:=aa hR
 clear hR
 go_enter Tryz.func133,Tryz.ntmps133
 go_wp2_with fail
 go_loopw [3,5,8] (fun ov _ iv wr=>(∃(k:Nat) (A':Option Addr) (c':Nat) (RA':Nat→Option Addr) (RC':Nat→Nat),k≤r∧iv= .int .i64 k∧ov= .slice A' k c'∧bO wr w.heap.size A' k c' m RA' RC' R)∧Below w.heap.size w wr) (fun _ _ iv _=>r-(intOf iv).toNat)
 case atStart=>exact⟨⟨0,none,0,fun _=>none,fun _=>0,agw _,rfl,rfl,QR _ _ _ _ _ _⟩,ac w⟩
 case round=>
  obtain⟨⟨k,A2,c2,Lv,Lu,hk,rfl,rfl,ho⟩,hbl⟩:=hrel
  obtain⟨wo,rfl⟩:∃wo:World,wo=wr:=⟨_,rfl⟩
  have Ho:=aa ho
  have Hb:=aa hbl
  clear ho hbl
  by_cases hlt:k<r
  ·obtain⟨b1,o1,rfl,hc⟩:=(h.below Hb.out).at_ hlt
   have dp:=((h.below Hb.out).more Hb.out.size).ints k hlt
   have Hl:Hid ((R k).length=m):=HR.out k hlt
   rw[Hl.out] at hc
   go_wp2_with fail
   (with_reducible refine(tH (R k) m Hl.out.symm (by omega) _ _ _ dp).mono ?_);rintro e w3 ⟨A3,c3,rfl,bF,b3⟩
   rw[Hl.out] at bF ⊢
   have Ho3:=aa bF
   have Ho4:=aa (Ho.out.below b3 (agl _))
   have X3:=aa (kK Hb.out b3)
   have af0:=b3.size
   have PF:=Hb.out.size
   have Hz:Hid (∀q,((Value.slice A2 k c2).ownBlock=some q∨∃i,i<k∧(Value.slice (Lv i) m (Lu i)).ownBlock=some q)→q<wo.heap.size):=fun q hq=>(Ho.out.lt q hq).2
   clear bF b3 Ho
   go_wp2_with (at_builtin;refine ac7 _ rfl (.tmp 12) (.tmp 15) rfl w.heap.size _ _ _ _ rfl (World.ownsRow.alloc Ho4.out.outer _) _ _ 1 (.slice A3 m c3) rfl (dN _ _ _) rfl (by omega) (by simp;omega) ?_;intro A5 c5 w5 bT EL Xl)
   have Ho5:=aa (bO.push (Z:=wo.heap.size) (Ho4.out.below (ak (ac w3) (.cells #[.slice A3 m c3] 39)) (agl _)) Hz.out (Ho3.out.alloc (.cells #[.slice A3 m c3] 39)) PF rfl bT EL Xl)
   have Hb5:Hid (Below w.heap.size w w5):=(ak X3.out (.cells #[.slice A3 m c3] 39)).grown EL (by simp;omega) fun q hq=>(agB Ho4.out.outer q hq).1
   clear bT EL Xl
   go_roundw
   case rel=>exact⟨⟨k+1,A5,c5,_,_,by omega,by go_num,rfl,Ho5.out⟩,Hb5.out⟩
   case measure=>simp[intOf];omega
  ·have e:k=r:=by omega
   subst e
   go_wp2_with fail
   go_ret
   exact⟨A2,c2,Lv,Lu,rfl,Ho.out,Hb.out⟩
set_option maxRecDepth 100000
def mN(xs ys:List Int)(k:Nat):List Int:=(List.range xs.length).map fun j=>if j<k then ix ys j else ix xs j
theorem gF(xs ys:List Int)(k:Nat):(mN xs ys k).length=xs.length:=by simp[mN]
theorem mM{xs ys:List Int}{k j:Nat}(h:j<xs.length):ix (mN xs ys k) j=if j<k then ix ys j else ix xs j:=by unfold mN;rw[eF _ _ _ h]
theorem MP{xs ys:List Int}{k:Nat}(h:∀j,j<k→j<xs.length→ix ys j=ix xs j):mN xs ys k=xs:=jO _ _ (gF ..) fun j hj=>by
 rw[gF] at hj
 rw[mM hj]
 split
 ·rename_i h';exact h j h' hj
 ·rfl
theorem IL(xs ys:List Int):mN xs ys 0=xs:=MP fun j hj=>by omega
theorem MR{xs ys:List Int}{k:Nat}(h:ys.length=xs.length)(hk:xs.length≤k):mN xs ys k=ys:=jO _ _ (by rw[gF,h]) fun j hj=>by rw[gF] at hj;rw[mM hj,if_pos (by omega)]
theorem MO{xs ys:List Int}{k:Nat}(h:k<xs.length):(mN xs ys k).set k (ix ys k)=mN xs ys (k+1):=by
 refine jO _ _ (by simp[gF]) fun j hj=> ?_
 have hj':j<xs.length:=by simpa [gF] using hj
 rw[sJ _ _ _ _ (by rw[gF];exact h),mM hj',mM hj']
 by_cases e:j=k
 ·subst e;simp
 ·rw[if_neg e]
  by_cases h':j<k
  ·rw[if_pos h',if_pos (by omega)]
  ·rw[if_neg h',if_neg (by omega)]
set_option maxRecDepth 100000
def uC(R:Nat→List Int)(t:Nat)(ys:List Int)(j:Nat):Nat→List Int:=fun q=>if q=t then mN (R t) ys j else R q
theorem zN(R:Nat→List Int)(t:Nat)(ys:List Int):uC R t ys 0=R:=by
 funext q
 unfold uC
 split
 ·rename_i h;subst h;rw[IL]
 ·rfl
theorem DY{R:Nat→List Int}{f t:Nat}{g sg:Int}{m:Nat}(ht:(R t).length=m)(hf:(R f).length=m):uC R t (dE (R t) (R f) g sg) m=oz R f t g sg:=by
 funext q
 unfold uC oz
 split
 ·rw[MR (by rw[pV,ht,hf]) (by omega)]
 ·rfl
theorem IM(R:Nat→List Int)(t:Nat)(ys:List Int)(j:Nat):uC R t ys j t=mN (R t) ys j:=by simp[uC]
theorem IP{R:Nat→List Int}{t q:Nat}{ys:List Int}{j:Nat}(h:q≠t):uC R t ys j q=R q:=by simp[uC,h]
theorem QZ{R:Nat→List Int}{t:Nat}{ys:List Int}{j:Nat}(h:j<(R t).length):(fun q=>if q=t then(uC R t ys j t).set j (ix ys j)else uC R t ys j q)=uC R t ys (j+1):=by
 funext q
 by_cases e:q=t
 ·subst e;rw[if_pos rfl,IM,IM,MO h]
 ·rw[if_neg e,IP e,IP e]
theorem aew{g x:Int}(h1: -1024≤g)(h2:g≤1024)(h3: -1073741824≤x)(h4:x<1073741824): -1099511627776≤g*x∧g*x≤1099511627776:=by
 have h5:(g*x).natAbs=g.natAbs*x.natAbs:=Int.natAbs_mul g x
 have h6:g.natAbs*x.natAbs≤1024*1073741824:=Nat.mul_le_mul (by omega) (by omega)
 omega
def ApQ(B:Nat)(A:Option Addr)(n c m:Nat)(RA:Nat→Option Addr)(RC:Nat→Nat)(R:Nat→List Int)(f t:Nat)(g sg:Int)(w:World)(e:Ending)(w':World):Prop:=
 e= .returned (.bool (ah (dE (R t) (R f) g sg)))∧(ah (dE (R t) (R f) g sg)=true→bO w' B A n c m RA RC (oz R f t g sg))∧Kp (fun q=>(Value.slice (RA t) m (RC t)).ownBlock=some q) w w'
theorem xY{w:World}{B n c m:Nat}{A:Option Addr}{RA:Nat→Option Addr}{RC:Nat→Nat}{R:Nat→List Int}(h:bO w B A n c m RA RC R)(hm:m≤10000)(hw:∀i,i<n→ah (R i)=true)(f t:Nat)(hf:f<n)(ht:t<n)(hft:f≠t)(g sg:Int)(g1: -1024≤g)(g2:g≤1024)(hsg:sg=1∨sg= -1)(n8:n≤1000)
 (fI tI:Int) (hfI:fI=(f:Int)) (htI:tI=(t:Int)):
 Calls Tryz.prog 134 #[.slice A n c,.agg #[.int .i64 fI,.int .i64 tI,.int .i64 g],.int .i64 sg] w (ApQ B A n c m RA RC R f t g sg w):=by
 subst hfI
 subst htI
 have HW:=aa hw
 obtain⟨ga,rfl,NQ,NP,cZ⟩:=h.addr (by omega)
 have UV:=aa (h.len hf)
 have Ss:=aa (h.len ht)
 obtain⟨ys,hys⟩:∃ys,ys=dE (R t) (R f) g sg:=⟨_,rfl⟩
 have Hys:=aa hys
 have hyl:Hid (ys.length=m):=by show _=_;rw[hys,pV,UV.out]
 have c1:=cZ f hf
 have c2:=cZ t ht
 have s1:(f:Int)<(n:Int):=by omega
 have s2:(t:Int)<(n:Int):=by omega
 have s3:(0:Int)≤(t:Int):=by omega
 have s4:(0:Int)≤(f:Int):=by omega
 have aff: -1≤sg:=by omega
 have afe:sg≤1:=by omega
 have Hsg:=aa hsg
 have H:=aa h
 have UR:Hid (∀q,(Value.slice (RA t) m (RC t)).ownBlock=some q→q≠ga∧q<w.heap.size):=fun q hq=>⟨fun e=>H.out.osep t ht ga rfl (by rw[←e];exact hq),(H.out.lt q (.inr ⟨t,ht,hq⟩)).2⟩
 clear hw hys h hsg cZ
 by_cases m0:m=0
 ·subst m0
  have hz:Hid (ys=[]):=List.eq_nil_of_length_eq_zero hyl.out
  have nz1:=World.new_ne w _ c1
  go_enter Tryz.func134,Tryz.ntmps134
  go_wp2_with fail
  go_loop [7,8,9,16] (fun _ _ _ iv=>iv= .int .i64 0) (fun _ _ _ _=>0)
  case atStart=>rfl
  case round=>
   subst hrel
   go_wp2_with fail
   go_ret
   unfold ApQ
   rw[←Hys.out,hz.out]
   refine⟨rfl,fun _=> ?_,(Kp.refl _ _).alloc _⟩
   have:=DY (R:=R) (f:=f) (t:=t) (g:=g) (sg:=sg) (m:=0) Ss.out UV.out
   rw[zN] at this
   rw[←this]
   exact H.out.below (ak (ac w) _) (agl _)
 ·have mp:0<m:=by omega
  obtain⟨gf,ef,afP,afO⟩:=eW (H.out.inner f hf) mp
  obtain⟨gt,et,afL,acB⟩:=eW (H.out.inner t ht) mp
  rw[ef] at c1
  rw[et] at c2
  have Ef:=aa ef
  have Et:=aa et
  have WQ:(Value.slice (RA t) m (RC t)).ownBlock=some gt:=by rw[et];rfl
  have acm:gt≠ga:=(UR.out gt WQ).1
  have aaq:gf≠gt:=fun e=>H.out.sep f t hf ht hft gf (by rw[ef];rfl) (by rw[e];exact WQ)
  have nz1:=World.new_ne w _ c1
  have nz2:=World.new_ne w _ c2
  have YX:=aa WQ
  clear ef et WQ m0
  go_enter Tryz.func134,Tryz.ntmps134
  go_wp2_with fail
  have Js:(w.alloc (.cells #[.int .i64 (f:Int),.int .i64 (t:Int),.int .i64 g] 227)).heap[w.heap.size]? =some (.cells #[.int .i64 (f:Int),.int .i64 (t:Int),.int .i64 g] 227 (0,0)):=ago w _
  have Hbx:=aa Js
  clear Js nz1 nz2
  go_loopw [7,8,9,16] (fun _ _ _ iv wi=>(∃j:Nat,j≤m∧iv= .int .i64 j∧bO wi B (some ⟨ga,0,none⟩) n c m RA RC (uC R t ys j)∧∀i,i<j→aX (ix ys i)=true)∧Kp (fun q=>q=gt) w wi∧wi.heap[w.heap.size]? =some (.cells #[.int .i64 (f:Int),.int .i64 (t:Int),.int .i64 g] 227 (0,0))) (fun _ _ _ iv _=>m-(intOf iv).toNat)
  case atStart=>exact⟨⟨0,agw _,rfl,by rw[zN];exact H.out.below (ak (ac w) _) (agl _),fun i hi=>absurd hi (by omega)⟩,(Kp.refl _ _).alloc _,Hbx.out⟩
  case round=>
   obtain⟨⟨j,hj,rfl,ho,hw2⟩,hkp,Js⟩:=hrel
   obtain⟨wi,rfl⟩:∃wi:World,wi=wr:=⟨_,rfl⟩
   have Ho:=aa ho
   have Va:=aa hw2
   have Hkp:=aa hkp
   have Hb:=aa Js
   clear ho hw2 hkp Js
   by_cases hlt:j<m
   ·have x0:=agu wi w.heap.size 0 _ _ _ Hb.out
    have x1:=agu wi w.heap.size 1 _ _ _ Hb.out
    have x2:=agu wi w.heap.size 2 _ _ _ Hb.out
    simp only[List.getElem?_toArray,List.getElem?_cons_zero,List.getElem?_cons_succ] at x0 x1 x2
    obtain⟨_,acH,_,_,qP⟩:=Ho.out.addr (by omega)
    simp only[Option.some.injEq,Addr.mk.injEq,and_true] at acH
    subst acH
    have d2:=qP t ht
    rw[Et.out] at d2
    have e1:=Ho.out.inner f hf
    have e2:=Ho.out.inner t ht
    rw[Ef.out,IP hft] at e1
    rw[Et.out,IM] at e2
    have d3:=ki e1 hlt
    have d4:=ki e2 hlt
    rw[mM (by rw[Ss.out];exact hlt),if_neg (by omega)] at d4
    have d5:=World.ownsRow.frozenAt e2 j
    have hx:=cX.1 (aZ.1 (HW.out f hf) j (by rw[UV.out];exact hlt))
    have hy:=cX.1 (aZ.1 (HW.out t ht) j (by rw[Ss.out];exact hlt))
    obtain⟨x,WE⟩:∃x,x=ix (R f) j:=⟨_,rfl⟩
    obtain⟨y,hyy⟩:∃y,y=ix (R t) j:=⟨_,rfl⟩
    rw[←WE] at d3 hx
    rw[←hyy] at d4 hy
    obtain⟨z,hz⟩:∃z,z=ix ys j:=⟨_,rfl⟩
    have Hz:=aa hz
    obtain⟨gb1,gb2⟩:=aew g1 g2 hx.1 hx.2
    have hz2:z=y+sg*(g*x/256):=by rw[hz,Hys.out,OS (by rw[UV.out];exact hlt),WE,hyy]
    have t1:IntKind.i64.wrap (g*x)=g*x:=agp _ (by omega)
    have hq: -4294967296≤g*x/256∧g*x/256≤4294967296:=by omega
    have yJ: -4294967296≤sg*(g*x/256)∧sg*(g*x/256)≤4294967296:=by
     rcases Hsg.out with e | e <;> (rw[e];omega)
    have t2:IntKind.i64.wrap (sg*(g*x/256))=sg*(g*x/256):=agp _ (by omega)
    have t3:IntKind.i64.wrap (y+sg*(g*x/256))=z:=by rw[hz2];exact agp _ (by omega)
    have s5:(0:Int)≤(j:Int):=by omega
    have s6:(j:Int)<(m:Int):=by omega
    have T1:=aa t1
    have T2:=aa t2
    have T3:=aa t3
    clear hx hy WE hyy hz hz2 hq yJ gb1 gb2 e1 e2 qP t1 t2 t3
    go_wp2_with fail
    have t1:=T1.out
    have t2:=T2.out
    have t3:=T3.out
    go_quiet (fail)
    clear t1 t2 t3
    go_wp2_with fail
    (with_reducible refine(rS _ _).mono ?_);rintro e w' ⟨rfl,rfl⟩
    cases Ja:aX z with
    |false=>
     have hno:Hid (ah ys=false):=eB (by rw[hyl.out];exact hlt) (by rw[←Hz.out];exact Ja)
     have Zc:=aa Ja
     clear Ja
     go_wp2_with fail
     go_ret
     unfold ApQ
     rw[←Hys.out,hno.out]
     exact⟨rfl,(fun h=>by cases h),(Hkp.out.drewN _).mono fun q hq=>by rw[hq];exact YX.out⟩
    |true=>
     have Zc:=aa Ja
     clear Ja
     have hms:=aa (QZ (R:=R) (t:=t) (ys:=ys) (j:=j) (by rw[Ss.out];exact hlt))
     go_wp2_with fail
     go_roundw
     case rel=>
      refine⟨⟨j+1,by omega,by go_num, ?_,fun i hi=> ?_⟩,(Hkp.out.drewN _).set_ (p:=⟨gt,j,none⟩) rfl _, ?_⟩
      ·rw[←hms.out,←Hz.out]
       exact(Ho.out.drewN nq).set_ ht Et.out j z
      ·by_cases e:i=j
       ·subst e;rw[←Hz.out];exact Zc.out
       ·exact Va.out i (by omega)
      ·exact(agr _ _ _ _ (by simp;omega)).trans Hb.out
     case measure=>simp[intOf];omega
   ·have e:j=m:=by omega
    subst e
    have hall:Hid (ah ys=true):=aZ.2 fun i hi=>Va.out i (by rw[←hyl.out];exact hi)
    have sN:=DY (R:=R) (f:=f) (t:=t) (g:=g) (sg:=sg) (m:=j) Ss.out UV.out
    rw[←Hys.out] at sN
    have aeF:=aa sN
    clear sN
    go_wp2_with fail
    go_ret
    unfold ApQ
    rw[←Hys.out,hall.out]
    exact⟨rfl,fun _=>by rw[←aeF.out];exact Ho.out,Hkp.out.mono fun q hq=>by rw[hq];exact YX.out⟩
set_option maxRecDepth 100000
set_option maxRecDepth 100000
def Zp(x:Except Int (Nat→List Int))(r m:Nat)(w:World)(e:Ending)(w':World):Prop:=
 (match x with | .error c=>e= .returned (.tuple #[.slice none 0 0,.int .i64 c]) | .ok Q=>∃A c RA RC,e= .returned (.tuple #[.slice A r c,.int .i64 0])∧bO w' w.heap.size A r c m RA RC Q)∧Below w.heap.size w w'
theorem sX{x:Except Int (Nat→List Int)}{c:Int}{r m:Nat}{w w':World}(hx:x= .error c)(h:Below w.heap.size w w'):Zp x r m w (.returned (.tuple #[.slice none 0 0,.int .i64 c])) w':=by
 subst hx;exact⟨rfl,h⟩
theorem Y2{x:Except Int (Nat→List Int)}{Q:Nat→List Int}{r m:Nat}{w w':World}{A:Option Addr}{c:Nat}{RA:Nat→Option Addr}{RC:Nat→Nat}(hx:x= .ok Q)(ho:bO w' w.heap.size A r c m RA RC Q)(h:Below w.heap.size w w'):Zp x r m w (.returned (.tuple #[.slice A r c,.int .i64 0])) w':=by
 subst hx;exact⟨⟨A,c,RA,RC,rfl,ho⟩,h⟩
theorem Th{sg:Int}{R:Nat→List Int}{s:fF}{ss:List fF}(h:ah (dE (R s.2.1.toNat) (R s.1.toNat) s.2.2 sg)=false):qU sg R (s :: ss)=none:=by rw[qT,if_neg (by rw[h];simp)]
theorem Tf{sg:Int}{R:Nat→List Int}{s:fF}{ss:List fF}(h:ah (dE (R s.2.1.toNat) (R s.1.toNat) s.2.2 sg)=true):qU sg R (s :: ss)=qU sg (oz R s.1.toNat s.2.1.toNat s.2.2 sg) ss:=by rw[qT,if_pos h]
theorem BN{R:Nat→List Int}{r m i:Nat}(h:Y8 R r m)(hi:i<r):(R i).length=m∧ah (R i)=true:=h i hi
theorem TV{B n c m:Nat}{A:Option Addr}{RA:Nat→Option Addr}{RC:Nat→Nat}{R Q:Nat→List Int}{w w0 w':World}(ho:bO w B A n c m RA RC R){t:Nat}(ht:t<n)(hk:Kp (fun q=>(Value.slice (RA t) m (RC t)).ownBlock=some q) w w')(hb:Below B w0 w)(hB:B≤w.heap.size):Below B w0 w':=
 hb.trans (hk.below (fun q hq=>(ho.lt q (.inr ⟨t,ht,hq⟩)).1) hB)
theorem XE(R:Nat→List Int)(r:Nat)(hr1:r≤1000)(hR:∀i,i<r→(R i).length≤100000)(RA:Nat→Option Addr)(RC:Nat→Nat)(ls:List fF)(n:Nat)(hn:n=ls.length)(hm:n≤9223372036854775807)(A B:Option Addr)(c d:Nat)(w:World)(h:Rw w w.heap.size A r RA RC R)(hs:im w w.heap.size B ls):
 Calls Tryz.prog 92 #[.slice A r c,.slice B n d] w (Zp (CY (1) R r ls) r (R 0).length w):=by
 have Hn:=aa hn
 clear hn
 have HR:=aa hR
 clear hR
 cases hrow:eU R r with
 |false=>
  have hr:=aa (Fs (sg:=1) (ls:=ls) hrow)
  have lD:=aa hrow
  clear hrow
  go_enter Tryz.func92,Tryz.ntmps92
  go_wp2_with fail
  (with_reducible refine(iN R r hr1 HR.out RA RC _ _ _ _ h).mono ?_);rintro e w' ⟨rfl,rfl⟩
  rw[lD.out]
  go_wp2_with fail
  go_ret2
  exact sX hr.out (ac w)
 |true=>
  cases hl:eX ls (r:Int)with
  |false=>
   have hr:=aa (Li (sg:=1) hrow hl)
   have lD:=aa hrow
   have Hl:=aa hl
   clear hrow hl
   go_enter Tryz.func92,Tryz.ntmps92
   go_wp2_with fail
   (with_reducible refine(iN R r hr1 HR.out RA RC _ _ _ _ h).mono ?_);rintro e w' ⟨rfl,rfl⟩
   rw[lD.out]
   go_wp2_with fail
   (with_reducible refine(mO ls n Hn.out hm _ _ _ _ hs).mono ?_);rintro e w6 ⟨rfl,b6⟩
   rw[Hl.out]
   go_wp2_with fail
   go_ret2
   exact sX hr.out b6
  |true=>
   have lD:=aa hrow
   have Hl:=aa hl
   have hlv:=aa (Rb hrow)
   have hlm:=aa (Nk hl)
   have vo:=(fl.1 hrow).2.1
   have Sp:=(fl.1 hrow).2.2.1
   have n16:n≤16:=by rw[Hn.out];exact(gI.1 hl).2.2.1
   have hlk:=aa (gI.1 hl).2.2.2
   obtain⟨m,yL⟩:∃m,m=(R 0).length:=⟨_,rfl⟩
   rw[←yL] at hlv Sp ⊢
   clear hrow hl yL
   go_enter Tryz.func92,Tryz.ntmps92
   go_wp2_with fail
   (with_reducible refine(iN R r hr1 HR.out RA RC _ _ _ _ h).mono ?_);rintro e w' ⟨rfl,rfl⟩
   rw[lD.out]
   go_wp2_with fail
   (with_reducible refine(mO ls n Hn.out hm _ _ _ _ hs).mono ?_);rintro e w6 ⟨rfl,b6⟩
   rw[Hl.out]
   go_wp2_with fail
   (with_reducible refine(un R r m (by omega) (by omega) (fun i hi=>(BN hlv.out hi).1) RA RC _ _ _ ((h.below b6).more b6.size)).mono ?_);rintro e w7 ⟨A7,c7,RA7,RC7,rfl,fQ,b7⟩
   have Ho7:=aa (fQ.base b6.size)
   have B7:=aa (kK b6 b7)
   have hs6:=b6.size
   clear fQ b7 b6
   go_wp2_with fail
   go_loopw [8,23] (fun _ iv wr=>(∃(t:Nat) (Q:Nat→List Int),t≤n∧iv= .int .i64 t∧bO wr w.heap.size A7 r c7 m RA7 RC7 Q∧Y8 Q r m∧qU (1) Q (ls.drop t)=qU (1) R ls)∧Below w.heap.size w wr) (fun _ iv _=>n-(intOf iv).toNat)
   case atStart=>exact⟨⟨0,R,agw _,by go_num,Ho7.out,hlv.out,rfl⟩,B7.out⟩
   case round=>
    obtain⟨⟨t,Q,ht,rfl,ho,hq,hre⟩,hbl⟩:=hrel
    obtain⟨wi,rfl⟩:∃wi:World,wi=wr:=⟨_,rfl⟩
    have Ho:=aa ho
    have Hq:=aa hq
    have Hre:=aa hre
    have Hb:=aa hbl
    clear ho hq hre hbl
    by_cases hlt:t<n
    ·obtain⟨q,hqq⟩:∃q:Nat,q=t:=⟨_,rfl⟩
     subst hqq
     have hql:q<ls.length:=by rw[←Hn.out];exact hlt
     have hqn:q<n:=hlt
     have hdr:=aa (Tq (ls:=ls) (k:=q) hql)
     have dU:=jD.1 (hlk.out q hql)
     obtain⟨f,hf⟩:∃f:Nat,f=(tV ls q).toNat:=⟨_,rfl⟩
     obtain⟨u,hu⟩:∃u:Nat,u=(tT ls q).toNat:=⟨_,rfl⟩
     have hfI:tV ls q=(f:Int):=by omega
     have huI:tT ls q=(u:Int):=by omega
     obtain⟨g,hg⟩:∃g,g=vn ls q:=⟨_,rfl⟩
     obtain⟨b1,o1,rfl,hc1,hc2,hc3⟩:=(hs.below Hb.out).at_ hql
     rw[hfI] at hc1
     rw[huI] at hc2
     rw[←hg] at hc3
     have nz1:=World.new_ne wi _ hc1
     have nz2:=World.new_ne wi _ hc2
     have nz3:=World.new_ne wi _ hc3
     obtain⟨k1,k2,k3,k4,k5,k6,k7⟩:=dU
     have hf8:f<r:=by omega
     have hu8:u<r:=by omega
     have hfu:f≠u:=by omega
     rw[←hg] at k6 k7
     obtain⟨yw,Ja⟩:∃yw,yw=ah (dE (Q u) (Q f) g (1)):=⟨_,rfl⟩
     have hstep:Hid (qU (1) R ls=if yw=true then qU (1) (oz Q f u g (1)) (ls.drop (q+1))else none):=by
      show _=_
      rw[←Hre.out,hdr.out,Ja,hf,hu,hg]
      cases hy:ah (dE (Q (tT ls q).toNat) (Q (tV ls q).toNat) (vn ls q) (1))with
      |true=>rw[if_pos rfl];exact Tf hy
      |false=>rw[if_neg (by simp)];exact Th hy
     have Zc:=aa Ja
     clear hf hu hg hfI huI k1 k2 k3 k4 k5 Ja
     go_wp2_with fail
     (with_reducible refine(xY (Ho.out.below (ak (ac wi) _) (agl _)) (by omega) (fun i hi=>(BN Hq.out hi).2) f u hf8 hu8 hfu g (1) k6 k7 (by decide) (by omega) (f:Int) (u:Int) rfl rfl).mono ?_);rintro e w8 ⟨rfl,mj,YJ⟩
     have hb8:=aa (TV (Q:=Q) (Ho.out.below (ak (ac wi) _) (agl _)) hu8 YJ (Hb.out.alloc Hb.out.size _) (by have:=Hb.out.size;simp;omega))
     rw[←Zc.out] at mj ⊢
     have Ho8:=aa mj
     clear mj YJ
     cases yw with
     |false=>
      have hr:Hid (CY (1) R r ls= .error 6):=Fu lD.out Hl.out (by show qU (1) R ls=none;rw[hstep.out];rfl)
      go_wp2_with fail
      go_ret2
      exact sX hr.out hb8.out
     |true=>
      go_wp2_with fail
      go_roundw
      case rel=>
       refine⟨⟨q+1,oz Q f u g (1),by omega,by go_num,Ho8.out (by simp),Hq.out.app hf8 Zc.out.symm, ?_⟩,hb8.out⟩
       rw[hstep.out];simp
      case measure=>simp[intOf];omega
    ·have e:t=n:=by omega
     subst e
     have hgo:Hid (qU (1) R ls=some Q):=by
      show _=_
      rw[←Hre.out,List.drop_of_length_le (by rw[Hn.out];simp)];rfl
     go_wp2_with fail
     go_ret2
     exact Y2 (Fr lD.out Hl.out hgo.out) Ho.out Hb.out
end
end Go.Proofs.YtbhfpehgacaidaaGreatDoor
