/- A part of the proof of the given statement TopRight. Conditions: none. -/
import Derived.Shelf.SlSortCmp.PdqK
import Derived.Test.YtbhfpehgacaidaaGreatDoorQAA
namespace Go.Proofs.YtbhfpehgacaidaaGreatDoor
set_option linter.unusedVariables false
set_option linter.unusedSimpArgs false
set_option maxRecDepth 100000
set_option maxHeartbeats 8000000
section
open Go.Sort
variable {α : Type} [Inhabited α]
def jz(d:Array α)(a b:Nat):Nat→Array α
 |0=>d
 |n+1=>swp (jz d a b n) (a+n) (b+n)
def qu:Nat→Array α→Nat→Nat→Nat→Array α
 |0,d,_,_,_=>d
 |f+1,d,m,i,j=>if i=j then jz d (m-i) m i else if j<i then qu f (jz d (m-i) m j) m (i-j) j else qu f (jz d (m-i) (m+j-i) i) m i (j-i)
def ww(d:Array α)(a m b:Nat):Array α:=qu (b-a) d m (m-a) (b-m)
def lA(p:Nat→Bool):Nat→Nat→Nat→Nat
 |0,i,_=>i
 |f+1,i,j=>if i<j then(if p ((i+j)/2)then lA p f ((i+j)/2+1) j else lA p f i ((i+j)/2))else i
def Yi:Nat→Array α→Nat→Array α
 |0,d,_=>d
 |n+1,d,k=>Yi n (swp d k (k+1)) (k+1)
def Yj:Nat→Array α→Nat→Array α
 |0,d,_=>d
 |n+1,d,k=>Yj n (swp d k (k-1)) (k-1)
section
variable (lt : α → α → Bool)
def oV(d:Array α)(a m b:Nat):Nat:=
 let mid:=(a+b)/2
 let n:=mid+m
 if mid<m then lA (fun c=> !lt d[n-1-c]! d[c]!) (b-a) (n-b) mid else lA (fun c=> !lt d[n-1-c]! d[c]!) (b-a) a m
def fV:Nat→Array α→Nat→Nat→Nat→Array α
 |0,d,_,_,_=>d
 |f+1,d,a,m,b=>
  if m-a=1 then Yi (lA (fun h=>lt d[h]! d[a]!) (b-m) m b-1-a) d a
  else if b-m=1 then Yj (m-lA (fun h=> !lt d[m]! d[h]!) (m-a) a m) d m
  else
   let mid:=(a+b)/2
   let s:=oV lt d a m b
   let e:=mid+m-s
   let d1:=if s<m∧m<e then ww d s m e else d
   let d2:=if a<s∧s<mid then fV f d1 a s mid else d1
   if mid<e∧e<b then fV f d2 mid e b else d2
def uF:Nat→Array α→Nat→Nat→Nat→Array α
 |0,d,a,_,n=>insertionSort lt d a n
 |f+1,d,a,b,n=>if b≤n then uF f (insertionSort lt d a b) b (b+20) n else insertionSort lt d a n
def sB:Nat→Array α→Nat→Nat→Nat→Nat→Array α
 |0,d,_,_,_,_=>d
 |f+1,d,a,b,bs,n=>if b≤n then sB f (fV lt (b-a) d a (a+bs) b) b (b+2*bs) bs n else if a+bs<n then fV lt (n-a) d a (a+bs) n else d
def lH:Nat→Array α→Nat→Nat→Array α
 |0,d,_,_=>d
 |f+1,d,bs,n=>if bs<n then lH f (sB lt n d 0 (2*bs) bs n) (2*bs) n else d
def stabP(d:Array α):Array α:=lH lt d.size (uF lt d.size d 0 20 d.size) 20 d.size
end
def gM(d d':Array α):Prop:=PermIn 0 d.size d d'
theorem gM.refl(d:Array α):gM d d:=permIn_refl d 0 d.size
theorem gM.trans{d d' d'':Array α}(h:gM d d')(h':gM d' d''):gM d d'':=by
 have:=h.1
 unfold gM at h'
 rw[this] at h'
 exact permIn_trans d d' d'' 0 d.size h h'
theorem qA(d:Array α){i j:Nat}(hi:i<d.size)(hj:j<d.size):gM d (swp d i j):=swp_permIn d 0 d.size i j (agw _) hi (agw _) hj (agl _)
theorem gM.size{d d':Array α}(h:gM d d'):d'.size=d.size:=h.1
theorem gz(d:Array α){a b:Nat}:∀n,a+n≤d.size→b+n≤d.size→gM d (jz d a b n)
 |0,_,_=>gM.refl d
 |n+1,h1,h2=>by
  have ih:=gz d (a:=a) (b:=b) n (by omega) (by omega)
  exact ih.trans (qA _ (by rw[ih.size];omega) (by rw[ih.size];omega))
theorem wE:∀(f:Nat) (d:Array α) (m i j:Nat),i≤m→m+j≤d.size→gM d (qu f d m i j)
 |0,d,m,i,j,_,_=>gM.refl d
 |f+1,d,m,i,j,h1,h2=>by
  unfold qu
  split
  ·exact gz d _ (by omega) (by omega)
  ·split
   ·have h3:=gz d (a:=m-i) (b:=m) j (by omega) (by omega)
    exact h3.trans (wE f _ m _ _ (by omega) (by rw[h3.size];omega))
   ·have h3:=gz d (a:=m-i) (b:=m+j-i) i (by omega) (by omega)
    exact h3.trans (wE f _ m _ _ (by omega) (by rw[h3.size];omega))
theorem wD(d:Array α){a m b:Nat}(h1:a≤m)(h2:m≤b)(h3:b≤d.size):gM d (ww d a m b):=wE _ d m _ _ (by omega) (by omega)
theorem nt(p:Nat→Bool):∀(f i j:Nat),i≤j→i≤lA p f i j∧lA p f i j≤j
 |0,i,j,h=>⟨agl _,h⟩
 |f+1,i,j,h=>by
  unfold lA
  split
  ·split
   ·have:=nt p f ((i+j)/2+1) j (by omega)
    omega
   ·have:=nt p f i ((i+j)/2) (by omega)
    omega
  ·exact⟨agl _,h⟩
theorem tk{p:Nat→Bool}{f i j:Nat}(h:i<j):lA p (f+1) i j=if p ((i+j)/2)then lA p f ((i+j)/2+1) j else lA p f i ((i+j)/2):=by rw[lA,if_pos h]
theorem fe{p:Nat→Bool}{f i j:Nat}(h:¬i<j):lA p f i j=i:=by
 cases f with
 |zero=>rfl
 |succ f=>rw[lA,if_neg h]
theorem rj(p:Nat→Bool):∀(f f' i j:Nat),j-i≤f→j-i≤f'→lA p f i j=lA p f' i j
 |0,f',i,j,h,h'=>by rw[fe (by omega),fe (by omega)]
 |f+1,0,i,j,h,h'=>by rw[fe (by omega),fe (by omega)]
 |f+1,f'+1,i,j,h,h'=>by
  by_cases uM:i<j
  ·rw[tk uM,tk uM]
   split
   ·exact rj p f f' _ _ (by omega) (by omega)
   ·exact rj p f f' _ _ (by omega) (by omega)
  ·rw[fe uM,fe uM]
theorem Kr:∀(n:Nat) (d:Array α) (k:Nat),k+n<d.size→gM d (Yi n d k)
 |0,d,k,_=>gM.refl d
 |n+1,d,k,h=>by
  have h1:=qA d (i:=k) (j:=k+1) (by omega) (by omega)
  exact h1.trans (Kr n _ (k+1) (by rw[h1.size];omega))
theorem Ks:∀(n:Nat) (d:Array α) (k:Nat),n≤k→k<d.size→gM d (Yj n d k)
 |0,d,k,_,_=>gM.refl d
 |n+1,d,k,h,h'=>by
  have h1:=qA d (i:=k) (j:=k-1) (by omega) (by omega)
  exact h1.trans (Ks n _ (k-1) (by omega) (by rw[h1.size];omega))
section
variable {lt : α → α → Bool}
theorem Bk{d:Array α}{a m b:Nat}(h1:a<m)(h2:m<b):a≤oV lt d a m b∧oV lt d a m b≤(a+b)/2∧oV lt d a m b≤m∧(a+b)/2+m-b≤oV lt d a m b:=by
 unfold oV
 dsimp only
 split
 ·have:=nt (fun c=> !lt d[(a+b)/2+m-1-c]! d[c]!) (b-a) ((a+b)/2+m-b) ((a+b)/2) (by omega)
  omega
 ·have:=nt (fun c=> !lt d[(a+b)/2+m-1-c]! d[c]!) (b-a) a m (by omega)
  omega
theorem ja:∀(f:Nat) (d:Array α) (a m b:Nat),a<m→m<b→b≤d.size→gM d (fV lt f d a m b)
 |0,d,_,_,_,_,_,_=>gM.refl d
 |f+1,d,a,m,b,h1,h2,h3=>by
  unfold fV
  split
  ·have:=nt (fun h=>lt d[h]! d[a]!) (b-m) m b (by omega)
   exact Kr _ _ _ (by omega)
  ·split
   ·have:=nt (fun h=> !lt d[m]! d[h]!) (m-a) a m (by omega)
    exact Ks _ _ _ (by omega) (by omega)
   ·have hs:=Bk (lt:=lt) (d:=d) h1 h2
    dsimp only
    generalize oV lt d a m b=s at*
    have q1:gM d (if s<m∧m<(a+b)/2+m-s then ww d s m ((a+b)/2+m-s)else d):=by
     split
     ·exact wD d (by omega) (by omega) (by omega)
     ·exact gM.refl d
    generalize (if s<m∧m<(a+b)/2+m-s then ww d s m ((a+b)/2+m-s)else d)=d1 at*
    have q2:gM d (if a<s∧s<(a+b)/2 then fV lt f d1 a s ((a+b)/2)else d1):=by
     split
     ·exact q1.trans (ja f d1 a s _ (by omega) (by omega) (by rw[q1.size];omega))
     ·exact q1
    generalize (if a<s∧s<(a+b)/2 then fV lt f d1 a s ((a+b)/2)else d1)=d2 at*
    split
    ·exact q2.trans (ja f d2 _ _ b (by omega) (by omega) (by rw[q2.size];omega))
    ·exact q2
theorem uY(hO:SWO lt)(d:Array α){a b:Nat}(h1:a≤b)(h2:b≤d.size):gM d (insertionSort lt d a b):=
 permIn_mono d _ a b 0 d.size (agw _) h2 (agl _) (insertionSort_holds hO d a b h1 h2).1
theorem wG(hO:SWO lt):∀(f:Nat) (d:Array α) (a b n:Nat),a≤b→a≤n→n≤d.size→gM d (uF lt f d a b n)
 |0,d,a,b,n,h1,h2,h3=>uY hO d h2 h3
 |f+1,d,a,b,n,h1,h2,h3=>by
  unfold uF
  split
  ·have h4:=uY hO d h1 (b:=b) (by omega)
   exact h4.trans (wG hO f _ b _ n (by omega) (by omega) (by rw[h4.size];exact h3))
  ·exact uY hO d h2 h3
theorem wF:∀(f:Nat) (d:Array α) (a b bs n:Nat),0<bs→b=a+2*bs→n≤d.size→gM d (sB lt f d a b bs n)
 |0,d,a,b,bs,n,_,_,_=>gM.refl d
 |f+1,d,a,b,bs,n,h1,h2,h3=>by
  unfold sB
  split
  ·have h4:=ja (lt:=lt) (b-a) d a (a+bs) b (by omega) (by omega) (by omega)
   exact h4.trans (wF f _ b _ bs n h1 rfl (by rw[h4.size];exact h3))
  ·split
   ·exact ja _ _ _ _ _ (by omega) (by omega) h3
   ·exact gM.refl d
theorem zD:∀(f:Nat) (d:Array α) (bs n:Nat),0<bs→n≤d.size→gM d (lH lt f d bs n)
 |0,d,bs,n,_,_=>gM.refl d
 |f+1,d,bs,n,h1,h2=>by
  unfold lH
  split
  ·have h4:=wF (lt:=lt) n d 0 (2*bs) bs n h1 (by omega) h2
   exact h4.trans (zD f _ _ n (by omega) (by rw[h4.size];exact h2))
  ·exact gM.refl d
theorem sf(hO:SWO lt)(d:Array α):gM d (stabP lt d):=by
 have h1:=wG (lt:=lt) hO d.size d 0 20 d.size (by omega) (by omega) (agl _)
 exact h1.trans (zD _ _ _ _ (by omega) (by rw[h1.size];exact agl _))
end
end
section
open Go.Lib Go.RowKit Go.Shelf Go.Sort
structure rC (P:Program) (k:Nat):Prop where
 mixed:P.follows .mixedOrders=true
 fSw:P.funcs[259]? =some Tryz.f259
 fRo:P.funcs[217]? =some Tryz.f217
 fSy:P.funcs[175]? =some Tryz.f175
 fSt:P.funcs[127]? =some Tryz.f127
 fTop:P.funcs[80]? =some Tryz.f80
 t0:P.underlying 0=some (TypeDesc.tuple #[])
 a0:∀w,(isAgg 0).run P w= .ok false w
 z0:∀w,(Go.sizeOf 0).run P w= .ok 1 w
 v0:∀w,(zeroValue 0).run P w= .ok (Value.tuple #[]) w
 t3:P.underlying 3=some (TypeDesc.int IntKind.i64)
 a3:∀w,(isAgg 3).run P w= .ok false w
 z3:∀w,(Go.sizeOf 3).run P w= .ok 1 w
 v3:∀w,(zeroValue 3).run P w= .ok (Value.int IntKind.i64 0) w
 t4:P.underlying 4=some (TypeDesc.bool)
 a4:∀w,(isAgg 4).run P w= .ok false w
 z4:∀w,(Go.sizeOf 4).run P w= .ok 1 w
 v4:∀w,(zeroValue 4).run P w= .ok (Value.bool false) w
 tU:P.underlying 140=some (TypeDesc.int IntKind.u64)
 aU:∀w,(isAgg 140).run P w= .ok false w
 zU:∀w,(Go.sizeOf 140).run P w= .ok 1 w
 vU:∀w,(zeroValue 140).run P w= .ok (Value.int IntKind.u64 0) w
 tR:P.underlying 44=some (TypeDesc.slice 52)
 aR:∀w,(isAgg 44).run P w= .ok false w
 zR:∀w,(Go.sizeOf 44).run P w= .ok 1 w
 vR:∀w,(zeroValue 44).run P w= .ok (Value.slice none 0 0) w
 tF:P.underlying 158=some (TypeDesc.func #[52,52] #[3] false)
 aF:∀w,(isAgg 158).run P w= .ok false w
 zF:∀w,(Go.sizeOf 158).run P w= .ok 1 w
 vF:∀w,(zeroValue 158).run P w= .ok (Value.nilFunc) w
 aE:∀w,(isAgg 52).run P w= .ok true w
 zE:∀w,(Go.sizeOf 52).run P w= .ok k w
variable {P : Program} {α : Type} [Inhabited α] {k : Nat}
theorem LP(L:rC P k)(enc:α→List Value)(g:Nat)(blk off cap a b n:Nat)(d0 d:Array α)(w0 w:World)
 (R:RowK enc k w0 blk off d0) (hs:d0.size=d.size) (S:SWK enc k w0 blk off d w) (ha:a+n≤d.size) (hb:b+n≤d.size) (hsz:d.size<4611686018427387904):
 Calls P 259 #[.slice (some ⟨blk,off,none⟩) d.size cap,.int .i64 a,.int .i64 b,.int .i64 n,.func (.func g) #[] #[]] w fun e w'=>e= .returned (.tuple #[])∧SWK enc k w0 blk off (jz d a b n) w':=by
 have mixed:=L.mixed;have t0:=L.t0;have a0:=L.a0;have z0:=L.z0;have v0:=L.v0;have t3:=L.t3;have a3:=L.a3;have z3:=L.z3;have v3:=L.v3;have t4:=L.t4;have a4:=L.a4;have z4:=L.z4;have v4:=L.v4;have t22:=L.tR;have a22:=L.aR;have z22:=L.zR;have v22:=L.vR;have t25:=L.tF;have a25:=L.aF;have z25:=L.zF;have v25:=L.vF;have aE:=L.aE;have zE:=L.zE
 have S0:Aside (SWK enc k w0 blk off d w):=S
 clear S
 go_enter L.fSw,Tryz.ntmps259
 go_wp2
 go_loopg [10] n (fun g1 vi wr=>∃i:Nat,vi= .int .i64 i∧i≤n∧n-i≤g1∧Aside (SWK enc k w0 blk off (jz d a b i) wr))
 case atStart=>exact⟨0,by go_num,agw _,by omega,S0⟩
 case round=>
  clear S0
  obtain⟨i,rfl,hi,hg,S1⟩:=hrel
  by_cases hlt:i<n
  ·have xv:(i:Int)<(n:Int):=by omega
   have yr:=(gz d (a:=a) (b:=b) i (by omega) (by omega)).size
   have l8:jz d a b (i+1)=swp (jz d a b i) (a+i) (b+i):=rfl
   generalize jz d a b i=dk at*
   have HNX:=aa l8
   clear l8
   go_wp2_with fail
   have ra1:IntKind.i64.wrap ((a:Int)+(i:Int))=((a+i:Nat):Int):=by rw[agD];omega
   have rb1:IntKind.i64.wrap ((b:Int)+(i:Int))=((b+i:Nat):Int):=by rw[agD];omega
   obtain⟨x,hx⟩:∃x,x=a+i:=⟨_,rfl⟩
   obtain⟨y,hy⟩:∃y,y=b+i:=⟨_,rfl⟩
   rw[←hx] at ra1
   rw[←hy] at rb1
   have age:((x:Int)).toNat=x:=by omega
   have ae4:(0:Int)≤(x:Int):=by omega
   have agh:(x:Int)<(d.size:Int):=by omega
   have agd:((y:Int)).toNat=y:=by omega
   have ae3:(0:Int)≤(y:Int):=by omega
   have agf:(y:Int)<(d.size:Int):=by omega
   have S2:Aside (SWK enc k w0 blk off (swp dk x y) ((wr.drew.setCells blk (off+x*k) (enc dk[y]!)).setCells blk (off+y*k) (enc dk[x]!))):=S1.out.swapped R x y (by omega) (by omega)
   have abU:=S1.out.ld1 R (by omega) P x (by omega)
   have abT:=S1.out.ld1 R (by omega) P y (by omega)
   have abM:=S1.out.st1 R (by omega) P x (by omega) dk[y]!
   have Zz:=S1.out.st2 R (by omega) P x y (by omega) (by omega) dk[y]! dk[x]!
   have adC:(enc dk[x]!).length=k:=R.hk _
   have adB:(enc dk[y]!).length=k:=R.hk _
   generalize enc dk[x]! =aez at S2 abU Zz adC
   generalize enc dk[y]! =aey at S2 abT abM Zz adB
   have HX:=aa hx
   have HY:=aa hy
   clear S1 hx hy
   go_big_region_o
   clear abU abT abM Zz
   generalize (wr.drew.setCells blk (off+x*k) aey).setCells blk (off+y*k) aez=w2 at S2 ⊢
   go_wp2
   go_roundg (n-(i+1))
   case measure=>omega
   case rel=>
    refine⟨i+1,by go_num,by omega,agl _, ?_⟩
    rw[HNX.out,←HX.out,←HY.out]
    exact S2
  ·obtain rfl:i=n:=by omega
   have xv:¬(i:Int)<(i:Int):=by omega
   go_wp2
   go_end0
   exact⟨rfl,S1.out⟩
theorem Ko(L:rC P k)(enc:α→List Value)(g:Nat)(blk off cap a m b:Nat)(d0 d:Array α)(w0 w:World)
 (R:RowK enc k w0 blk off d0) (hs:d0.size=d.size) (S:SWK enc k w0 blk off d w) (Xm:a<m) (yn:m<b) (hb:b≤d.size) (hsz:d.size<4611686018427387904):
 Calls P 217 #[.slice (some ⟨blk,off,none⟩) d.size cap,.int .i64 a,.int .i64 m,.int .i64 b,.func (.func g) #[] #[]] w fun e w'=>e= .returned (.tuple #[])∧SWK enc k w0 blk off (ww d a m b) w':=by
 have mixed:=L.mixed;have t0:=L.t0;have a0:=L.a0;have z0:=L.z0;have v0:=L.v0;have t3:=L.t3;have a3:=L.a3;have z3:=L.z3;have v3:=L.v3;have t4:=L.t4;have a4:=L.a4;have z4:=L.z4;have v4:=L.v4;have t22:=L.tR;have a22:=L.aR;have z22:=L.zR;have v22:=L.vR;have t25:=L.tF;have a25:=L.aF;have z25:=L.zF;have v25:=L.vF;have aE:=L.aE;have zE:=L.zE
 have S0:Aside (SWK enc k w0 blk off d w):=S
 have hsw:=fun (a b n:Nat) (dk:Array α) (W:World) (h1:d.size=dk.size) (S:SWK enc k w0 blk off dk W) (ha:a+n≤d.size) (hb:b+n≤d.size)=>LP (P:=P) L enc g blk off cap a b n d0 dk w0 W R (by omega) S (by omega) (by omega) (by omega)
 have HSW:=aa hsw
 have eSw:∀args w,(callFunc 259 args).run P w= .ok (.enter 259 args) w:=enters_of L.fSw (by kernel_rfl) rfl
 clear S hsw
 have i1:IntKind.i64.wrap ((m:Int)-(a:Int))=((m-a:Nat):Int):=by rw[agD];omega
 have i2:IntKind.i64.wrap ((b:Int)-(m:Int))=((b-m:Nat):Int):=by rw[agD];omega
 go_enter L.fRo,Tryz.ntmps217
 go_wp2
 clear i1 i2
 go_loopg [10,11] (b-a) (fun gx v10 v11 wr=>∃(i j t:Nat) (dk:Array α),v10= .int .i64 i∧v11= .int .i64 j∧0<i∧0<j∧i≤m∧m+j≤d.size∧i+j≤t∧t≤gx∧Aside (gM d dk)∧Aside (SWK enc k w0 blk off dk wr)∧Hid (qu t dk m i j=ww d a m b))
 case atStart=>exact⟨m-a,b-m,b-a,d,rfl,rfl,by omega,by omega,by omega,by omega,by omega,by omega,gM.refl d,S0,rfl⟩
 case round=>
  clear S0
  obtain⟨i,j,t,dk,rfl,rfl,cw,Ji,him,hjm,ht,hg,HP,S1,HR⟩:=hrel
  obtain⟨f,rfl⟩:∃f,t=f+1:=⟨t-1,by omega⟩
  have yr:=HP.out.size
  have u1:IntKind.i64.wrap ((m:Int)-(i:Int))=((m-i:Nat):Int):=by rw[agD];omega
  by_cases hne:i=j
  ·subst hne
   have hr:qu (f+1) dk m i i=jz dk (m-i) m i:=by rw[qu,if_pos rfl]
   have lX:Hid (jz dk (m-i) m i=ww d a m b):=aa (hr.symm.trans HR.out)
   have hc:=HSW.out (m-i) m i dk wr (by omega) S1.out (by omega) (by omega)
   rw[yr] at hc
   have HC:=aa hc
   clear hr hc HR
   go_wp2_with (go_at_call 259;(with_reducible refine HC.out.mono ?_);rintro e w1 ⟨rfl,bj⟩)
   go_end0
   rw[←lX.out]
   exact⟨rfl,bj⟩
  ·have hni:((i:Int) != (j:Int))=true:=by rw[bne_iff_ne];omega
   by_cases hlt:j<i
   ·have adZ:(j:Int)<(i:Int):=by omega
    have hr:qu (f+1) dk m i j=qu f (jz dk (m-i) m j) m (i-j) j:=by rw[qu,if_neg hne,if_pos hlt]
    have lX:=aa (hr.symm.trans HR.out)
    have hc:=HSW.out (m-i) m j dk wr (by omega) S1.out (by omega) (by omega)
    have hp:=HP.out.trans (gz dk (a:=m-i) (b:=m) j (by omega) (by omega))
    rw[yr] at hc
    have HC:=aa hc
    have PS:=aa hp
    have u2:IntKind.i64.wrap ((i:Int)-(j:Int))=((i-j:Nat):Int):=by rw[agD];omega
    clear hr hc hp HR HP
    go_wp2_with (go_at_call 259;(with_reducible refine HC.out.mono ?_);rintro e w1 ⟨rfl,bj⟩)
    go_roundg f
    case measure=>omega
    case rel=>exact⟨i-j,j,f,_,rfl,rfl,by omega,Ji,by omega,hjm,by omega,agl _,PS.out,bj,lX⟩
   ·have adZ:¬(j:Int)<(i:Int):=by omega
    have hr:qu (f+1) dk m i j=qu f (jz dk (m-i) (m+j-i) i) m i (j-i):=by rw[qu,if_neg hne,if_neg hlt]
    have lX:=aa (hr.symm.trans HR.out)
    have hc:=HSW.out (m-i) (m+j-i) i dk wr (by omega) S1.out (by omega) (by omega)
    have hp:=HP.out.trans (gz dk (a:=m-i) (b:=m+j-i) i (by omega) (by omega))
    rw[yr] at hc
    have HC:=aa hc
    have PS:=aa hp
    obtain⟨q,hq⟩:∃q:Nat,(m:Int)+(j:Int)=(q:Int):=⟨m+j,by omega⟩
    have u0:IntKind.i64.wrap (q:Int)=(q:Int):=by rw[agD];omega
    have u3:IntKind.i64.wrap ((q:Int)-(i:Int))=((m+j-i:Nat):Int):=by rw[agD];omega
    have u2:IntKind.i64.wrap ((j:Int)-(i:Int))=((j-i:Nat):Int):=by rw[agD];omega
    clear hr hc hp HR HP
    go_wp2_with (go_at_call 259;(with_reducible refine HC.out.mono ?_);rintro e w1 ⟨rfl,bj⟩)
    go_roundg f
    case measure=>omega
    case rel=>exact⟨i,j-i,f,_,rfl,rfl,cw,by omega,him,by omega,by omega,agl _,PS.out,bj,lX⟩
variable {P : Program} {α : Type} [Inhabited α] {k : Nat}
theorem sT{i j q:Nat}(h:q=(i+j)/2):((i:Int)+(j:Int))/2=(q:Int):=by omega
theorem Qf(L:rC P k)(enc:α→List Value)(cf:α→α→Int)(g:Nat)(eg:∀args w,(callFunc g args).run P w= .ok (.enter g args) w)(blk off cap a m b:Nat)(d0 d:Array α)(w0 w:World)(iy:CmpLays P g #[] enc k cf blk off d0.size w0)
 (R:RowK enc k w0 blk off d0) (hs:d0.size=d.size) (S:SWK enc k w0 blk off d w) (Xm:a<m) (yn:m<b) (hb:b≤d.size) (hsz:d.size<1152921504606846976) (h1:m-a=1):
 Calls P 175 #[.slice (some ⟨blk,off,none⟩) d.size cap,.int .i64 a,.int .i64 m,.int .i64 b,.func (.func g) #[] #[]] w fun e w'=>e= .returned (.tuple #[])∧SWK enc k w0 blk off (Yi (lA (fun h=>ltOf cf d[h]! d[a]!) (b-m) m b-1-a) d a) w':=by
 have mixed:=L.mixed;have t0:=L.t0;have a0:=L.a0;have z0:=L.z0;have v0:=L.v0;have t3:=L.t3;have a3:=L.a3;have z3:=L.z3;have v3:=L.v3;have t4:=L.t4;have a4:=L.a4;have z4:=L.z4;have v4:=L.v4;have tU:=L.tU;have aU:=L.aU;have zU:=L.zU;have vU:=L.vU;have t22:=L.tR;have a22:=L.aR;have z22:=L.zR;have v22:=L.vR;have t25:=L.tF;have a25:=L.aF;have z25:=L.zF;have v25:=L.vF;have aE:=L.aE;have zE:=L.zE
 have HC:Aside _:=iy
 have S0:Aside (SWK enc k w0 blk off d w):=S
 have EG:=aa eg
 clear S iy
 obtain⟨I,hI⟩:∃I,I=lA (fun h=>ltOf cf d[h]! d[a]!) (b-m) m b:=⟨_,rfl⟩
 have LD:Hid (lA (fun h=>ltOf cf d[h]! d[a]!) (b-m) m b=I):=aa hI.symm
 have hIb:=nt (fun h=>ltOf cf d[h]! d[a]!) (b-m) m b (by omega)
 rw[←hI] at hIb ⊢
 clear hI
 have h1z:((m:Int)-(a:Int) == 1)=true:=by rw[beq_iff_eq];omega
 have h1w:IntKind.i64.wrap ((m:Int)-(a:Int))=(m:Int)-(a:Int):=by rw[agD];omega
 go_enter L.fSy,Tryz.ntmps175
 go_wp2
 go_loopg [10,11] (b-m) (fun gx vi vj wr=>∃(i j t:Nat),vi= .int .i64 i∧vj= .int .i64 j∧m≤i∧i≤j∧j≤b∧j-i≤t∧t≤gx∧Aside (SWK enc k w0 blk off d wr)∧Hid (lA (fun h=>ltOf cf d[h]! d[a]!) t i j=I))
 case atStart=>exact⟨m,b,b-m,rfl,rfl,agl _,by omega,agl _,agl _,agl _,S0,LD⟩
 case round=>
  clear S0 LD
  obtain⟨i,j,t,rfl,rfl,cw,uM,Ji,ht,hg,S1,HI⟩:=hrel
  by_cases hlt:i<j
  ·have xv:(i:Int)<(j:Int):=by omega
   obtain⟨f,rfl⟩:∃f,t=f+1:=⟨t-1,by omega⟩
   have hgo:=tk (p:=(fun h=>ltOf cf d[h]! d[a]!)) (f:=f) hlt
   obtain⟨h,hh⟩:∃h,h=(i+j)/2:=⟨_,rfl⟩
   have hhi:=sT hh
   have hh1:i≤h∧h<j:=by omega
   rw[←hh,HI.out] at hgo
   have yu:=aa hgo
   have HHI:=aa hhi
   have w1:IntKind.i64.wrap ((i:Int)+(j:Int))=(i:Int)+(j:Int):=by rw[agD];omega
   have w2:IntKind.u64.wrap ((i:Int)+(j:Int))=(i:Int)+(j:Int):=agq _ (by omega)
   have w3:IntKind.i64.wrap (h:Int)=(h:Int):=by rw[agD];omega
   have w4:IntKind.i64.wrap ((h:Int)+1)=(h:Int)+1:=by rw[agD];omega
   clear hgo hh HI
   cases hlv:decide (cf d[h]! d[a]! <0)with
   |true=>
    have hq:Hid (lA (fun h=>ltOf cf d[h]! d[a]!) f (h+1) j=I):=by
     show _=_
     rw[yu.out]
     exact(if_pos (by simp[ltOf,hlv])).symm
    clear yu
    have ex:((h:Int)).toNat=h:=by omega
    have px:(0:Int)≤(h:Int):=by omega
    have qx:(h:Int)<(d.size:Int):=by omega
    have rx:IntKind.i64.wrap (h:Int)=(h:Int):=by rw[agD];omega
    have ey:((a:Int)).toNat=a:=by omega
    have py:(0:Int)≤(a:Int):=by omega
    have qy:(a:Int)<(d.size:Int):=by omega
    have ry:IntKind.i64.wrap (a:Int)=(a:Int):=by rw[agD];omega
    obtain⟨cx,mV⟩:∃c,c=d[h]! :=⟨_,rfl⟩
    obtain⟨cy,pM⟩:∃c,c=d[a]! :=⟨_,rfl⟩
    have lx:=S1.out.ld R (by omega) P h (by omega)
    have ly:=S1.out.ld R (by omega) P a (by omega)
    rw[←mV] at lx
    rw[←pM] at ly
    have nR:=S1.out.cmp HC.out (by omega) cx cy
    rw[←mV,←pM] at hlv
    have hv:cf cx cy<0:=of_decide_eq_true hlv
    have hd:decide (cf cx cy<0)=true:=hlv
    clear mV pM hlv
    go_wp2_with fail
    go_quiet_grown (first | (go_at_fn g;refine Calls.grown_of (nR _ _)))
    have SU:Aside (SWK enc k w0 blk off d (grow (wr.drewN nq) osq)):=S1.out.grown nq osq
    clear lx ly nR S1
    generalize grow (wr.drewN nq) osq=wu at SU ⊢
    clear nq osq
    go_wp2
    go_roundg f
    case measure=>omega
    case rel=>exact⟨h+1,j,f,by go_num,rfl,by omega,by omega,Ji,by omega,agl _,SU,hq⟩
   |false=>
    have hq:Hid (lA (fun h=>ltOf cf d[h]! d[a]!) f i h=I):=by
     show _=_
     rw[yu.out]
     exact(if_neg (by simp[ltOf,hlv])).symm
    clear yu
    have ex:((h:Int)).toNat=h:=by omega
    have px:(0:Int)≤(h:Int):=by omega
    have qx:(h:Int)<(d.size:Int):=by omega
    have rx:IntKind.i64.wrap (h:Int)=(h:Int):=by rw[agD];omega
    have ey:((a:Int)).toNat=a:=by omega
    have py:(0:Int)≤(a:Int):=by omega
    have qy:(a:Int)<(d.size:Int):=by omega
    have ry:IntKind.i64.wrap (a:Int)=(a:Int):=by rw[agD];omega
    obtain⟨cx,mV⟩:∃c,c=d[h]! :=⟨_,rfl⟩
    obtain⟨cy,pM⟩:∃c,c=d[a]! :=⟨_,rfl⟩
    have lx:=S1.out.ld R (by omega) P h (by omega)
    have ly:=S1.out.ld R (by omega) P a (by omega)
    rw[←mV] at lx
    rw[←pM] at ly
    have nR:=S1.out.cmp HC.out (by omega) cx cy
    rw[←mV,←pM] at hlv
    have hv:¬cf cx cy<0:=of_decide_eq_false hlv
    have hd:decide (cf cx cy<0)=false:=hlv
    clear mV pM hlv
    go_wp2_with fail
    go_quiet_grown (first | (go_at_fn g;refine Calls.grown_of (nR _ _)))
    have SU:Aside (SWK enc k w0 blk off d (grow (wr.drewN nq) osq)):=S1.out.grown nq osq
    clear lx ly nR S1
    generalize grow (wr.drewN nq) osq=wu at SU ⊢
    clear nq osq
    go_wp2
    go_roundg f
    case measure=>omega
    case rel=>exact⟨i,h,f,rfl,rfl,cw,by omega,by omega,by omega,agl _,SU,hq⟩
  ·obtain rfl:i=j:=by omega
   have xv:¬(i:Int)<(i:Int):=by omega
   have hii:i=I:=by rw[←HI.out,fe (by omega)]
   have w5:IntKind.i64.wrap ((i:Int)-1)=(i:Int)-1:=by rw[agD];omega
   clear HI
   go_wp2_with fail
   subst hii
   go_loopg [13] (i-1-a) (fun gx vk wr=>∃(kk t:Nat) (dk:Array α),vk= .int .i64 kk∧a≤kk∧kk+t=i-1∧t≤gx∧Aside (gM d dk)∧Aside (SWK enc k w0 blk off dk wr)∧Hid (Yi t dk kk=Yi (i-1-a) d a))
   case atStart=>exact⟨a,i-1-a,d,rfl,agl _,by omega,agl _,gM.refl d,S1,rfl⟩
   case round=>
    clear S1
    obtain⟨kk,t,dk,rfl,hak,hkt,htg,HP,S1,HR⟩:=hrel
    have yr:=HP.out.size
    by_cases hlt:kk<i-1
    ·have EI:(kk:Int)<(i:Int)-1:=by omega
     obtain⟨f,rfl⟩:∃f,t=f+1:=⟨t-1,by omega⟩
     obtain⟨y,hy⟩:∃y,y=kk+1:=⟨_,rfl⟩
     have hyi:(kk:Int)+1=(y:Int):=by omega
     have CQ:=HP.out.trans (qA dk (i:=kk) (j:=y) (by omega) (by omega))
     have PS:Aside (gM d (swp dk kk y)):=CQ
     have lX:Hid (Yi f (swp dk kk y) y=Yi (i-1-a) d a):=by
      show _=_
      rw[←HR.out,hy];rfl
     have HY:=aa hy
     clear CQ hy HR HP
     have r2:IntKind.i64.wrap (y:Int)=(y:Int):=by rw[agD];omega
     have e1:((kk:Int)).toNat=kk:=by omega
     have p1:(0:Int)≤(kk:Int):=by omega
     have q1:(kk:Int)<(d.size:Int):=by omega
     have e2:((y:Int)).toNat=y:=by omega
     have p2:(0:Int)≤(y:Int):=by omega
     have q2:(y:Int)<(d.size:Int):=by omega
     have S2:Aside (SWK enc k w0 blk off (swp dk kk y) ((wr.drew.setCells blk (off+kk*k) (enc dk[y]!)).setCells blk (off+y*k) (enc dk[kk]!))):=S1.out.swapped R kk y (by omega) (by omega)
     have l1:=S1.out.ld1 R (by omega) P kk (by omega)
     have l2:=S1.out.ld1 R (by omega) P y (by omega)
     have s1:=S1.out.st1 R (by omega) P kk (by omega) dk[y]!
     have s2:=S1.out.st2 R (by omega) P kk y (by omega) (by omega) dk[y]! dk[kk]!
     have n1:(enc dk[kk]!).length=k:=R.hk _
     have n2:(enc dk[y]!).length=k:=R.hk _
     generalize enc dk[kk]! =cI at S2 l1 s2 n1
     generalize enc dk[y]! =cJ at S2 l2 s1 s2 n2
     clear S1
     go_wp2_with fail
     go_big_region_o
     clear l1 l2 s1 s2
     generalize (wr.drew.setCells blk (off+kk*k) cJ).setCells blk (off+y*k) cI=w2 at S2 ⊢
     go_wp2
     go_roundg f
     case measure=>omega
     case rel=>exact⟨y,f,_,by first | rfl | go_num,by have:=HY.out;omega,by have:=HY.out;omega,agl _,PS,S2,lX⟩
    ·have EI:¬(kk:Int)<(i:Int)-1:=by omega
     obtain rfl:t=0:=by omega
     go_wp2
     (try simp only[Exit.inBlock,Exit.then]);refine bodyPost_ret (results_none rfl _ _ _) rfl ?_
     refine⟨rfl, ?_⟩
     rw[←HR.out]
     exact S1.out
theorem Qe(L:rC P k)(enc:α→List Value)(cf:α→α→Int)(g:Nat)(eg:∀args w,(callFunc g args).run P w= .ok (.enter g args) w)(blk off cap a m b:Nat)(d0 d:Array α)(w0 w:World)(iy:CmpLays P g #[] enc k cf blk off d0.size w0)
 (R:RowK enc k w0 blk off d0) (hs:d0.size=d.size) (S:SWK enc k w0 blk off d w) (Xm:a<m) (yn:m<b) (hb:b≤d.size) (hsz:d.size<1152921504606846976) (h1:¬m-a=1) (h2:b-m=1):
 Calls P 175 #[.slice (some ⟨blk,off,none⟩) d.size cap,.int .i64 a,.int .i64 m,.int .i64 b,.func (.func g) #[] #[]] w fun e w'=>e= .returned (.tuple #[])∧SWK enc k w0 blk off (Yj (m-lA (fun h=> !ltOf cf d[m]! d[h]!) (m-a) a m) d m) w':=by
 have mixed:=L.mixed;have t0:=L.t0;have a0:=L.a0;have z0:=L.z0;have v0:=L.v0;have t3:=L.t3;have a3:=L.a3;have z3:=L.z3;have v3:=L.v3;have t4:=L.t4;have a4:=L.a4;have z4:=L.z4;have v4:=L.v4;have tU:=L.tU;have aU:=L.aU;have zU:=L.zU;have vU:=L.vU;have t22:=L.tR;have a22:=L.aR;have z22:=L.zR;have v22:=L.vR;have t25:=L.tF;have a25:=L.aF;have z25:=L.zF;have v25:=L.vF;have aE:=L.aE;have zE:=L.zE
 have HC:Aside _:=iy
 have S0:Aside (SWK enc k w0 blk off d w):=S
 have EG:=aa eg
 clear S iy
 obtain⟨I,hI⟩:∃I,I=lA (fun h=> !ltOf cf d[m]! d[h]!) (m-a) a m:=⟨_,rfl⟩
 have LD:Hid (lA (fun h=> !ltOf cf d[m]! d[h]!) (m-a) a m=I):=aa hI.symm
 have hIb:=nt (fun h=> !ltOf cf d[m]! d[h]!) (m-a) a m (by omega)
 rw[←hI] at hIb ⊢
 clear hI
 have h1z:((m:Int)-(a:Int) == 1)=false:=by rw[beq_eq_false_iff_ne];omega
 have h1w:IntKind.i64.wrap ((m:Int)-(a:Int))=(m:Int)-(a:Int):=by rw[agD];omega
 have h2z:((b:Int)-(m:Int) == 1)=true:=by rw[beq_iff_eq];omega
 have h2w:IntKind.i64.wrap ((b:Int)-(m:Int))=(b:Int)-(m:Int):=by rw[agD];omega
 go_enter L.fSy,Tryz.ntmps175
 go_wp2
 go_loopg [14,15] (m-a) (fun gx vi vj wr=>∃(i j t:Nat),vi= .int .i64 i∧vj= .int .i64 j∧a≤i∧i≤j∧j≤m∧j-i≤t∧t≤gx∧Aside (SWK enc k w0 blk off d wr)∧Hid (lA (fun h=> !ltOf cf d[m]! d[h]!) t i j=I))
 case atStart=>exact⟨a,m,m-a,rfl,rfl,agl _,by omega,agl _,agl _,agl _,S0,LD⟩
 case round=>
  clear S0 LD
  obtain⟨i,j,t,rfl,rfl,cw,uM,Ji,ht,hg,S1,HI⟩:=hrel
  by_cases hlt:i<j
  ·have xv:(i:Int)<(j:Int):=by omega
   obtain⟨f,rfl⟩:∃f,t=f+1:=⟨t-1,by omega⟩
   have hgo:=tk (p:=(fun h=> !ltOf cf d[m]! d[h]!)) (f:=f) hlt
   obtain⟨h,hh⟩:∃h,h=(i+j)/2:=⟨_,rfl⟩
   have hhi:=sT hh
   have hh1:i≤h∧h<j:=by omega
   rw[←hh,HI.out] at hgo
   have yu:=aa hgo
   have HHI:=aa hhi
   have w1:IntKind.i64.wrap ((i:Int)+(j:Int))=(i:Int)+(j:Int):=by rw[agD];omega
   have w2:IntKind.u64.wrap ((i:Int)+(j:Int))=(i:Int)+(j:Int):=agq _ (by omega)
   have w3:IntKind.i64.wrap (h:Int)=(h:Int):=by rw[agD];omega
   have w4:IntKind.i64.wrap ((h:Int)+1)=(h:Int)+1:=by rw[agD];omega
   clear hgo hh HI
   cases hlv:decide (cf d[m]! d[h]! <0)with
   |true=>
    have hq:Hid (lA (fun h=> !ltOf cf d[m]! d[h]!) f i h=I):=by
     show _=_
     rw[yu.out]
     exact(if_neg (by simp[ltOf,hlv])).symm
    clear yu
    have ex:((m:Int)).toNat=m:=by omega
    have px:(0:Int)≤(m:Int):=by omega
    have qx:(m:Int)<(d.size:Int):=by omega
    have rx:IntKind.i64.wrap (m:Int)=(m:Int):=by rw[agD];omega
    have ey:((h:Int)).toNat=h:=by omega
    have py:(0:Int)≤(h:Int):=by omega
    have qy:(h:Int)<(d.size:Int):=by omega
    have ry:IntKind.i64.wrap (h:Int)=(h:Int):=by rw[agD];omega
    obtain⟨cx,mV⟩:∃c,c=d[m]! :=⟨_,rfl⟩
    obtain⟨cy,pM⟩:∃c,c=d[h]! :=⟨_,rfl⟩
    have lx:=S1.out.ld R (by omega) P m (by omega)
    have ly:=S1.out.ld R (by omega) P h (by omega)
    rw[←mV] at lx
    rw[←pM] at ly
    have nR:=S1.out.cmp HC.out (by omega) cx cy
    rw[←mV,←pM] at hlv
    have hv:cf cx cy<0:=of_decide_eq_true hlv
    have hd:decide (cf cx cy<0)=true:=hlv
    clear mV pM hlv
    go_wp2_with fail
    go_quiet_grown (first | (go_at_fn g;refine Calls.grown_of (nR _ _)))
    have SU:Aside (SWK enc k w0 blk off d (grow (wr.drewN nq) osq)):=S1.out.grown nq osq
    clear lx ly nR S1
    generalize grow (wr.drewN nq) osq=wu at SU ⊢
    clear nq osq
    go_wp2
    go_roundg f
    case measure=>omega
    case rel=>exact⟨i,h,f,rfl,rfl,cw,by omega,by omega,by omega,agl _,SU,hq⟩
   |false=>
    have hq:Hid (lA (fun h=> !ltOf cf d[m]! d[h]!) f (h+1) j=I):=by
     show _=_
     rw[yu.out]
     exact(if_pos (by simp[ltOf,hlv])).symm
    clear yu
    have ex:((m:Int)).toNat=m:=by omega
    have px:(0:Int)≤(m:Int):=by omega
    have qx:(m:Int)<(d.size:Int):=by omega
    have rx:IntKind.i64.wrap (m:Int)=(m:Int):=by rw[agD];omega
    have ey:((h:Int)).toNat=h:=by omega
    have py:(0:Int)≤(h:Int):=by omega
    have qy:(h:Int)<(d.size:Int):=by omega
    have ry:IntKind.i64.wrap (h:Int)=(h:Int):=by rw[agD];omega
    obtain⟨cx,mV⟩:∃c,c=d[m]! :=⟨_,rfl⟩
    obtain⟨cy,pM⟩:∃c,c=d[h]! :=⟨_,rfl⟩
    have lx:=S1.out.ld R (by omega) P m (by omega)
    have ly:=S1.out.ld R (by omega) P h (by omega)
    rw[←mV] at lx
    rw[←pM] at ly
    have nR:=S1.out.cmp HC.out (by omega) cx cy
    rw[←mV,←pM] at hlv
    have hv:¬cf cx cy<0:=of_decide_eq_false hlv
    have hd:decide (cf cx cy<0)=false:=hlv
    clear mV pM hlv
    go_wp2_with fail
    go_quiet_grown (first | (go_at_fn g;refine Calls.grown_of (nR _ _)))
    have SU:Aside (SWK enc k w0 blk off d (grow (wr.drewN nq) osq)):=S1.out.grown nq osq
    clear lx ly nR S1
    generalize grow (wr.drewN nq) osq=wu at SU ⊢
    clear nq osq
    go_wp2
    go_roundg f
    case measure=>omega
    case rel=>exact⟨h+1,j,f,by go_num,rfl,by omega,by omega,Ji,by omega,agl _,SU,hq⟩
  ·obtain rfl:i=j:=by omega
   have xv:¬(i:Int)<(i:Int):=by omega
   have hii:i=I:=by rw[←HI.out,fe (by omega)]
   clear HI
   go_wp2_with fail
   subst hii
   go_loopg [17] (m-i) (fun gx vk wr=>∃(kk t:Nat) (dk:Array α),vk= .int .i64 kk∧kk≤m∧kk=i+t∧t≤gx∧Aside (gM d dk)∧Aside (SWK enc k w0 blk off dk wr)∧Hid (Yj t dk kk=Yj (m-i) d m))
   case atStart=>exact⟨m,m-i,d,rfl,agl _,by omega,agl _,gM.refl d,S1,rfl⟩
   case round=>
    clear S1
    obtain⟨kk,t,dk,rfl,hak,hkt,htg,HP,S1,HR⟩:=hrel
    have yr:=HP.out.size
    by_cases hlt:i<kk
    ·have EI:(i:Int)<(kk:Int):=by omega
     obtain⟨f,rfl⟩:∃f,t=f+1:=⟨t-1,by omega⟩
     obtain⟨y,hy⟩:∃y,y=kk-1:=⟨_,rfl⟩
     have hyi:(kk:Int)-1=(y:Int):=by omega
     have CQ:=HP.out.trans (qA dk (i:=kk) (j:=y) (by omega) (by omega))
     have PS:Aside (gM d (swp dk kk y)):=CQ
     have lX:Hid (Yj f (swp dk kk y) y=Yj (m-i) d m):=by
      show _=_
      rw[←HR.out,hy];rfl
     have HY:=aa hy
     have hyb:y<d.size:=by omega
     have HKT:=aa hkt
     clear CQ hy HR HP hkt
     have r2:IntKind.i64.wrap (y:Int)=(y:Int):=by rw[agD];omega
     have e1:((kk:Int)).toNat=kk:=by omega
     have p1:(0:Int)≤(kk:Int):=by omega
     have q1:(kk:Int)<(d.size:Int):=by omega
     have e2:((y:Int)).toNat=y:=by omega
     have p2:(0:Int)≤(y:Int):=by omega
     have q2:(y:Int)<(d.size:Int):=by omega
     have S2:Aside (SWK enc k w0 blk off (swp dk kk y) ((wr.drew.setCells blk (off+kk*k) (enc dk[y]!)).setCells blk (off+y*k) (enc dk[kk]!))):=S1.out.swapped R kk y (by omega) (by omega)
     have l1:=S1.out.ld1 R (by omega) P kk (by omega)
     have l2:=S1.out.ld1 R (by omega) P y (by omega)
     have s1:=S1.out.st1 R (by omega) P kk (by omega) dk[y]!
     have s2:=S1.out.st2 R (by omega) P kk y (by omega) (by omega) dk[y]! dk[kk]!
     have n1:(enc dk[kk]!).length=k:=R.hk _
     have n2:(enc dk[y]!).length=k:=R.hk _
     generalize enc dk[kk]! =cI at S2 l1 s2 n1
     generalize enc dk[y]! =cJ at S2 l2 s1 s2 n2
     clear S1
     go_wp2_with fail
     go_big_region_o
     clear l1 l2 s1 s2
     generalize (wr.drew.setCells blk (off+kk*k) cJ).setCells blk (off+y*k) cI=w2 at S2 ⊢
     go_wp2
     go_roundg f
     case measure=>omega
     case rel=>exact⟨y,f,_,by first | rfl | go_num,by have:=HY.out;omega,by have:=HY.out;have:=HKT.out;omega,agl _,PS,S2,lX⟩
    ·have EI:¬(i:Int)<(kk:Int):=by omega
     obtain rfl:t=0:=by omega
     go_wp2
     (try simp only[Exit.inBlock,Exit.then]);refine bodyPost_ret (results_none rfl _ _ _) rfl ?_
     refine⟨rfl, ?_⟩
     rw[←HR.out]
     exact S1.out
end
end Go.Proofs.YtbhfpehgacaidaaGreatDoor
