/- A part of the proof of the given statement TopRight. Conditions: none. -/
import Derived.Shelf.Bits.Mul64
import Derived.Laws.Externs
import Derived.Outline
import Derived.Test.YtbhfpehgacaidaaGreatDoorQBL
namespace Go.Proofs.YtbhfpehgacaidaaGreatDoor
set_option linter.unusedVariables false
set_option linter.unusedSimpArgs false
set_option maxRecDepth 100000
set_option maxHeartbeats 8000000
section
open Go.Lib Go.RowKit
theorem ML(x y:Nat)(hx:x<18446744073709551616)(hy:y<18446744073709551616)(w:World):
 Calls Tryz.prog 194 #[.int .u64 x,.int .u64 y] w fun e w'=>e= .returned (.tuple #[.int .u64 ((x*y/18446744073709551616:Nat):Int),.int .u64 ((x*y%18446744073709551616:Nat):Int)])∧w=w':=by
 obtain⟨bd,bt,bw,hhi⟩:=Lib.mul64_hi x y hx hy
 have ba:=Lib.half_mul_le (a:=x/4294967296) (b:=y/4294967296) (by omega) (by omega)
 have bb:=Lib.half_mul_le (a:=x/4294967296) (b:=y%4294967296) (by omega) (by omega)
 have bc:=Lib.half_mul_le (a:=x%4294967296) (b:=y/4294967296) (by omega) (by omega)
 have ba':x/4294967296*(y/4294967296)<18446744073709551616:=by omega
 have bb':x/4294967296*(y%4294967296)<18446744073709551616:=by omega
 have bc':x%4294967296*(y/4294967296)<18446744073709551616:=by omega
 have bh1:x/4294967296*(y/4294967296)+(x/4294967296*(y%4294967296)+x%4294967296*(y%4294967296)/4294967296)/4294967296<18446744073709551616:=by omega
 have bh:x/4294967296*(y/4294967296)+(x/4294967296*(y%4294967296)+x%4294967296*(y%4294967296)/4294967296)/4294967296+((x/4294967296*(y%4294967296)+x%4294967296*(y%4294967296)/4294967296)%4294967296+x%4294967296*(y/4294967296))/4294967296<18446744073709551616:=by omega
 go_enter Tryz.func194,Tryz.ntmps194
 go_wp2
 simp only[Mul64.maskN x hx,Mul64.maskN y hy,Mul64.divN,Mul64.mulN,Mul64.addN,Mul64.wrapN _ bd,Mul64.wrapN _ bb',Mul64.wrapN _ bt,Mul64.maskN _ bt,Mul64.wrapN _ bc',Mul64.wrapN _ bw,Mul64.wrapN _ ba',Mul64.wrapN _ bh1,Mul64.wrapN _ bh,Mul64.wrapM (x*y)]
 rw[hhi]
 go_ret2
 exact⟨rfl,rfl⟩
theorem VJ(x y:Int)(hx:0≤x)(hy:0≤y)(w:World):
 (callFunc 195 #[.int .u64 x,.int .u64 y,.int .u64 0]).run Tryz.prog w=
   .ok (.value (.tuple #[.int .u64 ((x+y)%18446744073709551616),.int .u64 ((x+y)/18446744073709551616)])) w:=by
 rw[run_callFunc_extern Tryz.func195 (by kernel_rfl) (by kernel_rfl) (by kernel_rfl) (e:=add64Entry) (by kernel_rfl),run_add64 x y 0 hx hy (by omega) (by omega)]
 simp only[Result.andThen,Int.add_zero]
theorem ZZ(w:World):Calls Tryz.prog 172 #[.int .u64 2305843009213693951] w fun e w'=>e= .returned (.int .i64 61)∧w=w':=by
 go_enter Tryz.func172,Tryz.ntmps172
 go_wp2
 go_ret
 exact⟨by kernel_rfl,rfl⟩
theorem Wn(w:World):Calls Tryz.prog 267 #[.int .u64 2305843009213693951] w fun e w'=>e= .returned (.int .i64 3)∧w=w':=by
 go_enter Tryz.func267,Tryz.ntmps267
 go_wp2_with fail
 (with_reducible refine(ZZ _).mono ?_);rintro e w' ⟨rfl,rfl⟩
 go_wp2_with fail
 go_ret
 exact⟨rfl,rfl⟩
theorem abQ{hi lo:Int}(h0:0≤hi)(h1:hi<2305843009213693951)(l0:0≤lo)(l1:lo<18446744073709551616):
 bits .or .u64 (hi*8) (lo/2305843009213693952)=hi*8+lo/2305843009213693952:=by
 rw[u64_or _ _ (by omega) (by omega) (by omega) (by omega),nat_join 3 _ _ (by omega) (by omega)]
 omega
theorem TW{x:Int}(h0:0≤x)(h1:x<18446744073709551616):bits .and .u64 x 4294967295=x%4294967296:=by
 rw[u64_and _ _ h0 h1 (by omega) (by omega),show (4294967295:Int).toNat=2 ^ 32-1 from rfl,Nat.and_two_pow_sub_one_eq_mod]
 omega
theorem Qv{a b c:Int}(h:b=c):Ending.returned (.tuple #[.int .u64 a,.int .u64 b])= .returned (.tuple #[.int .u64 a,.int .u64 c]):=by rw[h]
def aby(r:Int)(w:World)(e:Ending)(w':World):Prop:=∃q,e= .returned (.tuple #[.int .u64 q,.int .u64 r])∧∃n,w'=w.drewN n
theorem Ts(lo:Int)(l0:0≤lo)(l1:lo<18446744073709551616)(w:World):
 Calls Tryz.prog 241 #[.int .u64 0,.int .u64 lo,.int .u64 2305843009213693951] w (aby (lo%2305843009213693951) w):=by
 go_enter Tryz.func241,Tryz.ntmps241
 go_wp2_with fail
 go_quiet (fail)
 go_wp2_with fail
 go_ret2
 exact⟨_,rfl,_,rfl⟩
def UH(U X a b:Int):Prop:=0≤a∧a≤4294967296∧0≤b∧b<4294967296∧a*4294967295+b=U∧U*4294967296+X<(a+1)*18446744073709551608
theorem AQ{U X:Int}(u0:0≤U)(u1:U<18446744073709551608)(x1:X<4294967296):UH U X (U/4294967295) (U-U/4294967295*4294967295):=by
 refine⟨by omega,by omega,by omega,by omega,by omega,by omega⟩
theorem qX{U X a b:Int}(u1:U<18446744073709551608)(x1:X<4294967296)(h:UH U X a b)(hc:4294967296≤a∨4294967296*b+X<a*4294967288)(x0:0≤X):
 1≤a∧(a-1)*4294967295+(b+4294967295)=U∧U*4294967296+X<(a-1+1)*18446744073709551608:=by
 obtain⟨h1,h2,h3,h4,h5,h6⟩:=h
 refine⟨by omega,by omega,by omega⟩
def Ye(U X a:Int):Prop:=0≤a∧a≤4294967296∧0≤U*4294967296+X-a*18446744073709551608∧U*4294967296+X-a*18446744073709551608<18446744073709551608
theorem Lj{U X a b:Int}(h:UH U X a b)(h1:a<4294967296)(h2:a*4294967288≤4294967296*b+X):Ye U X a:=by
 obtain⟨g1,g2,g3,g4,g5,g6⟩:=h
 refine⟨by omega,by omega,by omega,by omega⟩
theorem vu{U X a b:Int}(h1:1≤a)(h2:a≤4294967296)(h3:(a-1)*4294967295+(b+4294967295)=U)(h4:U*4294967296+X<(a-1+1)*18446744073709551608)(h5:4294967296≤b+4294967295)(x0:0≤X):Ye U X (a-1):=by
 refine⟨by omega,by omega,by omega,by omega⟩
theorem Tr(hi lo:Int)(h0:0<hi)(h1:hi<2305843009213693951)(l0:0≤lo)(l1:lo<18446744073709551616)(w:World):
 Calls Tryz.prog 241 #[.int .u64 hi,.int .u64 lo,.int .u64 2305843009213693951] w (aby ((hi*18446744073709551616+lo)%2305843009213693951) w):=by
 have hz:(hi == 0)=false:=beq_eq_false_iff_ne.2 (by omega)
 have Ae:=abQ (Int.le_of_lt h0) h1 l0 l1
 obtain⟨U,hU⟩:∃U,U=hi*8+lo/2305843009213693952:=⟨_,rfl⟩
 have hw:IntKind.u64.wrap (lo*8)=lo*8%18446744073709551616:=IntKind.wrap_u64 _
 obtain⟨V,hV⟩:∃V,V=lo*8%18446744073709551616:=⟨_,rfl⟩
 rw[←hU] at Ae
 rw[←hV] at hw
 have h10:bits .and .u64 18446744073709551608 4294967295=4294967288:=by rw[TW (by omega) (by omega)];omega
 have h14:=TW (x:=V) (by omega) (by omega)
 obtain⟨X,hX⟩:∃X,X=V/4294967296:=⟨_,rfl⟩
 obtain⟨Y,hY⟩:∃Y,Y=V%4294967296:=⟨_,rfl⟩
 rw[←hY] at h14
 have hX':=hX.symm
 have u0:0≤U:=by omega
 have u1:U<18446744073709551608:=by omega
 have x0:0≤X:=by omega
 have x1:X<4294967296:=by omega
 have y0:0≤Y:=by omega
 have y1:Y<4294967296:=by omega
 have v0:0≤V:=by omega
 have v1:V<18446744073709551616:=by omega
 have HU:=aa hU
 have HV:=aa hV
 have HX:=aa hX
 have HY:=aa hY
 clear hU hV hX hY
 go_enter Tryz.func241,Tryz.ntmps241
 go_wp2_with fail
 (with_reducible refine(Wn _).mono ?_);rintro e w' ⟨rfl,rfl⟩
 go_upto_block 0 with fail
 go_cut [15,16] (fun Yl VC wx=>(∃a b:Int,Yl= .int .u64 a∧VC= .int .u64 b∧Ye U X a)∧w=wx)
 case first=>
  go_wp2_with fail
  have hs:=aa (AQ u0 u1 x1)
  go_loop [15,16] (fun Yl VC=>∃a b:Int,Yl= .int .u64 a∧VC= .int .u64 b∧UH U X a b) (fun Yl _=>(intOf Yl).toNat)
  case atStart=>exact⟨_,_,rfl,rfl,hs.out⟩
  case round=>
   obtain⟨a,b,rfl,rfl,hd⟩:=hrel
   have hd':=aa hd
   obtain⟨g1,g2,g3,g4,g5,g6⟩:=hd
   clear g5 g6
   by_cases c1:4294967296≤a
   ·obtain⟨n1,n2,n3⟩:=qX u1 x1 hd'.out (.inl c1) x0
    have N2:=aa n2
    have N3:=aa n3
    clear n2 n3
    by_cases c3:4294967296≤b+4294967295
    ·go_wp2_with fail
     go_meet
     exact⟨⟨_,_,rfl,rfl,vu n1 g2 N2.out N3.out c3 x0⟩,rfl⟩
    ·go_wp2_with fail
     go_round
     case rel=>exact⟨_,_,rfl,rfl,by omega,by omega,by omega,by omega,N2.out,N3.out⟩
     case measure=>simp[intOf];omega
   ·by_cases c2:4294967296*b+X<a*4294967288
    ·obtain⟨n1,n2,n3⟩:=qX u1 x1 hd'.out (.inr c2) x0
     have N2:=aa n2
     have N3:=aa n3
     clear n2 n3
     by_cases c3:4294967296≤b+4294967295
     ·go_wp2_with fail
      go_meet
      exact⟨⟨_,_,rfl,rfl,vu n1 g2 N2.out N3.out c3 x0⟩,rfl⟩
     ·go_wp2_with fail
      go_round
      case rel=>exact⟨_,_,rfl,rfl,by omega,by omega,by omega,by omega,N2.out,N3.out⟩
      case measure=>simp[intOf];omega
    ·have hE:=aa (Lj hd'.out (by omega) (by omega))
     go_wp2_with fail
     go_meet
     exact⟨⟨_,_,rfl,rfl,hE.out⟩,rfl⟩
 case rest=>
  obtain⟨⟨a,b,rfl,rfl,hE⟩,rfl⟩:=hcut
  obtain⟨e1,e2,e3,e4⟩:=hE
  obtain⟨R,hR⟩:∃R,R=U*4294967296+X-a*18446744073709551608:=⟨_,rfl⟩
  rw[←hR] at e3 e4
  obtain⟨p1,Ac⟩:∃p,IntKind.u64.wrap (U*4294967296)=p:=⟨_,rfl⟩
  obtain⟨p2,lS⟩:∃p,IntKind.u64.wrap (p1+X)=p:=⟨_,rfl⟩
  obtain⟨p3,WM⟩:∃p,IntKind.u64.wrap (a*18446744073709551608)=p:=⟨_,rfl⟩
  have Sh:IntKind.u64.wrap (p2-p3)=R:=by
   rw[IntKind.wrap_u64] at Ac lS WM ⊢
   omega
  have HR:=aa hR
  clear hR
  obtain⟨t1,CP⟩:∃p,IntKind.u64.wrap (R*4294967296)=p:=⟨_,rfl⟩
  obtain⟨t2,Gf⟩:∃p,IntKind.u64.wrap (t1+Y)=p:=⟨_,rfl⟩
  have HT1:=aa CP
  have HT2:=aa Gf
  clear CP Gf
  go_upto_block 2 with fail
  go_cut [16,18] (fun VC UM wx=>(∃c d:Int,UM= .int .u64 c∧VC= .int .u64 d∧Ye R Y c)∧w=wx)
  case first=>
   go_wp2_with fail
   have hs:=aa (AQ e3 e4 y1)
   go_loop [16,18] (fun VC UM=>∃a b:Int,UM= .int .u64 a∧VC= .int .u64 b∧UH R Y a b) (fun _ UM=>(intOf UM).toNat)
   case atStart=>exact⟨_,_,rfl,rfl,hs.out⟩
   case round=>
    obtain⟨c,b,rfl,rfl,hd⟩:=hrel
    have hd':=aa hd
    obtain⟨g1,g2,g3,g4,g5,g6⟩:=hd
    clear g5 g6
    by_cases c1:4294967296≤c
    ·obtain⟨n1,n2,n3⟩:=qX e4 y1 hd'.out (.inl c1) y0
     have N2:=aa n2
     have N3:=aa n3
     clear n2 n3
     by_cases c3:4294967296≤b+4294967295
     ·go_wp2_with fail
      go_meet
      exact⟨⟨_,_,rfl,rfl,vu n1 g2 N2.out N3.out c3 y0⟩,rfl⟩
     ·go_wp2_with fail
      go_round
      case rel=>exact⟨_,_,rfl,rfl,by omega,by omega,by omega,by omega,N2.out,N3.out⟩
      case measure=>simp[intOf];omega
    ·by_cases c2:4294967296*b+Y<c*4294967288
     ·obtain⟨n1,n2,n3⟩:=qX e4 y1 hd'.out (.inr c2) y0
      have N2:=aa n2
      have N3:=aa n3
      clear n2 n3
      by_cases c3:4294967296≤b+4294967295
      ·go_wp2_with fail
       go_meet
       exact⟨⟨_,_,rfl,rfl,vu n1 g2 N2.out N3.out c3 y0⟩,rfl⟩
      ·go_wp2_with fail
       go_round
       case rel=>exact⟨_,_,rfl,rfl,by omega,by omega,by omega,by omega,N2.out,N3.out⟩
       case measure=>simp[intOf];omega
     ·have hE:=aa (Lj hd'.out (by omega) (by omega))
      go_wp2_with fail
      go_meet
      exact⟨⟨_,_,rfl,rfl,hE.out⟩,rfl⟩
  case rest=>
   obtain⟨⟨c,d,rfl,rfl,hE⟩,rfl⟩:=hcut
   obtain⟨f1,f2,f3,f4⟩:=hE
   obtain⟨S,hS⟩:∃S,S=R*4294967296+Y-c*18446744073709551608:=⟨_,rfl⟩
   rw[←hS] at f3 f4
   have CP:=HT1.out
   have Gf:=HT2.out
   obtain⟨t3,ht3⟩:∃p,IntKind.u64.wrap (c*18446744073709551608)=p:=⟨_,rfl⟩
   have ht4:IntKind.u64.wrap (t2-t3)=S:=by
    rw[IntKind.wrap_u64] at CP Gf ht3 ⊢
    omega
   have hend:Hid (S/8=(hi*18446744073709551616+lo)%2305843009213693951):=by
    show _=_
    have a1:=HU.out
    have a2:=HV.out
    have a3:=HX.out
    have a4:=HY.out
    have a5:=HR.out
    subst a1 a2 a3 a4
    omega
   clear hS
   clear Ac lS WM Sh Ae hw h10 h14
   go_wp2_with fail
   go_ret2
   exact⟨_,Qv hend.out,0,rfl⟩
theorem aaU(hi lo:Int)(h0:0≤hi)(h1:hi<2305843009213693951)(l0:0≤lo)(l1:lo<18446744073709551616)(w:World):
 Calls Tryz.prog 241 #[.int .u64 hi,.int .u64 lo,.int .u64 2305843009213693951] w (aby ((hi*18446744073709551616+lo)%2305843009213693951) w):=by
 by_cases hz:hi=0
 ·subst hz
  rw[Int.zero_mul,Int.zero_add]
  exact Ts lo l0 l1 w
 ·exact Tr hi lo (by omega) h1 l0 l1 w
theorem ZG(hi lo:Int)(h0:0≤hi)(h1:hi<2305843009213693951)(l0:0≤lo)(l1:lo<18446744073709551616)(w:World):
 Calls Tryz.prog 196 #[.int .u64 hi,.int .u64 lo,.int .u64 2305843009213693951] w fun e w'=>e= .returned (.int .u64 ((hi*18446744073709551616+lo)%2305843009213693951))∧∃n,w'=w.drewN n:=by
 have hm:hi%2305843009213693951=hi:=by omega
 go_enter Tryz.func196,Tryz.ntmps196
 go_wp2_with fail
 (with_reducible refine(aaU _ _ h0 h1 l0 l1 _).mono ?_);rintro e w' ⟨q,rfl,n,rfl⟩
 go_wp2_with fail
 go_ret
 exact⟨rfl,n,rfl⟩
theorem vJ(a b c:Nat)(ha:a<2305843009213693951)(hb:b<2305843009213693951)(hc:c<2305843009213693951)(w:World):
 Calls Tryz.prog 152 #[.int .u64 a,.int .u64 b,.int .u64 c] w fun e w'=>e= .returned (.int .u64 (((a*b+c)%2305843009213693951:Nat):Int))∧∃n,w'=w.drewN n:=by
 have hm:a*b≤2305843009213693950*2305843009213693950:=Nat.mul_le_mul (by omega) (by omega)
 obtain⟨m,yL⟩:∃m,m=a*b:=⟨_,rfl⟩
 rw[←yL] at hm
 have ac0:=aa (VJ (m%18446744073709551616:Int) c (by omega) (by omega))
 have Hmm:=aa yL
 clear yL
 have q1:(0:Int)≤(m:Int)/18446744073709551616+((m:Int)%18446744073709551616+c)/18446744073709551616:=by omega
 have q2:(m:Int)/18446744073709551616+((m:Int)%18446744073709551616+c)/18446744073709551616<2305843009213693951:=by omega
 have hend:Hid ((((m:Int)/18446744073709551616+((m:Int)%18446744073709551616+c)/18446744073709551616)*18446744073709551616+((m:Int)+c)%18446744073709551616)%2305843009213693951=(((m+c)%2305843009213693951:Nat):Int)):=by show _=_;omega
 go_enter Tryz.func152,Tryz.ntmps152
 go_wp2_with fail
 (with_reducible refine(ML a b (by omega) (by omega) _).mono ?_);rintro e w' ⟨rfl,rfl⟩
 rw[←Hmm.out]
 go_wp2_with (simp only[ac0.out])
 (with_reducible refine(ZG _ _ q1 q2 (by omega) (by omega) _).mono ?_);rintro e w' ⟨rfl,n,rfl⟩
 rw[hend.out]
 go_wp2_with fail
 go_ret
 exact⟨kU (by rw[←Hmm.out];omega),n,rfl⟩
end
section
section
variable {P B : Nat}
def stN(P B h c:Nat):Nat:=(h*B+(c+1))%P
def prN(P B:Nat)(l:List Nat)(h:Nat):Nat:=l.foldl (stN P B) h
theorem QC(l:List Nat)(c:Nat):prN P B (l++[c]) 0=(prN P B l 0*B+(c+1))%P:=by simp[prN,stN]
theorem ZJ(hP:0<P)(l:List Nat):∀h,h<P→prN P B l h<P:=by
 induction l with
 |nil=>intro h hh;exact hh
 |cons c l ih=>intro h _;exact ih _ (Nat.mod_lt _ hP)
def pwN(P B n:Nat):Nat:=B ^ n%P
theorem ZI(hP:0<P)(n:Nat):pwN P B n<P:=Nat.mod_lt _ hP
def abW(P B a b n:Nat):Nat:=(a*pwN P B n+b)%P
def lL(P p s n:Nat):Nat:=(p*s ^ n)%P
theorem wI(p s n:Nat):lL P (if n%2=1 then(p*s+0)%P else p) ((s*s+0)%P) (n/2)=lL P p s n:=by
 unfold lL
 rw[Nat.mul_mod,←Nat.pow_mod,←Nat.mul_mod]
 have hn:n=2*(n/2)+n%2:=by omega
 have hs:(s*s+0) ^ (n/2)=s ^ (2*(n/2)):=by rw[Nat.add_zero,←Nat.pow_two,←Nat.pow_mul]
 rw[hs]
 by_cases h:n%2=1
 ·rw[if_pos h,Nat.mod_mul_mod]
  have e:(p*s+0)*s ^ (2*(n/2))=p*s ^ n:=by
   generalize hk:n/2=k at*
   rw[h] at hn
   rw[hn,Nat.pow_succ];grind
  rw[e]
 ·rw[if_neg h]
  have:n%2=0:=by omega
  rw[this,Nat.add_zero] at hn
  rw[←hn]
theorem Ix(p s:Nat)(h:p<P):lL P p s 0=p:=by simp[lL,Nat.mod_eq_of_lt h]
theorem DK(n:Nat):lL P 1 B n=pwN P B n:=by simp[lL,pwN]
end
end
section
open Go.RowKit
def bn(l:List Int):List Nat:=l.map Int.toNat
theorem OA(a b:List Int):bn (a++b)=bn a++bn b:=by simp[bn]
def jL(l:List Int):Nat:=prN 2305843009213693951 1000003 (bn l) 0
def si(n:Nat):Nat:=pwN 2305843009213693951 1000003 n
def Yr(a b n:Nat):Nat:=abW 2305843009213693951 1000003 a b n
theorem Mt(l:List Int):jL l<2305843009213693951:=ZJ (by omega) _ _ (by omega)
theorem Mv(n:Nat):si n<2305843009213693951:=ZI (by omega) _
theorem DI(l:List Int)(x:Int):jL (l++[x])=(jL l*1000003+(x.toNat+1))%2305843009213693951:=by
 unfold jL;rw[OA];exact QC _ _
theorem Zw(a b c:Int)(a0:0≤a)(b0:0≤b)(c0:0≤c)(ha:a<2305843009213693951)(hb:b<2305843009213693951)(hc:c<2305843009213693951)(w:World):
 Calls Tryz.prog 152 #[.int .u64 a,.int .u64 b,.int .u64 c] w fun e w'=>e= .returned (.int .u64 (((a.toNat*b.toNat+c.toNat)%2305843009213693951:Nat):Int))∧∃n,w'=w.drewN n:=by
 obtain⟨x,rfl⟩:=Int.eq_ofNat_of_zero_le a0
 obtain⟨y,rfl⟩:=Int.eq_ofNat_of_zero_le b0
 obtain⟨z,rfl⟩:=Int.eq_ofNat_of_zero_le c0
 simp only[Int.toNat_natCast]
 exact vJ x y z (by omega) (by omega) (by omega) w
def Ue(r:Nat)(w:World)(e:Ending)(w':World):Prop:=e= .returned (.int .u64 (r:Int))∧∃n,w'=w.drewN n
theorem Ir(l:List Int)(hf:aH l)(n:Nat)(hn:n=l.length)(hm:n≤140737488355328)(A:Option Addr)(b c:Nat)(w:World)(ha:ag .u8 w b A l):
 Calls Tryz.prog 102 #[.slice A n c] w (Ue (jL l) w):=by
 subst hn
 go_enter Tryz.func102,Tryz.ntmps102
 go_wp2_with fail
 go_loopw [3,8] (fun s i wr=>(∃k:Nat,k≤l.length∧i= .int .i64 k∧s= .int .u64 (jL (l.take k):Int))∧∃m,wr=w.drewN m) (fun _ i _=>l.length-(intOf i).toNat)
 case atStart=>exact⟨⟨0,agw _,rfl,rfl⟩,0,rfl⟩
 case round=>
  obtain⟨⟨k,hk,rfl,rfl⟩,m,rfl⟩:=hrel
  by_cases hlt:k<l.length
  ·obtain⟨bb,oo,rfl,hc1⟩:=ha.at_ hlt
   obtain⟨x0,x1⟩:=hf.ix_ hlt
   have hp:=Mt (l.take k)
   have hp':((jL (l.take k):Nat):Int)<2305843009213693951:=by omega
   have hs:=aa (DI (l.take k) (ix l k))
   have ht:=aa (bW hlt)
   clear hp
   go_wp2_with fail
   (with_reducible refine(Zw _ _ _ (by omega) (by omega) (by omega) (by omega) (by omega) (by omega) _).mono ?_);rintro e w' ⟨rfl,q,rfl⟩
   have he:Hid ((((jL (l.take k):Nat):Int).toNat*(1000003:Int).toNat+(ix l k+1).toNat)%2305843009213693951=jL (l.take (k+1))):=by
    show _=_
    rw[ht.out,hs.out,Int.toNat_natCast,show (ix l k+1).toNat=(ix l k).toNat+1 by omega,show (1000003:Int).toNat=1000003 from rfl]
   rw[he.out]
   clear hp'
   go_wp2_with fail
   go_roundw
   case rel=>exact⟨⟨k+1,by omega,by go_num,rfl⟩,m+q,rfl⟩
   case measure=>simp[intOf];omega
  ·have e:k=l.length:=by omega
   subst e
   go_wp2_with fail
   go_ret
   exact⟨kU (by rw[List.take_length]),m,rfl⟩
theorem Qh(p s:Nat)(hp:p<2305843009213693951)(hs:s<2305843009213693951)(w:World):
 Calls Tryz.prog 152 #[.int .u64 p,.int .u64 s,.int .u64 0] w (Ue ((p*s+0)%2305843009213693951) w):=
 vJ p s 0 hp hs (by omega) w
theorem VO{P p s m:Nat}(h:m%2=1):lL P ((p*s+0)%P) ((s*s+0)%P) (m/2)=lL P p s m:=by
 have:=wI (P:=P) p s m;rwa[if_pos h] at this
theorem QF{P p s m:Nat}(h:¬m%2=1):lL P p ((s*s+0)%P) (m/2)=lL P p s m:=by
 have:=wI (P:=P) p s m;rwa[if_neg h] at this
def J4(N m p s:Nat):Prop:=p<2305843009213693951∧s<2305843009213693951∧lL 2305843009213693951 p s m=si N
theorem Iy(N:Nat):J4 N N 1 1000003:=⟨by omega,by omega,DK N⟩
theorem QG{N m p s:Nat}(h:J4 N m p s)(hm:m%2=1):J4 N (m/2) ((p*s+0)%2305843009213693951) ((s*s+0)%2305843009213693951):=
 ⟨Nat.mod_lt _ (by omega),Nat.mod_lt _ (by omega),(VO hm).trans h.2.2⟩
theorem Mw{N m p s:Nat}(h:J4 N m p s)(hm:¬m%2=1):J4 N (m/2) p ((s*s+0)%2305843009213693951):=
 ⟨h.1,Nat.mod_lt _ (by omega),(QF hm).trans h.2.2⟩
theorem QH{N p s:Nat}(h:J4 N 0 p s):si N=p:=by rw[←h.2.2];exact Ix p s h.1
theorem Iu(N:Nat)(nI:Int)(hn:(if nI<0 then 0 else nI)=(N:Int))(hN:(N:Int)≤9223372036854775807)(w:World):
 Calls Tryz.prog 153 #[.int .i64 nI] w (Ue (si N) w):=by
 go_enter Tryz.func153,Tryz.ntmps153
 go_wp2_with fail
 have Hn9:=aa hn
 clear hn
 go_loopw [0,3,4] (fun nv pv sv wr=>(∃m p s:Nat,m≤N∧nv= .int .i64 m∧pv= .int .u64 p∧sv= .int .u64 s∧J4 N m p s)∧∃q,wr=w.drewN q) (fun nv _ _ _=>(intOf nv).toNat)
 case atStart=>exact⟨⟨N,1,1000003,agl _,by have:=Hn9.out;exact congrArg (Value.int .i64) (by omega),rfl,rfl,Iy N⟩,0,rfl⟩
 case round=>
  obtain⟨⟨m,p,s,hm,rfl,rfl,rfl,hr⟩,q,rfl⟩:=hrel
  have hr':=aa hr
  obtain⟨hp,hs,_⟩:=hr
  by_cases h0:m=0
  ·subst h0
   go_wp2_with fail
   go_ret
   exact⟨kU (by rw[QH hr'.out]),q,rfl⟩
  ·have h0I:(0:Int)<(m:Int):=by omega
   by_cases h1:m%2=1
   ·have ht:((m:Int)%2 == 1)=true:=beq_iff_eq.2 (by omega)
    have hn:=aa (QG hr'.out h1)
    clear h1 h0
    go_wp2_with fail
    (with_reducible refine(Qh _ _ hp hs _).mono ?_);rintro e w' ⟨rfl,q2,rfl⟩
    obtain⟨p2,lS⟩:∃p2,p2=(p*s+0)%2305843009213693951:=⟨_,rfl⟩
    rw[←lS] at hn ⊢
    clear lS
    go_wp2_with fail
    (with_reducible refine(Qh _ _ hs hs _).mono ?_);rintro e w' ⟨rfl,q3,rfl⟩
    obtain⟨s2,hs2⟩:∃s2,s2=(s*s+0)%2305843009213693951:=⟨_,rfl⟩
    rw[←hs2] at hn ⊢
    clear hs2
    go_wp2_with fail
    go_roundw
    case rel=>exact⟨⟨m/2,p2,s2,by omega,by go_num,rfl,rfl,hn.out⟩,q+q2+q3,rfl⟩
    case measure=>simp[intOf];omega
   ·have ht:((m:Int)%2 == 1)=false:=beq_eq_false_iff_ne.2 (by omega)
    have hn:=aa (Mw hr'.out h1)
    clear h1 h0
    go_wp2_with fail
    (with_reducible refine(Qh _ _ hs hs _).mono ?_);rintro e w' ⟨rfl,q3,rfl⟩
    obtain⟨s2,hs2⟩:∃s2,s2=(s*s+0)%2305843009213693951:=⟨_,rfl⟩
    rw[←hs2] at hn ⊢
    clear hs2
    go_wp2_with fail
    go_roundw
    case rel=>exact⟨⟨m/2,p,s2,by omega,by go_num,rfl,rfl,hn.out⟩,q+q3,rfl⟩
    case measure=>simp[intOf];omega
theorem Iw(n:Int)(hn:n≤9223372036854775807)(w:World):Calls Tryz.prog 153 #[.int .i64 n] w (Ue (si n.toNat) w):=by
 refine Iu n.toNat n ?_ (by omega) w
 split <;> omega
def Zb(r:Nat)(ok:Bool)(w:World)(e:Ending)(w':World):Prop:=e= .returned (.tuple #[.int .u64 (r:Int),.bool ok])∧∃n,w'=w.drewN n
theorem Y0{a:Nat}(h:a<2305843009213693951):decide ((2305843009213693951:Int)≤(a:Int))=false:=decide_eq_false (by omega)
theorem Rt(a b:Nat)(n:Int)(ha:a<2305843009213693951)(hb:b<2305843009213693951)(hn0:0≤n)(hn:n≤9223372036854775807)(w:World):
 Calls Tryz.prog 101 #[.int .u64 a,.int .u64 b,.int .i64 n] w (Zb (Yr a b n.toNat) true w):=by
 have hp:=aa (Mv n.toNat)
 have g1:=Y0 ha
 have g2:=Y0 hb
 have ha':=aa ha
 have hb':=aa hb
 have YG:=aa hn
 clear ha hb hn
 go_enter Tryz.func101,Tryz.ntmps101
 go_wp2_with fail
 (with_reducible refine(Iw _ YG.out _).mono ?_);rintro e w' ⟨rfl,q,rfl⟩
 go_wp2_with fail
 (with_reducible refine(vJ _ _ _ ha'.out hp.out hb'.out _).mono ?_);rintro e w' ⟨rfl,q2,rfl⟩
 obtain⟨r,hr⟩:∃r,r=(a*si n.toNat+b)%2305843009213693951:=⟨_,rfl⟩
 rw[←hr]
 have Hr:=aa hr
 clear hr
 go_wp2_with fail
 go_ret2
 exact⟨by rw[Hr.out];rfl,q+q2,rfl⟩
set_option maxRecDepth 100000
set_option maxRecDepth 100000
structure BR where
 bits:Int
 r:Nat
 R:Nat→List Int
 code:Int
def oy(c:Int):BR:=⟨0,0,fun _=>[],c⟩
def jK(rate ch bits:Int):Bool:=decide (1≤rate) && decide (rate≤1048576) && decide (1≤ch) && decide (ch≤8) && decide (4≤bits) && decide (bits≤24)
theorem tM{rate ch bits:Int}:jK rate ch bits=true↔1≤rate∧rate≤1048576∧1≤ch∧ch≤8∧4≤bits∧bits≤24:=by simp[jK,and_assoc]
theorem nG{rate ch bits:Int}(h:¬(1≤rate∧rate≤1048576∧1≤ch∧ch≤8∧4≤bits∧bits≤24)):jK rate ch bits=false:=by
 cases e:jK rate ch bits with
 |false=>rfl
 |true=>exact absurd (tM.1 e) h
def Ty(ch j i:Nat):Nat:=j/ch+if i<j%ch then 1 else 0
def dA(l:List Int)(ch j i:Nat):List Int:=(List.range (Ty ch j i)).map fun k=>ix l (k*ch+i)
theorem Tv(ch i:Nat):Ty ch 0 i=0:=by simp[Ty]
theorem DO(l:List Int)(ch i:Nat):dA l ch 0 i=[]:=by simp[dA,Tv]
theorem Tw{ch j i:Nat}(hc:0<ch)(hi:i<ch):Ty ch (j+1) i=Ty ch j i+if i=j%ch then 1 else 0:=by
 have hj:ch*(j/ch)+j%ch=j:=Nat.div_add_mod j ch
 have ht:j%ch<ch:=Nat.mod_lt _ hc
 unfold Ty
 generalize j/ch=q at*
 generalize j%ch=t at*
 by_cases h:t+1<ch
 ·have e1:(j+1)/ch=q:=by rw[←hj,Nat.add_assoc,Nat.mul_add_div hc,Nat.div_eq_of_lt h];rfl
  have e2:(j+1)%ch=t+1:=by rw[←hj,Nat.add_assoc,Nat.mul_add_mod,Nat.mod_eq_of_lt h]
  rw[e1,e2]
  by_cases a:i<t
  ·rw[if_pos a,if_pos (by omega),if_neg (by omega)]
  ·by_cases b:i=t
   ·rw[if_neg a,if_pos b,if_pos (by omega)]
   ·rw[if_neg a,if_neg b,if_neg (by omega)]
 ·have e0:j+1=ch*(q+1):=by rw[Nat.mul_add];omega
  rw[e0,Nat.mul_div_cancel_left _ hc,Nat.mul_mod_right]
  by_cases a:i<t
  ·rw[if_pos a,if_neg (by omega),if_neg (by omega)]
  ·rw[if_neg a,if_neg (by omega),if_pos (by omega)]
theorem aaW{ch j:Nat}:Ty ch j (j%ch)=j/ch:=by unfold Ty;rw[if_neg (by omega)];rfl
theorem aaV{ch j i:Nat}:Ty ch j i≤j+1:=by
 unfold Ty
 have:=Nat.div_le_self j ch
 split <;> omega
theorem ID{l:List Int}{ch j i:Nat}:(dA l ch j i).length=Ty ch j i:=by simp[dA]
theorem DR{l:List Int}{ch j i:Nat}(hc:0<ch)(hi:i<ch):dA l ch (j+1) i=if i=j%ch then dA l ch j i++[ix l j] else dA l ch j i:=by
 unfold dA
 rw[Tw hc hi]
 by_cases e:i=j%ch
 ·rw[if_pos e,if_pos e,List.range_succ,List.map_append]
  subst e
  rw[aaW]
  simp only[List.map_cons,List.map_nil]
  rw[Nat.mul_comm,Nat.div_add_mod]
 ·rw[if_neg e,if_neg e];rfl
def lN(l:List Int)(rate ch bits:Int):BR:=
 if jK rate ch bits=true then
  (if l.length=0 then oy 7 else if l.length%ch.toNat≠0 then oy 3 else if 4096<l.length/ch.toNat then oy 4 else
    if pW l bits=true then⟨bits,ch.toNat,dA l ch.toNat l.length,0⟩else oy 6)
 else oy 1
def iT(R:Nat→List Int)(r:Nat):Nat→List Int
 |0=>[]
 |i+1=>iT R r i++(List.range r).map fun k=>ix (R k) i
theorem kO(R:Nat→List Int)(r:Nat):∀n,(iT R r n).length=n*r
 |0=>by simp[iT]
 |n+1=>by rw[iT,List.length_append,kO R r n,Nat.add_mul];simp
def kP(bits:Int)(R:Nat→List Int)(r:Nat):List Int:=if ii bits R r=true then iT R r (R 0).length else []
theorem GL{bits:Int}{R:Nat→List Int}{r:Nat}:(kP bits R r).length≤(R 0).length*r:=by
 unfold kP
 split
 ·rw[kO];exact agl _
 ·simp
def zJ(bits:Int)(R:Nat→List Int)(r:Nat):List Int×Int:=if ii bits R r=true then mK (iT R r (R 0).length) bits else([],1)
set_option maxRecDepth 100000
theorem iW(rate ch bits:Int)(w:World):Calls Tryz.prog 36 #[.agg #[.int .i64 rate,.int .i64 ch,.int .i64 bits]] w fun e w'=>e= .returned (.bool (jK rate ch bits))∧Below w.heap.size w w':=by
 by_cases h1:1≤rate
 ·by_cases h2:rate≤1048576
  ·by_cases h3:1≤ch
   ·by_cases h4:ch≤8
    ·have hr:Hid (jK rate ch bits=(decide (4≤bits) && decide (bits≤24))):=by show _=_;simp[jK,h1,h2,h3,h4]
     go_enter Tryz.func36,Tryz.ntmps36
     go_wp2_with fail
     (with_reducible refine(gV _ _).mono ?_);rintro e w' ⟨rfl,rfl⟩
     go_wp2_with fail
     go_ret
     exact⟨aC hr.out.symm,ak (ac w) _⟩
    ·have hr:=aa (nG (rate:=rate) (ch:=ch) (bits:=bits) (by omega))
     go_enter Tryz.func36,Tryz.ntmps36
     go_wp2_with fail
     go_ret
     exact⟨aC hr.out.symm,ak (ac w) _⟩
   ·have hr:=aa (nG (rate:=rate) (ch:=ch) (bits:=bits) (by omega))
    go_enter Tryz.func36,Tryz.ntmps36
    go_wp2_with fail
    go_ret
    exact⟨aC hr.out.symm,ak (ac w) _⟩
  ·have hr:=aa (nG (rate:=rate) (ch:=ch) (bits:=bits) (by omega))
   go_enter Tryz.func36,Tryz.ntmps36
   go_wp2_with fail
   go_ret
   exact⟨aC hr.out.symm,ak (ac w) _⟩
 ·have hr:=aa (nG (rate:=rate) (ch:=ch) (bits:=bits) (by omega))
  go_enter Tryz.func36,Tryz.ntmps36
  go_wp2_with fail
  go_ret
  exact⟨aC hr.out.symm,ak (ac w) _⟩
theorem fw{fn:Func}(h:fn.results=#[.cell 4 89,.tmp 5])(tmps:Array Value)(w:World){g:Nat}{bits:Int}{A:Option Addr}{r c:Nat}(ht:tmps.getD 4 undef= .pointer (some ⟨g,0,none⟩))
 (c0:w.cell? ⟨g,0,none⟩=some (.int .i64 bits)) (c1:w.cell? ⟨g,1,none⟩=some (.slice A r c)):(results fn tmps).run Tryz.prog w= .ok (.tuple #[.agg #[.int .i64 bits,.slice A r c],tmps.getD 5 undef]) w:=by
 rw[results_cell_tmp h,ht]
 simp[go_sem,c0,c1]
def Yf(x:BR)(w:World)(e:Ending)(w':World):Prop:=
 ∃A c RA RC,e= .returned (.tuple #[.agg #[.int .i64 x.bits,.slice A x.r c],.int .i64 x.code])∧cP w' w.heap.size A x.r c RA RC x.R∧Below w.heap.size w w'
theorem rp{c:Int}{w w':World}(h:Below w.heap.size w w'):Yf (oy c) w (.returned (.tuple #[.agg #[.int .i64 0,.slice none 0 0],.int .i64 c])) w':=⟨none,0,fun _=>none,fun _=>0,rfl,QQ _ _ _ _ _,h⟩
theorem fh{w:World}{g:Nat}{u0 u1:Value}(d0:w.cell? ⟨g,0,none⟩=some u0)(d1:w.cell? ⟨g,1,none⟩=some u1)(x y:Value):
 ((w.setCell ⟨g,0,none⟩ x).setCell ⟨g,1,none⟩ y).cell? ⟨g,0,none⟩=some x∧((w.setCell ⟨g,0,none⟩ x).setCell ⟨g,1,none⟩ y).cell? ⟨g,1,none⟩=some y:=by
 constructor <;> simp[go_sem,d0,d1]
theorem dD{B:Nat}{w w':World}(h:Below B w w'){g:Nat}(hg:B≤g)(x y:Value):Below B w ((w'.setCell ⟨g,0,none⟩ x).setCell ⟨g,1,none⟩ y):=
 (h.setCell (p:=⟨g,0,none⟩) hg _).setCell (p:=⟨g,1,none⟩) hg _
theorem tq{x y:BR}{w w':World}{e:Ending}(h:x=y)(k:Yf y w e w'):Yf x w e w':=by rw[h];exact k
set_option maxRecDepth 100000
theorem PY{bits:Int}{R:Nat→List Int}{r:Nat}(h:ii bits R r=false):kP bits R r=[]:=by simp[kP,h]
theorem zg{xs ys:List Int}{w w':World}{e:Ending}(h:xs=ys)(k:tB ys w e w'):tB xs w e w':=by rw[h];exact k
theorem Dp{w w':World}(h:Below w.heap.size w w'):tB [] w (.returned (.slice none 0 0)) w':=⟨none,0,rfl,ax.nil _ _,h⟩
theorem GK(R:Nat→List Int)(r:Nat)(hr1:r≤1000)(hR:∀i,i<r→(R i).length≤100000)(RA:Nat→Option Addr)(RC:Nat→Nat)(A:Option Addr)(c:Nat)(bits:Int)(w:World)(h:Rw w w.heap.size A r RA RC R):
 Calls Tryz.prog 151 #[.agg #[.int .i64 bits,.slice A r c]] w (tB (kP bits R r) w):=by
 have hc1:(w.alloc (.cells #[.int .i64 bits,.slice A r c] 89)).cell? ⟨w.heap.size,1,none⟩=some (.slice A r c):=(agu _ _ _ _ _ _ (ago w _)).trans rfl
 have hc0:(w.alloc (.cells #[.int .i64 bits,.slice A r c] 89)).cell? ⟨w.heap.size,0,none⟩=some (.int .i64 bits):=(agu _ _ _ _ _ _ (ago w _)).trans rfl
 have UC:=aa hc1
 have Vj:=aa hc0
 have HR:=aa hR
 clear hc1 hc0 hR
 go_enter Tryz.func151,Tryz.ntmps151
 go_wp2_with fail
 have B1:=ak (ac w) (.cells #[.int .i64 bits,.slice A r c] 89)
 obtain⟨w1,bj⟩:∃w1,w1=w.alloc (.cells #[.int .i64 bits,.slice A r c] 89):=⟨_,rfl⟩
 rw[←bj] at B1 Vj UC ⊢
 have hz1:w1.heap.size=w.heap.size+1:=by rw[bj];simp
 clear bj
 (with_reducible refine(nZ R r hr1 HR.out RA RC _ _ _ _ ((h.below B1).more B1.size)).mono ?_);rintro e w2 ⟨rfl,b2⟩
 have B2:=kK B1 b2
 cases bK:ii bits R r with
 |false=>
  have hr:=aa (PY bK)
  clear bK
  go_wp2_with fail
  go_ret
  exact zg hr.out (Dp B2)
 |true=>
  obtain⟨m1,m2,m3,m4,m5,m6,m7⟩:=pU.1 bK
  have hl:Hid (BP R r=((R 0).length:Int)):=by show _=_;unfold BP;rw[if_neg (by omega)]
  obtain⟨n,hn⟩:∃n,n=(R 0).length:=⟨_,rfl⟩
  have hwe:Hid (kP bits R r=iT R r n):=by show _=_;rw[kP,if_pos bK,hn]
  have HL:Hid (∀i,i<r→(R i).length=n):=fun i hi=>by rw[hn];exact(m7 i hi).1
  rw[←hn] at hl m5 m6
  clear bK m7 hn
  have c0:=later b2 Vj.out
  have c1:=later b2 UC.out
  go_wp2_with fail
  (with_reducible refine(nN R r hr1 RA RC _ _ _ _ ((h.below B2).more B2.size)).mono ?_);rintro e w3 ⟨rfl,b3⟩
  rw[hl.out]
  have oT:=kK b2 b3
  clear b2 b3 c0 c1 B2 hl
  go_wp2_with fail
  go_loopw [3,4,6,12,18] (fun ov _ _ iv _ wr=>(∃(i:Nat) (A':Option Addr) (c':Nat),i≤n∧iv= .int .i64 i∧ov= .slice A' (i*r) c'∧ax wr w1.heap.size A' (i*r) c' (iT R r i))∧Below w1.heap.size w1 wr) (fun _ _ _ iv _ _=>n-(intOf iv).toNat)
  case atStart=>exact⟨⟨0,none,0,agw _,rfl,by simp,by simpa [iT] using ax.nil _ _⟩,oT⟩
  case round=>
   obtain⟨⟨i,A2,c2,hi,rfl,rfl,ho⟩,hb⟩:=hrel
   obtain⟨wo,rfl⟩:∃wo:World,wo=wr:=⟨_,rfl⟩
   have Ho:=aa ho
   have Hb:=aa hb
   have c1:=later hb UC.out
   clear ho hb
   by_cases hlt:i<n
   ·have SM:i*r+r≤40000:=by
     have h1:(i+1)*r≤4096*8:=Nat.mul_le_mul (by omega) (by omega)
     rw[Nat.add_mul] at h1;omega
    obtain⟨m0,Sr⟩:∃m0,m0=i*r:=⟨_,rfl⟩
    have Hm0:=aa Sr
    rw[←Sr] at Ho SM ⊢
    obtain⟨X,hX⟩:∃X,X=iT R r i:=⟨_,rfl⟩
    have HX:=aa hX
    rw[←hX] at Ho
    clear Sr hX
    go_wp2_with fail
    clear c1
    go_loopw [3,6,18] (fun ov _ kv wr=>(∃(k:Nat) (A':Option Addr) (c':Nat),k≤r∧kv= .int .i64 k∧ov= .slice A' (m0+k) c'∧ax wr w1.heap.size A' (m0+k) c' (X++(List.range k).map fun k=>ix (R k) i))∧Below w1.heap.size w1 wr) (fun _ _ kv _=>r-(intOf kv).toNat)
    case atStart=>exact⟨⟨0,A2,c2,agw _,rfl,rfl,by simpa using Ho.out⟩,Hb.out⟩
    case round=>
     obtain⟨⟨k,A3,c3,hk,rfl,rfl,bF⟩,hb3⟩:=hrel
     obtain⟨wp,rfl⟩:∃wp:World,wp=wr:=⟨_,rfl⟩
     have Ho3:=aa bF
     have X3:=aa hb3
     clear bF hb3
     by_cases hkr:k<r
     ·have Bp:=kK B1 X3.out
      obtain⟨b1,o1,rfl,hc⟩:=(h.below Bp).at_ hkr
      have hlk:=HL.out k hkr
      rw[hlk] at hc
      obtain⟨b3,o3,e3,hc3⟩:=((h.below Bp).ints k hkr).at_ (i:=i) (by omega)
      rw[e3] at hc
      obtain⟨x,hx⟩:∃x,x=ix (R k) i:=⟨_,rfl⟩
      rw[←hx] at hc3
      have Hx:=aa hx
      clear hx hlk e3 Bp
      have i2:(i:Int)<(n:Int):=by omega
      have i3:(0:Int)≤(i:Int):=by omega
      go_wp2_with (at_builtin;refine Lq _ rfl (.tmp 22) (.tmp 27) rfl w1 _ _ _ _ rfl (Ho3.out.alloc _) _ _ 1 1 [x] rfl rfl (dN _ _ _) (by omega) (ak X3.out _) ?_;intro A4 c4 w4 bE hb4)
      have Ho4:=aa bE
      have Hb4:=aa hb4
      clear bE hb4
      go_roundw
      case rel=>
       refine⟨⟨k+1,A4,c4,by omega,by go_num,rfl, ?_⟩,Hb4.out⟩
       rw[List.range_succ,List.map_append,←List.append_assoc]
       simp only[List.map_cons,List.map_nil,←Hx.out]
       exact Ho4.out
      case measure=>simp[intOf];omega
     ·have e:k=r:=by omega
      subst e
      have e2:m0+k=(i+1)*k:=by rw[Hm0.out,Nat.add_mul];omega
      have E2:=aa e2
      clear e2
      go_wp2_with fail
      constructor
      ·refine⟨⟨i+1,A3,c3,by omega,by go_num,by rw[E2.out], ?_⟩,X3.out⟩
       rw[←E2.out,iT,←HX.out]
       exact Ho3.out
      ·simp[intOf];omega
   ·have e:i=n:=by omega
    subst e
    go_wp2_with fail
    go_ret
    refine zg hwe.out ?_
    refine⟨A2,c2,by rw[kO];rfl, ?_,kK B1 Hb.out⟩
    rw[kO]
    exact Ho.out.base (by omega)
set_option maxRecDepth 100000
theorem VX{bits:Int}{R:Nat→List Int}{r:Nat}(h:ii bits R r=false):zJ bits R r=([],1):=by simp[zJ,h]
theorem AX{x y:List Int×Int}{w w':World}{e:Ending}(h:x=y)(k:tD y w e w'):tD x w e w':=by rw[h];exact k
theorem IE(R:Nat→List Int)(r:Nat)(hr1:r≤1000)(hR:∀i,i<r→(R i).length≤100000)(hsz:(R 0).length*r≤20000)(RA:Nat→Option Addr)(RC:Nat→Nat)(A:Option Addr)(c:Nat)(bits:Int)(w:World)(h:Rw w w.heap.size A r RA RC R):
 Calls Tryz.prog 100 #[.agg #[.int .i64 bits,.slice A r c]] w (tD (zJ bits R r) w):=by
 have hc1:(w.alloc (.cells #[.int .i64 bits,.slice A r c] 89)).cell? ⟨w.heap.size,1,none⟩=some (.slice A r c):=(agu _ _ _ _ _ _ (ago w _)).trans rfl
 have hc0:(w.alloc (.cells #[.int .i64 bits,.slice A r c] 89)).cell? ⟨w.heap.size,0,none⟩=some (.int .i64 bits):=(agu _ _ _ _ _ _ (ago w _)).trans rfl
 have UC:=aa hc1
 have Vj:=aa hc0
 have HR:=aa hR
 clear hc1 hc0 hR
 go_enter Tryz.func100,Tryz.ntmps100
 go_wp2_with fail
 have B1:=ak (ac w) (.cells #[.int .i64 bits,.slice A r c] 89)
 obtain⟨w1,bj⟩:∃w1,w1=w.alloc (.cells #[.int .i64 bits,.slice A r c] 89):=⟨_,rfl⟩
 rw[←bj] at B1 Vj UC ⊢
 clear bj
 (with_reducible refine(nZ R r hr1 HR.out RA RC _ _ _ _ ((h.below B1).more B1.size)).mono ?_);rintro e w2 ⟨rfl,b2⟩
 have B2:=kK B1 b2
 cases bK:ii bits R r with
 |false=>
  have hr:=aa (VX bK)
  clear bK
  go_wp2_with fail
  go_ret2
  exact AX hr.out (lr B2)
 |true=>
  obtain⟨l,hl⟩:∃l,l=kP bits R r:=⟨_,rfl⟩
  have hwe:Hid (zJ bits R r=mK l bits):=by show _=_;rw[zJ,if_pos bK,hl,kP,if_pos bK]
  have hll:l.length≤20000:=by rw[hl];exact agm GL hsz
  have Hl:=aa hl
  clear bK hl
  have c0:=later b2 Vj.out
  have c1:=later b2 UC.out
  have h2:=(h.below B2).more B2.size
  go_wp2_with fail
  go_region_held3 (fun w'=>w'.cell? ⟨w.heap.size,0,none⟩=some (.int .i64 bits)∧w'.cell? ⟨w.heap.size,1,none⟩=some (.slice A r c)) (first | (go_keep;done) | exact⟨later b3 c0,later b3 c1⟩ | exact⟨later (kK b3 b4) c0,later (kK b3 b4) c1⟩)
   (first | (go_at_call 151;(with_reducible refine(GK R r hr1 HR.out RA RC _ _ _ _ (by first | exact h2 | exact(h2.below (ac w2).drew).more (ac w2).drew.size)).mono ?_);rintro e w3 ⟨A3,c3,rfl,bF,b3'⟩;rw[←Hl.out] at bF ⊢;have b3:Below w2.heap.size w2 w3:=⟨b3'.os,b3'.tape,b3'.output,b3'.size,b3'.block⟩;have z3:=bF.ints) | (go_at_call 150;(with_reducible refine(MG l _ rfl hll bits _ _ _ (by exact z3)).mono ?_);rintro e w4 ⟨A4,c4,rfl,bE,b4'⟩;have b4:Below w3.heap.size w3 w4:=⟨b4'.os,b4'.tape,b4'.output,b4'.size,b4'.block⟩))
  have BB:=kK B2 (kK b3 b4)
  have hs:w.heap.size≤w3.heap.size:=agm B2.size b3.size
  go_wp2_with fail
  go_ret2
  refine AX hwe.out ⟨A4,c4,rfl, ?_,BB⟩
  exact aq.base bE hs
theorem Rl:zJ 8 (fun _=>[5, -5]) 1=([5,251],0):=by kernel_rfl
theorem Nr:jL [5,251]=6000270:=by kernel_rfl
theorem Rm:Yr 0 6000270 (Int.toNat 2)=6000270:=by kernel_rfl
theorem nc(A:Option Addr)(c:Nat)(RA:Nat→Option Addr)(RC:Nat→Nat)(w:World)(h:Rw w w.heap.size A 1 RA RC (fun _=>[5, -5])):
 Calls Tryz.prog 41 #[.int .u64 0,.agg #[.int .i64 8,.slice A 1 c]] w fun e w'=>e= .returned (.tuple #[.int .u64 6000270,.bool true])∧Below w.heap.size w w':=by
 have hx:=aa (ago w (.cells #[.int .i64 8,.slice A 1 c] 89))
 have bx:=aa (ak (ac w) (.cells #[.int .i64 8,.slice A 1 c] 89))
 have hpk:=aa (fun W (hW:Below w.heap.size w W)=>by
  have:=IE (fun _=>[5, -5]) 1 (by omega) (fun _ _=>by decide) (by decide) RA RC A c 8 W ((h.below hW).more hW.size)
  rw[Rl] at this
  unfold tD at this
  exact this)
 obtain⟨PB,YU⟩:∃PB:List Int,PB=[5,251]:=⟨_,rfl⟩
 have hby:aH PB:=by
  have:∀x∈([5,251]:List Int),0≤x∧x<256:=by decide
  rw[YU];exact fun x hx=>this x hx
 have hpr:=aa (fun A b c W (ha:ag .u8 W b A PB)=>by
  have:=Ir PB hby 2 (by rw[YU];rfl) (by omega) A b c W ha
  rw[YU,Nr] at this
  unfold Ue at this
  rw[show ((6000270:Nat):Int)=6000270 from rfl] at this
  exact this)
 have hjn:=aa (fun W=>by
  have:=Rt 0 6000270 2 (by omega) (by omega) (by omega) (by omega) W
  rw[Rm] at this
  unfold Zb at this
  rw[show ((6000270:Nat):Int)=6000270 from rfl,show ((0:Nat):Int)=0 from rfl] at this
  exact this)
 have aal:Hid (∀W,Below w.heap.size w W→Calls Tryz.prog 100 #[.agg #[.int .i64 8,.slice A 1 c]] W fun e w'=>∃A c,e= .returned (.tuple #[.slice A 2 c,.int .i64 0])∧aq w' W.heap.size A 2 c PB∧Below W.heap.size W w'):=aa (fun W hW=>by rw[YU];exact hpk.out W hW)
 obtain⟨⟨k0,k1⟩,_⟩:=aB hx.out
 clear hpk h hby YU
 go_enter Tryz.func41,Tryz.ntmps41
 go_wp2_with (first
  |(go_at_call 100;(with_reducible refine(aal.out _ bx.out).mono ?_);rintro e w1 ⟨A1,c1,rfl,cM,b1⟩)
  |(go_at_call 102;(with_reducible refine(hpr.out _ _ _ _ cM.ints).mono ?_);rintro e w2 ⟨rfl,q2,rfl⟩)
  |(go_at_call 101;(with_reducible refine(hjn.out _).mono ?_);rintro e w3 ⟨rfl,q3,rfl⟩))
 refine bodyPost_ret (results_tmp2 rfl _ _ _) rfl ?_
 exact⟨rfl,below_drewN (af bx.out b1) (q2+q3)⟩
end
end Go.Proofs.YtbhfpehgacaidaaGreatDoor
