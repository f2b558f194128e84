/- A part of the proof of the given statement TopRight. Conditions: none. -/
import Derived.Test.YtbhfpehgacaidaaGreatDoorQAE
namespace Go.Proofs.YtbhfpehgacaidaaGreatDoor
set_option linter.unusedVariables false
set_option linter.unusedSimpArgs false
set_option maxRecDepth 100000
set_option maxHeartbeats 8000000
section
open Go.RowKit
def oN(P:List Pg):Int:=P.foldl (fun a p=>bits .xor .u8 a (wQ p)) 0
def oM(P:List Pg):Int:=P.foldl (fun a p=>bits .xor .u8 a (p.body.length:Int)) 0
def mX(P:List Pg):List Int:=P.foldl (fun s p=>Bc s p.body) []
def jo(P:List Pg)(sq:Int):Pg:=⟨sq,false,false,true,[(P.length:Int),oN P,oM P]++mX P⟩
theorem Jz{P:List Pg}{k:Nat}(h:k<P.length):oN (P.take (k+1))=bits .xor .u8 (oN (P.take k)) (wQ P[k]):=by
 rw[agx h,oN,List.foldl_append];rfl
theorem Jy{P:List Pg}{k:Nat}(h:k<P.length):oM (P.take (k+1))=bits .xor .u8 (oM (P.take k)) (P[k].body.length:Int):=by
 rw[agx h,oM,List.foldl_append];rfl
theorem AB{P:List Pg}{k:Nat}(h:k<P.length):mX (P.take (k+1))=Bc (mX (P.take k)) P[k].body:=by
 rw[agx h,mX,List.foldl_append];rfl
theorem EY{P:List Pg}(h:∀p∈P,p.body.length≤255):∀k,k≤P.length→(mX (P.take k)).length≤255
 |0,_=>by simp[mX]
 |k+1,hk=>by
  rw[AB (by omega),Cz]
  have:=EY h k (by omega)
  have:=h P[k] (agt (by omega))
  omega
theorem N5(E:List (El Pg))(n:Nat)(hn:n=E.length)(h1:1≤n)(hm:n≤8)(hs:dM E)(A:Option Addr)(B c:Nat)(w:World)(hB:B≤w.heap.size)(ha:iE gY w B A E)(sq:Int)(Yw:∀h:0<E.length,(E[0]'h).1.seq=sq):
 Calls Tryz.prog 71 #[.slice A n c] w (Ke (jo (E.map (·.1)) sq) w):=by
 have Hn:=aa hn
 have Hsq:=aa Yw
 have KO:∀k,k≤n→(mX ((E.map (·.1)).take k)).length≤255:=fun k hk=>EY (fun p hp=>by obtain⟨t,ht,rfl⟩:=List.mem_map.1 hp;exact(hs t ht).2) k (by simp;omega)
 have Hsl:=aa KO
 obtain⟨w1,bj⟩:∃w1,w1=w.alloc (.cells #[.int .i64 0,.bool false,.bool false,.bool false,.slice none 0 0] 124):=⟨_,rfl⟩
 have M:=aa (ago w (.cells #[.int .i64 0,.bool false,.bool false,.bool false,.slice none 0 0] 124))
 have B1:=aa (ak (ac w) (.cells #[.int .i64 0,.bool false,.bool false,.bool false,.slice none 0 0] 124))
 have hz1:Hid (w1.heap.size=w.heap.size+1):=by show _=_;rw[bj];simp
 rw[←bj] at M B1
 have Ha1:=aa (ha.below (B1.out.mono hB))
 have UZ:B≤w1.heap.size:=agm hB B1.out.size
 clear hn Yw KO ha
 go_enter Tryz.func71,Tryz.ntmps71
 go_wp2_with fail
 rw[←bj]
 clear bj
 go_loopw [3,4,5,7,11] (fun bv sv mv _ iv wr=>(∃(i k:Nat) (A':Option Addr) (c':Nat),i≤n∧bv= .int .u8 (oN ((E.map (·.1)).take i))∧sv= .int .u8 (oM ((E.map (·.1)).take i))∧mv= .slice A' k c'∧iv= .int .i64 i∧k=(mX ((E.map (·.1)).take i)).length∧aq wr w1.heap.size A' k c' (mX ((E.map (·.1)).take i)))∧Below w1.heap.size w1 wr) (fun _ _ _ _ iv _=>n-(intOf iv).toNat)
 case atStart=>exact⟨⟨0,0,none,0,agw _,rfl,rfl,rfl,rfl,by simp[mX],by simpa [mX] using aq.nil _ _⟩,ac w1⟩
 case round=>
  obtain⟨⟨i,k,A2,c2,hi,rfl,rfl,rfl,rfl,hk,hO⟩,hb⟩:=hrel
  obtain⟨wo,rfl⟩:∃wo:World,wo=wr:=⟨_,rfl⟩
  have HO:=aa hO
  have HB:=aa hb
  have Hk:=aa hk
  have acw:k≤255:=by rw[hk];exact Hsl.out i hi
  clear hO hb hk
  by_cases hlt:i<n
  ·have dv:i<E.length:=by have:=Hn.out;omega
   have ha2:=Ha1.out.below (HB.out.mono UZ)
   obtain⟨b,off,rfl,sQ,x0,x1,x2,x3,x4⟩:=jb ha2 dv
   have hsm:=hs _ (agt dv)
   have iC:=Ha1.out.2 _ (agt dv)
   have g1:=aa (Jz (P:=E.map (·.1)) (k:=i) (by simpa using dv))
   have g2:=aa (Jy (P:=E.map (·.1)) (k:=i) (by simpa using dv))
   have g3:=aa (AB (P:=E.map (·.1)) (k:=i) (by simpa using dv))
   simp only[List.getElem_map] at g1 g2 g3
   generalize E[i]=t at*
   obtain⟨p,Ad,cd⟩:=t
   dsimp only at*
   have SG:ag .u8 w1 w1.heap.size Ad p.body:=(show ag .u8 w1 B Ad p.body from iC).more UZ
   have C6:=aa SG
   have li:∀W,Calls Tryz.prog 114 #[.agg #[.int .i64 p.seq,.bool p.first,.bool p.last,.bool p.guard,.slice Ad p.body.length cd]] W fun e w'=>e= .returned (.int .u8 (wQ p))∧Below W.heap.size W w':=fun W=>wP p Ad cd W
   have Uq:=aa li
   have hI:(i:Int)<(n:Int):=by omega
   have u8:=IntWalk.u8_in (p.body.length:Int) (by have:=hsm.2;omega)
   have ac3:=hsm.2
   have Mo:=aa (ago wo (.cells #[.int .i64 p.seq,.bool p.first,.bool p.last,.bool p.guard,.slice Ad p.body.length cd] 124))
   clear iC SG li hsm ha2
   generalize oN ((E.map (·.1)).take i)=xb at*
   generalize oM ((E.map (·.1)).take i)=xs at*
   generalize mX ((E.map (·.1)).take i)=xm at*
   go_wp2_with (first
    |(go_at_call 114;(with_reducible refine(Uq.out _).mono ?_);rintro e w2 ⟨rfl,b2⟩;have B2:=af (ak (ac wo) _) b2;have c4:=((ay ((b2.block wo.heap.size (by simp)).trans Mo.out)).1).2.2.2.2;have O2:=HO.out.below B2 (agl _))
    |(go_at_call 115;(with_reducible refine(AZ xm p.body k p.body.length Hk.out.symm rfl (by omega) (by omega) A2 Ad c2 cd w1 _ (af HB.out B2) O2 C6.out).mono ?_);rintro e w3 ⟨A3,c3,rfl,bF,b3⟩))
   all_goals refine⟨⟨⟨i+1,(Bc xm p.body).length,A3,c3,by omega,by rw[g1.out],by rw[g2.out],rfl,by go_num,by rw[g3.out],by rw[g3.out];exact bF⟩,b3⟩, ?_⟩
   all_goals (simp[intOf];omega)
  ·obtain rfl:i=n:=by omega
   have hI:¬((i:Int)<(i:Int)):=by omega
   have qc:(E.map (·.1)).take i=E.map (·.1):=List.take_of_length_le (by have:=Hn.out;simp;omega)
   rw[qc] at HO Hk ⊢
   have hpl:(E.map (·.1)).length=i:=by have:=Hn.out;simp;omega
   have hG:Hid (jo (E.map (·.1)) sq=⟨sq,false,false,true,[(i:Int),oN (E.map (·.1)),oM (E.map (·.1))]++mX (E.map (·.1))⟩):=by show _=_;rw[jo,hpl]
   obtain⟨G,hGe⟩:∃G,G=jo (E.map (·.1)) sq:=⟨_,rfl⟩
   rw[←hGe] at hG
   have HGe:=aa hGe
   clear qc hpl hGe hlt
   generalize oN (E.map (·.1))=xb at*
   generalize oM (E.map (·.1))=xs at*
   generalize mX (E.map (·.1))=xm at*
   have u8:=IntWalk.u8_in (i:Int) (by omega)
   have h0E:0<E.length:=by have:=Hn.out;omega
   have cw:(0:Int)<(i:Int):=by omega
   have afK:0<i:=by omega
   obtain⟨b,off,rfl,sQ,_⟩:=jb Ha1.out h0E
   have OL:aq (wo.alloc (.cells #[.int .u8 (i:Int),.int .u8 xb,.int .u8 xs] 5)) w1.heap.size (some ⟨wo.heap.size,0,none⟩) 3 3 [(i:Int),xb,xs]:=
    aq.base (World.ownsRow_lit wo #[.int .u8 (i:Int),.int .u8 xb,.int .u8 xs] 3 (by simp) (by simp[maxLen]) (by simp)) HB.out.size
   go_wp2_with (at_builtin;refine cF _ rfl (.tmp 35) (.tmp 36) rfl w1 _ 3 3 [(i:Int),xb,xs] rfl OL _ A2 k c2 xm rfl Hk.out.symm (HO.out.ints.below (ak (ac wo) _)) (by omega) (ak HB.out _) ?_;intro A5 c5 w5 bT b5;obtain⟨b',wL,e,_,x0,_⟩:=jb (Ha1.out.below (b5.mono UZ)) h0E;injection e with e;injection e with e1 e2;subst e1;subst e2;rw[Nat.zero_mul,Nat.add_zero,Hsq.out h0E] at x0;obtain⟨K,f0,f1,f2,f3,f4⟩:=ay ((b5.block w.heap.size (by have:=hz1.out;omega)).trans M.out);have HK:=aa K;obtain⟨k0,k1,k2,k3,k4⟩:=K)
   all_goals refine bodyPost_ret (tN rfl _ _ rfl (aM HK.out _ _ _ _ _)) rfl ?_
   all_goals rw[←HGe.out,hG.out]
   all_goals have hbl:([(i:Int),xb,xs]++xm).length=3+k:=by rw[List.length_append,←Hk.out];rfl
   all_goals refine⟨A5,c5, ?_, ?_,cO (B1.out.trans (b5.mono B1.out.size)) (agl _) _ _ _ _ _⟩
   all_goals first
    |(show aq _ _ A5 ([(i:Int),xb,xs]++xm).length c5 ([(i:Int),xb,xs]++xm)
      rw[hbl]
      exact aq.of_other (aq.base bT B1.out.size) fun q hq=>fk (by have:=(agB bT q hq).1;have:=hz1.out;omega) _ _ _ _ _)
    |(show _=Ending.returned (.agg #[.int .i64 sq,.bool false,.bool false,.bool true,.slice A5 ([(i:Int),xb,xs]++xm).length c5])
      rw[hbl])
def adf(w:World)(g B:Nat)(nx:Int)(bg:Bool)(bd:List Int)(br:Int):Prop:=
 ∃A c,w.heap[g]? =some (.cells #[.int .i64 nx,.bool bg,.slice A bd.length c,.int .i64 br] 223 (0,0))∧aq w B A bd.length c bd∧B≤g∧(∀q,aj A=some q→q≠g)
theorem fO{W:World}{g:Nat}{v0 v1 v2 v3:Value}(h:W.heap[g]? =some (.cells #[v0,v1,v2,v3] 223 (0,0))):
 (W.cell? ⟨g,0,none⟩=some v0∧W.cell? ⟨g,1,none⟩=some v1∧W.cell? ⟨g,2,none⟩=some v2∧W.cell? ⟨g,3,none⟩=some v3)∧W.frozen? ⟨g,0,none⟩=false∧W.frozen? ⟨g,1,none⟩=false∧W.frozen? ⟨g,2,none⟩=false∧W.frozen? ⟨g,3,none⟩=false:=
 ⟨⟨(agu _ _ _ _ _ _ h).trans rfl,(agu _ _ _ _ _ _ h).trans rfl,(agu _ _ _ _ _ _ h).trans rfl,(agu _ _ _ _ _ _ h).trans rfl⟩,agv W g 0 _ _ h,agv W g 1 _ _ h,agv W g 2 _ _ h,agv W g 3 _ _ h⟩
theorem Ei(w:World):Calls Tryz.prog 75 #[.int .i64 0] w fun e w'=>e= .returned (.pointer (some ⟨w.heap.size,0,none⟩))∧adf w' w.heap.size w.heap.size 0 false [] 0∧Below w.heap.size w w':=by
 go_enter Tryz.func75,Tryz.ntmps75
 go_wp2_with fail
 go_ret
 exact⟨rfl,⟨none,0,ago w _,aq.nil _ _,agl _,fun q h=>by cases h⟩,ak (ac w) _⟩
theorem uq{w:World}{A:Option Addr}{l:List Int}{c:Nat}(ha:ag .u8 w w.heap.size A l)(hc:l.length≤c)(cK:c≤9223372036854775807):
 cG (w.alloc (.cells #[.slice A l.length c,.int .i64 0,.int .i64 0] 294)) w.heap.size l 0 0:=by
 have h:=ago w (.cells #[.slice A l.length c,.int .i64 0,.int .i64 0] 294)
 exact⟨A,c,(agu _ _ _ _ _ _ h).trans rfl,(agu _ _ _ _ _ _ h).trans rfl,(agu _ _ _ _ _ _ h).trans rfl,agv _ _ 1 _ _ h,agv _ _ 2 _ _ h,
  ha.below ((Below.refl _ _).alloc (agl _) _),hc,cK⟩
theorem FE(l:List Int)(n:Nat)(hn:l.length=n)(hm:n≤50000)(A:Option Addr)(B c:Nat)(w:World)(ha:ag .u8 w B A l):Calls Tryz.prog 155 #[.slice A n c] w (abi l w):=by
 go_enter Tryz.func155,Tryz.ntmps155
 go_wp2_with (at_builtin;refine jU _ rfl (.const (.slice none 0 0)) (.tmp 3) rfl w none 0 rfl (aq.nil _ _) B A n c l rfl hn ha (by omega) (ac _) ?_;intro A' c' w' ho b)
 obtain⟨k1,k2⟩:=bJ ho
 subst hn
 go_ret
 exact⟨_,rfl,b.size,uq ho.ints k1 (agm k2 (by decide)),ak b _⟩
theorem jI(l:List Int)(p:Nat)(x:Int)(g:Nat)(w:World)(h:cG w g l p x):Calls Tryz.prog 159 #[.pointer (some ⟨g,0,none⟩)] w fun e w'=>e= .returned (.int .i64 x)∧w'=w:=by
 obtain⟨A,c,h0,h1,h2,h3,h4,h5,h6,h7⟩:=h
 go_enter Tryz.func159,Tryz.ntmps159
 go_wp2_with fail
 go_ret
 exact⟨rfl,rfl⟩
theorem rq(l:List Int)(p:Nat)(x:Int)(g:Nat)(w:World)(h:cG w g l p x)(hl:l.length≤50000)(hp:p≤400000):
 Calls Tryz.prog 157 #[.pointer (some ⟨g,0,none⟩)] w fun e w'=>e= .returned (.int .i64 (8*(l.length:Int)-(p:Int)))∧∃q,w'=w.drewN q:=by
 obtain⟨A,c,h0,h1,h2,h3,h4,h5,h6,h7⟩:=h
 have i1:=agp (8*(l.length:Int)) (by omega)
 have i2:=agp (8*(l.length:Int)-(p:Int)) (by omega)
 go_enter Tryz.func157,Tryz.ntmps157
 go_wp2_with fail
 go_quiet (fail)
 go_wp2_with fail
 go_ret
 exact⟨rfl,nq,rfl⟩
def FH(l:List Int)(i:Nat):Nat:=(ix l (i/8)).toNat/2 ^ (7-i%8)%2
theorem XM(y:Nat)(hy:y<256):bits .and .u8 (y:Int) 1=((y%2:Nat):Int):=by
 have key:(BitVec.ofInt 8 (y:Int) &&& BitVec.ofInt 8 1).toNat=y%2:=by
  rw[BitVec.toNat_and,BitVec.toNat_ofInt,show (BitVec.ofInt 8 1).toNat=1 by decide,Nat.and_one_is_mod]
  omega
 show IntKind.u8.wrap ((BitVec.ofInt 8 (y:Int) &&& BitVec.ofInt 8 1).toNat:Int)=_
 rw[key]
 exact IntWalk.u8_in _ (by omega)
theorem D6(l:List Int)(p:Nat)(x:Int)(g i:Nat)(hby:aH l)(hl:l.length≤50000)(hi:i<8*l.length)(w:World)(h:cG w g l p x):
 Calls Tryz.prog 202 #[.pointer (some ⟨g,0,none⟩),.int .i64 (i:Int)] w fun e w'=>e= .returned (.int .u8 (FH l i:Int))∧∃q,w'=w.drewN q:=by
 obtain⟨A,c,h0,h1,h2,h3,h4,h5,h6,h7⟩:=h
 have hb:=hby.ix_ (show i/8<l.length by omega)
 obtain⟨b,off,rfl,hc⟩:=h5.at_ (show i/8<l.length by omega)
 obtain⟨j,hj⟩:∃j,j=i/8:=⟨_,rfl⟩
 obtain⟨r,hr⟩:∃r,r=i%8:=⟨_,rfl⟩
 have hD:Hid (FH l i=(ix l j).toNat/2 ^ (7-r)%2):=by show _=_;rw[hj,hr];rfl
 have e1:(i:Int)/8=(j:Int):=by omega
 have e2:(i:Int)%8=(r:Int):=by omega
 rw[←hj] at hc hb
 obtain⟨y,hy⟩:=Int.eq_ofNat_of_zero_le hb.1
 rw[hy] at hc hD hb
 rw[Int.toNat_natCast] at hD
 have hjl:(j:Int)<(l.length:Int):=by omega
 have afG:j<l.length:=by omega
 have vo:r=0∨r=1∨r=2∨r=3∨r=4∨r=5∨r=6∨r=7:=by omega
 have ha:=aa (XM (y/2 ^ (7-r)) (Nat.lt_of_le_of_lt (Nat.div_le_self _ _) (by omega)))
 clear h5 hj hr hy
 go_enter Tryz.func202,Tryz.ntmps202
 rcases vo with rfl | rfl | rfl | rfl | rfl | rfl | rfl | rfl
 all_goals go_wp2_with fail
 all_goals go_ret
 all_goals refine⟨?_,0,rfl⟩
 all_goals rw[hD.out,←ha.out]
 all_goals first | rfl | (simp;done)
def bg(bs:List Bool)(i:Nat):Nat:=(bs.getD i false).toNat
def fE(bs:List Bool)(j:Nat):Nat:=128*bg bs (8*j)+64*bg bs (8*j+1)+32*bg bs (8*j+2)+16*bg bs (8*j+3)+8*bg bs (8*j+4)+4*bg bs (8*j+5)+2*bg bs (8*j+6)+bg bs (8*j+7)
def aT(bs:List Bool):List Int:=(List.range ((bs.length+7)/8)).map fun j=>(fE bs j:Int)
def bI(b:Bool):Int:=if b=true then 1 else 0
theorem aa2(b:Bool):bI b=(b.toNat:Int):=by cases b <;> rfl
theorem ur(bs:List Bool)(i:Nat):bg bs i<2:=by unfold bg;cases bs.getD i false <;> simp
theorem au{bs:List Bool}{i:Nat}(h:bs.length≤i):bg bs i=0:=by unfold bg;rw[List.getD_eq_getElem?_getD,List.getElem?_eq_none h];rfl
theorem bV(bs cs:List Bool){i:Nat}(h:i<bs.length):bg (bs++cs) i=bg bs i:=by unfold bg;rw[List.getD_eq_getElem?_getD,List.getD_eq_getElem?_getD,List.getElem?_append_left h]
theorem ut(bs:List Bool)(b:Bool){i:Nat}(h:i=bs.length):bg (bs++[b]) i=b.toNat:=by subst h;unfold bg;simp
theorem bP(bs:List Bool):(aT bs).length=(bs.length+7)/8:=by simp[aT]
theorem ra(bs:List Bool)(j:Nat):fE bs j<256:=by
 have:=ur bs (8*j);have:=ur bs (8*j+1);have:=ur bs (8*j+2);have:=ur bs (8*j+3)
 have:=ur bs (8*j+4);have:=ur bs (8*j+5);have:=ur bs (8*j+6);have:=ur bs (8*j+7)
 unfold fE;omega
theorem FA(bs:List Bool):aH (aT bs):=fun x hx=>by
 obtain⟨j,_,rfl⟩:=List.mem_map.1 hx
 have:=ra bs j
 omega
theorem lu{bs:List Bool}{j:Nat}(h:j<(bs.length+7)/8):ix (aT bs) j=(fE bs j:Int):=by
 unfold aT;rw[eF _ _ _ h]
theorem Ow{bs:List Bool}{j:Nat}(h:bs.length≤8*j):fE bs j=0:=by
 unfold fE
 rw[au (by omega),au (by omega),au (by omega),au (by omega),au (by omega),au (by omega),au (by omega),au (by omega)]
theorem TE(bs cs:List Bool){j:Nat}(h:8*j+8≤bs.length):fE (bs++cs) j=fE bs j:=by
 unfold fE
 rw[bV _ _ (by omega),bV _ _ (by omega),bV _ _ (by omega),bV _ _ (by omega),bV _ _ (by omega),bV _ _ (by omega),bV _ _ (by omega),bV _ _ (by omega)]
theorem xV(bs:List Bool)(b:Bool)(j r:Nat)(h:bs.length=8*j+r)(hr:r<8):
 fE (bs++[b]) j=fE bs j+2 ^ (7-r)*b.toNat∧∃m,fE bs j=2 ^ (8-r)*m:=by
 have hc:r=0∨r=1∨r=2∨r=3∨r=4∨r=5∨r=6∨r=7:=by omega
 unfold fE
 rcases hc with rfl | rfl | rfl | rfl | rfl | rfl | rfl | rfl
 ·rw[ut bs b (i:=8*j) (by omega),au (bs:=bs++[b]) (i:=8*j+1) (by simp;omega),au (bs:=bs++[b]) (i:=8*j+2) (by simp;omega),au (bs:=bs++[b]) (i:=8*j+3) (by simp;omega),au (bs:=bs++[b]) (i:=8*j+4) (by simp;omega),au (bs:=bs++[b]) (i:=8*j+5) (by simp;omega),au (bs:=bs++[b]) (i:=8*j+6) (by simp;omega),au (bs:=bs++[b]) (i:=8*j+7) (by simp;omega),
   au (bs:=bs) (i:=8*j) (by omega),au (bs:=bs) (i:=8*j+1) (by omega),au (bs:=bs) (i:=8*j+2) (by omega),au (bs:=bs) (i:=8*j+3) (by omega),au (bs:=bs) (i:=8*j+4) (by omega),au (bs:=bs) (i:=8*j+5) (by omega),au (bs:=bs) (i:=8*j+6) (by omega),au (bs:=bs) (i:=8*j+7) (by omega)]
  exact⟨by omega,0,by omega⟩
 ·rw[bV bs [b] (i:=8*j) (by omega),ut bs b (i:=8*j+1) (by omega),au (bs:=bs++[b]) (i:=8*j+2) (by simp;omega),au (bs:=bs++[b]) (i:=8*j+3) (by simp;omega),au (bs:=bs++[b]) (i:=8*j+4) (by simp;omega),au (bs:=bs++[b]) (i:=8*j+5) (by simp;omega),au (bs:=bs++[b]) (i:=8*j+6) (by simp;omega),au (bs:=bs++[b]) (i:=8*j+7) (by simp;omega),
   au (bs:=bs) (i:=8*j+1) (by omega),au (bs:=bs) (i:=8*j+2) (by omega),au (bs:=bs) (i:=8*j+3) (by omega),au (bs:=bs) (i:=8*j+4) (by omega),au (bs:=bs) (i:=8*j+5) (by omega),au (bs:=bs) (i:=8*j+6) (by omega),au (bs:=bs) (i:=8*j+7) (by omega)]
  exact⟨by omega,bg bs (8*j),by omega⟩
 ·rw[bV bs [b] (i:=8*j) (by omega),bV bs [b] (i:=8*j+1) (by omega),ut bs b (i:=8*j+2) (by omega),au (bs:=bs++[b]) (i:=8*j+3) (by simp;omega),au (bs:=bs++[b]) (i:=8*j+4) (by simp;omega),au (bs:=bs++[b]) (i:=8*j+5) (by simp;omega),au (bs:=bs++[b]) (i:=8*j+6) (by simp;omega),au (bs:=bs++[b]) (i:=8*j+7) (by simp;omega),
   au (bs:=bs) (i:=8*j+2) (by omega),au (bs:=bs) (i:=8*j+3) (by omega),au (bs:=bs) (i:=8*j+4) (by omega),au (bs:=bs) (i:=8*j+5) (by omega),au (bs:=bs) (i:=8*j+6) (by omega),au (bs:=bs) (i:=8*j+7) (by omega)]
  exact⟨by omega,2*bg bs (8*j)+bg bs (8*j+1),by omega⟩
 ·rw[bV bs [b] (i:=8*j) (by omega),bV bs [b] (i:=8*j+1) (by omega),bV bs [b] (i:=8*j+2) (by omega),ut bs b (i:=8*j+3) (by omega),au (bs:=bs++[b]) (i:=8*j+4) (by simp;omega),au (bs:=bs++[b]) (i:=8*j+5) (by simp;omega),au (bs:=bs++[b]) (i:=8*j+6) (by simp;omega),au (bs:=bs++[b]) (i:=8*j+7) (by simp;omega),
   au (bs:=bs) (i:=8*j+3) (by omega),au (bs:=bs) (i:=8*j+4) (by omega),au (bs:=bs) (i:=8*j+5) (by omega),au (bs:=bs) (i:=8*j+6) (by omega),au (bs:=bs) (i:=8*j+7) (by omega)]
  exact⟨by omega,4*bg bs (8*j)+2*bg bs (8*j+1)+bg bs (8*j+2),by omega⟩
 ·rw[bV bs [b] (i:=8*j) (by omega),bV bs [b] (i:=8*j+1) (by omega),bV bs [b] (i:=8*j+2) (by omega),bV bs [b] (i:=8*j+3) (by omega),ut bs b (i:=8*j+4) (by omega),au (bs:=bs++[b]) (i:=8*j+5) (by simp;omega),au (bs:=bs++[b]) (i:=8*j+6) (by simp;omega),au (bs:=bs++[b]) (i:=8*j+7) (by simp;omega),
   au (bs:=bs) (i:=8*j+4) (by omega),au (bs:=bs) (i:=8*j+5) (by omega),au (bs:=bs) (i:=8*j+6) (by omega),au (bs:=bs) (i:=8*j+7) (by omega)]
  exact⟨by omega,8*bg bs (8*j)+4*bg bs (8*j+1)+2*bg bs (8*j+2)+bg bs (8*j+3),by omega⟩
 ·rw[bV bs [b] (i:=8*j) (by omega),bV bs [b] (i:=8*j+1) (by omega),bV bs [b] (i:=8*j+2) (by omega),bV bs [b] (i:=8*j+3) (by omega),bV bs [b] (i:=8*j+4) (by omega),ut bs b (i:=8*j+5) (by omega),au (bs:=bs++[b]) (i:=8*j+6) (by simp;omega),au (bs:=bs++[b]) (i:=8*j+7) (by simp;omega),
   au (bs:=bs) (i:=8*j+5) (by omega),au (bs:=bs) (i:=8*j+6) (by omega),au (bs:=bs) (i:=8*j+7) (by omega)]
  exact⟨by omega,16*bg bs (8*j)+8*bg bs (8*j+1)+4*bg bs (8*j+2)+2*bg bs (8*j+3)+bg bs (8*j+4),by omega⟩
 ·rw[bV bs [b] (i:=8*j) (by omega),bV bs [b] (i:=8*j+1) (by omega),bV bs [b] (i:=8*j+2) (by omega),bV bs [b] (i:=8*j+3) (by omega),bV bs [b] (i:=8*j+4) (by omega),bV bs [b] (i:=8*j+5) (by omega),ut bs b (i:=8*j+6) (by omega),au (bs:=bs++[b]) (i:=8*j+7) (by simp;omega),
   au (bs:=bs) (i:=8*j+6) (by omega),au (bs:=bs) (i:=8*j+7) (by omega)]
  exact⟨by omega,32*bg bs (8*j)+16*bg bs (8*j+1)+8*bg bs (8*j+2)+4*bg bs (8*j+3)+2*bg bs (8*j+4)+bg bs (8*j+5),by omega⟩
 ·rw[bV bs [b] (i:=8*j) (by omega),bV bs [b] (i:=8*j+1) (by omega),bV bs [b] (i:=8*j+2) (by omega),bV bs [b] (i:=8*j+3) (by omega),bV bs [b] (i:=8*j+4) (by omega),bV bs [b] (i:=8*j+5) (by omega),bV bs [b] (i:=8*j+6) (by omega),ut bs b (i:=8*j+7) (by omega),
   au (bs:=bs) (i:=8*j+7) (by omega)]
  exact⟨by omega,64*bg bs (8*j)+32*bg bs (8*j+1)+16*bg bs (8*j+2)+8*bg bs (8*j+3)+4*bg bs (8*j+4)+2*bg bs (8*j+5)+bg bs (8*j+6),by omega⟩
theorem Cw(bs:List Bool)(b:Bool)(j r:Nat)(h:bs.length=8*j+r)(hr:r<8):
 aT (bs++[b])=(if r=0 then aT bs++[0] else aT bs).set j ((fE bs j+2 ^ (7-r)*b.toNat:Nat):Int):=by
 have hl:(if r=0 then aT bs++[0] else aT bs).length=j+1:=by
  split
  ·rw[List.length_append,bP];simp only[List.length_cons,List.length_nil];omega
  ·rw[bP];omega
 refine jO _ _ (by rw[bP,List.length_set,hl,List.length_append];simp only[List.length_cons,List.length_nil];omega) fun k hk=> ?_
 rw[bP,List.length_append] at hk
 simp only[List.length_cons,List.length_nil] at hk
 rw[lu (by rw[List.length_append];simp only[List.length_cons,List.length_nil];omega),sJ _ _ _ _ (by omega)]
 by_cases hkj:k=j
 ·subst hkj
  rw[if_pos rfl,(xV bs b k r h hr).1]
 ·rw[if_neg hkj,TE _ _ (by omega)]
  split
  ·rw[wY (by rw[bP];omega),lu (by omega)]
  ·rw[lu (by omega)]
theorem V9(bs:List Bool)(b:Bool)(j r:Nat)(h:bs.length=8*j+r)(hr:r<8):
 bits .or .u8 (fE bs j:Int) ((2 ^ (7-r)*b.toNat:Nat):Int)=((fE bs j+2 ^ (7-r)*b.toNat:Nat):Int):=by
 obtain⟨h1,m,h2⟩:=xV bs b j r h hr
 have h3:=ra bs j
 have h4:=ra (bs++[b]) j
 have hy:2 ^ (7-r)*b.toNat<2 ^ (8-r):=by
  have e:2 ^ (8-r)=2 ^ (7-r)*2:=by rw[←Nat.pow_succ];congr 1;omega
  rw[e]
  have:=Nat.two_pow_pos (7-r)
  cases b <;> simp <;> omega
 have Ae:fE bs j ||| 2 ^ (7-r)*b.toNat=fE bs j+2 ^ (7-r)*b.toNat:=by
  rw[h2];exact(Nat.two_pow_add_eq_or_of_lt hy m).symm
 show IntKind.u8.wrap ((BitVec.ofInt 8 (fE bs j:Int) ||| BitVec.ofInt 8 ((2 ^ (7-r)*b.toNat:Nat):Int)).toNat:Int)=_
 rw[BitVec.toNat_or,BitVec.ofInt_natCast,BitVec.ofInt_natCast,BitVec.toNat_ofNat,BitVec.toNat_ofNat,Nat.mod_eq_of_lt (by omega),Nat.mod_eq_of_lt (by omega),Ae]
 rw[IntWalk.u8_in _ (by omega)]
def nb(v n:Nat):List Bool:=(List.range n).map fun i=>v.testBit (n-1-i)
theorem cB(v n:Nat):(nb v n).length=n:=by simp[nb]
def wJ(P:List Pg)(i:Nat):Pg:=P.getD i yi
theorem pC{P:List Pg}{i:Nat}(h:i<P.length):wJ P i=P[i]:=by simp[wJ,h]
def mE(P:List Pg)(i:Nat):Bool:=cR (wJ P i) && (!(wJ P i).guard && (decide (i=0) || decide ((wJ P i).seq=(wJ P (i-1)).seq+1)))
def qR(P:List Pg):Bool:=(List.range P.length).all (mE P)
def lj(P:List Pg)(k:Nat):List Pg:=(P.drop (8*k)).take 8
def Gt(P:List Pg)(k:Nat):List Pg:=(List.range k).flatMap fun j=>lj P j++[jo (lj P j) (wJ P (8*j)).seq]
def cz(P:List Pg):List Pg×Int:=if qR P then(Gt P ((P.length+7)/8),0)else([],1)
theorem EW(P:List Pg)(k:Nat):Gt P (k+1)=Gt P k++(lj P k++[jo (lj P k) (wJ P (8*k)).seq]):=by
 rw[Gt,List.range_succ,List.flatMap_append];simp[Gt]
theorem Td(P:List Pg)(k:Nat):(lj P k).length=min 8 (P.length-8*k):=by simp[lj]
theorem TX{n:Nat}{p:Nat→Bool}{i:Nat}(hi:i<n)(h:(List.range n).all p=true):p i=true:=by
 rw[List.all_eq_true] at h
 exact h i (List.mem_range.2 hi)
theorem EU{P:List Pg}{i:Nat}(hi:i<P.length)(h:mE P i=false):cz P=([],1):=by
 have:qR P=false:=by
  cases hg:qR P with
  |false=>rfl
  |true=>rw[TX hi hg] at h;cases h
 unfold cz;rw[this];rfl
def yb(r:List Pg×Int)(w:World)(e:Ending)(w':World):Prop:=
 ∃A c E,e= .returned (.tuple #[.slice A r.1.length c,.int .i64 r.2])∧ik w' w.heap.size A r.1.length c E∧E.map (·.1)=r.1∧Below w.heap.size w w'
theorem JZ{ops:Array Oper}{rest:List Oper}{o:Oper}{a:Act}{Q:Exit→Act→World→Prop}(w2:World)(hgd:o.guard=none)(s x:Operand)
 (ho:o.op= .call {callee:=.builtin .append,args:=#[s,x],argTypes:=#[57,57]}) (W0:World) (A1:Option Addr) (n1 c1:Nat) (E:List (El Pg)) (hs:a.eval s= .slice A1 n1 c1) (hown:ik w2 W0.heap.size A1 n1 c1 E)
 (p:Pg) (A3:Option Addr) (B3 c3:Nat) (h3:aq w2 B3 A3 p.body.length c3 p.body) (hB3:W0.heap.size≤B3) (Jc:∀q,aj A3=some q→aj A1≠some q) (arr:Array Value) (fo:arr.toList=gY.enc p A3 c3) (ty:TypeId)
 (hx:a.eval x= .slice (some ⟨w2.heap.size,0,none⟩) 1 1) (hsz:n1+1≤100000) (hb:Below W0.heap.size W0 w2)
 (h:∀A' c' w',ik w' W0.heap.size A' (n1+1) c' (E++[(p,A3,c3)])→Below W0.heap.size W0 w'→wpList Tryz.prog ops Q rest (a.put o.dst (.slice A' (n1+1) c')) w'):wpList Tryz.prog ops Q (o :: rest) a (w2.alloc (.cells arr ty)):=by
 refine Y5 _ hgd s x ho W0 A1 n1 c1 E hs (hown.alloc _) (w2.heap.size+1) _ 1 1 [(p,A3,c3)] hx rfl (dr w2 _ _ _ (by rw[fo,iQ])) (fun t ht=> ?_) (fun t ht q hq=> ?_) (fun t ht=>by rw[List.mem_singleton] at ht;subst ht;exact bJ h3) hsz (ak hb _) h
 ·rw[List.mem_singleton] at ht
  subst ht
  exact(h3.ints.below (ak (ac w2) _)).more (ak (ac w2) _).size
 ·rw[List.mem_singleton] at ht
  subst ht
  have h1:=agB h3 q (by rw[ae];exact hq)
  exact⟨by omega,by simp;omega,Jc q hq⟩
theorem vV{wo w2:World}{B k c n3 c3:Nat}{A1 A3:Option Addr}{E:List (El Pg)}{l3:List Int}(h:ik wo B A1 k c E)(h3:aq w2 wo.heap.size A3 n3 c3 l3):∀q,aj A3=some q→aj A1≠some q:=fun q hq e=>by
 have h1:=agB h3 q (by rw[ae];exact hq)
 have h2:=agB h.row q (by rw[ae];exact e)
 omega
theorem JI{α:Type}(K:rG α)(E:List (El α))(a:Nat):aN K (E.drop a)=(aN K E).drop (a*K.k):=by
 by_cases h:a≤E.length
 ·have e:aN K E=aN K (E.take a)++aN K (E.drop a):=by rw[←kA,List.take_append_drop]
  have hl:(aN K (E.take a)).length=a*K.k:=by rw[cA,List.length_take,Nat.min_eq_left h]
  rw[e,←hl,List.drop_left]
 ·rw[List.drop_of_length_le (by omega),List.drop_of_length_le (by rw[cA];exact Nat.mul_le_mul_right _ (by omega))];rfl
theorem JG{α:Type}(K:rG α)(E:List (El α))(a:Nat):aN K (E.take a)=(aN K E).take (a*K.k):=by
 by_cases h:a≤E.length
 ·have e:aN K E=aN K (E.take a)++aN K (E.drop a):=by rw[←kA,List.take_append_drop]
  have hl:(aN K (E.take a)).length=a*K.k:=by rw[cA,List.length_take,Nat.min_eq_left h]
  rw[e,←hl,List.take_left]
 ·rw[List.take_of_length_le (by omega),List.take_of_length_le (by rw[cA];exact Nat.mul_le_mul_right _ (by omega))]
theorem JH{α:Type}(K:rG α)(E:List (El α))(a m:Nat):aN K ((E.drop a).take m)=((aN K E).drop (a*K.k)).take (m*K.k):=by
 rw[JG,JI]
theorem OT(b off n:Nat):Option.map (fun x:Addr=>x.add n) (some ⟨b,off,none⟩)=some ⟨b,off+n,none⟩:=by
 simp only[Option.map,Addr.add]
 by_cases h:n=0
 ·rw[if_pos h,h];rfl
 ·rw[if_neg h]
theorem iE.at0{α:Type}{K:rG α}{w:World}{B:Nat}{A:Option Addr}{E:List (El α)}(h:iE K w B A E)(h0:0<E.length):∃b off,A=some ⟨b,off,none⟩:=by
 obtain⟨b,off,e,_⟩:=h.at_ h0
 exact⟨b,off,e⟩
theorem iE.part{α:Type}{K:rG α}{w:World}{B:Nat}{E:List (El α)}{b off:Nat}(h:iE K w B (some ⟨b,off,none⟩) E)(a m:Nat):iE K w B (some ⟨b,off+a*K.k,none⟩) ((E.drop a).take m):=by
 refine⟨fun hn=> ?_,fun t ht=>h.2 t (List.mem_of_mem_drop (List.mem_of_mem_take ht))⟩
 rw[JH] at hn ⊢
 obtain⟨b',wL,e,hb,hc⟩:=h.1 (by simp at hn;omega)
 injection e with e;injection e with e1 e2;subst e1;subst e2
 refine⟨b,off+a*K.k,rfl,hb,fun i u hu=> ?_⟩
 rw[List.getElem?_take] at hu
 split at hu
 ·rw[List.getElem?_drop] at hu
  rw[Nat.add_assoc]
  exact hc _ _ hu
 ·cases hu
theorem wO(E:List (El Pg))(n:Nat)(hn:n=E.length)(hm:n≤300)(hs:dM E)(A:Option Addr)(B c:Nat)(hc:n≤c)(w:World)(hB:B≤w.heap.size)(ha:iE gY w B A E):
 Calls Tryz.prog 22 #[.slice A n c] w (yb (cz (E.map (·.1))) w):=by
 have Hn:=aa hn
 have nS:(E.map (·.1)).length=n:=by simp[hn]
 clear hn
 obtain⟨P,hP⟩:∃P,P=E.map (·.1):=⟨_,rfl⟩
 rw[←hP] at nS ⊢
 have HP:=aa hP
 have pZ:=aa nS
 clear hP nS
 go_enter Tryz.func22,Tryz.ntmps22
 go_wp2_with fail
 go_loopw [4,5,13] (fun _ _ iv wr=>(∃i:Nat,i≤n∧iv= .int .i64 i∧∀j,j<i→mE P j=true)∧Below w.heap.size w wr) (fun _ _ iv _=>n-(intOf iv).toNat)
 case atStart=>exact⟨⟨0,agw _,rfl,fun j h=>absurd h (by omega)⟩,ac w⟩
 case round=>
  obtain⟨⟨i,hi,rfl,hR⟩,hb⟩:=hrel
  obtain⟨wo,rfl⟩:∃wo:World,wo=wr:=⟨_,rfl⟩
  have HB:=aa hb
  have HR:=aa hR
  clear hb hR
  by_cases hlt:i<n
  ·have dv:i<E.length:=by have:=Hn.out;omega
   have Gp:i<P.length:=by have:=pZ.out;omega
   have hI:(i:Int)<(n:Int):=by omega
   have ha2:=ha.below (HB.out.mono hB)
   obtain⟨b,off,rfl,sQ,x0,x1,x2,x3,x4⟩:=jb ha2 dv
   have hsm:=hs _ (agt dv)
   have iC:=ha2.2 _ (agt dv)
   have qd:wJ P i=E[i].1:=by rw[pC Gp];simp[HP.out]
   have qM:i≠0→∃s:Int,0≤s∧s≤2147483647∧(wJ P (i-1)).seq=s∧wo.cell? ⟨b,off+(i-1)*5,none⟩=some (.int .i64 s):=fun h0=>by
    obtain⟨b',wL,e,_,y0,_⟩:=jb ha2 (i:=i-1) (by omega)
    injection e with e;injection e with e1 e2;subst e1;subst e2
    have dU:=HR.out (i-1) (by omega)
    simp only[mE,Bool.and_eq_true] at dU
    have WO:=of_decide_eq_true dU.1
    have e1:wJ P (i-1)=E[i-1].1:=by rw[pC (by omega)];simp[HP.out]
    exact⟨_,WO.1,WO.2.1,rfl,by rw[e1];exact y0⟩
   have hst:mE P i=(cR E[i].1 && (!E[i].1.guard && (decide (i=0) || decide (E[i].1.seq=(wJ P (i-1)).seq+1)))):=by rw[mE,qd]
   have aW:=EU (P:=P) Gp
   rw[hst] at aW
   generalize E[i]=t at*
   obtain⟨⟨sq,f,l,gd,bd⟩,Ad,cd⟩:=t
   dsimp only at*
   have kJ:B≤wo.heap.size:=agm hB HB.out.size
   have hcon:=fun W (h:Below wo.heap.size wo W)=>lC ⟨sq,f,l,gd,bd⟩ Ad B cd W (agm kJ h.size) (show bd.length≤50000 by omega) (ag.below (xs:=bd) iC (h.mono kJ)) hsm.1
   unfold ju at hcon
   dsimp only at hcon
   have Mo:=aa (ago wo (.cells #[.int .i64 sq,.bool f,.bool l,.bool gd,.slice Ad bd.length cd] 124))
   clear iC hsm ha2 qd
   cases hp:cR ⟨sq,f,l,gd,bd⟩with
   |false=>
    have Hr:=aa (aW (by rw[hp];rfl))
    rw[hp] at hcon
    have cC:=aa hcon
    clear aW qM hst hcon hp
    go_wp2_with (go_at_call 59;(with_reducible refine(cC.out _ (ak (ac wo) _)).mono ?_);rintro e w2 ⟨rfl,b2⟩;obtain⟨⟨k0,k1,k2,k3,k4⟩,_⟩:=ay ((b2.block wo.heap.size (by simp)).trans Mo.out))
    go_ret2
    rw[Hr.out]
    exact⟨none,0,[],rfl,aV.nil _ _,rfl,af HB.out (af (ak (ac wo) _) b2)⟩
   |true=>
    rw[hp] at hcon
    have cC:=aa hcon
    clear hcon
    cases gd with
    |true=>
     have Hr:=aa (aW (by rw[hp];rfl))
     clear aW qM hst hp
     go_wp2_with (go_at_call 59;(with_reducible refine(cC.out _ (ak (ac wo) _)).mono ?_);rintro e w2 ⟨rfl,b2⟩;obtain⟨⟨k0,k1,k2,k3,k4⟩,_⟩:=ay ((b2.block wo.heap.size (by simp)).trans Mo.out))
     go_ret2
     rw[Hr.out]
     exact⟨none,0,[],rfl,aV.nil _ _,rfl,af HB.out (af (ak (ac wo) _) b2)⟩
    |false=>
     by_cases h0:i=0
     ·have fG:Hid (mE P i=true):=by show _=_;rw[hst,hp,decide_eq_true h0];rfl
      have d1:decide (0<i)=false:=decide_eq_false (by omega)
      clear aW qM hst hp h0
      go_wp2_with (go_at_call 59;(with_reducible refine(cC.out _ (ak (ac wo) _)).mono ?_);rintro e w2 ⟨rfl,b2⟩;obtain⟨⟨k0,k1,k2,k3,k4⟩,_⟩:=ay ((b2.block wo.heap.size (by simp)).trans Mo.out))
      go_quiet (fail)
      go_wp2_with fail
      refine⟨⟨⟨i+1,by omega,by go_num,fun j hj=> ?_⟩,below_drewN (af HB.out (af (ak (ac wo) _) b2)) _⟩,by simp[intOf];omega⟩
      by_cases e:j=i
      ·rw[e];exact fG.out
      ·exact HR.out j (by omega)
     ·obtain⟨s,hs1,hs2,hs3,Gg⟩:=qM h0
      have d1:decide (0<i)=true:=decide_eq_true (by omega)
      have j1:=agp ((i:Int)-1) (by omega)
      have j2:=agp (s+1) (by omega)
      have j3:((i:Int)-1).toNat=i-1:=by omega
      have j4:(0:Int)≤(i:Int)-1:=by omega
      have j5:(i:Int)-1<(n:Int):=by omega
      rw[hs3] at hst aW
      have Hs4:=aa Gg
      have RP:Hid (mE P i=decide (sq=s+1)):=by show _=_;rw[hst,hp,decide_eq_false h0];rfl
      have SN:Hid (¬sq=s+1→cz P=([],1)):=fun h=>aW (by rw[hp,decide_eq_false h0,decide_eq_false h];rfl)
      clear aW qM hst hp Gg
      go_wp2_with (go_at_call 59;(with_reducible refine(cC.out _ (ak (ac wo) _)).mono ?_);rintro e w2 ⟨rfl,b2⟩;obtain⟨⟨k0,k1,k2,k3,k4⟩,_⟩:=ay ((b2.block wo.heap.size (by simp)).trans Mo.out);have y0:=later (af (ak (ac wo) _) b2) Hs4.out)
      go_quiet (fail)
      go_wp2_with fail
      ·have hq:¬sq=s+1:=by rename_i h9;first | exact bne_iff_ne.1 h9 | exact h9
       go_ret2
       rw[SN.out hq]
       exact⟨none,0,[],rfl,aV.nil _ _,rfl,below_drewN (af HB.out (af (ak (ac wo) _) b2)) _⟩
      ·have hq:sq=s+1:=by rename_i h9;first | (simpa using h9) | exact h9
       refine⟨⟨⟨i+1,by omega,by go_num,fun j hj=> ?_⟩,below_drewN (af HB.out (af (ak (ac wo) _) b2)) _⟩,by simp[intOf];omega⟩
       by_cases e:j=i
       ·rw[e,RP.out];exact decide_eq_true hq
       ·exact HR.out j (by omega)
  ·obtain rfl:i=n:=by omega
   have hI:¬((i:Int)<(i:Int)):=by omega
   have Hr:Hid (cz P=(Gt P ((i+7)/8),0)):=by
    show _=_
    have:qR P=true:=by
     rw[qR,List.all_eq_true]
     intro j hj
     exact HR.out j (by have:=pZ.out;have:=List.mem_range.1 hj;omega)
    unfold cz;rw[this,pZ.out];rfl
   clear hlt hi HR
   go_wp2_with fail
   go_loopw [6,7,8,10] (fun ov fv _ _ wr=>(∃(g fr k c':Nat) (A':Option Addr) (E':List (El Pg)),fr=8*g∧fr<i+8∧k≤9*g∧ov= .slice A' k c'∧fv= .int .i64 fr∧ik wr w.heap.size A' k c' E'∧E'.map (·.1)=Gt P g)∧Below w.heap.size w wr) (fun _ fv _ _ _=>i+8-(intOf fv).toNat)
   case atStart=>exact⟨⟨0,0,0,0,none,[],rfl,by omega,by omega,rfl,rfl,aV.nil _ _,rfl⟩,HB.out⟩
   case round=>
    obtain⟨⟨g,fr,k,c2,A2,E2,PA,li,hk9,rfl,rfl,hO,hE⟩,hb⟩:=hrel
    obtain⟨wp,rfl⟩:∃wp:World,wp=wr:=⟨_,rfl⟩
    have HO:=aa hO
    have HE:=aa hE
    have kG:=aa hb
    have Hfr:=aa PA
    clear hO hE hb PA HB
    by_cases hlt:fr<i
    ·have YW:(fr:Int)<(i:Int):=by omega
     have i1:=agp ((fr:Int)+8) (by omega)
     obtain⟨m,Sp⟩:∃m,m=min 8 (i-fr):=⟨_,rfl⟩
     have Hm8:=aa Sp
     have hg8:g<40:=by have:=Hfr.out;omega
     clear Sp
     go_wp2_with fail
     all_goals first | rw[show i-fr=m by have:=Hm8.out;omega] | rw[show ((fr:Int)+8).toNat-fr=m by have:=Hm8.out;omega]
     all_goals
      have rM:1≤m∧m≤8:=by have:=Hm8.out;omega
      obtain⟨b,off,rfl⟩:=ha.at0 (by have:=Hn.out;omega)
      rw[OT]
      obtain⟨Eg,hEg⟩:∃Eg,Eg=(E.drop fr).take m:=⟨_,rfl⟩
      have hEl:Eg.length=m:=by rw[hEg,List.length_take,List.length_drop,←Hn.out,Hm8.out];omega
      have hEm:Eg.map (·.1)=lj P g:=by
       rw[hEg,lj,HP.out,←List.map_drop,←List.map_take,Hfr.out]
       congr 1
       rw[List.take_eq_take_iff,List.length_drop,←Hn.out,Hm8.out,Hfr.out]
       omega
      have hEs:dM Eg:=fun t ht=>hs t (by rw[hEg] at ht;exact List.mem_of_mem_drop (List.mem_of_mem_take ht))
      have hE0:∀h:0<Eg.length,(Eg[0]'h).1.seq=(wJ P (8*g)).seq:=fun h=>by
       rw[pC (by rw[pZ.out,←Hfr.out];omega)]
       simp[hEg,HP.out,Hfr.out]
      have hga:iE gY w B (some ⟨b,off+fr*5,none⟩) Eg:=by rw[hEg];exact ha.part fr m
      have HEl:=aa hEl
      have HEm:=aa hEm
      have HE0:=aa hE0
      clear hEg hEl hEm hE0
      go_loopw [6,10,56] (fun ov _ iv wr=>(∃(j c3:Nat) (A3:Option Addr) (E3:List (El Pg)),j≤m∧iv= .int .i64 j∧ov= .slice A3 (k+j) c3∧ik wr w.heap.size A3 (k+j) c3 E3∧E3.map (·.1)=Gt P g++(lj P g).take j)∧Below w.heap.size w wr) (fun _ _ iv _=>m-(intOf iv).toNat)
      case atStart=>exact⟨⟨0,c2,A2,E2,agw _,rfl,rfl,HO.out,by simpa using HE.out⟩,kG.out⟩
      case round=>
       obtain⟨⟨j,c3,A3,E3,hj,rfl,rfl,ER,YY⟩,hb3⟩:=hrel
       obtain⟨wq,rfl⟩:∃wq:World,wq=wr:=⟨_,rfl⟩
       have oD:=aa ER
       have PT:=aa YY
       have kL:=aa hb3
       have hBq:B≤wq.heap.size:=agm hB kL.out.size
       clear ER YY hb3 HO kG HE
       by_cases hjm:j<m
       ·have Jh:j<Eg.length:=by have:=HEl.out;omega
        have ha2:=hga.below (kL.out.mono hB)
        obtain⟨b',wL,e,sQ,x0,x1,x2,x3,x4⟩:=jb ha2 Jh
        injection e with e;injection e with e1 e2;subst e1;subst e2
        have hsm:=hEs _ (agt Jh)
        have iC:=ha2.2 _ (agt Jh)
        have qc:Hid ((lj P g).take (j+1)=(lj P g).take j++[Eg[j].1]):=by
         show _=_
         rw[←HEm.out,agx (by simpa using Jh)];simp
        generalize Eg[j]=t at*
        obtain⟨⟨sq,f,l,gd,bd⟩,Ad,cd⟩:=t
        dsimp only at*
        have hcon:∀W,Below wq.heap.size wq W→_:=fun W (h:Below wq.heap.size wq W)=>lm ⟨sq,f,l,gd,bd⟩ Ad B cd W (agm hBq h.size) (ag.below (xs:=bd) iC (h.mono hBq)) (show bd.length≤50000 by omega)
        unfold ju Ke at hcon
        dsimp only at hcon
        have cC:=aa hcon
        have ES:(j:Int)<(m:Int):=by omega
        have Mo:=aa (ago wq (.cells #[.int .i64 sq,.bool f,.bool l,.bool gd,.slice Ad bd.length cd] 124))
        clear hcon iC hsm ha2
        go_wp2_with (first
         |(go_at_call 61;(with_reducible refine(cC.out _ (ak (ac wq) _)).mono ?_);rintro e w2 ⟨A4,c4,rfl,bE,b2⟩;dsimp only[ju] at bE ⊢;have B2:=af (ak (ac wq) _) b2;have O2:=oD.out.below B2 (agl _))
         |(at_builtin;refine JZ w2 rfl (.tmp 60) (.tmp 63) rfl w A3 (k+j) c3 E3 rfl O2 ⟨sq,f,l,gd,bd⟩ A4 _ c4 bE (agm kL.out.size (ak (ac wq) _).size) (vV (oD.out.alloc _) bE) _ rfl _ rfl (by omega) (af kL.out B2) ?_;intro A5 c5 w5 bT b5))
        all_goals refine⟨⟨⟨j+1,c5,A5,E3++[(⟨sq,f,l,gd,bd⟩,A4,c4)],by omega,by go_num,rfl,bT, ?_⟩,b5⟩, ?_⟩
        all_goals first
         |(rw[List.map_append,PT.out,qc.out,←List.append_assoc];rfl)
         |(simp[intOf];omega)
       ·obtain rfl:j=m:=by omega
        have ES:¬((j:Int)<(j:Int)):=by omega
        have qc:Hid ((lj P g).take j=lj P g):=by
         show _=_
         rw[←HEm.out,List.take_of_length_le (by simp[HEl.out])]
        obtain⟨sq,Yw⟩:∃sq,sq=(wJ P (8*g)).seq:=⟨_,rfl⟩
        have hcon:=fun W (h:Below wq.heap.size wq W)=>N5 Eg j HEl.out.symm rM.1 rM.2 hEs (some ⟨b,off+fr*5,none⟩) B (c-fr) W (agm hBq h.size) (hga.below ((kL.out.mono hB).trans (h.mono hBq))) sq (by rw[Yw];exact HE0.out)
        rw[HEm.out] at hcon
        have CU:Hid (Gt P (g+1)=Gt P g++lj P g++[jo (lj P g) sq]):=by
         show _=_
         rw[EW,Yw,List.append_assoc]
        obtain⟨gp,Pz⟩:∃gp,gp=jo (lj P g) sq:=⟨_,rfl⟩
        rw[←Pz] at CU hcon
        have cC:=aa hcon
        clear hcon Pz Yw
        go_wp2_with (first
         |(go_at_call 71;(with_reducible refine(cC.out _ (ac _)).mono ?_);rintro e w2 ⟨A4,c4,rfl,bE,b2⟩;dsimp only[ju] at bE ⊢;have O2:=oD.out.below b2 (agl _))
         |(at_builtin;refine JZ w2 rfl (.tmp 66) (.tmp 69) rfl w A3 (k+j) c3 E3 rfl O2 gp A4 _ c4 bE kL.out.size (vV oD.out bE) _ rfl _ rfl (by omega) (af kL.out b2) ?_;intro A5 c5 w5 bT b5))
        all_goals refine⟨⟨⟨g+1,fr+8,k+j+1,c5,A5,E3++[(gp,A4,c4)],by rw[Hfr.out];omega,by omega,by omega,rfl,by go_num,bT, ?_⟩,b5⟩, ?_⟩
        all_goals first
         |(rw[List.map_append,PT.out,qc.out,CU.out];rfl)
         |(simp[intOf];omega)
    ·have YW:¬((fr:Int)<(i:Int)):=by omega
     have hgi:(i+7)/8=g:=by have:=Hfr.out;omega
     rw[hgi] at Hr
     clear hgi
     have hk:Hid ((Gt P g).length=k):=by
      show _=_
      rw[←HE.out,List.length_map];exact HO.out.len
     go_wp2_with fail
     go_ret2
     rw[Hr.out]
     refine⟨A2,c2,E2, ?_, ?_,HE.out,kG.out⟩
     ·show _=Ending.returned (.tuple #[.slice A2 (Gt P g).length c2,.int .i64 0])
      rw[hk.out];rfl
     ·show ik _ _ A2 (Gt P g).length c2 E2
      rw[hk.out];exact HO.out
end
end Go.Proofs.YtbhfpehgacaidaaGreatDoor
