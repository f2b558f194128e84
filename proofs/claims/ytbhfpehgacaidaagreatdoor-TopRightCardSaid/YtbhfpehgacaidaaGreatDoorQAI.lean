/- A part of the proof of the given statement TopRight. Conditions: none. -/
import Derived.Deep.RegionLaw
import Derived.Test.YtbhfpehgacaidaaGreatDoorQAH
namespace Go.Proofs.YtbhfpehgacaidaaGreatDoor
set_option linter.unusedVariables false
set_option linter.unusedSimpArgs false
set_option maxRecDepth 100000
set_option maxHeartbeats 8000000
section
open Go.RowKit
theorem LU{ops:Array Oper}{o:Oper}{a:Act}{K:Act→World→Prop}{Q:Exit→Act→World→Prop}{E:Prop}(w:World)(hw:Region.wanted o (yielded ops a.tmps)=true)(s x:Operand)
 (ho:o.op= .call {callee:=.builtin .append,args:=#[s,x],argTypes:=#[22,22]}) (W0:World) (A1:Option Addr) (n c1:Nat) (xs:List Int) (hs:a.eval s= .slice A1 n c1) (hown:aq w W0.heap.size A1 n c1 xs)
 (B1:Nat) (A:Option Addr) (m c:Nat) (news:List Int) (hx:a.eval x= .slice A m c) (hl:news.length=m) (hr:ag .u8 w B1 A news) (hsz:n+m≤200000) (hb:Below W0.heap.size W0 w)
 (h:∀A' c' w',aq w' W0.heap.size A' (n+m) c' (xs++news)→Below W0.heap.size W0 w'→dl A1 w w'→K (a.put o.dst (.slice A' (n+m) c')) w'):
 if Region.wanted o (yielded ops a.tmps)=true then Oper.wp Tryz.prog o a w K Q else E:=by
 rw[if_pos hw]
 obtain⟨i0,cw,hz0,hz1,hz2⟩:=info_parts fD
 refine rO w s x 22 ho W0.heap.size 5 i0 _ 1 1 Tryz.underlying22 cw hz0 hz1 hz2 rfl (by omega) _ n _ hs hown B1 A m c (news.map (Value.int .u8)) hx (by simpa using hl) hr (bY _ _) (by simp only[maxLen];omega) (by omega) hb.size fun A' c' w' h2 h3 _=>h A' c' w' ?_ (aI hb hown h3 hb.size) (dl.of h3)
 unfold aq
 rw[List.map_append]
 exact h2
theorem iP{p:Pg}(h:cR p=true):1≤p.body.length∧p.body.length≤255∧0≤p.seq∧p.seq≤2147483647:=by
 have:=of_decide_eq_true h
 have hm:fy p.guard≤255:=by unfold fy;split <;> omega
 omega
def BK(m:Mk):Prop:=0≤m.1∧m.1<4∧0≤m.2.1∧m.2.1≤1125899906842624∧0≤m.2.2∧m.2.2≤2147483647
theorem Q9{p:Pg}{m:Mk}(hb:aH p.body)(h:ia p=some m):BK m:=by
 unfold ia at h
 split at h
 ·cases h
 ·split at h
  ·cases h
  ·rename_i h1 h2
   split at h
   ·cases h
   ·rename_i h3
    injection h with h
    subst h
    obtain⟨_,_,q0,q1⟩:=iP (by simpa using h2)
    have h4:(dO (p.body.take 18)).2=0:=Classical.byContradiction fun hh=>h3 (.inl hh)
    unfold dO at h4 ⊢
    split at h4
    ·simp at h4
    ·rename_i g1
     split at h4
     ·simp at h4
     ·rename_i g2
      split at h4
      ·simp at h4
      ·rename_i g3
       rw[if_neg g1,if_neg g2,if_neg g3]
       refine⟨?_, ?_, ?_, ?_,q0,q1⟩ <;> dsimp only <;> omega
theorem BI{P:List Pg}(hb:∀p∈P,aH p.body):∀m∈om P,BK m:=fun m hm=>by
 obtain⟨p,hp,h⟩:=List.mem_filterMap.1 hm
 exact Q9 (hb p hp) h
theorem QB:∀n,aH (j9 n):=by
 intro n
 induction n using Nat.strongRecOn with
 |ind n ih=>
  by_cases h:n<128
  ·rw[nH h]
   intro x hx
   rw[List.mem_singleton] at hx
   omega
  ·rw[uX h]
   intro x hx
   rcases List.mem_cons.1 hx with rfl | hx
   ·omega
   ·exact ih (n/128) (by omega) x hx
theorem gX(l:List Int):aH (bU l):=fun x hx=>by
 obtain⟨y,_,h⟩:=List.mem_flatMap.1 hx
 exact QB _ x h
def zmk:Mk:=(0,0,0)
def vh(L:List Mk)(i:Nat):Mk:=L.getD i zmk
def Gb(L:List Mk):Nat→Int×Int
 |0=>(0,0)
 |i+1=>((vh L i).2.1,(vh L i).2.2)
def ZP(L:List Mk)(i:Nat):List Int:=bU [(vh L i).1,(kM ((vh L i).2.1-(Gb L i).1):Int),(kM ((vh L i).2.2-(Gb L i).2):Int)]
def jP(L:List Mk)(k:Nat):List Int:=bU [(L.length:Int)]++(List.range k).flatMap (ZP L)
theorem sL(L:List Mk)(k:Nat):jP L (k+1)=jP L k++ZP L k:=by
 rw[jP,List.range_succ,List.flatMap_append,←List.append_assoc];simp[jP]
theorem xi(L:List Mk):∀k,aH (jP L k)
 |0=>by rw[show jP L 0=bU [(L.length:Int)] by simp[jP]];exact gX _
 |k+1=>fun x hx=>by
  rw[sL] at hx
  rcases agC.1 hx with h | h
  ·exact xi L k x h
  ·exact gX _ x h
def ox(L:List Mk):List Int:=jP L L.length++bM (fC (jP L L.length)).toNat 4
theorem IK{L:List Mk}(h:∀m∈L,BK m)(i:Nat):BK (vh L i):=by
 unfold vh
 by_cases hi:i<L.length
 ·rw[List.getD_eq_getElem?_getD,List.getElem?_eq_getElem hi];exact h _ (agt hi)
 ·rw[List.getD_eq_getElem?_getD,List.getElem?_eq_none (by omega)]
  exact⟨by decide,by decide,by decide,by decide,by decide,by decide⟩
theorem Yp{L:List Mk}(h:∀m∈L,BK m)(i:Nat):0≤(Gb L i).1∧(Gb L i).1≤1125899906842624∧0≤(Gb L i).2∧(Gb L i).2≤2147483647:=by
 cases i with
 |zero=>show (0:Int)≤0∧(0:Int)≤1125899906842624∧(0:Int)≤0∧(0:Int)≤2147483647;omega
 |succ i=>have:=IK h i;exact⟨this.2.2.1,this.2.2.2.1,this.2.2.2.2.1,this.2.2.2.2.2⟩
theorem Bi{n:Int}(h1: -2000000000000000≤n)(h2:n≤2000000000000000):kM n≤4000000000000000:=by
 unfold kM;split <;> omega
theorem KC{L:List Mk}(h:∀m∈L,BK m)(i:Nat):(ZP L i).length≤30:=by
 have h1:=IK h i
 have h2:=Yp h i
 obtain⟨a1,a2,a3,a4,a5,a6⟩:=h1
 have:=iZ [(vh L i).1,(kM ((vh L i).2.1-(Gb L i).1):Int),(kM ((vh L i).2.2-(Gb L i).2):Int)] (fun x hx=>by
  have z1:=Bi (n:=(vh L i).2.1-(Gb L i).1) (by omega) (by omega)
  have z2:=Bi (n:=(vh L i).2.2-(Gb L i).2) (by omega) (by omega)
  simp at hx
  rcases hx with rfl | rfl | rfl <;> omega)
 simpa [ZP] using this
theorem qL{L:List Mk}(h:∀m∈L,BK m)(hl:L.length≤400):∀k,(jP L k).length≤10+30*k
 |0=>by
  have:=iZ [(L.length:Int)] (fun x hx=>by simp at hx;omega)
  simpa [jP] using this
 |k+1=>by
  have:=qL h hl k
  have:=KC h k
  rw[sL,List.length_append];omega
theorem Yo{w:World}{B:Nat}{A:Option Addr}{L:List Mk}(h:Rd w B A (fY L)){i:Nat}(hi:i<L.length):
 ∃b off,A=some ⟨b,off,none⟩∧b<B∧w.cell? ⟨b,off+i*3,none⟩=some (.int .i64 (vh L i).1)∧w.cell? ⟨b,off+i*3+1,none⟩=some (.int .i64 (vh L i).2.1)∧w.cell? ⟨b,off+i*3+2,none⟩=some (.int .i64 (vh L i).2.2):=by
 obtain⟨b,off,e,hb,hc⟩:=h (by rw[Oe];omega)
 obtain⟨g0,g1,g2⟩:=AJ L i hi
 have hm:vh L i=L[i]:=by simp[vh,hi]
 rw[hm]
 refine⟨b,off,e,hb,hc _ _ g0, ?_, ?_⟩
 ·have:=hc _ _ g1;rwa[←Nat.add_assoc] at this
 ·have:=hc _ _ g2;rwa[←Nat.add_assoc] at this
theorem xj(L:List Mk)(n:Nat)(hn:n=L.length)(hm:n≤400)(dU:∀m∈L,BK m)(A:Option Addr)(B c:Nat)(w:World)(hB:B≤w.heap.size)(ha:Rd w B A (fY L)):
 Calls Tryz.prog 67 #[.slice A n c] w (dF (ox L,0) w):=by
 have Hn:=aa hn
 have PM:=aa (IK dU)
 have HV:=aa (Yp dU)
 have HL:=aa (qL dU (by omega))
 have HM:=aa (KC dU)
 have hput:Hid (bU [(n:Int)]=jP L 0):=by show _=_;rw[hn];simp[jP]
 clear hn dU
 go_enter Tryz.func67,Tryz.ntmps67
 go_wp2_with fail
 go_loopw [5,14] (fun _ iv wr=>(∃i:Nat,i≤n∧iv= .int .i64 i)∧Below w.heap.size w wr) (fun _ iv _=>n-(intOf iv).toNat)
 case atStart=>exact⟨⟨0,agw _,rfl⟩,ac w⟩
 case round=>
  obtain⟨⟨i,hi,rfl⟩,hb⟩:=hrel
  obtain⟨wo,rfl⟩:∃wo:World,wo=wr:=⟨_,rfl⟩
  have HB:=aa hb
  clear hb
  by_cases hlt:i<n
  ·have hI:(i:Int)<(n:Int):=by omega
   obtain⟨b,off,rfl,sQ,x0,x1,x2⟩:=Yo (ha.below (HB.out.mono hB)) (i:=i) (by have:=Hn.out;omega)
   obtain⟨a1,a2,a3,a4,a5,a6⟩:=PM.out i
   generalize vh L i=m at*
   obtain⟨ms,ma,mp⟩:=m
   dsimp only at*
   have g1:¬ms<0:=by omega
   have g2:¬(4:Int)≤ms:=by omega
   have yK:=fun W=>BL ma mp W
   rw[decide_eq_true (show 0≤ma∧ma≤1125899906842624∧0≤mp∧mp≤2147483647 by omega)] at yK
   have Hmp:=aa yK
   clear yK
   go_wp2_with (go_at_call 118;(with_reducible refine(Hmp.out _).mono ?_);rintro e w2 ⟨rfl,rfl⟩)
   exact⟨⟨⟨i+1,by omega,by go_num⟩,ak HB.out _⟩,by simp[intOf];omega⟩
  ·obtain rfl:i=n:=by omega
   have hI:¬((i:Int)<(i:Int)):=by omega
   have u1:=agq (i:Int) (by omega)
   clear hlt hi
   have aaj:=fun (W:World)=>qz [(i:Int)] 1 rfl (by omega) (fun j hj=>by
    obtain rfl:j=0:=by have:j<1:=hj;omega
    simp[ix];omega) (some ⟨W.heap.size,0,none⟩) (W.heap.size+1) 1 (W.alloc (.cells #[.int .u64 (i:Int)] 83)) (dH W .u64 [(i:Int)] _ _ rfl) (by simp)
   rw[hput.out] at aaj
   have aeE:=aa aaj
   clear aaj
   go_wp2_with (go_at_call 85;(with_reducible refine(aeE.out _).mono ?_);rintro e w2 ⟨A2,c2,rfl,cD,b2⟩)
   have B2:=af HB.out (af (ak (ac wo) _) b2)
   have O2:aq w2 w.heap.size A2 (jP L 0).length c2 (jP L 0):=aq.base cD (agm HB.out.size (by simp))
   have kG:=aa B2
   clear cD b2 B2
   obtain⟨k0,hk0⟩:∃k0,k0=(jP L 0).length:=⟨_,rfl⟩
   rw[←hk0] at O2 ⊢
   have Hk0:=aa hk0
   have Uz:=aa O2
   clear hk0 O2
   go_loopw [6,7,8,10,11,42] (fun ov av sv _ _ jv wr=>(∃(j k:Nat) (A':Option Addr) (c':Nat),j≤i∧jv= .int .i64 j∧av= .int .i64 (Gb L j).1∧sv= .int .i64 (Gb L j).2∧ov= .slice A' k c'∧k=(jP L j).length∧aq wr w.heap.size A' k c' (jP L j))∧Below w.heap.size w wr) (fun _ _ _ _ _ jv _=>i-(intOf jv).toNat)
   case atStart=>exact⟨⟨0,k0,A2,c2,agw _,rfl,rfl,rfl,rfl,Hk0.out,Uz.out⟩,kG.out⟩
   case round=>
    obtain⟨⟨j,k,A3,c3,hj,rfl,rfl,rfl,rfl,hk,hO⟩,hb⟩:=hrel
    obtain⟨wp,rfl⟩:∃wp:World,wp=wr:=⟨_,rfl⟩
    have HO:=aa hO
    have kL:=aa hb
    have Hk:=aa hk
    have jV:k≤12010:=by rw[hk];have:=HL.out j;omega
    clear hO hb hk Uz kG
    by_cases hlt:j<i
    ·have ES:(j:Int)<(i:Int):=by omega
     obtain⟨b,off,rfl,sQ,x0,x1,x2⟩:=Yo (ha.below (kL.out.mono hB)) (i:=j) (by have:=Hn.out;omega)
     obtain⟨a1,a2,a3,a4,a5,a6⟩:=PM.out j
     obtain⟨v1,v2,v3,v4⟩:=HV.out j
     have hsu:Hid (jP L (j+1)=jP L j++ZP L j):=sL L j
     have yn:Hid (ZP L j=bU [(vh L j).1,(kM ((vh L j).2.1-(Gb L j).1):Int),(kM ((vh L j).2.2-(Gb L j).2):Int)]):=rfl
     have hmv:Hid (Gb L (j+1)=((vh L j).2.1,(vh L j).2.2)):=rfl
     have ym:=HM.out j
     generalize ZP L j=MB at*
     generalize vh L j=m at*
     generalize Gb L j=V at*
     obtain⟨ms,ma,mp⟩:=m
     obtain⟨va,vp⟩:=V
     dsimp only at*
     have w1:=agp (ma-va) (by omega)
     have w2':=agp (mp-vp) (by omega)
     have u2:=agq ms (by omega)
     have z1:=Bi (n:=ma-va) (by omega) (by omega)
     have z2:=Bi (n:=mp-vp) (by omega) (by omega)
     have hz1:=fun W=>Kf (ma-va) (by omega) (by omega) W
     have hz2:=fun W=>Kf (mp-vp) (by omega) (by omega) W
     have hpu:=fun (W:World)=>qz [ms,(kM (ma-va):Int),(kM (mp-vp):Int)] 3 rfl (by omega) (fun j hj=>by
      have:j=0∨j=1∨j=2:=by have:j<3:=hj;omega
      rcases this with rfl | rfl | rfl <;> simp[ix] <;> omega) (some ⟨W.heap.size,0,none⟩) (W.heap.size+1) 3 (W.alloc (.cells #[.int .u64 ms,.int .u64 (kM (ma-va):Int),.int .u64 (kM (mp-vp):Int)] 83)).drew (dH W .u64 _ _ _ rfl) (by simp)
     rw[←yn.out] at hpu
     have Hz1:=aa hz1
     have Hz2:=aa hz2
     have Hpu:=aa hpu
     have Mo:=aa (ago wp (.cells #[.int .i64 ms,.int .i64 ma,.int .i64 mp] 211))
     clear hz1 hz2 hpu
     go_upto_region 13 with fail
     obtain⟨w6,lZ⟩:∃w6,w6=wp.alloc (.cells #[.int .i64 ms,.int .i64 ma,.int .i64 mp] 211):=⟨_,rfl⟩
     have B6:Hid (Below wp.heap.size wp w6):=by rw[lZ];exact aa (ak (ac wp) _)
     rw[←lZ] at Mo ⊢
     have c0:w6.cell? ⟨wp.heap.size,0,none⟩=some (.int .i64 ms):=(agu _ _ _ _ _ _ Mo.out).trans rfl
     have c1:w6.cell? ⟨wp.heap.size,1,none⟩=some (.int .i64 ma):=(agu _ _ _ _ _ _ Mo.out).trans rfl
     have Fz:w6.cell? ⟨wp.heap.size,2,none⟩=some (.int .i64 mp):=(agu _ _ _ _ _ _ Mo.out).trans rfl
     have O6:=HO.out.below B6.out (agl _)
     have B36:=af kL.out B6.out
     have CS:wp.heap.size<w6.heap.size:=(agn.1 Mo.out).1
     have adT:aj A3≠some wp.heap.size:=fun e=>by
      have:=(agB HO.out _ (by rw[ae];exact e)).2
      omega
     have Hp2:=aa (Hpu.out w6)
     clear lZ x0 x1 x2
     go_region_held3 (fun w'=>w'.cell? ⟨wp.heap.size,0,none⟩=some (.int .i64 ms)∧w'.cell? ⟨wp.heap.size,1,none⟩=some (.int .i64 ma))
      (first | (go_keep;done) | exact⟨c0,c1⟩ | exact⟨later (ak (ac w6) _).drew c0,later (ak (ac w6) _).drew c1⟩ | exact⟨later b8 (later (ak (ac w6) _).drew c0),later b8 (later (ak (ac w6) _).drew c1)⟩ | exact⟨(agy (a:=⟨wp.heap.size,0,none⟩) kb).trans c0,(agy (a:=⟨wp.heap.size,1,none⟩) kb).trans c1⟩)
      (first
        |(go_at_call 119;(with_reducible refine(Hz1.out _).mono ?_);rintro e w' ⟨rfl,rfl⟩)
        |(go_at_call 119;(with_reducible refine(Hz2.out _).mono ?_);rintro e w' ⟨rfl,rfl⟩)
        |(go_at_call 85;(with_reducible refine Hp2.out.mono ?_);rintro e w8 ⟨A8,c8,rfl,mj,b8⟩;have Z7:=(ak (ac w6) (.cells #[.int .u64 ms,.int .u64 (kM (ma-va):Int),.int .u64 (kM (mp-vp):Int)] 83)).drew.size)
        |((refine LU _ (by rfl) (.tmp 48) (.tmp 62) (by rfl) w A3 k c3 _ (by rfl) (O6.below (B1:=w6.heap.size) ((ak (ac w6) _).drew.trans (b8.mono Z7)) (agl _)) _ A8 MB.length c8 MB (by rfl) rfl mj.ints (by omega) (B36.trans (((ak (ac w6) _).drew.trans (b8.mono Z7)).mono B36.size)) ?_;intro A9 c9 w9 lh b9 kp;have kb:=(kp.1 wp.heap.size (agz CS (agm Z7 b8.size)) adT).trans ((b8.block wp.heap.size (agz CS Z7)).trans (ags w6 _ _ CS)))))
     have d1:=(agy (a:=⟨wp.heap.size,1,none⟩) kb).trans c1
     go_wp2_with fail
     refine⟨⟨⟨j+1,k+MB.length,A9,c9,by omega,by go_num,by rw[hmv.out],by rw[hmv.out],rfl,by rw[hsu.out,List.length_append,Hk.out],by rw[hsu.out];exact lh⟩,b9⟩,by simp[intOf];omega⟩
    ·obtain rfl:j=i:=by omega
     have ES:¬((j:Int)<(j:Int)):=by omega
     obtain⟨L0,hL0⟩:∃L0,L0=jP L j:=⟨_,rfl⟩
     have hby:aH L0:=by rw[hL0];exact xi L j
     rw[←hL0] at HO Hk
     obtain⟨cr,mW⟩:∃cr:Nat,cr=(fC L0).toNat:=⟨_,rfl⟩
     have YO:cr<4294967296:=by rw[mW];exact(fC L0).isLt
     have u3:=agq (cr:Int) (by omega)
     have RN:=dW L0 hby k Hk.out (by omega) A3 wp.heap.size c3 wp HO.out.ints
     rw[←mW] at RN
     have Hth:=aa RN
     have hR:Hid (ox L=L0++bM cr 4):=by show _=_;unfold ox;rw[←Hn.out,←hL0,←mW]
     have Hby:=aa hby
     clear RN hby hL0 mW
     go_wp2_with (first
      |(go_at_call 55;(with_reducible refine Hth.out.mono ?_);rintro e w' ⟨rfl,rfl⟩)
      |(go_at_call 69;(with_reducible refine(js cr (by omega) _).mono ?_);rintro e w5 ⟨A5,c5,rfl,bT,b5⟩;have O5:=HO.out.below b5 (agl _);have B5:=af kL.out b5)
      |(at_builtin;refine cF _ rfl (.tmp 68) (.tmp 72) rfl w A3 k c3 L0 rfl O5 _ A5 4 c5 (bM cr 4) rfl (aS _ _) bT.ints (by omega) B5 ?_;intro A6 c6 w6 dC b6))
     go_ret2
     have CS:(L0++bM cr 4).length=k+4:=by rw[List.length_append,aS,Hk.out]
     rw[hR.out]
     refine⟨A6,c6, ?_, ?_,b6⟩
     ·show _=Ending.returned (.tuple #[.slice A6 (L0++bM cr 4).length c6,.int .i64 0])
      rw[CS];rfl
     ·show aq _ _ A6 (L0++bM cr 4).length c6 (L0++bM cr 4)
      rw[CS];exact dC
structure JS where
 nx:Int
 bg:Bool
 bd:List Int
 br:Int
def qH(s:JS):JS:=⟨s.nx,false,if s.bg then [] else s.bd,if s.bg then s.br+1 else s.br⟩
theorem qF(s:JS):(qH s).bd.length≤s.bd.length:=by
 unfold qH
 dsimp only
 split
 ·exact agw _
 ·exact agl _
theorem qG{s:JS}(h:aH s.bd):aH (qH s).bd:=by
 unfold qH
 dsimp only
 split
 ·exact fun x hx=>by simp at hx
 ·exact h
theorem wV(s:JS):s.br≤(qH s).br∧(qH s).br≤s.br+1:=by
 unfold qH
 dsimp only
 split <;> omega
def jJ(w:World)(g B:Nat)(A:Option Addr)(c:Nat)(s:JS):Prop:=
 w.heap[g]? =some (.cells #[.int .i64 s.nx,.bool s.bg,.slice A s.bd.length c,.int .i64 s.br] 223 (0,0))∧aq w B A s.bd.length c s.bd∧B≤g∧aj A≠some g
theorem jJ.lt{w:World}{g B c:Nat}{A:Option Addr}{s:JS}(h:jJ w g B A c s):g<w.heap.size:=(agn.1 h.1).1
theorem jJ.below{w w':World}{g B c B1:Nat}{A:Option Addr}{s:JS}(h:jJ w g B A c s)(hb:Below B1 w w')(hB:w.heap.size≤B1):jJ w' g B A c s:=
 ⟨(hb.block g (by have:=h.lt;omega)).trans h.1,h.2.1.below hb hB,h.2.2.1,h.2.2.2⟩
def Zx(s:JS)(A:Option Addr):Option Addr:=if s.bg then none else A
def spC(s:JS)(c:Nat):Nat:=if s.bg then 0 else c
theorem oW(g B:Nat)(A:Option Addr)(c:Nat)(s:JS)(h0:0≤s.br)(h1:s.br≤1000000)(w:World)(h:jJ w g B A c s):
 Calls Tryz.prog 126 #[.pointer (some ⟨g,0,none⟩)] w fun e w'=>e= .returned (.tuple #[])∧jJ w' g B (Zx s A) (spC s c) (qH s)∧Kp (fun q=>q=g) w w':=by
 have H:=aa h
 obtain⟨nx,bg,bd,br⟩:=s
 obtain⟨hg,ho,hB,hA⟩:=h
 dsimp only at*
 obtain⟨⟨c0,c1,c2,c3⟩,f0,f1,f2,f3⟩:=fO hg
 have Hg:=aa hg
 have i1:=agp (br+1) (by omega)
 clear ho hA hg
 cases bg with
 |false=>
  go_enter Tryz.func126,Tryz.ntmps126
  go_wp2_with fail
  go_end0
  exact⟨rfl,H.out,Kp.refl _ _⟩
 |true=>
  go_enter Tryz.func126,Tryz.ntmps126
  go_wp2_with fail
  go_end0
  all_goals refine⟨rfl,⟨?_,aq.nil _ _,hB,by simp[Zx,aj]⟩,(((Kp.refl (fun q=>q=g) w).set_ (p:=⟨g,1,none⟩) rfl _).set_ (p:=⟨g,2,none⟩) rfl _).set_ (p:=⟨g,3,none⟩) rfl _⟩
  all_goals rw[agA _ g 3 _ _ _ (agA _ g 2 _ _ _ (agA _ g 1 _ _ _ Hg.out))]
  all_goals rfl
def sG(s:JS)(p:Pg):JS:=
 let s1:=if s.nx<p.seq then qH s else s
 let s2:JS:={s1 with nx:=p.seq+1}
 if p.first then {qH s2 with bg:=true} else s2
def jE(s:JS)(p:Pg):JS×Option Pk:=
 if s.bg=false then(s,none)
 else
  let b:=s.bd++p.body
  let s4:JS:={s with bd:=b}
  if 65554<b.length then(qH s4,none)
  else if p.last=false then(s4,none)
  else if (dO b).2≠0 then(qH s4,none)
  else({s4 with bg:=false,bd:=[]},some (dO b).1)
def ot(s:JS)(p:Pg):JS×Option Pk:=jE (sG s p) p
def Lx(r:JS×Option Pk)(g B:Nat)(A:Option Addr)(w:World)(e:Ending)(w':World):Prop:=
 ∃(A2:Option Addr) (c2:Nat) (E:List (El Pk)) (hv:Value) (A':Option Addr) (c':Nat),e= .returned (.tuple #[.slice A2 E.length c2,hv])∧aV iA 52 w' w.heap.size A2 E.length c2 E∧E.map (·.1)=r.2.toList∧
  jJ w' g B A' c' r.1∧(r.2≠none→A'=none)∧(∀q,aj A'=some q→aj A=some q∨w.heap.size≤q)∧Kp (fun q=>q=g∨aj A=some q) w w'
theorem aba{ops:Array Oper}{rest:List Oper}{o:Oper}{a:Act}{Q:Exit→Act→World→Prop}(w:World)(hgd:o.guard=none)(s x:Operand)
 (ho:o.op= .call {callee:=.builtin .append,args:=#[s,x],argTypes:=#[22,22]}) (B:Nat) (A1:Option Addr) (n c1:Nat) (xs:List Int) (hs:a.eval s= .slice A1 n c1) (hown:aq w B A1 n c1 xs) (hB:B≤w.heap.size)
 (B1:Nat) (A:Option Addr) (m c:Nat) (news:List Int) (hx:a.eval x= .slice A m c) (hl:news.length=m) (hr:ag .u8 w B1 A news) (hsz:n+m≤100000)
 (h:∀A' c' w',aq w' B A' (n+m) c' (xs++news)→w.grownBy w' (Value.slice A1 n c1).ownBlock→(aj A'=aj A1∨aj A'=some w.heap.size)→wpList Tryz.prog ops Q rest (a.put o.dst (.slice A' (n+m) c')) w'):wpList Tryz.prog ops Q (o :: rest) a w:=by
 obtain⟨i0,cw,hz0,hz1,hz2⟩:=info_parts fD
 refine aP w hgd s x 22 ho B 5 i0 _ 1 1 Tryz.underlying22 cw hz0 hz1 hz2 rfl (by omega) _ n _ hs hown B1 A m c (news.map (Value.int .u8)) hx (by simpa using hl) hr (bY _ _) (by simp only[maxLen];omega) (by omega) hB fun A' c' w' h2 h3 h4=>h A' c' w' ?_ h3 (by rw[ae,ae] at h4;exact h4)
 unfold aq
 rw[List.map_append]
 exact h2
theorem Vw{ops:Array Oper}{o:Oper}{a:Act}{K:Act→World→Prop}{Q:Exit→Act→World→Prop}{E:Prop}(w:World)(hw:Region.wanted o (yielded ops a.tmps)=true)(s x:Operand)
 (ho:o.op= .call {callee:=.builtin .append,args:=#[s,x],argTypes:=#[29,29]}) (hs:a.eval s= .slice none 0 0)
 (B1:Nat) (A:Option Addr) (c:Nat) (h0 h9:Int) (hx:a.eval x= .slice A 1 c) (hr:Rd w B1 A [.int .i64 h0,.int .i64 h9])
 (h:∀A' c' w',Below w.heap.size w w'→K (a.put o.dst (.slice A' 1 c')) w'):
 if Region.wanted o (yielded ops a.tmps)=true then Oper.wp Tryz.prog o a w K Q else E:=by
 rw[if_pos hw]
 obtain⟨i0,cw,hz0,hz1,hz2⟩:=info_parts Ai
 refine rO w s x 29 ho w.heap.size 68 i0 _ 2 16 Tryz.underlying29 cw hz0 hz1 hz2 rfl (by omega) _ 0 [] hs (World.ownsRow_nil _ _ _ _) B1 A 1 c [.int .i64 h0,.int .i64 h9] hx rfl hr (fun u hu=> ?_) (by simp only[maxLen];omega) (by omega) (agl _) fun A' c' w' h2 h3 _=>h A' c' w' (aI (ac w) (World.ownsRow_nil w w.heap.size 68 2) h3 (agl _))
 simp at hu
 rcases hu with rfl | rfl <;> rfl
theorem ZK{w:World}{B:Nat}{p:Pk}{A:Option Addr}{c:Nat}(arr:Array Value)(fo:arr.toList=iA.enc p A c)(hz:arr.size=6)(ho:aq w B A p.data.length c p.data)(hB:B≤w.heap.size):
 aV iA 52 (w.alloc (.cells arr 52)) B (some ⟨w.heap.size,0,none⟩) 1 1 [(p,A,c)]:=by
 have hlt:=fun q (hq:aj A=some q)=>agB ho q (by rw[ae];exact hq)
 refine⟨?_,rfl,fun t ht=> ?_,fun t ht q hq=> ?_,fun t ht=> ?_⟩
 ·rw[iQ,←fo]
  exact World.ownsRow_lit w arr 1 hB (by simp only[maxLen];omega) (by rw[hz];rfl)
 ·rw[List.mem_singleton] at ht
  subst ht
  exact(ho.alloc _).ints
 ·rw[List.mem_singleton] at ht
  subst ht
  have h1:=hlt q hq
  exact⟨h1.1,by simp;omega,fun e=>by injection e with e;exact absurd h1.2 (by rw[←e];exact Nat.lt_irrefl _)⟩
 ·rw[List.mem_singleton] at ht
  subst ht
  exact bJ ho
theorem LS{ops:Array Oper}{o:Oper}{a:Act}{K:Act→World→Prop}{Q:Exit→Act→World→Prop}{E:Prop}(w:World)(hw:Region.wanted o (yielded ops a.tmps)=true)(s x:Operand)
 (ho:o.op= .call {callee:=.builtin .append,args:=#[s,x],argTypes:=#[22,22]}) (B:Nat) (A1:Option Addr) (n c1:Nat) (xs:List Int) (hs:a.eval s= .slice A1 n c1) (hown:aq w B A1 n c1 xs)
 (B1:Nat) (A:Option Addr) (m c:Nat) (news:List Int) (hx:a.eval x= .slice A m c) (hl:news.length=m) (hr:ag .u8 w B1 A news) (hsz:n+m≤200000) (hb:B≤w.heap.size)
 (h:∀A' c' w',aq w' B A' (n+m) c' (xs++news)→w.grownBy w' (aj A1)→(aj A'=aj A1∨aj A'=some w.heap.size)→K (a.put o.dst (.slice A' (n+m) c')) w'):
 if Region.wanted o (yielded ops a.tmps)=true then Oper.wp Tryz.prog o a w K Q else E:=by
 rw[if_pos hw]
 obtain⟨i0,cw,hz0,hz1,hz2⟩:=info_parts fD
 refine rO w s x 22 ho B 5 i0 _ 1 1 Tryz.underlying22 cw hz0 hz1 hz2 rfl (by omega) _ n _ hs hown B1 A m c (news.map (Value.int .u8)) hx (by simpa using hl) hr (bY _ _) (by simp only[maxLen];omega) (by omega) hb fun A' c' w' h2 h3 h4=>h A' c' w' ?_ (by rw[ae] at h3;exact h3) (by rw[ae,ae] at h4;exact h4)
 unfold aq
 rw[List.map_append]
 exact h2
structure JR (W0 w wx:World) (g:Nat) (A Ax:Option Addr) (cx:Nat) (s:JS) (arr:Array Value):Prop where
 jn:jJ wx g W0.heap.size Ax cx s
 ad:∀q,aj Ax=some q→aj A=some q∨w.heap.size≤q
 kp:Kp (fun q=>q=g∨aj A=some q) w wx
 bx:wx.heap[w.heap.size]? =some (.cells arr 124 (0,0))
 bl:Below W0.heap.size W0 wx
 gw:g<w.heap.size
 bz:aj Ax≠some w.heap.size
section
variable {W0 w wx wy : World} {g cx : Nat} {A Ax : Option Addr} {s s' : JS} {arr : Array Value}
theorem JR.zlt(h:JR W0 w wx g A Ax cx s arr):w.heap.size<wx.heap.size:=(agn.1 h.bx).1
theorem JR.below(h:JR W0 w wx g A Ax cx s arr)(hb:Below wx.heap.size wx wy):JR W0 w wy g A Ax cx s arr:=
 ⟨h.jn.below hb (agl _),h.ad,h.kp.trans (Kp.of_below hb),(hb.block _ h.zlt).trans h.bx,h.bl.trans (hb.mono h.bl.size),h.gw,h.bz⟩
theorem JR.spoil(h:JR W0 w wx g A Ax cx s arr)(hj:jJ wy g W0.heap.size (Zx s Ax) (spC s cx) (qH s))(hk:Kp (fun q=>q=g) wx wy):JR W0 w wy g A (Zx s Ax) (spC s cx) (qH s) arr:=by
 have ab7:∀q,aj (Zx s Ax)=some q→aj Ax=some q:=fun q hq=>by
  unfold Zx at hq
  split at hq
  ·cases hq
  ·exact hq
 refine⟨hj,fun q hq=>h.ad q (ab7 q hq),h.kp.trans (hk.mono fun q e=>.inl e),(hk.block _ h.zlt (fun e=>by have:=h.gw;omega)).trans h.bx,h.bl.trans (hk.below (fun q e=>by rw[e];exact h.jn.2.2.1) h.bl.size),h.gw,fun e=>h.bz (ab7 _ e)⟩
theorem JR.setg(h:JR W0 w wx g A Ax cx s arr)(i:Nat)(v:Value)(hg:(wx.setCell ⟨g,i,none⟩ v).heap[g]? =some (.cells #[.int .i64 s'.nx,.bool s'.bg,.slice Ax s'.bd.length cx,.int .i64 s'.br] 223 (0,0)))(lW:s'.bd=s.bd):
 JR W0 w (wx.setCell ⟨g,i,none⟩ v) g A Ax cx s' arr:=by
 refine⟨⟨hg, ?_,h.jn.2.2.1,h.jn.2.2.2⟩,h.ad,h.kp.set_ (p:=⟨g,i,none⟩) (.inl rfl) _,(agr _ _ _ _ (by have:=h.gw;show w.heap.size≠g;omega)).trans h.bx,h.bl.setCell (p:=⟨g,i,none⟩) h.jn.2.2.1 _,h.gw,h.bz⟩
 rw[lW]
 exact aq.of_other h.jn.2.1 fun q hq=>agr _ _ _ _ (fun e=>h.jn.2.2.2 (by rw[←ae Ax s.bd.length cx,hq];exact congrArg some e))
theorem JR.app(h:JR W0 w wx g A Ax cx s arr){A9:Option Addr}{c9:Nat}{xs:List Int}(ho:aq wy W0.heap.size A9 (s.bd.length+xs.length) c9 (s.bd++xs))(hg:wx.grownBy wy (aj Ax))(hk:aj A9=aj Ax∨aj A9=some wx.heap.size):
 JR W0 w (wy.setCell ⟨g,2,none⟩ (.slice A9 (s.bd.length+xs.length) c9)) g A A9 c9 {s with bd:=s.bd++xs} arr:=by
 have hz:=h.zlt
 have sO:=h.gw
 have hgx:g<wx.heap.size:=h.jn.lt
 have hne:∀q,q<wx.heap.size→aj Ax≠some q→aj A9≠some q:=fun q hq hn e=>by
  rcases hk with hk | hk
  ·exact hn (hk.symm.trans e)
  ·rw[hk] at e
   injection e with e
   omega
 have hgn:=hne g hgx h.jn.2.2.2
 have hrow:wy.heap[g]? =some (.cells #[.int .i64 s.nx,.bool s.bg,.slice Ax s.bd.length cx,.int .i64 s.br] 223 (0,0)):=(hg.block g hgx (fun e=>h.jn.2.2.2 e.symm)).trans h.jn.1
 have hsz:=hg.size
 have hkp:Kp (fun q=>q=g∨aj A=some q) w wy:=⟨hg.os.trans h.kp.os,hg.tape.trans h.kp.tape,hg.output.trans h.kp.output,agm h.kp.size hg.size,fun k jx hs=>(hg.block k (agz jx h.kp.size) (fun e=>by
  rcases h.ad k e.symm with h1 | h1
  ·exact hs (.inr h1)
  ·omega)).trans (h.kp.block k jx hs)⟩
 have hbl:Below W0.heap.size W0 wy:=⟨hg.os.trans h.bl.os,hg.tape.trans h.bl.tape,hg.output.trans h.bl.output,agm h.bl.size hg.size,fun k jx=>(hg.block k (agz jx h.bl.size) (fun e=>by
  have hh:=agB h.jn.2.1 k (by rw[ae];exact e.symm)
  omega)).trans (h.bl.block k jx)⟩
 refine⟨⟨?_, ?_,h.jn.2.2.1,hgn⟩,fun q hq=> ?_,hkp.set_ (p:=⟨g,2,none⟩) (.inl rfl) _, ?_,hbl.setCell (p:=⟨g,2,none⟩) h.jn.2.2.1 _,sO,hne _ hz h.bz⟩
 ·rw[agA _ g 2 _ _ _ hrow,←List.length_append]
  rfl
 ·dsimp only
  rw[List.length_append]
  exact aq.of_other ho fun q hq=>agr _ _ _ _ (fun e=>hgn (by rw[←ae A9 (s.bd.length+xs.length) c9,hq];exact congrArg some e))
 ·rcases hk with hk | hk
  ·exact h.ad q (hk.symm.trans hq)
  ·rw[hk] at hq
   injection hq with hq
   exact .inr (by omega)
 ·exact(agr _ _ _ _ (show w.heap.size≠g by omega)).trans ((hg.block _ hz (fun e=>h.bz e.symm)).trans h.bx)
theorem JR.clear(h:JR W0 w wx g A Ax cx s arr):JR W0 w ((wx.setCell ⟨g,1,none⟩ (.bool false)).setCell ⟨g,2,none⟩ (.slice none 0 0)) g A none 0 ⟨s.nx,false,[],s.br⟩ arr:=by
 have sO:=h.gw
 refine⟨⟨?_,aq.nil _ _,h.jn.2.2.1,by simp[aj]⟩,(fun q hq=>by simp[aj] at hq),(h.kp.set_ (p:=⟨g,1,none⟩) (.inl rfl) _).set_ (p:=⟨g,2,none⟩) (.inl rfl) _, ?_,(h.bl.setCell (p:=⟨g,1,none⟩) h.jn.2.2.1 _).setCell (p:=⟨g,2,none⟩) h.jn.2.2.1 _,sO,by simp[aj]⟩
 ·rw[agA _ g 2 _ _ _ (agA _ g 1 _ _ _ h.jn.1)]
  rfl
 ·exact(agr _ _ _ _ (show w.heap.size≠g by omega)).trans ((agr _ _ _ _ (show w.heap.size≠g by omega)).trans h.bx)
theorem JR.some_(h:JR W0 w wx g A none cx s arr)(hv:Value){p:Pk}{A5:Option Addr}{c5:Nat}(a6:Array Value)(fo:a6.toList=iA.enc p A5 c5)(hz:a6.size=6)(ho:aq wx w.heap.size A5 p.data.length c5 p.data):
 Lx (s,some p) g W0.heap.size A w (.returned (.tuple #[.slice (some ⟨wx.heap.size,0,none⟩) 1 1,hv])) (wx.alloc (.cells a6 52)):=
 ⟨some ⟨wx.heap.size,0,none⟩,1,[(p,A5,c5)],hv,none,cx,rfl,ZK a6 fo hz ho h.kp.size,rfl,(h.below (ak (ac wx) _)).jn,fun _=>rfl,h.ad,(h.below (ak (ac wx) _)).kp⟩
theorem JR.none_(h:JR W0 w wx g A Ax cx s arr)(hv:Value):Lx (s,none) g W0.heap.size A w (.returned (.tuple #[.slice none 0 0,hv])) wx:=
 ⟨none,0,[],hv,Ax,cx,rfl,aV.nil _ _,rfl,h.jn,fun h=>absurd rfl h,h.ad,h.kp⟩
end
theorem Rq(p:Pg)(dU:cR p=true)(hgd:p.guard=false)(hby:aH p.body)(s:JS)(hsb:aH s.bd)(KO:s.bd.length+p.body.length≤50000)(adQ:0≤s.nx)(l8:s.nx≤p.seq)(acU:0≤s.br)(hbr:s.br≤900000)(g:Nat)(A:Option Addr)(c:Nat)(Ad:Option Addr)(cd:Nat)(W0 w:World)
 (hJ:jJ w g W0.heap.size A c s) (hW:Below W0.heap.size W0 w) (hp:ag .u8 W0 W0.heap.size Ad p.body):
 Calls Tryz.prog 76 #[.pointer (some ⟨g,0,none⟩),ju p Ad cd] w (Lx (ot s p) g W0.heap.size A w):=by
 obtain⟨_,hbl,afc,afb⟩:=iP dU
 have yO:=pS p
 rw[dU,if_pos rfl] at yO
 have hcon:=fun W (h:W0.heap.size≤W.heap.size) (hi:ag .u8 W W0.heap.size Ad p.body)=>kW p Ad W0.heap.size cd W h (by omega) hi hby
 generalize ez p=R at hcon yO
 obtain⟨R1,R2⟩:=R
 dsimp only at yO
 subst yO
 have NI:Hid (ot s p=jE (sG s p) p):=rfl
 obtain⟨RR,cN⟩:∃RR,RR=ot s p:=⟨_,rfl⟩
 rw[←cN] at NI ⊢
 unfold ju at*
 have hJ1:=aa hJ
 have M0:=aa (ago w (.cells #[.int .i64 p.seq,.bool p.first,.bool p.last,.bool p.guard,.slice Ad p.body.length cd] 124))
 have hzw:W0.heap.size≤w.heap.size:=hW.size
 have ad7:=hJ.lt
 have sP:aj A≠some w.heap.size:=fun e=>by
  have hh:=agB hJ.2.1 _ (by rw[ae];exact e)
  omega
 have hc2:=hcon _ (agm hzw (ak (ac w) _).size) (hp.below (hW.alloc hzw (.cells #[.int .i64 p.seq,.bool p.first,.bool p.last,.bool p.guard,.slice Ad p.body.length cd] 124)))
 have Uv:=aa hc2
 have HW:=aa hW
 have Hp:=aa hp
 have Hby:=aa hby
 clear hcon hc2 hJ hW hp cN dU
 obtain⟨sq,f,l,gd,bd⟩:=p
 obtain⟨nx,bg,sb,br⟩:=s
 dsimp only at*
 subst hgd
 have i1:=agp (sq+1) (by omega)
 have i2:=agp (sq-1) (by omega)
 have afo:¬sq<nx:=by omega
 go_enter Tryz.func76,Tryz.ntmps76
 go_upto_region 2 with (go_at_call 70;(with_reducible refine Uv.out.mono ?_);rintro e w2 ⟨A3,c3,rfl,bF,b2⟩;dsimp only at bF ⊢)
 have B2:Hid (Below w.heap.size w w2):=aa (af (ak (ac w) _) b2)
 have M2:Hid (w2.heap[w.heap.size]? =some (.cells #[.int .i64 sq,.bool f,.bool l,.bool false,.slice Ad bd.length cd] 124 (0,0))):=(b2.block w.heap.size (by simp)).trans M0.out
 have hJ2:=aa (hJ1.out.below B2.out (agl _))
 obtain⟨⟨k0,k1,k2,k3,k4⟩,_⟩:=ay M2.out
 obtain⟨⟨c0,c1,Fz,Gu⟩,f0,f1,f2,f3⟩:=fO hJ2.out.1
 clear b2 bF Uv M0 hJ1
 go_quiet (fail)
 obtain⟨w3,hw3⟩:∃w3,w3=w2.drewN nq:=⟨_,rfl⟩
 have R3:Hid (JR W0 w w3 g A A c ⟨nx,bg,sb,br⟩ #[.int .i64 sq,.bool f,.bool l,.bool false,.slice Ad bd.length cd]):=by
  rw[hw3]
  exact aa ⟨hJ2.out.below (below_drewN (ac w2) nq) (agl _),fun q h=>.inl h,Kp.of_below (below_drewN B2.out _),M2.out,below_drewN (HW.out.trans (B2.out.mono hzw)) _,ad7,sP⟩
 rw[←hw3]
 clear hw3 B2 M2 hJ2 k0 k1 k2 k3 k4 c0 c1 Fz Gu f0 f1 f2 f3
 obtain⟨⟨k0,k1,k2,k3,k4⟩,_⟩:=ay R3.out.bx
 obtain⟨⟨c0,c1,Fz,Gu⟩,f0,f1,f2,f3⟩:=fO R3.out.jn.1
 go_wp2_with fail
 go_quiet (fail)
 obtain⟨w4,hw4⟩:∃w4,w4=w3.drewN nq:=⟨_,rfl⟩
 have R4:Hid (JR W0 w w4 g A A c ⟨nx,bg,sb,br⟩ #[.int .i64 sq,.bool f,.bool l,.bool false,.slice Ad bd.length cd]):=by rw[hw4];exact aa (R3.out.below (below_drewN (ac w3) nq))
 rw[←hw4]
 clear hw4 R3 k0 k1 k2 k3 k4 c0 c1 Fz Gu f0 f1 f2 f3
 go_upto_if 37 with fail
 go_cut [8] (fun _ wx=>∃(Ax:Option Addr) (cx:Nat),JR W0 w wx g A Ax cx (if nx<sq then qH ⟨nx,bg,sb,br⟩else⟨nx,bg,sb,br⟩) #[.int .i64 sq,.bool f,.bool l,.bool false,.slice Ad bd.length cd])
 case first=>
  obtain⟨⟨k0,k1,k2,k3,k4⟩,_⟩:=ay R4.out.bx
  obtain⟨⟨c0,c1,Fz,Gu⟩,f0,f1,f2,f3⟩:=fO R4.out.jn.1
  by_cases hlt:nx<sq
  ·go_wp2_with fail
   go_region_held3 (fun w'=>w'.cell? ⟨g,0,none⟩=some (.int .i64 nx)∧w'.cell? ⟨w.heap.size,0,none⟩=some (.int .i64 sq)) (first | (go_keep;done) | exact⟨c0,k0⟩ | exact⟨later (ak (ac w4) _).drew c0,later (ak (ac w4) _).drew k0⟩ | exact⟨later b5 c0,later b5 k0⟩)
    (first | ((refine Vw _ (by rfl) (.tmp 38) (.tmp 47) (by rfl) (by rfl) (w4.heap.size+1) _ 1 nx (sq-1) (by rfl) (dr w4 _ _ _ rfl) ?_;intro A5 c5 w5 b5';have b5:Below w4.heap.size w4 w5:=af (ak (ac w4) _).drew b5';clear b5')))
   have R5:=R4.out.below b5
   have hsp:=oW g W0.heap.size A c ⟨nx,bg,sb,br⟩ acU (by dsimp only;omega) _ R5.jn
   have Vb:=aa hsp
   have C7:=aa R5
   clear hsp R5
   go_wp2_with (go_at_call 126;(with_reducible refine Vb.out.mono ?_);rintro e w6 ⟨rfl,hj6,xw⟩)
   all_goals go_meet
   refine⟨Zx ⟨nx,bg,sb,br⟩ A,spC ⟨nx,bg,sb,br⟩ c, ?_⟩
   rw[if_pos hlt]
   exact C7.out.spoil hj6 xw
  ·go_wp2_with fail
   all_goals go_meet
   refine⟨A,c, ?_⟩
   rw[if_neg (by omega)]
   exact R4.out
 case rest=>
  clear R4
  obtain⟨s1,hs1⟩:∃s1:JS,s1=if nx<sq then qH ⟨nx,bg,sb,br⟩else⟨nx,bg,sb,br⟩:=⟨_,rfl⟩
  have q1:aH s1.bd:=by
   rw[hs1]
   split
   ·exact qG hsb
   ·exact hsb
  have q2:s1.bd.length+bd.length≤50000:=by
   have hj:=qF ⟨nx,bg,sb,br⟩
   rw[hs1]
   split
   ·exact agm (Nat.add_le_add_right hj _) KO
   ·exact KO
  have q3:0≤s1.br∧s1.br≤900001:=by
   have hj:=wV ⟨nx,bg,sb,br⟩
   rw[hs1]
   split
   ·dsimp only at hj;omega
   ·exact⟨acU,by dsimp only;omega⟩
  have q4:s1.nx=nx:=by rw[hs1];split <;> rfl
  have YE:Hid (RR=jE (if f then {qH {s1 with nx:=sq+1} with bg:=true} else {s1 with nx:=sq+1}) ⟨sq,f,l,false,bd⟩):=by
   show _=_
   rw[NI.out,hs1]
   rfl
  rw[←hs1] at hcut
  obtain⟨Ax,cx,hR5⟩:=hcut
  clear NI hs1
  obtain⟨n1,b1,d1,r1⟩:=s1
  dsimp only at*
  subst q4
  obtain⟨⟨k0,k1,k2,k3,k4⟩,_⟩:=ay hR5.bx
  obtain⟨⟨c0,c1,Fz,Gu⟩,f0,f1,f2,f3⟩:=fO hR5.jn.1
  have R5:=aa hR5
  clear hR5
  go_upto_region 9 with fail
  have R6:Hid (JR W0 w (wc.setCell ⟨g,0,none⟩ (.int .i64 (sq+1))) g A Ax cx ⟨sq+1,b1,d1,r1⟩ #[.int .i64 sq,.bool f,.bool l,.bool false,.slice Ad bd.length cd]):=aa (R5.out.setg 0 _ (agA _ g 0 _ _ _ R5.out.jn.1) rfl)
  obtain⟨w6,lZ⟩:∃w6,w6=wc.setCell ⟨g,0,none⟩ (.int .i64 (sq+1)):=⟨_,rfl⟩
  rw[←lZ] at R6 ⊢
  clear lZ R5 k0 k1 k2 k3 k4 c0 c1 Fz Gu f0 f1 f2 f3
  obtain⟨⟨k0,k1,k2,k3,k4⟩,_⟩:=ay R6.out.bx
  obtain⟨⟨c0,c1,Fz,Gu⟩,f0,f1,f2,f3⟩:=fO R6.out.jn.1
  go_upto_if 58 with fail
  go_cut [8] (fun _ wx=>∃(Ax:Option Addr) (cx:Nat),JR W0 w wx g A Ax cx (if f then {qH ⟨sq+1,b1,d1,r1⟩with bg:=true} else⟨sq+1,b1,d1,r1⟩) #[.int .i64 sq,.bool f,.bool l,.bool false,.slice Ad bd.length cd])
  case first=>
   cases f with
   |true=>
    have hsp:=oW g W0.heap.size Ax cx ⟨sq+1,b1,d1,r1⟩ q3.1 (by dsimp only;omega) _ R6.out.jn
    have Vb:=aa hsp
    clear hsp
    go_upto_region 11 with (go_at_call 126;(with_reducible refine Vb.out.mono ?_);rintro e w8 ⟨rfl,hj8,YJ⟩)
    have R8:=aa (R6.out.spoil hj8 YJ)
    clear hj8 YJ Vb
    clear k0 k1 k2 k3 k4 c0 c1 Fz Gu f0 f1 f2 f3
    obtain⟨⟨c0,c1,Fz,Gu⟩,f0,f1,f2,f3⟩:=fO R8.out.jn.1
    go_wp2_with fail
    all_goals go_meet
    exact⟨_,_,R8.out.setg 1 _ (agA _ g 1 _ _ _ R8.out.jn.1) rfl⟩
   |false=>
    go_wp2_with fail
    all_goals go_meet
    exact⟨Ax,cx,R6.out⟩
  case rest=>
   clear R6 k0 k1 k2 k3 k4 c0 c1 Fz Gu f0 f1 f2 f3
   obtain⟨s3,hs3⟩:∃s3:JS,s3=if f then {qH ⟨sq+1,b1,d1,r1⟩with bg:=true} else⟨sq+1,b1,d1,r1⟩:=⟨_,rfl⟩
   have q5:aH s3.bd:=by
    rw[hs3]
    split
    ·exact qG (s:=⟨sq+1,b1,d1,r1⟩) q1
    ·exact q1
   have q6:s3.bd.length+bd.length≤50000:=by
    have hj:=qF ⟨sq+1,b1,d1,r1⟩
    rw[hs3]
    split
    ·exact agm (Nat.add_le_add_right hj _) q2
    ·exact q2
   have q7:0≤s3.br∧s3.br≤900002:=by
    have hj:=wV ⟨sq+1,b1,d1,r1⟩
    rw[hs3]
    split
    ·dsimp only at hj ⊢;omega
    ·exact⟨q3.1,by dsimp only;omega⟩
   have Sg:=YE.out
   rw[←hs3] at hcut Sg
   have Sd:=aa Sg
   obtain⟨Ay,cy,hR7⟩:=hcut
   have R7:=aa hR7
   clear YE hs3 Sg q1 q2 q3 hR7
   obtain⟨n3,b3,d3,r3⟩:=s3
   dsimp only at*
   obtain⟨⟨k0,k1,k2,k3,k4⟩,_⟩:=ay R7.out.bx
   obtain⟨⟨c0,c1,Fz,Gu⟩,f0,f1,f2,f3⟩:=fO R7.out.jn.1
   cases b3 with
   |false=>
    go_wp2_with fail
    go_ret2
    rw[show RR=(⟨n3,false,d3,r3⟩,none)from Sd.out]
    exact R7.out.none_ _
   |true=>
    go_upto_region 14 with fail
    have hI7:=Hp.out.below R7.out.bl
    have hJ7:=R7.out.jn
    have acl:=R7.out.jn.2.2.2
    have Gq:=R7.out.jn.lt
    go_region_law (first | ((refine LS _ (by rfl) (.tmp 74) (.tmp 76) (by rfl) W0.heap.size Ay d3.length cy d3 (by rfl) hJ7.2.1 _ Ad bd.length cd bd (by rfl) rfl hI7 (by omega) R7.out.bl.size ?_;intro A9 c9 w9 lh NS hk9;obtain⟨⟨e0,e1,e2,e3⟩,t0,t1,t2,t3⟩:=fO ((NS.block g Gq (fun e=>acl e.symm)).trans hJ7.1))))
    all_goals (
     have R9:=aa ((R7.out.below (ac _).drew).app lh NS hk9)
     obtain⟨wa,Cf⟩:∃wa,wa=w9.setCell ⟨g,2,none⟩ (.slice A9 (d3.length+bd.length) c9):=⟨_,rfl⟩
     dsimp only at R9
     rw[←Cf] at R9 ⊢
     clear Cf lh NS hk9 e0 e1 e2 e3 t0 t1 t2 t3 hJ7 hI7 acl Gq k0 k1 k2 k3 k4 c0 c1 Fz Gu f0 f1 f2 f3 R7
     obtain⟨b4,hb4⟩:∃b4,b4=d3++bd:=⟨_,rfl⟩
     have aeo:b4.length=d3.length+bd.length:=by rw[hb4,List.length_append]
     have ael:aH b4:=by
      rw[hb4]
      exact fun x hx=>(agC.1 hx).elim (q5 x) (Hby.out x)
     have EE:Hid (RR=if l=false then(⟨n3,true,b4,r3⟩,none)else if (dO b4).2≠0 then(qH ⟨n3,true,b4,r3⟩,none)else(⟨n3,false,[],r3⟩,some (dO b4).1)):=by
      show _=_
      rw[Sd.out]
      unfold jE
      dsimp only
      rw[if_neg (by simp),←hb4,if_neg (by omega)]
     rw[←hb4] at R9
     have afZ:b4.length≤50000:=by omega
     clear hb4 Sd aeo
     obtain⟨⟨c0,c1,Fz,Gu⟩,f0,f1,f2,f3⟩:=fO R9.out.jn.1
     obtain⟨⟨k0,k1,k2,k3,k4⟩,_⟩:=ay R9.out.bx
     have afw:¬(65554:Int)<(b4.length:Int):=by omega
     cases l with
     |false=>
      go_wp2_with fail
      go_ret2
      rw[show RR=(⟨n3,true,b4,r3⟩,none)from EE.out]
      exact R9.out.none_ _
     |true=>
      have EO:=bJ R9.out.jn.2.1
      have hop:=zH b4 b4.length rfl (by omega) ael A9 wa.heap.size c9 EO.1 (by have:=EO.2;simp only[maxLen] at this;omega) wa (agl _) R9.out.jn.2.1.ints
      rw[if_neg (by simp)] at EE
      generalize dO b4=RO at EE hop
      obtain⟨⟨p0,p1,p2,p3,p4,p5⟩,eo⟩:=RO
      have Hop:=aa hop
      have Hp5:=aa EE.out
      clear hop EO EE
      dsimp only at Hp5
      unfold CK Ga at Hop
      dsimp only at Hop
      go_upto_region 21 with (go_at_call 120;(with_reducible refine Hop.out.mono ?_);rintro e w5 ⟨A5,c5,rfl,bT,b5⟩;dsimp only at bT ⊢)
      have U9:=aa (R9.out.below (ak b5 (.cells #[.int .i64 p0,.int .i64 p1,.int .i64 p2,.bool p3,.bool p4,.slice A5 p5.length c5] 52)))
      have hM:=ago w5 (.cells #[.int .i64 p0,.int .i64 p1,.int .i64 p2,.bool p3,.bool p4,.slice A5 p5.length c5] 52)
      have dC:=bT.alloc (.cells #[.int .i64 p0,.int .i64 p1,.int .i64 p2,.bool p3,.bool p4,.slice A5 p5.length c5] 52)
      have hgb:g<(w5.alloc (.cells #[.int .i64 p0,.int .i64 p1,.int .i64 p2,.bool p3,.bool p4,.slice A5 p5.length c5] 52)).heap.size:=agz R9.out.jn.lt (ak b5 (.cells #[.int .i64 p0,.int .i64 p1,.int .i64 p2,.bool p3,.bool p4,.slice A5 p5.length c5] 52)).size
      have sO:=R9.out.jn.lt
      have hzz:=R9.out.kp.size
      have EL:g<w5.heap.size:=agz R9.out.jn.lt b5.size
      have aej:w5.heap.size<(w5.alloc (.cells #[.int .i64 p0,.int .i64 p1,.int .i64 p2,.bool p3,.bool p4,.slice A5 p5.length c5] 52)).heap.size:=by simp
      obtain⟨bk,mf⟩:∃bk,bk=w5.heap.size:=⟨_,rfl⟩
      obtain⟨wb,ig⟩:∃wb,wb=w5.alloc (.cells #[.int .i64 p0,.int .i64 p1,.int .i64 p2,.bool p3,.bool p4,.slice A5 p5.length c5] 52):=⟨_,rfl⟩
      rw[←ig,←mf] at hM aej
      rw[←ig] at U9 dC hgb ⊢
      rw[←mf] at EL ⊢
      clear ig mf bT b5 R9 c0 c1 Fz Gu f0 f1 f2 f3 k0 k1 k2 k3 k4
      obtain⟨⟨c0,c1,Fz,Gu⟩,f0,f1,f2,f3⟩:=fO U9.out.jn.1
      obtain⟨⟨m0,m1,m2,m3,m4,m5⟩,_⟩:=bH hM
      by_cases he:eo=0
      ·subst he
       have Px:=Hp5.out
       rw[if_neg (by simp)] at Px
       have Hp6:=aa Px
       clear Px Hp5
       go_upto_region 25 with fail
       have R11:=aa U9.out.clear
       have hne:bk≠g:=by omega
       have hM2:((wb.setCell ⟨g,1,none⟩ (.bool false)).setCell ⟨g,2,none⟩ (.slice none 0 0)).heap[bk]? =some (.cells #[.int .i64 p0,.int .i64 p1,.int .i64 p2,.bool p3,.bool p4,.slice A5 p5.length c5] 52 (0,0)):=
        (agr _ _ _ _ hne).trans ((agr _ _ _ _ hne).trans hM)
       have hb5:∀q,(Value.slice A5 p5.length c5).ownBlock=some q→q≠g:=fun q hq=>by
        have:=(agB dC q hq).1
        omega
       have fQ:aq ((wb.setCell ⟨g,1,none⟩ (.bool false)).setCell ⟨g,2,none⟩ (.slice none 0 0)) wa.heap.size A5 p5.length c5 p5:=
        aq.of_other (aq.of_other dC fun q hq=>agr _ _ _ _ (hb5 q hq)) fun q hq=>agr _ _ _ _ (hb5 q hq)
       obtain⟨wz,oK⟩:∃wz,wz=(wb.setCell ⟨g,1,none⟩ (.bool false)).setCell ⟨g,2,none⟩ (.slice none 0 0):=⟨_,rfl⟩
       rw[←oK] at R11 hM2 fQ ⊢
       clear oK hM dC hb5 U9 c0 c1 Fz Gu f0 f1 f2 f3 m0 m1 m2 m3 m4 m5
       obtain⟨⟨m0,m1,m2,m3,m4,m5⟩,_⟩:=bH hM2
       go_wp2_with fail
       go_ret2
       rw[show RR=(⟨n3,false,[],r3⟩,some ⟨p0,p1,p2,p3,p4,p5⟩)from Hp6.out]
       exact R11.out.some_ _ _ rfl rfl (fQ.base hzz)
      ·have Px:=Hp5.out
       rw[if_pos he] at Px
       have Hp6:=aa Px
       have hsp:=oW g W0.heap.size A9 c9 ⟨n3,true,b4,r3⟩ q7.1 (by dsimp only;omega) wb U9.out.jn
       have Vb:=aa hsp
       have yq:(!decide (eo=0))=true:=by simp[he]
       clear Px Hp5 hsp
       go_wp2_with (go_at_call 126;(with_reducible refine Vb.out.mono ?_);rintro e w6 ⟨rfl,hj6,xw⟩)
       go_ret2
       rw[show RR=(qH ⟨n3,true,b4,r3⟩,none)from Hp6.out]
       exact(U9.out.spoil hj6 xw).none_ _)
end
end Go.Proofs.YtbhfpehgacaidaaGreatDoor
