/- A part of the proof of the given statement TopRight. Conditions: none. -/
import Derived.Shelf.RegionOpenPlain
import Derived.Test.YtbhfpehgacaidaaGreatDoorQAA
namespace Go.Proofs.YtbhfpehgacaidaaGreatDoor
set_option linter.unusedVariables false
set_option linter.unusedSimpArgs false
set_option maxRecDepth 100000
set_option maxHeartbeats 8000000
section
open Go.RowKit
def cY:List Int→Nat→Nat→Nat×Nat×Int
 |[],_,_=>(0,0,3)
 |c :: r,i,acc=>
  if (i=9∧1<c)∨(0<i∧c=0)then(0,0,2)
  else if c<128 then(acc+(c%128).toNat*2 ^ (7*i),i+1,0)
  else cY r (i+1) (acc+(c%128).toNat*2 ^ (7*i))
theorem ZM{x y k:Nat}(hk:k≤63)(hx:x<2 ^ k)(hy:y*2 ^ k<2 ^ 64):bits .or .u64 (x:Int) ((y*2 ^ k:Nat):Int)=((x+y*2 ^ k:Nat):Int):=by
 have hp:(2:Nat) ^ k≤2 ^ 63:=Nat.pow_le_pow_right (by omega) hk
 have key:(BitVec.ofInt 64 (x:Int) ||| BitVec.ofInt 64 ((y*2 ^ k:Nat):Int)).toNat=x+y*2 ^ k:=by
  rw[BitVec.toNat_or,BitVec.toNat_ofInt,BitVec.toNat_ofInt]
  have h1:((x:Int)%((2 ^ 64:Nat):Int)).toNat=x:=by omega
  have h2:(((y*2 ^ k:Nat):Int)%((2 ^ 64:Nat):Int)).toNat=y*2 ^ k:=by omega
  rw[h1,h2,Nat.mul_comm y,Nat.or_comm,←Nat.two_pow_add_eq_or_of_lt hx]
  omega
 show IntKind.u64.wrap ((BitVec.ofInt 64 (x:Int) ||| BitVec.ofInt 64 ((y*2 ^ k:Nat):Int)).toNat:Int)=_
 have hb:x+y*2 ^ k<2 ^ 64:=by rw[←key];exact BitVec.isLt _
 rw[key]
 exact agq _ (by omega)
theorem CJ(acc y K:Nat):acc+((y:Int)%128).toNat*K=acc+y%128*K:=by
 rw[show ((y:Int)%128).toNat=y%128 by omega]
theorem T8(acc y K:Nat):((acc+((y:Int)%128).toNat*K:Nat):Int)=(acc:Int)+(y:Int)%128*(K:Int):=by
 rw[CJ];simp
theorem abf{acc y i:Nat}(h:acc<2 ^ (7*i)):acc+((y:Int)%128).toNat*2 ^ (7*i)<2 ^ (7*(i+1)):=by
 rw[CJ,show 7*(i+1)=7*i+7 by omega,Nat.pow_add]
 have h1:y%128*2 ^ (7*i)≤127*2 ^ (7*i):=Nat.mul_le_mul_right _ (by omega)
 omega
theorem Vp{l:List Int}{i acc:Nat}(h:i<l.length):cY (l.drop i) i acc=if (i=9∧1<ix l i)∨(0<i∧ix l i=0)then(0,0,2)
 else if ix l i<128 then(acc+(ix l i%128).toNat*2 ^ (7*i),i+1,0)
 else cY (l.drop (i+1)) (i+1) (acc+(ix l i%128).toNat*2 ^ (7*i)):=by
 rw[List.drop_eq_getElem_cons h,cY,dQ h]
theorem P5{l:List Int}{i acc:Nat}(h:l.length≤i):cY (l.drop i) i acc=(0,0,3):=by
 rw[List.drop_eq_nil_of_le h,cY]
def aH(l:List Int):Prop:=∀x∈l,0≤x∧x<256
theorem aH.ix_{l:List Int}(h:aH l){k:Nat}(hk:k<l.length):0≤ix l k∧ix l k<256:=h _ (lg hk)
theorem vD(l:List Int)(n:Nat)(hn:n=l.length)(hm:n≤50000)(hb:aH l)(A:Option Addr)(B c:Nat)(w:World)(ha:ag .u8 w B A l):
 Calls Tryz.prog 111 #[.slice A n c] w fun e w'=>e= .returned (.tuple #[.int .u64 ((cY l 0 0).1:Int),.int .i64 ((cY l 0 0).2.1:Int),.int .i64 (cY l 0 0).2.2])∧w'=w:=by
 subst hn
 go_enter Tryz.func111,Tryz.ntmps111
 go_wp2_with fail
 go_loop [5,6,7,10] (fun nv _ _ iv=>∃i acc:Nat,i≤l.length∧nv= .int .u64 acc∧iv= .int .i64 i∧i≤9∧acc<2 ^ (7*i)∧cY (l.drop i) i acc=cY l 0 0) (fun _ _ _ iv=>l.length-(intOf iv).toNat)
 case atStart=>exact⟨0,0,by omega,rfl,rfl,by omega,by simp,by simp⟩
 case round=>
  obtain⟨i,acc,hi,rfl,rfl,h9,SR,hv⟩:=hrel
  have Hv:=aa hv
  clear hv
  by_cases hlt:i<l.length
  ·obtain⟨b,off,rfl,hc⟩:=ha.at_ hlt
   obtain⟨hx0,hx1⟩:=hb.ix_ hlt
   have C4:=Hv.out
   rw[Vp hlt] at C4
   obtain⟨x,hx⟩:∃x,x=ix l i:=⟨_,rfl⟩
   rw[←hx] at hc hx0 hx1 C4
   have hI:(i:Int)<(l.length:Int):=by omega
   clear hx Hv
   by_cases aW:(i=9∧1<x)∨(0<i∧x=0)
   ·rw[if_pos aW] at C4
    have XU:=aa C4
    clear C4
    by_cases h0:x=0
    ·subst h0
     have cw:(0:Int)<(i:Int):=by omega
     by_cases e9:i=9
     ·subst e9
      go_wp2_with fail
      go_ret3
      rw[←XU.out]
      exact⟨rfl,rfl⟩
     ·have Sz:((i:Int) == 9)=false:=beq_eq_false_iff_ne.2 (by omega)
      go_wp2_with fail
      go_ret3
      rw[←XU.out]
      exact⟨rfl,rfl⟩
    ·obtain⟨rfl,hx2⟩:i=9∧1<x:=by omega
     have hne:(x == 0)=false:=beq_eq_false_iff_ne.2 h0
     clear aW h0
     go_wp2_with fail
     go_ret3
     rw[←XU.out]
     exact⟨rfl,rfl⟩
   ·rw[if_neg aW] at C4
    have h10:i=0∨i=1∨i=2∨i=3∨i=4∨i=5∨i=6∨i=7∨i=8∨i=9:=by omega
    have hx9:i=9→x=1:=by omega
    have hne:0<i→(x == 0)=false:=fun h=>beq_eq_false_iff_ne.2 (by omega)
    obtain⟨y,rfl⟩:=Int.eq_ofNat_of_zero_le hx0
    have Ae:y%128*2 ^ (7*i)<2 ^ 64→bits .or .u64 (acc:Int) ((y%128*2 ^ (7*i):Nat):Int)=((acc+y%128*2 ^ (7*i):Nat):Int):=ZM (by omega) SR
    have acX:y%128*2 ^ (7*i)<2 ^ 64:=by
     rcases h10 with rfl | rfl | rfl | rfl | rfl | rfl | rfl | rfl | rfl | rfl <;> omega
    have ho:=Ae acX
    have hc2:=T8 acc y (2 ^ (7*i))
    have EQ:acc+((y:Int)%128).toNat*2 ^ (7*i)<2 ^ (7*(i+1)):=abf SR
    obtain⟨z,hz⟩:∃z,z=acc+((y:Int)%128).toNat*2 ^ (7*i):=⟨_,rfl⟩
    rw[←hz] at hc2 C4 EQ
    have cD:bits .or .u64 (acc:Int) ((y%128*2 ^ (7*i):Nat):Int)=(z:Int):=by
     rw[ho,hz,CJ]
    clear ho Ae acX hz
    clear hc2
    by_cases e9:i=9
    ·subst e9
     obtain rfl:y=1:=by omega
     rw[if_pos (by omega)] at C4
     have XU:=aa C4
     clear C4 aW h10 hx9 hne EQ SR hx0 hx1
     simp at cD
     go_wp2_with fail
     go_ret3
     rw[←XU.out]
     exact⟨rfl,rfl⟩
    ·have Sz:((i:Int) == 9)=false:=beq_eq_false_iff_ne.2 (by omega)
     clear hx9
     by_cases hx8:(y:Int)<128
     ·rw[if_pos hx8] at C4
      have XU:=aa C4
      clear C4 aW EQ
      rcases h10 with rfl | rfl | rfl | rfl | rfl | rfl | rfl | rfl | rfl | rfl
      all_goals (first | (rw[Nat.add_zero] at hc) | skip)
      all_goals (first | have adU:=hne (by omega) | skip)
      all_goals clear hne
      all_goals (simp only[Nat.reduceMul,Nat.reducePow,Int.natCast_mul,Int.natCast_emod,Int.cast_ofNat_Int,Int.mul_one,Int.natCast_one] at cD)
      all_goals (first | (exact absurd rfl e9) | skip)
      all_goals (clear SR Sz e9)
      all_goals go_wp2_with fail
      all_goals go_ret3
      all_goals rw[←XU.out]
      all_goals exact⟨rfl,rfl⟩
     ·rw[if_neg hx8] at C4
      have XU:=aa C4
      clear C4 aW
      have Ha:=aa EQ
      rcases h10 with rfl | rfl | rfl | rfl | rfl | rfl | rfl | rfl | rfl | rfl
      all_goals (first | (rw[Nat.add_zero] at hc) | skip)
      all_goals (first | have adU:=hne (by omega) | skip)
      all_goals clear hne
      all_goals (simp only[Nat.reduceMul,Nat.reducePow,Int.natCast_mul,Int.natCast_emod,Int.cast_ofNat_Int,Int.mul_one,Int.natCast_one] at cD)
      all_goals (first | (exact absurd rfl e9) | skip)
      all_goals (clear SR EQ Sz e9)
      all_goals go_wp2_with fail
      all_goals go_roundw
      all_goals first | (refine⟨_,z, ?_,rfl, ?_, ?_,Ha.out,XU.out⟩ <;> first | rfl | omega) | (simp[intOf];omega)
  ·have hv:=Hv.out
   rw[P5 (by omega)] at hv
   have C4:=aa hv
   clear hv Hv
   have hI:¬((i:Int)<(l.length:Int)):=by omega
   go_wp2_with fail
   go_ret3
   rw[←C4.out]
   exact⟨rfl,rfl⟩
theorem kR:∀(l:List Int) (i acc:Nat),(cY l i acc).2.1≤i+l.length
 |[],i,acc=>by simp[cY]
 |c :: r,i,acc=>by
  unfold cY
  split
  ·simp
  ·split
   ·simp
   ·have:=kR r (i+1) (acc+(c%128).toNat*2 ^ (7*i));simp only[List.length_cons];omega
theorem aH.drop{l:List Int}(h:aH l)(p:Nat):aH (l.drop p):=fun x hx=>h x (List.mem_of_mem_drop hx)
def aG(l:List Int)(p:Nat)(x:Int)(most:Nat):Nat×Nat×Int:=
 if x≠0 then(0,p,x)else if (cY (l.drop p) 0 0).2.2≠0 then(0,p,(cY (l.drop p) 0 0).2.2)else if most<(cY (l.drop p) 0 0).1 then(0,p,4)else((cY (l.drop p) 0 0).1,p+(cY (l.drop p) 0 0).2.1,0)
theorem dP{l:List Int}{p:Nat}(x:Int)(most:Nat)(h:p≤l.length):(aG l p x most).2.1≤l.length:=by
 unfold aG
 split
 ·exact h
 ·split
  ·exact h
  ·split
   ·exact h
   ·have:=kR (l.drop p) 0 0;simp at this ⊢;omega
theorem sy(l:List Int)(p:Nat)(x:Int)(most:Nat):(aG l p x most).1≤most:=by
 unfold aG
 split
 ·simp
 ·split
  ·simp
  ·split
   ·simp
   ·simp;omega
theorem gi{w:World}{B:Nat}{A:Option Addr}{l:List Int}{p c:Nat}{k:IntKind}(h:ag k w B A l)(hp:p≤l.length)(hc:l.length≤c):ag k w B (if c=p then A else Option.map (fun x=>x.add p) A) (l.drop p):=fun h0=>by
 rw[List.length_map,List.length_drop] at h0
 rw[if_neg (by omega)]
 obtain⟨b,off,rfl,hb,hcell⟩:=h.lt (by omega)
 refine⟨b,off+p, ?_,hb,fun i u hu=> ?_⟩
 ·by_cases Gh:p=0
  ·subst Gh;simp[Addr.add]
  ·simp[Addr.add,Gh]
 ·have hi:i<l.length-p:=by have:=(List.getElem?_eq_some_iff.1 hu).1;rw[List.length_map,List.length_drop] at this;exact this
  rw[eH (by rw[List.length_drop];exact hi),jF] at hu
  rw[←Option.some.inj hu,Nat.add_assoc]
  exact hcell (p+i) (by omega)
def pX(l:List Int)(p:Nat)(x:Int)(most g:Nat)(w:World)(e:Ending)(w':World):Prop:=
 e= .returned (.int .u64 ((aG l p x most).1:Int))∧cG w' g l (aG l p x most).2.1 (aG l p x most).2.2∧Kp (fun q=>q=g) w w'
theorem Wd(l:List Int)(p:Nat)(x:Int)(hx:x≠0)(most g:Nat)(w:World)(h:cG w g l p x):
 Calls Tryz.prog 51 #[.pointer (some ⟨g,0,none⟩),.int .u64 (most:Int)] w (pX l p x most g w):=by
 have hb:(x != 0)=true:=by rw[bne_iff_ne];exact hx
 have e1:aG l p x most=(0,p,x):=if_pos hx
 have H:=aa h
 obtain⟨A,c,h0,h1,h2,h3,h4,h5,h6,h7⟩:=h
 have E1:=aa e1
 clear e1
 go_enter Tryz.func51,Tryz.ntmps51
 go_wp2_with fail
 go_ret
 unfold pX
 rw[E1.out]
 exact⟨rfl,H.out,Kp.refl _ _⟩
theorem ZO(l:List Int)(hm:l.length≤50000)(hby:aH l)(p:Nat)(hp:p≤l.length)(most g:Nat)(w:World)(h:cG w g l p 0):
 Calls Tryz.prog 51 #[.pointer (some ⟨g,0,none⟩),.int .u64 (most:Int)] w (pX l p 0 most g w):=by
 have H:=aa h
 have hr:aG l p 0 most=if (cY (l.drop p) 0 0).2.2≠0 then(0,p,(cY (l.drop p) 0 0).2.2)else if most<(cY (l.drop p) 0 0).1 then(0,p,4)else((cY (l.drop p) 0 0).1,p+(cY (l.drop p) 0 0).2.1,0):=by unfold aG;rw[if_neg (by simp)]
 have hsm:=kR (l.drop p) 0 0
 rw[Nat.zero_add,List.length_drop] at hsm
 have hcon:∀(A':Option Addr) (B c':Nat) (W:World),ag .u8 W B A' (l.drop p)→Calls Tryz.prog 111 #[.slice A' (l.length-p) c'] W fun e w'=>e= .returned (.tuple #[.int .u64 ((cY (l.drop p) 0 0).1:Int),.int .i64 ((cY (l.drop p) 0 0).2.1:Int),.int .i64 (cY (l.drop p) 0 0).2.2])∧w'=W:=
  fun A' B c' W ha=>vD (l.drop p) (l.length-p) (by simp) (by omega) (hby.drop p) A' B c' W ha
 generalize cY (l.drop p) 0 0=v at hr hsm hcon
 obtain⟨rn,rs,re⟩:=v
 dsimp only at hr hsm hcon
 have Hr:=aa hr
 have cC:=aa hcon
 clear hr hcon h
 obtain⟨A,c,h0,h1,h2,h3,h4,h5,h6,h7⟩:=H.out
 have dp:ag .u8 w g (if c=p then A else Option.map (fun x=>x.add p) A) (l.drop p):=gi h5 hp h6
 have Sy:c=p→ag .u8 w.drew g A (l.drop p):=fun e=>by rw[if_pos e] at dp;exact dp
 have Sx:¬c=p→ag .u8 w.drew g (Option.map (fun x=>x.add p) A) (l.drop p):=fun e=>by rw[if_neg e] at dp;exact dp
 clear dp
 have ep:(p:Int)≤(l.length:Int):=by omega
 go_enter Tryz.func51,Tryz.ntmps51
 go_wp2_with fail
 by_cases CX:c=p
 all_goals (first | have yo:=Sy CX | have yo:=Sx CX)
 all_goals clear Sy Sx
 all_goals go_region_held3 (fun w'=>w'.cell? ⟨g,0,none⟩=some (.slice A l.length c)∧w'.cell? ⟨g,1,none⟩=some (.int .i64 (p:Int))) (first | (go_keep;done))
  (first | (go_at_call 111;(with_reducible refine(cC.out _ _ _ _ yo).mono ?_);rintro e w5 ⟨rfl,rfl⟩))
 all_goals have Hw:Hid (cG w.drew g l p 0):=aa H.out.drew
 all_goals have KW:Hid (Kp (fun q=>q=g) w w.drew):=aa ((Kp.refl _ _).drew)
 all_goals have h3:re≠0∨(re=0∧most<rn)∨(re=0∧¬most<rn):=by omega
 all_goals rcases h3 with he | ⟨rfl,he⟩ | ⟨rfl,he⟩
 all_goals first
  |(have hb:(re != 0)=true:=bne_iff_ne.2 he
    have hb2:(re == 0)=false:=beq_eq_false_iff_ne.2 he
    have e1:=Hr.out
    rw[if_pos he] at e1
    have E1:=aa e1
    clear e1 he yo
    go_wp2_with fail
    go_ret
    unfold pX
    rw[E1.out]
    exact⟨rfl,Hw.out.setE _,KW.out.set_ rfl _⟩)
  |(have hb:(rn:Int) > (most:Int):=Int.ofNat_lt.2 he
    have e1:=Hr.out
    rw[if_neg (by simp),if_pos he] at e1
    have E1:=aa e1
    clear e1 he yo
    go_wp2_with fail
    go_ret
    unfold pX
    rw[E1.out]
    exact⟨rfl,Hw.out.setE _,KW.out.set_ rfl _⟩)
  |(have hb:¬((most:Int)<(rn:Int)):=fun h=>he (Int.ofNat_lt.1 h)
    obtain⟨q,hq⟩:∃q,q=p+rs:=⟨_,rfl⟩
    have eq:(p:Int)+(rs:Int)=(q:Int):=by omega
    have hqw:=agp (q:Int) (by omega)
    have e1:=Hr.out
    rw[if_neg (by simp),if_neg he,←hq] at e1
    have E1:=aa e1
    clear e1 he yo hq
    go_wp2_with fail
    go_ret
    unfold pX
    rw[E1.out]
    exact⟨rfl,Hw.out.setP q,KW.out.set_ rfl _⟩)
theorem KA(l:List Int)(hm:l.length≤50000)(hby:aH l)(p:Nat)(hp:p≤l.length)(x:Int)(most g:Nat)(w:World)(h:cG w g l p x):
 Calls Tryz.prog 51 #[.pointer (some ⟨g,0,none⟩),.int .u64 (most:Int)] w (pX l p x most g w):=by
 by_cases hx:x≠0
 ·exact Wd l p x hx most g w h
 ·obtain rfl:x=0:=by omega
  exact ZO l hm hby p hp most g w h
def df(l:List Int):Nat:=l.foldl (fun a c=>a*256+c.toNat) 0
theorem Bd(l:List Int)(c:Int):df (l++[c])=df l*256+c.toNat:=by simp[df]
theorem Lm:∀(n:Nat) (l:List Int),l.length=n→aH l→df l<256 ^ n
 |0,l,h,_=>by
  have:l=[]:=List.eq_nil_of_length_eq_zero h
  subst this;simp[df]
 |n+1,l,h,hb=>by
  have e:l=l.take n++[ix l n]:=by rw[←bW (by omega)];rw[List.take_of_length_le (by omega)]
  have h1:df (l.take n)<256 ^ n:=Lm n _ (by simp;omega) fun x hx=>hb x (List.mem_of_mem_take hx)
  have h2:=hb.ix_ (show n<l.length by omega)
  rw[e,Bd,Nat.pow_succ]
  omega
theorem eZ{l:List Int}(hb:aH l)(k:Nat):aH (l.take k):=fun x hx=>hb x (List.mem_of_mem_take hx)
theorem aH.takeL{l:List Int}(hb:aH l)(p:Nat)(x:Int)(s:Nat):aH (takeL l p x s):=by
 unfold Go.Proofs.YtbhfpehgacaidaaGreatDoor.takeL
 split
 ·intro x hx;simp at hx
 ·split
  ·intro x hx;simp at hx
  ·exact eZ (hb.drop p) s
theorem LO(l:List Int)(p:Nat)(x:Int)(s:Nat):(takeL l p x s).length≤s:=by
 unfold takeL
 split
 ·simp
 ·split
  ·simp
  ·simp;omega
theorem XK{l:List Int}(hb:aH l){k:Nat}(hk:k≤7)(jV:k≤l.length):df (l.take k)<72057594037927936:=by
 have h:=Lm k (l.take k) (by simp;omega) (eZ hb k)
 have:256 ^ k≤256 ^ 7:=Nat.pow_le_pow_right (by omega) hk
 omega
def abB(l:List Int)(p:Nat)(x:Int)(s g:Nat)(w:World)(e:Ending)(w':World):Prop:=
 e= .returned (.int .u64 (df (takeL l p x s):Int))∧cG w' g l (lF l p x s) (lG l p x s)∧Kp (fun q=>q=g) w w'
theorem FI(l:List Int)(hm:l.length≤50000)(hby:aH l)(p:Nat)(hp:p≤l.length)(x:Int)(s:Nat)(hs1:1≤s)(hs:s≤8)(g:Nat)(w:World)(h:cG w g l p x):
 Calls Tryz.prog 57 #[.pointer (some ⟨g,0,none⟩),.int .i64 (s:Int)] w (abB l p x s g w):=by
 have H:=aa h
 clear h
 have hT:=aH.takeL hby p x s
 have hTl:=LO l p x s
 go_enter Tryz.func57,Tryz.ntmps57
 go_wp2_with (first | (go_at_call 112;(with_reducible refine(AU s hs _).mono ?_);rintro e w1 ⟨rfl,rfl⟩) | (go_at_call 50;(with_reducible refine(Dj l hm p hp x s hs1 (by omega) g _ H.out).mono ?_);rintro e w2 ⟨A2,c2,rfl,ho,hO,hK⟩))
 have Ha:ag .u8 w2 w2.heap.size A2 (takeL l p x s):=ho.ints
 have HO:=aa hO
 have HK:=aa hK
 clear hO hK ho
 obtain⟨T,hTe⟩:∃T,T=takeL l p x s:=⟨_,rfl⟩
 have HT:=aa hTe
 rw[←hTe] at hT hTl Ha ⊢
 clear hTe
 go_loop [5,7,13] (fun nv _ iv=>∃k:Nat,k≤T.length∧nv= .int .u64 (df (T.take k):Int)∧iv= .int .i64 k) (fun _ _ iv=>T.length-(intOf iv).toNat)
 case atStart=>exact⟨0,by omega,rfl,rfl⟩
 case round=>
  obtain⟨k,hk,rfl,rfl⟩:=hrel
  by_cases hlt:k<T.length
  ·obtain⟨b,off,rfl,hc⟩:=Ha.at_ hlt
   have hb1:=hT.ix_ hlt
   have hv:=XK hT (show k≤7 by omega) (by omega)
   have hn:df (T.take (k+1))=df (T.take k)*256+(ix T k).toNat:=by rw[bW hlt,Bd]
   obtain⟨y,hy⟩:=Int.eq_ofNat_of_zero_le hb1.1
   rw[hy] at hc hn
   have hI:(k:Int)<(T.length:Int):=by omega
   have NL:(df (T.take k):Int)*256+(y:Int)=(df (T.take (k+1)):Int):=by rw[hn];simp
   obtain⟨u,hu⟩:∃u,u=df (T.take k):=⟨_,rfl⟩
   obtain⟨v,hv'⟩:∃v,v=df (T.take (k+1)):=⟨_,rfl⟩
   rw[←hu] at hv NL ⊢
   rw[←hv'] at NL
   have Hv:=aa hv'
   have w1:=agq ((u:Int)*256) (by omega)
   have w3:=agq (v:Int) (by omega)
   have w0:=agq (y:Int) (by omega)
   clear hn hu hv' hy
   go_wp2_with fail
   go_roundw
   case rel=>exact⟨k+1,by omega,by rw[Hv.out],rfl⟩
   case measure=>simp[intOf];omega
  ·have hI:¬((k:Int)<(T.length:Int)):=by omega
   obtain rfl:k=T.length:=by omega
   rw[List.take_length]
   go_wp2_with fail
   go_ret
   unfold abB
   rw[←HT.out]
   exact⟨rfl,HO.out,HK.out⟩
def gy(N:Nat):Nat→List Int
 |0=>[]
 |s+1=>gy N s++[((N/256 ^ s%256:Nat):Int)]
theorem gj(N:Nat):∀s,(gy N s).length=s
 |0=>rfl
 |s+1=>by simp[gy,gj N s]
theorem vO(N:Nat):∀s,∀x∈gy N s,0≤x∧x<256
 |0,x,h=>by simp[gy] at h
 |s+1,x,h=>by
  simp only[gy,agC,List.mem_singleton] at h
  rcases h with h | rfl
  ·exact vO N s x h
  ·omega
def XQ(l:List Int)(w:World)(e:Ending)(w':World):Prop:=∃A' c',e= .returned (.slice A' l.length c')∧aq w' w.heap.size A' l.length c' l∧Below w.heap.size w w'
theorem L5(N s:Nat)(hN:N<18446744073709551616)(hs:s≤8)(w:World):Calls Tryz.prog 121 #[.int .u64 (N:Int),.int .i64 (s:Int)] w (XQ (gy N s) w):=by
 go_enter Tryz.func121,Tryz.ntmps121
 go_wp2_with (go_at_call 112;(with_reducible refine(AU s hs _).mono ?_);rintro e w1 ⟨rfl,hw⟩;have hw2:=hw.symm;clear hw;subst hw2)
 go_loopw [0,5,8] (fun nv ov iv wr=>(∃(k:Nat) (A':Option Addr) (c':Nat),k≤s∧nv= .int .u64 ((N/256 ^ k:Nat):Int)∧ov= .slice A' k c'∧iv= .int .i64 k∧aq wr w.heap.size A' k c' (gy N k))∧Below w.heap.size w wr) (fun _ _ iv _=>s-(intOf iv).toNat)
 case atStart=>exact⟨⟨0,none,0,agw _,by simp,rfl,rfl,aq.nil _ _⟩,ac w⟩
 case round=>
  obtain⟨⟨k,A2,c2,hk,rfl,rfl,rfl,ho⟩,hb⟩:=hrel
  obtain⟨wo,rfl⟩:∃wo:World,wo=wr:=⟨_,rfl⟩
  have ua:=aa ho
  have hb':=aa hb
  clear ho hb
  by_cases hlt:k<s
  ·obtain⟨v,hv⟩:∃v,v=N/256 ^ k:=⟨_,rfl⟩
   have hst:Hid (gy N (k+1)=gy N k++[((v%256:Nat):Int)]):=by show _=_;rw[hv];rfl
   have l8:Hid (N/256 ^ (k+1)=v/256):=by show _=_;rw[hv,Nat.div_div_eq_div_mul,Nat.pow_succ]
   have hvN:v<18446744073709551616:=by rw[hv];exact Nat.lt_of_le_of_lt (Nat.div_le_self _ _) hN
   have u1:=agq ((v:Int)/256) (by omega)
   rw[←hv]
   clear hv
   have hI:(k:Int)<(s:Int):=by omega
   have hm:(((v%256:Nat):Int))=(v:Int)%256:=by simp
   have Hm:=aa hm
   clear hm
   go_wp2_with (at_builtin;refine cF _ rfl (.tmp 10) (.tmp 14) rfl w _ _ _ _ rfl (ua.out.alloc _) _ _ 1 1 [(v:Int)%256] rfl rfl (dN _ _ _) (by omega) (ak hb'.out _) ?_;intro A4 c4 w4 bE hb4)
   have mS:=aa bE
   have sR:=aa hb4
   clear bE hb4
   go_roundw
   case rel=>
    refine⟨⟨k+1,A4,c4,by omega, ?_,rfl,by go_num, ?_⟩,sR.out⟩
    ·rw[l8.out];go_num
    ·rw[hst.out,Hm.out];exact mS.out
   case measure=>simp[intOf];omega
  ·obtain rfl:k=s:=by omega
   go_wp2_with fail
   go_ret
   refine⟨A2,c2, ?_, ?_,hb'.out⟩
   ·rw[gj];rfl
   ·rw[gj];exact ua.out
def kM(n:Int):Nat:=if 0≤n then(2*n).toNat else(-2*n-1).toNat
theorem Kf(n:Int)(h1: -9223372036854775808≤n)(h2:n≤9223372036854775807)(w:World):Calls Tryz.prog 119 #[.int .i64 n] w fun e w'=>e= .returned (.int .u64 (kM n:Int))∧w'=w:=by
 by_cases h0:0≤n
 ·have hz:Hid ((kM n:Int)=2*n):=by show _=_;unfold kM;rw[if_pos h0];omega
  have WX:n≥0:=h0
  have u1:=agq n (by omega)
  have u2:=agq (2*n) (by omega)
  go_enter Tryz.func119,Tryz.ntmps119
  go_wp2_with fail
  go_ret
  rw[hz.out]
  exact⟨rfl,rfl⟩
 ·have hz:Hid ((kM n:Int)=2*(-(n+1))+1):=by show _=_;unfold kM;rw[if_neg h0];omega
  have WX:¬(n≥0):=h0
  have i1:=agp (n+1) (by omega)
  have i2:=agp (-(n+1)) (by omega)
  have u1:=agq (-(n+1)) (by omega)
  have u2:=agq (2*(-(n+1))) (by omega)
  have u3:=agq (2*(-(n+1))+1) (by omega)
  go_enter Tryz.func119,Tryz.ntmps119
  go_wp2_with fail
  go_ret
  rw[hz.out]
  exact⟨rfl,rfl⟩
def Ug(l ys:List Int)(i:Nat):Prop:=ys.length=l.length∧∀k,k<l.length→ix ys k=if k<i∨l.length-1-i<k then ix l (l.length-1-k)else ix l k
theorem Ib(l:List Int):Ug l l 0:=⟨rfl,fun k hk=>by rw[if_neg (by omega)]⟩
theorem Qu{l ys:List Int}{i:Nat}(h:Ug l ys i)(hi:l.length≤2*i+1):ys=l.reverse:=by
 refine jO _ _ (by rw[h.1,List.length_reverse]) fun k hk=> ?_
 rw[h.1] at hk
 have hr:ix l.reverse k=ix l (l.length-1-k):=by
  rw[dQ (by simpa using hk),dQ (by omega),List.getElem_reverse]
 rw[h.2 k hk,hr]
 split
 ·rfl
 ·rw[show l.length-1-k=k by omega]
theorem Mh{l ys:List Int}{i:Nat}(h:Ug l ys i)(hi:2*i+1<l.length):Ug l ((ys.set i (ix ys (l.length-1-i))).set (l.length-1-i) (ix ys i)) (i+1):=by
 refine⟨by rw[List.length_set,List.length_set,h.1],fun k hk=> ?_⟩
 have h1:=h.2 i (by omega)
 have h2:=h.2 (l.length-1-i) (by omega)
 rw[if_neg (by omega)] at h1 h2
 rw[sJ _ _ _ _ (by rw[List.length_set,h.1];omega),sJ _ _ _ _ (by rw[h.1];omega),h1,h2,h.2 k hk]
 by_cases e1:k=l.length-1-i
 ·rw[if_pos e1,if_pos (by omega),e1,show l.length-1-(l.length-1-i)=i by omega]
 ·rw[if_neg e1]
  by_cases e2:k=i
  ·rw[if_pos e2,if_pos (by omega),e2]
  ·rw[if_neg e2]
   by_cases e3:k<i∨l.length-1-i<k
   ·rw[if_pos e3,if_pos (by omega)]
   ·rw[if_neg e3,if_neg (by omega)]
theorem VK(l:List Int)(n:Nat)(hn:n=l.length)(h1:1≤n)(hm:n≤100000)(g B c:Nat)(w:World)(ho:aq w B (some ⟨g,0,none⟩) n c l):
 Calls Tryz.prog 122 #[.slice (some ⟨g,0,none⟩) n c] w fun e w'=>e= .returned (.tuple #[])∧aq w' B (some ⟨g,0,none⟩) n c l.reverse∧Kp (fun q=>q=g) w w':=by
 subst hn
 go_enter Tryz.func122,Tryz.ntmps122
 have w1:=agp ((l.length:Int)-1) (by omega)
 go_wp2_with fail
 go_loopw [2,3] (fun iv jv wr=>∃(i:Nat) (ys:List Int),i≤l.length∧iv= .int .i64 i∧jv= .int .i64 ((l.length:Int)-1-i)∧aq wr B (some ⟨g,0,none⟩) l.length c ys∧Ug l ys i∧Kp (fun q=>q=g) w wr) (fun iv _ _=>l.length-(intOf iv).toNat)
 case atStart=>exact⟨0,l,agw _,rfl,by simp,ho,Ib l,Kp.refl _ _⟩
 case round=>
  obtain⟨i,ys,hi,rfl,rfl,hO,hR,hK⟩:=hrel
  have HO:=aa hO
  have HR:=aa hR
  have HK:=aa hK
  clear hR hK
  by_cases hlt:2*i+1<l.length
  ·obtain⟨j,hj⟩:∃j,j=l.length-1-i:=⟨_,rfl⟩
   have ej:(l.length:Int)-1-(i:Int)=(j:Int):=by omega
   rw[ej]
   have d1:=kj hO (i:=i) (by omega)
   have d2:=kj hO (i:=j) (by omega)
   have d3:=World.ownsRow.frozenAt hO i
   have d4:=World.ownsRow.frozenAt hO j
   have hI:(i:Int)<(j:Int):=by omega
   have hI0:(i:Int)<(l.length:Int):=by omega
   have hJ0:(j:Int)<(l.length:Int):=by omega
   have t1:=agp ((i:Int)+1) (by omega)
   have t2:=agp ((j:Int)-1) (by omega)
   have uM:¬j=i:=by omega
   have afH:¬i=j:=by omega
   have hst:=aa (Mh HR.out (show 2*i+1<l.length by omega))
   rw[←hj] at hst
   have Hj:=aa hj
   have hjl:j<l.length:=by omega
   have hil:i<l.length:=by omega
   have mixed:Tryz.prog.follows Departure.mixedOrders=true:=by kernel_rfl
   clear hO hj
   go_wp2_with fail
   go_region_o
   go_wp2_with fail
   all_goals go_roundw
   all_goals first
    |(simp[intOf];omega)
    |(refine⟨i+1,(ys.set i (ix ys j)).set j (ix ys i),by omega,by go_num, ?_,qC (qC HO.out i _) j _,hst.out,((HK.out.set_ rfl _).set_ rfl _).drew⟩
      congr 1
      omega)
  ·have hI:¬((i:Int)<(l.length:Int)-1-(i:Int)):=by omega
   go_wp2_with fail
   go_end0
   rw[←Qu HR.out (by omega)]
   exact⟨rfl,HO.out,HK.out⟩
def bM(N s:Nat):List Int:=(gy N s).reverse
theorem aS(N s:Nat):(bM N s).length=s:=by rw[bM,List.length_reverse,gj]
theorem CB(N s:Nat)(hN:N<18446744073709551616)(hs1:1≤s)(hs:s≤8)(w:World):Calls Tryz.prog 69 #[.int .u64 (N:Int),.int .i64 (s:Int)] w (XQ (bM N s) w):=by
 go_enter Tryz.func69,Tryz.ntmps69
 go_wp2_with (go_at_call 121;(with_reducible refine(L5 N s hN hs _).mono ?_);rintro e w1 ⟨A1,c1,rfl,cM,b1⟩)
 rw[gj] at cM ⊢
 obtain⟨g,rfl,hg1,hg2⟩:=nL cM (by omega)
 go_wp2_with (go_at_call 122;(with_reducible refine(VK (gy N s) s (gj N s).symm hs1 (by omega) g w.heap.size c1 _ cM).mono ?_);rintro e w2 ⟨rfl,cD,hk2⟩)
 go_ret
 refine⟨some ⟨g,0,none⟩,c1, ?_, ?_,b1.trans (hk2.below (fun k hk=>by rw[hk];exact hg1) b1.size)⟩
 ·rw[aS];rfl
 ·rw[aS];exact cD
def Zn(l:List Int)(w:World)(e:Ending)(w':World):Prop:=∃A' c',e= .returned (.slice A' 4 c')∧aq w' w.heap.size A' 4 c' l∧Below w.heap.size w w'
theorem js(N:Nat)(hN:N<18446744073709551616)(w:World):Calls Tryz.prog 69 #[.int .u64 (N:Int),.int .i64 4] w (Zn (bM N 4) w):=
 (CB N 4 hN (by omega) (by omega) w).mono fun e w' ⟨A',c',h1,h2,h3⟩=>⟨A',c',by rw[h1,aS],by rw[aS] at h2;exact h2,h3⟩
def j9(n:Nat):List Int:=if h:n<128 then [(n:Int)] else((n%128+128:Nat):Int) :: j9 (n/128)
termination_by n
decreasing_by omega
theorem nH{n:Nat}(h:n<128):j9 n=[(n:Int)]:=by rw[j9,dif_pos h]
theorem uX{n:Nat}(h:¬n<128):j9 n=((n%128+128:Nat):Int) :: j9 (n/128):=by rw[j9,dif_neg h]
theorem DD:∀(k n:Nat),n<128 ^ (k+1)→(j9 n).length≤k+1
 |0,n,h=>by rw[nH (by simpa using h)];simp
 |k+1,n,h=>by
  by_cases hn:n<128
  ·rw[nH hn];simp
  ·rw[uX hn,List.length_cons]
   have:=DD k (n/128) (by rw[Nat.div_lt_iff_lt_mul (by omega)];rw[Nat.pow_succ] at h;exact h)
   omega
def bU(l:List Int):List Int:=l.flatMap fun x=>j9 x.toNat
theorem Ms{l:List Int}{k:Nat}(h:k<l.length):bU (l.take (k+1))=bU (l.take k)++j9 (ix l k).toNat:=by
 rw[bW h,bU,List.flatMap_append];simp[bU]
theorem iZ:∀(l:List Int),(∀x∈l,x<18446744073709551616)→(bU l).length≤10*l.length
 |[],_=>by simp[bU]
 |x :: l,h=>by
  have h1:=iZ l fun y hy=>h y (by simp[hy])
  have h2:=DD 9 x.toNat (by have:=h x (by simp);omega)
  simp only[bU,List.flatMap_cons,List.length_append,List.length_cons] at h1 ⊢
  omega
theorem qz(l:List Int)(n:Nat)(hn:n=l.length)(hm:n≤5000)(hb:∀i,i<l.length→0≤ix l i∧ix l i<18446744073709551616)(A:Option Addr)(B c:Nat)(w:World)(ha:ag .u64 w B A l)(hB:B≤w.heap.size):
 Calls Tryz.prog 85 #[.slice A n c] w (XQ (bU l) w):=by
 subst hn
 have hL:Hid (∀k,(bU (l.take k)).length≤50000):=by
  intro k
  have:=iZ (l.take k) fun x hx=>by
   obtain⟨j,hj,rfl⟩:=kZ (List.mem_of_mem_take hx)
   exact(hb j hj).2
  simp at this
  omega
 go_enter Tryz.func85,Tryz.ntmps85
 go_wp2_with fail
 go_loopw [3,5,8] (fun ov _ iv wr=>(∃(k n:Nat) (A':Option Addr) (c':Nat),k≤l.length∧ov= .slice A' n c'∧iv= .int .i64 k∧n=(bU (l.take k)).length∧aq wr w.heap.size A' n c' (bU (l.take k)))∧Below w.heap.size w wr) (fun _ _ iv _=>l.length-(intOf iv).toNat)
 case atStart=>exact⟨⟨0,0,none,0,agw _,rfl,rfl,by simp[bU],by simpa [bU] using aq.nil _ _⟩,ac w⟩
 case round=>
  obtain⟨⟨k,n,A2,c2,hk,rfl,rfl,hn,ho⟩,xE⟩:=hrel
  obtain⟨wo,rfl⟩:∃wo:World,wo=wr:=⟨_,rfl⟩
  have ua:=aa ho
  have hb':=aa xE
  have Hn:=aa hn
  clear ho xE hn
  by_cases hlt:k<l.length
  ·obtain⟨b,off,rfl,hc⟩:=((ha.more hB).below hb'.out).at_ hlt
   have hx:=hb k hlt
   have hst:=aa (Ms hlt)
   have hlen:=hL.out (k+1)
   rw[hst.out] at hlen
   obtain⟨X,hX⟩:∃X,X=bU (l.take k):=⟨_,rfl⟩
   rw[←hX] at hst ua Hn hlen
   obtain⟨N,hN⟩:=Int.eq_ofNat_of_zero_le hx.1
   rw[hN] at hc hst hlen hx
   rw[Int.toNat_natCast] at hst hlen
   have ac1:N<18446744073709551616:=by omega
   have hI:(k:Int)<(l.length:Int):=by omega
   clear hX hN hx
   rw[List.length_append] at hlen
   go_wp2_with fail
   go_loopw [3,5] (fun ov nv wq=>(∃(m n':Nat) (Y:List Int) (A':Option Addr) (c':Nat),m≤N∧ov= .slice A' n' c'∧nv= .int .u64 m∧n'=(X++Y).length∧aq wq w.heap.size A' n' c' (X++Y)∧Y++j9 m=j9 N)∧Below w.heap.size w wq) (fun _ nv _=>(intOf nv).toNat)
   case atStart=>exact⟨⟨N,n,[],A2,c2,agl _,rfl,rfl,by simpa using Hn.out,by simpa using ua.out,by simp⟩,hb'.out⟩
   case round=>
    obtain⟨⟨m,n',Y,A3,c3,hmN,rfl,rfl,YG,bF,hY⟩,hb3⟩:=hrel
    obtain⟨wp,rfl⟩:∃wp:World,wp=wr:=⟨_,rfl⟩
    have Sk:=aa bF
    have SP:=aa hb3
    have HY:=aa hY
    have hYl:Y.length+(j9 m).length=(j9 N).length:=by rw[←hY,List.length_append]
    rw[List.length_append] at YG
    clear bF hb3 hY
    by_cases Xv:m<128
    ·have WX:¬((m:Int)≥128):=by omega
     have u1:=IntWalk.u8_in (m:Int) (by omega)
     have hv:=nH Xv
     rw[hv,List.length_singleton] at hYl
     have hYm:Hid (Y++[(m:Int)]=j9 N):=by rw[hv] at HY;exact HY
     clear hv
     go_wp2_with (at_builtin;refine cF _ rfl (.tmp 23) (.tmp 26) rfl w _ _ _ _ rfl (Sk.out.alloc _) _ _ 1 1 [(m:Int)] rfl rfl (dN _ _ _) (by omega) (ak SP.out _) ?_;intro A4 c4 w4 bE hb4)
     have mS:=aa bE
     have sR:=aa hb4
     clear bE hb4
     constructor
     ·refine⟨⟨k+1,_,A4,c4,by omega,rfl,by go_num, ?_, ?_⟩,sR.out⟩
      ·rw[hst.out,←hYm.out];simp;omega
      ·rw[hst.out,←hYm.out,←List.append_assoc];rw[YG] at mS;exact mS.out
     ·simp[intOf];omega
    ·have WX:(m:Int)≥128:=by omega
     have hv:=uX Xv
     rw[hv,List.length_cons] at hYl
     have hYm:Hid ((Y++[((m%128+128:Nat):Int)])++j9 (m/128)=j9 N):=by show _=_;rw[←HY.out,hv,List.append_assoc];rfl
     have yM:((m%128+128:Nat):Int)=(m:Int)%128+128:=by omega
     rw[yM] at hYm
     have u1:=IntWalk.u8_in ((m:Int)%128) (by omega)
     have u2:=IntWalk.u8_in ((m:Int)%128+128) (by omega)
     have u3:=agq ((m:Int)/128) (by omega)
     clear hv yM
     go_wp2_with (at_builtin;refine cF _ rfl (.tmp 14) (.tmp 19) rfl w _ _ _ _ rfl (Sk.out.alloc _) _ _ 1 1 [(m:Int)%128+128] rfl rfl (dN _ _ _) (by omega) (ak SP.out _) ?_;intro A4 c4 w4 bE hb4)
     have mS:=aa bE
     have sR:=aa hb4
     clear bE hb4
     go_roundw
     case rel=>
      refine⟨⟨m/128,_,Y++[(m:Int)%128+128],A4,c4,by omega,rfl,by go_num, ?_, ?_,hYm.out⟩,sR.out⟩
      ·simp;omega
      ·rw[←List.append_assoc];rw[YG] at mS;exact mS.out
     case measure=>simp[intOf];omega
  ·obtain rfl:k=l.length:=by omega
   rw[List.take_length] at Hn ua
   go_wp2_with fail
   go_ret
   refine⟨A2,c2, ?_, ?_,hb'.out⟩
   ·rw[←Hn.out];rfl
   ·rw[←Hn.out];exact ua.out
end
section
def GV{w:Nat}(p s:BitVec w):BitVec w:=if s.msb then(s<<<1) ^^^ p else s<<<1
def rV{w:Nat}(p:BitVec w):Nat→BitVec w→BitVec w
 |0,s=>s
 |n+1,s=>GV p (rV p n s)
def Bn{w:Nat}(p s:BitVec w):BitVec w:=if s.getLsbD 0 then(s >>> 1) ^^^ p else s >>> 1
theorem nB{w:Nat}(p s:BitVec (w+1)):(GV p s).toNat=if s.toNat/2 ^ w=1 then(s.toNat*2%2 ^ (w+1)) ^^^ p.toNat else s.toNat*2%2 ^ (w+1):=by
 have hs:=s.isLt
 unfold GV
 rw[BitVec.msb_eq_decide]
 simp only[Nat.add_sub_cancel]
 have hp:2 ^ (w+1)=2*2 ^ w:=by rw[Nat.pow_succ];omega
 have acg:0<2 ^ w:=Nat.two_pow_pos w
 have hd:(s.toNat/2 ^ w=1)↔2 ^ w≤s.toNat:=by
  constructor
  ·intro h
   have:=Nat.div_mul_le_self s.toNat (2 ^ w)
   rw[h] at this;omega
  ·intro h
   have h1:s.toNat/2 ^ w<2:=by rw[Nat.div_lt_iff_lt_mul acg];omega
   have h2:1≤s.toNat/2 ^ w:=by rw[Nat.le_div_iff_mul_le acg];omega
   omega
 by_cases h:2 ^ w≤s.toNat
 ·rw[if_pos (by simpa using h),if_pos (hd.2 h),BitVec.toNat_xor,BitVec.toNat_shiftLeft,Nat.shiftLeft_eq]
 ·rw[if_neg (by simpa using h),if_neg (fun e=>h (hd.1 e)),BitVec.toNat_shiftLeft,Nat.shiftLeft_eq]
theorem vH{w:Nat}(p s:BitVec w):(Bn p s).toNat=if s.toNat%2=1 then(s.toNat/2) ^^^ p.toNat else s.toNat/2:=by
 unfold Bn
 have hb:s.getLsbD 0=decide (s.toNat%2=1):=by
  simp[BitVec.getLsbD,Nat.testBit_zero]
 rw[hb]
 by_cases h:s.toNat%2=1
 ·simp[h,Nat.shiftRight_eq_div_pow]
 ·simp[h,Nat.shiftRight_eq_div_pow]
def vI{w:Nat}(p:BitVec w):Nat→BitVec w→BitVec w
 |0,s=>s
 |n+1,s=>Bn p (vI p n s)
def in8(s:BitVec 8)(c:BitVec 8):BitVec 8:=rV 7#8 8 (s ^^^ c)
def abY(s:BitVec 16)(c:BitVec 8):BitVec 16:=rV 0x8005#16 8 (s ^^^ (c.setWidth 16<<<8))
def abX(s:BitVec 32)(c:BitVec 8):BitVec 32:=vI 0xedb88320#32 8 (s ^^^ c.setWidth 32)
def Me(s:BitVec 8)(l:List (BitVec 8)):BitVec 8:=l.foldl in8 s
def zl(s:BitVec 16)(l:List (BitVec 8)):BitVec 16:=l.foldl abY s
def zk(s:BitVec 32)(l:List (BitVec 8)):BitVec 32:=l.foldl abX s
def bv(l:List Int):List (BitVec 8):=l.map (BitVec.ofInt 8)
def JK(l:List Int):BitVec 8:=Me 0 (bv l)
def um(l:List Int):BitVec 16:=zl 0 (bv l)
def fC(l:List Int):BitVec 32:= ~~~ (zk 0xffffffff#32 (bv l))
end
end Go.Proofs.YtbhfpehgacaidaaGreatDoor
