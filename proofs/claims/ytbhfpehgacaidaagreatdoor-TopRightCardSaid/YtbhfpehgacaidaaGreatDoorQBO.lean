/- A part of the proof of the given statement TopRight. Conditions: none. -/
import Derived.BigRegion
import Derived.Test.YtbhfpehgacaidaaGreatDoorQBN
namespace Go.Proofs.YtbhfpehgacaidaaGreatDoor
set_option linter.unusedVariables false
set_option linter.unusedSimpArgs false
set_option maxRecDepth 100000
set_option maxHeartbeats 8000000
section
open Go.RowKit
set_option maxRecDepth 100000
theorem VW{l:List Int}{rate ch bits:Int}(h:jK rate ch bits=false):lN l rate ch bits=oy 1:=by simp[lN,h]
theorem jc(w:World)(rate ch bits:Int):∃w1:World,w1=(w.alloc (.cells #[.int .i64 rate,.int .i64 ch,.int .i64 bits] 37)).alloc (.cells #[.int .i64 0,.slice none 0 0] 89)∧w1.heap.size=w.heap.size+2∧Below w.heap.size w w1∧
 w1.heap[w.heap.size]? =some (.cells #[.int .i64 rate,.int .i64 ch,.int .i64 bits] 37 (0,0))∧w1.heap[w.heap.size+1]? =some (.cells #[.int .i64 0,.slice none 0 0] 89 (0,0)):=by
 refine⟨_,rfl,by simp,ak (ak (ac w) _) _, ?_, ?_⟩
 ·rw[ags _ _ _ (by simp)];exact ago w _
 ·have:=ago (w.alloc (.cells #[.int .i64 rate,.int .i64 ch,.int .i64 bits] 37)) (.cells #[.int .i64 0,.slice none 0 0] 89)
  rwa[World.size_alloc] at this
theorem kN{W:World}{g:Nat}{rate ch bits:Int}(h:W.heap[g]? =some (.cells #[.int .i64 rate,.int .i64 ch,.int .i64 bits] 37 (0,0))):
 W.cell? ⟨g,0,none⟩=some (.int .i64 rate)∧W.cell? ⟨g,1,none⟩=some (.int .i64 ch)∧W.cell? ⟨g,2,none⟩=some (.int .i64 bits):=
 ⟨(agu _ _ _ _ _ _ h).trans rfl,(agu _ _ _ _ _ _ h).trans rfl,(agu _ _ _ _ _ _ h).trans rfl⟩
theorem kD{W:World}{g:Nat}{bits:Int}{A:Option Addr}{r c:Nat}(h:W.heap[g]? =some (.cells #[.int .i64 bits,.slice A r c] 89 (0,0))):
 W.cell? ⟨g,0,none⟩=some (.int .i64 bits)∧W.cell? ⟨g,1,none⟩=some (.slice A r c)∧W.frozen? ⟨g,0,none⟩=false∧W.frozen? ⟨g,1,none⟩=false:=
 ⟨(agu _ _ _ _ _ _ h).trans rfl,(agu _ _ _ _ _ _ h).trans rfl,agv W g 0 _ _ h,agv W g 1 _ _ h⟩
def abj(w2:World)(bits:Int)(n:Nat)(v:Value)(wx:World):Prop:=
 (∃gb gm:Nat,v= .pointer (some ⟨gb,0,none⟩)∧gb≠gm∧w2.heap.size≤gb∧w2.heap.size≤gm∧wx.heap[gb]? =some (.cells #[.int .i64 bits,.slice (some ⟨gm,0,none⟩) n n] 89 (0,0))∧cP wx w2.heap.size (some ⟨gm,0,none⟩) n n (fun _=>none) (fun _=>0) (fun _=>[]))∧Below w2.heap.size w2 wx
theorem ZU(w2:World)(bits:Int)(n:Nat)(hn:n≤65536):abj w2 bits n (.pointer (some ⟨w2.heap.size+1,0,none⟩)) ((w2.alloc (uB n)).alloc (.cells #[.int .i64 bits,.slice (some ⟨w2.heap.size,0,none⟩) n n] 89)).drew:=by
 have h:=ago (w2.alloc (uB n)) (.cells #[.int .i64 bits,.slice (some ⟨w2.heap.size,0,none⟩) n n] 89)
 rw[World.size_alloc] at h
 exact⟨⟨_,_,rfl,by omega,by omega,agl _,h,((zL w2 n hn).below (ak (ac _) _) (agl _)).drew⟩,(ak (ak (ac w2) _) _).drew⟩
theorem ZT(w2:World)(bits:Int)(n:Nat)(hn:n≤65536):abj w2 bits n (.pointer (some ⟨w2.heap.size,0,none⟩)) ((w2.alloc (.cells #[.int .i64 bits,.slice (some ⟨w2.heap.size+1,0,none⟩) n n] 89)).alloc (uB n)).drew:=by
 have h:=ago w2 (.cells #[.int .i64 bits,.slice (some ⟨w2.heap.size+1,0,none⟩) n n] 89)
 have k:=zL (w2.alloc (.cells #[.int .i64 bits,.slice (some ⟨w2.heap.size+1,0,none⟩) n n] 89)) n hn
 rw[World.size_alloc] at k
 refine⟨⟨_,_,rfl,by omega,agl _,by omega, ?_,(k.base (by omega)).drew⟩,(ak (ak (ac w2) _) _).drew⟩
 show (World.alloc _ _).heap[_]? =_
 rw[ags _ _ _ (by simp)]
 exact h
def FP(w2 wx:World)(gm ch:Nat)(l:List Int)(j:Nat)(wr:World):Prop:=
 (∃(RA:Nat→Option Addr) (RC:Nat→Nat),cP wr w2.heap.size (some ⟨gm,0,none⟩) ch ch RA RC (dA l ch j)∧∀i,i<ch→∀q,di (RA i)=some q→wx.heap.size≤q)∧Kp (fun k=>k=gm) wx wr
theorem FP.step{w2 wx wr w4:World}{gm ch:Nat}{l:List Int}{j u:Nat}{x:Int}{o:Obj}{RA:Nat→Option Addr}{RC:Nat→Nat}{A4:Option Addr}{k4 m:Nat}
 (ho:cP wr w2.heap.size (some ⟨gm,0,none⟩) ch ch RA RC (dA l ch j)) (hq:∀i,i<ch→∀q,di (RA i)=some q→wx.heap.size≤q) (hk:Kp (fun k=>k=gm) wx wr)
 (hc:0<ch) (hu:u=j%ch) (hx:x=ix l j) (bE:ax w4 w2.heap.size A4 m k4 (dA l ch j u++[x])) (hg:((wr.alloc o).drew).grownBy w4 (di (RA u)))
 (hat:di A4=di (RA u)∨di A4=some (wr.alloc o).drew.heap.size):FP w2 wx gm ch l (j+1) (w4.setCell ⟨gm,u,none⟩ (.slice A4 m k4)):=by
 have Yu:u<ch:=by rw[hu];exact Nat.mod_lt _ hc
 have ua:cP (wr.alloc o).drew w2.heap.size (some ⟨gm,0,none⟩) ch ch RA RC (dA l ch j):=(ho.below (ak (ac wr) o) (agl _)).drew
 have hs:=hk.size
 refine⟨⟨_,_,(ua.put Yu bE hg hat).cong fun i hi=> ?_,fun i hi q h=> ?_⟩, ?_⟩
 ·rw[DR hc hi,←hu,←hx]
  by_cases e:i=u
  ·subst e;simp
  ·simp[e]
 ·by_cases e:i=u
  ·subst e
   simp only[if_true] at h
   rcases hat with h2 | h2
   ·rw[h2] at h;exact hq i Yu q h
   ·rw[h2] at h;simp at h;show wx.heap.size≤q;omega
  ·simp only[if_neg e] at h;exact hq i hi q h
 ·have k1:Kp (fun k=>k=gm) wx (wr.alloc o).drew:=(hk.alloc o).drew
  have k2:Kp (fun k=>k=gm) wx w4:=
   ⟨hg.os.trans k1.os,hg.tape.trans k1.tape,hg.output.trans k1.output,agm k1.size hg.size,fun k hk' hS=>
    (hg.block k (agz hk' k1.size) (fun e=>by have:=hq u Yu k e.symm;omega)).trans (k1.block k hk' hS)⟩
  exact k2.set_ rfl _
theorem MC(l:List Int)(n:Nat)(hn:n=l.length)(hm:n≤60000)(rate ch bits:Int)(A:Option Addr)(c:Nat)(w:World)(ha:ag .i64 w w.heap.size A l):
 Calls Tryz.prog 38 #[.slice A n c,.agg #[.int .i64 rate,.int .i64 ch,.int .i64 bits]] w (Yf (lN l rate ch bits) w):=by
 have Hn:=aa hn
 clear hn
 cases hrt:jK rate ch bits with
 |false=>
  have hr:=aa (VW (l:=l) hrt)
  have XV:=aa hrt
  clear hrt
  go_enter Tryz.func38,Tryz.ntmps38
  go_wp2_with fail
  obtain⟨w1,bj,hz1,B1,m1,m2⟩:=jc w rate ch bits
  rw[←bj]
  clear bj
  (with_reducible refine(iW _ _ _ _).mono ?_);rintro e w2 ⟨rfl,b2⟩
  rw[XV.out]
  obtain⟨d0,d1,f0,f1⟩:=kD ((b2.block _ (by omega)).trans m2)
  have B2:=kK B1 b2
  go_wp2_with fail
  refine bodyPost_ret (fw rfl _ _ rfl (fh d0 d1 _ _).1 (fh d0 d1 _ _).2) rfl ?_
  exact tq hr.out (rp (dD B2 (by omega) _ _))
 |true=>
  obtain⟨h1,h2,h3,h4,h5,h6⟩:=tM.1 hrt
  obtain⟨jy,rfl⟩:∃k:Nat,ch=(k:Int):=⟨ch.toNat,by omega⟩
  have XV:=aa hrt
  have hp:Hid (lN l rate (jy:Int) bits=(if l.length=0 then oy 7 else if l.length%jy≠0 then oy 3 else if 4096<l.length/jy then oy 4 else
   if pW l bits=true then⟨bits,jy,dA l jy l.length,0⟩else oy 6)):=by show _=_;rw[lN,if_pos hrt,Int.toNat_natCast]
  clear hrt
  by_cases h0:n=0
  ·subst h0
   have hr:Hid (lN l rate (jy:Int) bits=oy 7):=by show _=_;rw[hp.out,if_pos Hn.out.symm]
   have e0:(((0:Nat):Int) == 0)=true:=by decide
   go_enter Tryz.func38,Tryz.ntmps38
   go_wp2_with fail
   obtain⟨w1,bj,hz1,B1,m1,m2⟩:=jc w rate jy bits
   rw[←bj]
   clear bj
   (with_reducible refine(iW _ _ _ _).mono ?_);rintro e w2 ⟨rfl,b2⟩
   rw[XV.out]
   obtain⟨d0,d1,f0,f1⟩:=kD ((b2.block _ (by omega)).trans m2)
   have B2:=kK B1 b2
   go_wp2_with fail
   refine bodyPost_ret (fw rfl _ _ rfl (fh d0 d1 _ _).1 (fh d0 d1 _ _).2) rfl ?_
   exact tq hr.out (rp (dD B2 (by omega) _ _))
  have e0:((n:Int) == 0)=false:=by simp;omega
  obtain⟨z,hz0⟩:∃z,z=n%jy:=⟨_,rfl⟩
  obtain⟨y,xk⟩:∃y,y=n/jy:=⟨_,rfl⟩
  have adK:(n:Int)%(jy:Int)=(z:Int):=by rw[hz0,Int.natCast_emod]
  have adL:(n:Int)/(jy:Int)=(y:Int):=by rw[xk,Int.natCast_ediv]
  rw[←Hn.out,←hz0,←xk] at hp
  have Ja:wrap64 (y:Int)=(y:Int):=by
   have:y≤n:=by rw[xk];exact Nat.div_le_self _ _
   unfold wrap64;omega
  clear hz0 xk
  have hz:((jy:Int) == 0)=false:=by simp;omega
  by_cases h7:z=0
  ·have e1:((z:Int) != 0)=false:=by rw[h7];rfl
   by_cases h8:4096<y
   ·have hr:Hid (lN l rate (jy:Int) bits=oy 4):=by show _=_;rw[hp.out,if_neg h0,if_neg (by omega),if_pos h8]
    have e2:(4096:Int)<(y:Int):=by omega
    go_enter Tryz.func38,Tryz.ntmps38
    go_wp2_with fail
    obtain⟨w1,bj,hz1,B1,m1,m2⟩:=jc w rate jy bits
    rw[←bj]
    clear bj
    (with_reducible refine(iW _ _ _ _).mono ?_);rintro e w2 ⟨rfl,b2⟩
    rw[XV.out]
    obtain⟨d0,d1,f0,f1⟩:=kD ((b2.block _ (by omega)).trans m2)
    obtain⟨k0,k1,k2⟩:=kN ((b2.block _ (by omega)).trans m1)
    have B2:=kK B1 b2
    go_wp2_with fail
    refine bodyPost_ret (fw rfl _ _ rfl (fh d0 d1 _ _).1 (fh d0 d1 _ _).2) rfl ?_
    exact tq hr.out (rp (dD B2 (by omega) _ _))
   ·have e2:(y:Int)≤4096:=by omega
    have lS:Hid (lN l rate (jy:Int) bits=if pW l bits=true then⟨bits,jy,dA l jy n,0⟩else oy 6):=by
     show _=_;rw[hp.out,if_neg h0,if_neg (by omega),if_neg h8]
    have lT:=VE jy (by omega)
    clear hp
    go_enter Tryz.func38,Tryz.ntmps38
    go_wp2_with fail
    obtain⟨w1,bj,hz1,B1,m1,m2⟩:=jc w rate jy bits
    rw[←bj]
    clear bj
    (with_reducible refine(iW _ _ _ _).mono ?_);rintro e w2 ⟨rfl,b2⟩
    rw[XV.out]
    have M2:=aa ((b2.block _ (by omega)).trans m2)
    have M1:=aa ((b2.block _ (by omega)).trans m1)
    obtain⟨k0,k1,k2⟩:=kN M1.out
    have B2:=kK B1 b2
    have hsz:=b2.size
    have Hmk:=aa lT
    clear m1 m2 B1 b2 lT
    go_upto_region 9 with fail
    have lT:=Hmk.out
    have ka1:∀o,(w2.alloc o).cell? ⟨w.heap.size,1,none⟩=some (.int .i64 (jy:Int)):=fun o=>later (ak (ac w2) o) k1
    have ka2:∀o,(w2.alloc o).cell? ⟨w.heap.size,2,none⟩=some (.int .i64 bits):=fun o=>later (ak (ac w2) o) k2
    have kb2:∀o o',((w2.alloc o).alloc o').cell? ⟨w.heap.size,2,none⟩=some (.int .i64 bits):=fun o o'=>later (ak (ak (ac w2) o) o') k2
    go_cut [6] (fun s6 wx=>abj w2 bits jy s6 wx)
    case first=>
     go_region
     all_goals (go_wp2_with fail;go_meet)
     all_goals first | exact ZU w2 bits jy (by omega) | exact ZT w2 bits jy (by omega)
    case rest=>
     obtain⟨⟨gb,gm,rfl,hne,hgb,hgm,mf,hO⟩,Js⟩:=hcut
     have Bx:=kK B2 Js
     have afX:=Js.size
     have Mx1:Hid (wc.heap[w.heap.size]? =some (.cells #[.int .i64 rate,.int .i64 (jy:Int),.int .i64 bits] 37 (0,0))):=(Js.block _ (by omega)).trans M1.out
     have Mx2:Hid (wc.heap[w.heap.size+1]? =some (.cells #[.int .i64 0,.slice none 0 0] 89 (0,0))):=(Js.block _ (by omega)).trans M2.out
     have Mb:=aa mf
     have hbl:gb<wc.heap.size:=by
      rcases Nat.lt_or_ge gb wc.heap.size with h | h
      ·exact h
      ·rw[Array.getElem?_eq_none h] at mf;cases mf
     have ym:=(hO.lt gm (.inl rfl)).2
     have hst:FP w2 wc gm jy l 0 wc:=⟨⟨_,_,hO.cong (fun i _=>DO l jy i),fun i _ q h=>by cases h⟩,Kp.refl _ _⟩
     have fG:=aa hst
     have HBx:=aa Bx
     clear hst hO mf Bx Js ka1 ka2 kb2 k0 k1 k2 lT Hmk adK adL Ja e2 e1 e0
     go_wp2_with fail
     go_loopw [7,8,9,40] (fun _ _ _ iv wr=>∃j:Nat,j≤n∧iv= .int .i64 j∧FP w2 wc gm jy l j wr∧∀t,t<j→dS (ix l t) bits=true) (fun _ _ _ iv _=>n-(intOf iv).toNat)
     case atStart=>exact⟨0,agw _,rfl,fG.out,fun t h=>absurd h (by omega)⟩
     case round=>
      obtain⟨j,hj,rfl,hP,hft⟩:=hrel
      obtain⟨wo,rfl⟩:∃wo:World,wo=wr:=⟨_,rfl⟩
      have Hft:=aa hft
      have HP:=aa hP
      have hk:=hP.2
      have Bo:=HBx.out.trans (hk.below (B:=w.heap.size) (fun k hk=>by subst hk;omega) (by omega))
      have EB:=hk.size
      have mo1:=(hk.block w.heap.size (by omega) (by omega)).trans Mx1.out
      have mo2:=(hk.block (w.heap.size+1) (by omega) (by omega)).trans Mx2.out
      have mob:=(hk.block gb hbl hne).trans Mb.out
      obtain⟨k0,k1,k2⟩:=kN mo1
      obtain⟨d0,d1,f0,f1⟩:=kD mo2
      obtain⟨q0,q1,_,_⟩:=kD mob
      have HBo:=aa Bo
      clear hft hP hk mo1 mo2 mob
      by_cases hlt:j<n
      ·have jV:j<l.length:=by have:=Hn.out;omega
       obtain⟨b1,o1,rfl,hc1⟩:=(ha.below Bo).at_ jV
       cases hf:dS (ix l j) bits with
       |false=>
        have hr:Hid (lN l rate (jy:Int) bits=oy 6):=by show _=_;rw[lS.out,Fo jV hf];rfl
        have Hf:=aa hf
        clear hf Bo
        go_wp2_with ((with_reducible refine(dJ _ _ _).mono ?_);rintro e w' ⟨rfl,rfl⟩;rw[Hf.out])
        refine bodyPost_ret (fw rfl _ _ rfl (fh d0 d1 _ _).1 (fh d0 d1 _ _).2) rfl ?_
        exact tq hr.out (rp (dD HBo.out (by omega) _ _))
       |true=>
        have Hf:=aa hf
        obtain⟨u,hu⟩:∃u,u=j%jy:=⟨_,rfl⟩
        have Yu:u<jy:=by rw[hu];exact Nat.mod_lt _ (by omega)
        have RV:(j:Int)%(jy:Int)=(u:Int):=by rw[hu,Int.natCast_emod]
        have Hu:=aa hu
        have KO:Hid ((∀t,t<j+1→dS (ix l t) bits=true)):=fun t ht=>by
         by_cases e:t=j
         ·subst e;exact Hf.out
         ·exact Hft.out t (by omega)
        obtain⟨x,hx⟩:∃x,x=ix l j:=⟨_,rfl⟩
        rw[←hx] at hc1 Hf
        have Hx:=aa hx
        clear hf Bo hu hx
        go_upto_region 16 with ((with_reducible refine(dJ _ _ _).mono ?_);rintro e w' ⟨rfl,Ex⟩;obtain rfl:=Ex.symm;rw[Hf.out])
        obtain⟨⟨RA,RC,ho,hq⟩,hk⟩:=HP.out
        obtain⟨_,eg,hg1,hg2,cZ⟩:=ho.addr (by omega)
        simp only[Option.some.injEq,Addr.mk.injEq,and_true] at eg
        subst eg
        have CW:=cZ u Yu
        have hI:=ho.inner u Yu
        obtain⟨m,NM⟩:∃m,m=(dA l jy j u).length:=⟨_,rfl⟩
        have yn:m≤60001:=by rw[NM,ID];have:=aaV (ch:=jy) (j:=j) (i:=u);omega
        rw[←NM] at CW hI
        have hI':=aa hI
        have Ho:=aa ho
        have Hq:=aa hq
        have Hk:=aa hk
        have acm:some gb≠di (RA u):=fun e=>by have:=hq u Yu gb e.symm;omega
        have aaq:some gm≠di (RA u):=fun e=>ho.osep u Yu gm rfl e.symm
        have gbo:gb<wo.heap.size:=by omega
        obtain⟨i0,cw,hz0,hz1,hz2⟩:=info_parts gR
        have s1:(u:Int)<(jy:Int):=by omega
        have s2:(0:Int)≤(u:Int):=by omega
        have Xa:=World.ownsRow.frozenAt Ho.out.outer u
        clear cZ hI ho hq hk NM HP
        refine fH 12 (fun w'=>w'.cell? ⟨gb,1,none⟩=some (.slice (some ⟨gm,0,none⟩) jy jy)∧w'.cell? ⟨gm,u,none⟩=some (.slice (RA u) m (RC u))) (by kernel_rfl) (by kernel_rfl) (⟨q1,CW⟩) (fun hHeld=> ?_)
        simp only[List.pop_toArray,List.dropLast_cons_cons,List.dropLast_singleton]
        refine wpAnyH_take (i:=0) (oi:= ?o0) (v:= ?v0) ?cw (by kernel_rfl) (by kernel_rfl) (by kernel_rfl) ?Pu (Or.inl ⟨?hw0, ?xk⟩) (by assumption) ?rest0
        case cw=>(simp only[List.getElem?_toArray,List.getElem?_cons_zero,List.getElem?_cons_succ];exact rfl)
        case hw0=>rfl
        case Pu=>exact fun _ _ _ h=>h
        case xk=>(intro wv hSw;(try dsimp only at hSw);go_simp;try with_reducible rfl)
        try simp only[Act.put,List.setIfInBounds_toArray,List.set_cons_zero,List.set_cons_succ]
        refine wpAnyH_take (i:=1) (oi:= ?o1) (v:= ?v1) ?yo (by kernel_rfl) (by kernel_rfl) (by kernel_rfl) ?Jf (Or.inl ⟨?bj, ?Aa⟩) (by assumption) ?rest1
        case yo=>(simp only[List.getElem?_toArray,List.getElem?_cons_zero,List.getElem?_cons_succ];exact rfl)
        case bj=>rfl
        case Jf=>exact fun _ _ _ h=>h
        case Aa=>(intro wv hSw;(try dsimp only at hSw);go_simp;try with_reducible rfl)
        try simp only[Act.put,List.setIfInBounds_toArray,List.set_cons_zero,List.set_cons_succ]
        refine wpAnyH_take (i:=2) (oi:= ?o2) (v:= ?v2) ?Jj (by kernel_rfl) (by kernel_rfl) (by kernel_rfl) ?yJ (Or.inl ⟨?hw2, ?Ce⟩) (by assumption) ?rest2
        case Jj=>(simp only[List.getElem?_toArray,List.getElem?_cons_zero,List.getElem?_cons_succ];exact rfl)
        case hw2=>rfl
        case yJ=>exact fun _ _ _ h=>h
        case Ce=>(intro wv hSw;(try dsimp only at hSw);go_simp;try with_reducible rfl)
        try simp only[Act.put,List.setIfInBounds_toArray,List.set_cons_zero,List.set_cons_succ]
        refine wpAnyH_take (i:=3) (oi:= ?o3) (v:= ?v3) ?WV (by kernel_rfl) (by kernel_rfl) (by kernel_rfl) ?hq3 (Or.inl ⟨?hw3, ?hy3⟩) (by assumption) ?rest3
        case WV=>(simp only[List.getElem?_toArray,List.getElem?_cons_zero,List.getElem?_cons_succ];exact rfl)
        case hw3=>rfl
        case hq3=>exact fun _ _ _ h=>h
        case hy3=>(intro wv hSw;(try dsimp only at hSw);go_simp;try with_reducible rfl)
        try simp only[Act.put,List.setIfInBounds_toArray,List.set_cons_zero,List.set_cons_succ]
        refine wpAnyH_take (i:=4) (oi:= ?o4) (v:= ?v4) ?xx (by kernel_rfl) (by kernel_rfl) (by kernel_rfl) ?hq4 (Or.inl ⟨?hw4, ?hy4⟩) (by assumption) ?rest4
        case xx=>(simp only[List.getElem?_toArray,List.getElem?_cons_zero,List.getElem?_cons_succ];exact rfl)
        case hw4=>rfl
        case hq4=>exact fun _ _ _ h=>h
        case hy4=>(intro wv hSw;(try dsimp only at hSw);go_simp;try with_reducible rfl)
        try simp only[Act.put,List.setIfInBounds_toArray,List.set_cons_zero,List.set_cons_succ]
        refine wpAnyH_take (i:=5) (oi:= ?o5) (v:= ?v5) ?hi5 (by kernel_rfl) (by kernel_rfl) (by kernel_rfl) ?hq5 (Or.inl ⟨?qb, ?hy5⟩) (by assumption) ?rest5
        case hi5=>(simp only[List.getElem?_toArray,List.getElem?_cons_zero,List.getElem?_cons_succ];exact rfl)
        case qb=>rfl
        case hq5=>exact fun _ _ _ h=>h
        case hy5=>(intro wv hSw;(try dsimp only at hSw);go_simp;try with_reducible rfl)
        try simp only[Act.put,List.setIfInBounds_toArray,List.set_cons_zero,List.set_cons_succ]
        refine wpAnyH_take (i:=6) (oi:= ?o6) (v:= ?v6) ?hi6 (by kernel_rfl) (by kernel_rfl) (by kernel_rfl) ?hq6 (Or.inl ⟨?lZ, ?hy6⟩) (by assumption) ?rest6
        case hi6=>(simp only[List.getElem?_toArray,List.getElem?_cons_zero,List.getElem?_cons_succ];exact rfl)
        case lZ=>rfl
        case hq6=>exact fun _ _ _ h=>h
        case hy6=>(intro wv hSw;(try dsimp only at hSw);go_simp;try with_reducible rfl)
        try simp only[Act.put,List.setIfInBounds_toArray,List.set_cons_zero,List.set_cons_succ]
        refine wpAnyH_take (i:=7) (oi:= ?o7) (v:= ?v7) ?hi7 (by kernel_rfl) (by kernel_rfl) (by kernel_rfl) ?YD (Or.inl ⟨?Cg, ?hy7⟩) (by assumption) ?rest7
        case hi7=>(simp only[List.getElem?_toArray,List.getElem?_cons_zero,List.getElem?_cons_succ];exact rfl)
        case Cg=>rfl
        case YD=>exact fun _ _ _ h=>h
        case hy7=>(intro wv hSw;(try dsimp only at hSw);go_simp;try with_reducible rfl)
        try simp only[Act.put,List.setIfInBounds_toArray,List.set_cons_zero,List.set_cons_succ]
        refine wpAnyH_take (i:=8) (oi:= ?o8) (v:= ?v8) ?hi8 (by kernel_rfl) (by kernel_rfl) (by kernel_rfl) ?YC (Or.inl ⟨?NC, ?hy8⟩) (by assumption) ?rest8
        case hi8=>(simp only[List.getElem?_toArray,List.getElem?_cons_zero,List.getElem?_cons_succ];exact rfl)
        case NC=>rfl
        case YC=>exact fun _ _ _ h=>h
        case hy8=>(intro wv hSw;(try dsimp only at hSw);go_simp;try with_reducible rfl)
        try simp only[Act.put,List.setIfInBounds_toArray,List.set_cons_zero,List.set_cons_succ]
        refine wpAnyH_ready (rs:=[9]) (by kernel_rfl) (by simp) ?_
        refine AllReadyH.cons (o:= ?o9) ?Sz (fun K hK=> ?rest9) AllReadyH.nil
        case Sz=>(simp only[List.getElem?_toArray,List.getElem?_cons_zero,List.getElem?_cons_succ];exact rfl)
        go_simp
        refine hK.out _ _ (⟨later (ak (ac wo) _) q1,later (ak (ac wo) _) CW⟩) (fun hHeld=> ?_)
        clear hK K
        try simp only[Act.put,List.setIfInBounds_toArray,List.set_cons_zero,List.set_cons_succ]
        refine wpAnyH_ready (rs:=[10]) (by kernel_rfl) (by simp) ?_
        refine AllReadyH.cons (o:= ?o10) ?SC (fun K hK=> ?rest10) AllReadyH.nil
        case SC=>(simp only[List.getElem?_toArray,List.getElem?_cons_zero,List.getElem?_cons_succ];exact rfl)
        refine mD _ rfl (.tmp 62) (.tmp 64) 39 rfl w2.heap.size 3 i0 _ 1 8 Tryz.underlying39 cw hz0 hz1 hz2 rfl (by omega) (.slice (RA u) m (RC u)) m _ rfl (hI'.out.alloc _) _ _ 1 1 _ rfl rfl (by first | exact QA _ _ _ | exact dN _ _ _) (by simp[Value.oneCell']) (by simp only[maxLen];omega) (by omega) (by simp;omega) ?_
        intro A4 k4 w4 bE hg4 sS
        rw[aL] at hg4
        rw[aL,aL] at sS
        have IZ:∀g,some g≠di (RA u)→g<wo.heap.size→w4.heap[g]? =wo.heap[g]? :=(fun g h1 h2=>(hg4.block g (by simp;omega) h1).trans (ags _ _ _ h2))
        have q4:w4.cell? ⟨gb,1,none⟩=some (.slice (some ⟨gm,0,none⟩) jy jy):=(agy (IZ gb acm gbo)).trans q1
        have q5:w4.cell? ⟨gm,u,none⟩=some (.slice (RA u) m (RC u)):=(agy (IZ gm aaq hg2)).trans CW
        have q6:w4.frozen? ⟨gm,u,none⟩=false:=(World.frozen?_of_block (IZ gm aaq hg2)).trans Xa
        refine hK.out _ _ (⟨q4,q5⟩) (fun hHeld=> ?_)
        clear hK K
        try simp only[Act.put,List.setIfInBounds_toArray,List.set_cons_zero,List.set_cons_succ]
        refine wpAnyH_take (i:=11) (oi:= ?o11) (v:= ?v11) ?SB (by kernel_rfl) (by kernel_rfl) (by kernel_rfl) ?Sa (Or.inl ⟨?RL, ?RI⟩) (by assumption) ?rest11
        case SB=>(simp only[List.getElem?_toArray,List.getElem?_cons_zero,List.getElem?_cons_succ];exact rfl)
        case RL=>rfl
        case Sa=>exact fun _ _ _ h=>h
        case RI=>(intro wv hSw;(try dsimp only at hSw);go_simp;try with_reducible rfl)
        try simp only[Act.put,List.setIfInBounds_toArray,List.set_cons_zero,List.set_cons_succ]
        refine wpAnyH_done (by kernel_rfl) ?_ _
        refine nJ (o:= ?o12) ?SA (fun K hK=> ?rest12)
        case SA=>(simp only[List.getElem?_toArray,List.getElem?_cons_zero,List.getElem?_cons_succ];exact rfl)
        go_simp
        refine hK _ _ ?_
        clear hK K
        have Pr:ax w4 w2.heap.size A4 (m+1) k4 (dA l jy j u++[x]):=by unfold ax;rw[List.map_append];exact bE
        have hPs:=aa (FP.step Ho.out Hq.out Hk.out (by omega) Hu.out Hx.out Pr hg4 sS)
        clear Pr bE hg4 sS IZ q4 q5 q6 hHeld
        go_wp2_with fail
        go_roundw
        case rel=>exact⟨j+1,by omega,by go_num,hPs.out,KO.out⟩
        case measure=>simp[intOf];omega
      ·have e:j=n:=by omega
       subst e
       have hr:Hid (lN l rate (jy:Int) bits=⟨bits,jy,dA l jy j,0⟩):=by
        show _=_
        rw[lS.out,if_pos]
        refine List.all_eq_true.2 fun x hx=> ?_
        obtain⟨i,hi,rfl⟩:=kZ hx
        exact Hft.out i (by have:=Hn.out;omega)
       clear Bo
       go_wp2_with fail
       refine bodyPost_ret (fw rfl _ _ rfl (fh d0 d1 _ _).1 (fh d0 d1 _ _).2) rfl ?_
       refine tq hr.out ?_
       obtain⟨⟨RA,RC,ho,hq⟩,hk⟩:=HP.out
       refine⟨some ⟨gm,0,none⟩,jy,RA,RC,rfl, ?_,dD HBo.out (by omega) _ _⟩
       refine(ho.other fun q hq=> ?_).base (by omega)
       have:=(ho.lt q hq).1
       rw[agr _ _ _ _ (by show q≠w.heap.size+1;omega),agr _ _ _ _ (by show q≠w.heap.size+1;omega)]
  ·have hr:Hid (lN l rate (jy:Int) bits=oy 3):=by show _=_;rw[hp.out,if_neg h0,if_pos h7]
   have e1:((z:Int) != 0)=true:=by simp;omega
   go_enter Tryz.func38,Tryz.ntmps38
   go_wp2_with fail
   obtain⟨w1,bj,hz1,B1,m1,m2⟩:=jc w rate jy bits
   rw[←bj]
   clear bj
   (with_reducible refine(iW _ _ _ _).mono ?_);rintro e w2 ⟨rfl,b2⟩
   rw[XV.out]
   obtain⟨d0,d1,f0,f1⟩:=kD ((b2.block _ (by omega)).trans m2)
   obtain⟨k0,k1,k2⟩:=kN ((b2.block _ (by omega)).trans m1)
   have B2:=kK B1 b2
   go_wp2_with fail
   refine bodyPost_ret (fw rfl _ _ rfl (fh d0 d1 _ _).1 (fh d0 d1 _ _).2) rfl ?_
   exact tq hr.out (rp (dD B2 (by omega) _ _))
theorem Z2 : tC [5, -5] [5, -5] [5, -5] 0 0 0 [2] 2 :=
  ⟨by omega, by omega, rfl, by decide, ⟨1, by decide, fun i hi => by have : i = 0 := by omega
                                                                     subst this; rfl, by decide⟩, by omega, by kernel_rfl, by kernel_rfl, rfl, by decide, by kernel_rfl, by kernel_rfl, by omega, by omega, by kernel_rfl, by decide, rfl, by kernel_rfl, by kernel_rfl, by decide, by decide +kernel, by kernel_rfl, by decide +kernel⟩
theorem zi:(Tryz.prog.info? 102).map (fun i=>(i.zero,i.size,i.bytes))=some (some (.agg #[.int .i64 0,.int .i64 0]),2,16):=by kernel_rfl
theorem pO:(Tryz.prog.info? 95).map (fun i=>(i.zero,i.size,i.bytes))=some (some (.agg #[.int .i64 0,.int .i64 0,.int .i64 0,.int .i64 0,.int .i64 0,.slice none 0 0,.slice none 0 0]),7,88):=by kernel_rfl
theorem Ro:lN [5, -5] 8000 1 8=⟨8,1,dA [5, -5] 1 2,0⟩:=by kernel_rfl
theorem yx{W W':World}{g j:Nat}{v:Value}{cs:Array Value}{ty:TypeId}(e:W.setCell ⟨g,j,none⟩ v=W')(h:W.heap[g]? =some (.cells cs ty (0,0))):
 W'.heap[g]? =some (.cells (cs.setIfInBounds j v) ty (0,0))∧Kp (fun q=>q=g) W W':=by
 subst e
 exact⟨agA _ _ _ _ _ _ h,(Kp.refl (fun q=>q=g) _).set_ (p:=⟨g,j,none⟩) rfl v⟩
theorem TH{W W':World}{g q:Nat}{o:Obj}(h:W.heap[q]? =some o)(hk:Kp (fun q=>q=g) W W')(hne:q≠g):W'.heap[q]? =some o:=(hk.block q (agn.1 h).1 hne).trans h
theorem aeV{W W':World}{g:Nat}(h:Below W.heap.size W W'):Kp (fun q=>q=g) W W':=Kp.of_below h
theorem Ou{w:World}{p q:Addr}{v u:Value}(h:w.cell? p=some v)(hne:p.block≠q.block):(w.setCell q u).cell? p=some v:=(agy (agr _ _ _ _ hne)).trans h
theorem Qp{W:World}{g:Nat}{v0 v1 x y:Value}{ty:TypeId}(h:W.heap[g]? =some (.cells #[v0,v1] ty (0,0))):
 ((W.setCell ⟨g,0,none⟩ x).setCell ⟨g,1,none⟩ y).heap[g]? =some (.cells #[x,y] ty (0,0))∧∀q,q≠g→((W.setCell ⟨g,0,none⟩ x).setCell ⟨g,1,none⟩ y).heap[q]? =W.heap[q]? :=by
 obtain⟨h1,k1⟩:=yx rfl h (j:=0) (v:=x)
 obtain⟨h2,k2⟩:=yx rfl h1 (j:=1) (v:=y)
 exact⟨h2,fun q hq=>(agr _ _ _ _ hq).trans (agr _ _ _ _ hq)⟩
structure Pn (w W:World) (gt:Nat) (cs:Array Value):Prop where
 f:W.heap[w.heap.size]? =some (.cells #[.int .i64 8000,.int .i64 1,.int .i64 8] 37 (0,0))
 t:W.heap[gt]? =some (.cells cs 87 (0,0))
 be:Below w.heap.size w W
 lo:w.heap.size<gt
theorem Pn.below{w W W':World}{gt:Nat}{cs:Array Value}(h:Pn w W gt cs)(hb:Below W.heap.size W W'):Pn w W' gt cs:=⟨bk h.f hb,bk h.t hb,af h.be hb,h.lo⟩
theorem Pn.set{w W W':World}{gt j:Nat}{v:Value}{cs:Array Value}(h:Pn w W gt cs)(e:W.setCell ⟨gt,j,none⟩ v=W'):Pn w W' gt (cs.setIfInBounds j v)∧Kp (fun q=>q=gt) W W':=by
 obtain⟨h1,h2⟩:=yx e h.t
 have:=h.lo
 exact⟨⟨TH h.f h2 (by omega),h1,lf h.be h2 (by omega),h.lo⟩,h2⟩
theorem Pn.lt{w W:World}{gt:Nat}{cs:Array Value}(h:Pn w W gt cs):gt<W.heap.size:=(agn.1 h.t).1
theorem gU.kp{w w':World}{B gs os g:Nat}{s:Sb}{m:Ad}(h:gU w B gs os s m)(hB:B≤w.heap.size)(hk:Kp (fun q=>q=g) w w')(hl:∀q,q=gs∨aj m.A=some q∨aj m.Ak=some q∨aj m.Ar=some q→g<q):gU w' B gs os s m:=
 h.oth fun q hq=>hk.block q (by
  rcases hq with rfl | hq | hq | hq
  ·have:=h.lt;omega
  ·have:=h.sm.l1 q hq;omega
  ·have:=h.sm.l2 q hq;omega
  ·have:=h.sm.l3 q hq;omega) (by have:=hl q hq;omega)
theorem Fq(ga:Nat)(w:World)(hT:C0 w)(ha:ag .i64 w w.heap.size (some ⟨ga,0,none⟩) [5, -5]):
 Calls Tryz.prog 10 #[.agg #[.int .i64 8000,.int .i64 1,.int .i64 8],.slice (some ⟨ga,0,none⟩) 2 2,.int .i64 2,.int .i64 0] w (J3 Pq w):=by
 have NH:=aa (fun W=>by
  have:=iO 8000 1 8 W
  rw[show sV 8000 1 8=true from by decide] at this;exact this)
 have hf0:=aa (fun W=>by
  have:=dJ 5 8 W
  rw[show dS 5 8=true from by decide] at this;exact this)
 have hf1:=aa (fun W=>by
  have:=dJ (-5) 8 W
  rw[show dS (-5) 8=true from by decide] at this;exact this)
 have tZ:Hid (∀W,Below w.heap.size w W→Calls Tryz.prog 38 #[.slice (some ⟨ga,0,none⟩) 2 2,.agg #[.int .i64 8000,.int .i64 1,.int .i64 8]] W fun e w'=>
  ∃A c RA RC,e= .returned (.tuple #[.agg #[.int .i64 8,.slice A 1 c],.int .i64 0])∧cP w' W.heap.size A 1 c RA RC (fun _=>[5, -5])∧Below W.heap.size W w'):=aa fun W hW=>by
  have:=MC [5, -5] 2 rfl (by omega) 8000 1 8 (some ⟨ga,0,none⟩) 2 W ((ha.below hW).more hW.size)
  rw[Ro] at this
  refine this.mono fun e w' ⟨A,c,RA,RC,h1,h2,h3⟩=>⟨A,c,RA,RC,h1,cP.cong h2 fun i hi=> ?_,h3⟩
  have Jj:i<1:=hi
  obtain rfl:i=0:=by omega
  rfl
 have lT:=aa (fun A c RA RC W (hW:Below w.heap.size w W) (hr:Rw W W.heap.size A 1 RA RC (fun _=>[5, -5]))=>by
  have:=JD 0 8000 8 [5, -5] [5, -5] [5, -5] 0 0 0 [2] 2 Z2 (by omega) (by decide) (by decide) (by decide) A c RA RC W (hT.below hW) hr
  unfold Y7 AO vt at this
  dsimp only at this
  rw[show ((2:Nat):Int)=2 from rfl] at this
  exact this)
 have Pv:=aa (fun gs cs m W (hm:gU W W.heap.size gs 0 oJ m)=>by
  have:=sU BS 0 (by omega) [5, -5] [5, -5] rfl (by decide) IW (by decide) (by decide) (by decide) gs 0 cs m W.heap.size W (agl _) hm
  rw[Cb] at this
  unfold AO vt BS J3 at this
  dsimp only at this
  rw[show ((2:Nat):Int)=2 from rfl,show yj.length=16 from rfl] at this
  exact this)
 have hex:=aa (fun A c RA RC W h=>nc A c RA RC W h)
 have htp:=aa (fun gk ck gv cv gs cs m W hm=>LN gk ck gv cv gs cs m W.heap.size W (agl _) hm)
 have HA:=aa (fun W (hW:Below w.heap.size w W)=>(ha.below hW).lt (by decide))
 clear hT ha
 go_enter Tryz.func10,Tryz.ntmps10
 go_upto_region 1 with fail
 generalize hwx:World.alloc w _=wx
 obtain⟨hx,bx,zx⟩:=oU hwx
 clear hwx
 obtain⟨⟨m0,m1,m2⟩,_⟩:=eJ hx
 go_upto_region 3 with (go_at_call 36;(with_reducible refine(NH.out wx).mono ?_);rintro e w1 ⟨rfl,b1⟩)
 have FY:=aa (bk hx b1)
 have B1:=aa (af bx b1)
 have Z1:Hid (w.heap.size<w1.heap.size):=aa (by have:=b1.size;omega)
 obtain⟨bA,oA,eA,xF,hcA⟩:=HA.out w1 B1.out
 cases eA
 have c0:w1.cell? ⟨ga,0,none⟩=some (.int .i64 5):=hcA 0 (by decide)
 have c1:w1.cell? ⟨ga,1,none⟩=some (.int .i64 (-5)):=hcA 1 (by decide)
 clear m0 m1 m2 hx bx zx b1 xF hcA
 obtain⟨⟨m0,m1,m2⟩,_⟩:=eJ FY.out
 go_wp2_with fail
 go_loop [12,64] (fun _ iv=>iv= .int .i64 0∨iv= .int .i64 1∨iv= .int .i64 2) (fun _ iv=>2-(intOf iv).toNat)
 case atStart=>exact .inl rfl
 case round=>
  obtain rfl | rfl | rfl:=hrel
  ·go_wp2_with (go_at_call 37;(with_reducible refine(hf0.out _).mono ?_);rintro e w2 ⟨rfl,rfl⟩)
   go_round
   case rel=>exact .inr (.inl rfl)
   case measure=>simp[intOf]
  ·go_wp2_with (go_at_call 37;(with_reducible refine(hf1.out _).mono ?_);rintro e w2 ⟨rfl,rfl⟩)
   go_round
   case rel=>exact .inr (.inr rfl)
   case measure=>simp[intOf]
  ·go_wp2_with fail
   generalize hwt:World.alloc w1 _=wt
   obtain⟨ht,bt,zt⟩:=oU hwt
   have ET:Hid (Pn w wt w1.heap.size #[.int .i64 8000,.int .i64 1,.int .i64 8,.int .i64 2,.int .u64 0,.slice none 0 0,.slice none 0 0]):=aa ⟨bk FY.out bt,ht,af B1.out bt,Z1.out⟩
   clear m0 m1 m2 c0 c1 hwt ht bt zt
   generalize w1.heap.size=gt at*
   go_loopw [14,15] (fun v14 iv wr=>(iv= .int .i64 0∧v14= .int .i64 0∧Pn w wr gt #[.int .i64 8000,.int .i64 1,.int .i64 8,.int .i64 2,.int .u64 0,.slice none 0 0,.slice none 0 0])∨
    (iv= .int .i64 2∧∃gk ck gv cv gs cs m,Pn w wr gt #[.int .i64 8000,.int .i64 1,.int .i64 8,.int .i64 2,.int .u64 6000270,.slice (some ⟨gk,0,none⟩) 1 ck,.slice (some ⟨gv,0,none⟩) 1 cv]∧Gw wr wr.heap.size gk gv gs cs m)) (fun _ iv _=>2-(intOf iv).toNat)
   case atStart=>exact .inl ⟨rfl,rfl,ET.out⟩
   case round=>
    obtain⟨rfl,rfl,r1⟩ | ⟨rfl,gk,ck,gv,cv,gs,cs,m,r1,r2⟩:=hrel
    ·obtain⟨wo,rfl⟩:∃wo:World,wo=wr:=⟨_,rfl⟩
     have R1:=aa r1
     obtain⟨⟨m0,m1,m2⟩,_⟩:=eJ r1.f
     obtain⟨⟨k0,k1,k2,k3,k4,k5,k6⟩,_⟩:=az r1.t
     clear r1 ET
     go_upto_region 20 with fail
     have BO:=aa R1.out.be
     go_cut [17,18] (fun s17 UM wy=>∃g A c RA RC,s17= .pointer (some ⟨g,0,none⟩)∧UM= .int .i64 0∧wo.heap.size≤g∧wy.heap[g]? =some (.cells #[.int .i64 8,.slice A 1 c] 89 (0,0))∧Rw wy wy.heap.size A 1 RA RC (fun _=>[5, -5])∧Below wo.heap.size wo wy)
     case first=>
      clear k0 k1 k2 k3 k4 k5 k6
      have e0:=agp 0 (by omega)
      have e2:=agp 2 (by omega)
      have hne:w.heap.size≠wo.heap.size:=by have:=R1.out.lt;have:=R1.out.lo;omega
      go_region_held3 (fun w'=>w'.cell? ⟨w.heap.size,0,none⟩=some (.int .i64 8000)∧w'.cell? ⟨w.heap.size,1,none⟩=some (.int .i64 1)∧w'.cell? ⟨w.heap.size,2,none⟩=some (.int .i64 8)) (first | (go_keep;done) | exact⟨later B3 m0,later B3 m1,later B3 m2⟩ | exact⟨later (ak B3 _) m0,later (ak B3 _) m1,later (ak B3 _) m2⟩ | exact⟨Ou (Ou (later B3 m0) hne) hne,Ou (Ou (later B3 m1) hne) hne,Ou (Ou (later B3 m2) hne) hne⟩)
       (first
         |(go_at_call 38;(with_reducible refine(tZ.out wo.drew BO.out.drew).mono ?_);rintro e w3 ⟨A3,c3,U8,U0,rfl,hr3,b3⟩;have B3:=af (ac wo).drew b3)
         |(go_at_call 38;(with_reducible refine(tZ.out (wo.alloc (.cells #[.int .i64 0,.slice none 0 0] 89)).drew (af BO.out (ak (ac wo) _).drew)).mono ?_);rintro e w3 ⟨A3,c3,U8,U0,rfl,hr3,b3⟩;have B3:=af (ak (ac wo) _).drew b3;have F3:=(b3.block wo.heap.size (by simp)).trans (ago wo (.cells #[.int .i64 0,.slice none 0 0] 89));obtain⟨⟨y0,y1⟩,z0,z1⟩:=aB F3))
      all_goals go_wp2_with fail
      all_goals go_meet
      all_goals first
       |exact⟨w3.heap.size,A3,c3,U8,U0,rfl,rfl,B3.size,ago w3 _,((cP.rw hr3).below (ak (ac w3) _)).more (ak (ac w3) _).size,ak B3 _⟩
       |exact⟨wo.heap.size,A3,c3,U8,U0,rfl,rfl,agl _,(Qp F3).1,cP.rw (cP.other hr3 fun q hq=>(Qp F3).2 q (by have:=(cP.lt hr3 q hq).1;simp at this;omega)),dD B3 (agl _) _ _⟩
     case rest=>
      obtain⟨gb,A3,c3,U8,U0,rfl,rfl,hgb,hb3,hr3,b3⟩:=hcut
      have R3:=aa (R1.out.below b3)
      have kL:=aa hb3
      have mo:=aa hr3
      have HG3:Hid (gt<gb):=aa (by have:=R1.out.lt;omega)
      clear m0 m1 m2 k0 k1 k2 k3 k4 k5 k6 hgb hr3 b3
      obtain⟨⟨z0,z1⟩,_⟩:=aB hb3
      obtain⟨⟨m0,m1,m2⟩,_⟩:=eJ R3.out.f
      clear hb3
      go_upto_region 24 with (go_at_call 39;(with_reducible refine(lT.out A3 c3 U8 U0 wc R3.out.be mo.out).mono ?_);rintro e w9 ⟨gs,cs,m,rfl,xu,b9,l9⟩)
      generalize oK:World.alloc w9 _=wz
      obtain⟨hz,bz,zz⟩:=oU oK
      have BZ:=aa (af b9 bz)
      have RZ:=aa (R3.out.below BZ.out)
      have MZ:Hid (gU wz wz.heap.size gs 0 oJ m):=aa ((xu.below bz).more bz.size)
      have HLZ:=aa l9
      have HZ:=aa hz
      have HZ9:Hid (gt<w9.heap.size):=aa (by have:=(R3.out.below b9).lt;omega)
      obtain⟨⟨x0,x1,x2,x3,x4,x5,x6⟩,_⟩:=az hz
      clear z0 z1 m0 m1 m2 oK hz bz zz xu b9 l9
      go_upto_region 27 with (go_at_call 40;(with_reducible refine(Pv.out gs cs m wz MZ.out).mono ?_);rintro e F9 ⟨A10,c10,rfl,Ci,uv⟩)
      have Pp:=aa uv
      have U9:=aa (RZ.out.below uv)
      have F0:=aa ((((mo.out.below BZ.out).more BZ.out.size).below uv).more uv.size)
      obtain⟨⟨k0,k1,k2,k3,k4,k5,k6⟩,_⟩:=az U9.out.t
      obtain⟨⟨z0,z1⟩,_⟩:=aB (bk (bk kL.out BZ.out) uv)
      clear x0 x1 x2 x3 x4 x5 x6 Ci uv
      go_upto_region 30 with (go_at_call 41;(with_reducible refine(hex.out A3 c3 U8 U0 F9 F0.out).mono ?_);rintro e w11 ⟨rfl,CG⟩;have B11:=aa CG;obtain⟨⟨k0,k1,k2,k3,k4,k5,k6⟩,kz⟩:=az (U9.out.below CG).t;have Wq:=kz 4)
      generalize ab3:World.setCell w11 _ _=Yg
      obtain⟨E12,K12⟩:=(U9.out.below B11.out).set ab3
      have R12:Hid (Pn w Yg gt #[.int .i64 8000,.int .i64 1,.int .i64 8,.int .i64 2,.int .u64 6000270,.slice none 0 0,.slice none 0 0]):=aa E12
      have HL2:Hid (∀q,q=gs∨aj m.A=some q∨aj m.Ak=some q∨aj m.Ar=some q→gt<q):=aa fun q hq=>by
       have:=HLZ.out q hq
       have:=R3.out.lt
       omega
      have M12:Hid (gU Yg Yg.heap.size gs 0 oJ m):=aa ((gU.kp ((((MZ.out.below Pp.out).more Pp.out.size).below B11.out).more B11.out.size) (agl _) K12 HL2.out).more K12.size)
      have F12:Hid (Yg.heap[w9.heap.size]? =some (.cells #[.int .i64 0,.int .i64 2,.int .i64 8000,.int .i64 1,.int .i64 8,.slice none 0 0,.slice (some ⟨gs,0,none⟩) 1 cs] 95 (0,0))):=aa (TH (bk (bk HZ.out Pp.out) B11.out) K12 (by have:=HZ9.out;omega))
      clear k0 k1 k2 k3 k4 k5 k6 kz Wq CG z0 z1 ab3 E12 K12
      obtain⟨⟨k0,k1,k2,k3,k4,k5,k6⟩,_⟩:=az R12.out.t
      go_upto_region 31 with (at_builtin;refine eK Yg rfl (.tmp 134) (.tmp 138) 84 102 rfl Tryz.underlying84 zi rfl (by omega) rfl #[.int .i64 0,.int .i64 0] _ rfl rfl (by simp[Value.oneCell']) (by omega) ?_;intro gk ck w13 jx hk2 uK hk3 hk4 oT;obtain⟨⟨k0,k1,k2,k3,k4,k5,k6⟩,kz⟩:=az (R12.out.below oT).t;have kz5:=kz 5)
      generalize ab2:World.setCell w13 _ _=Zu
      obtain⟨E14,K14⟩:=(R12.out.below oT).set ab2
      have R14:Hid (Pn w Zu gt #[.int .i64 8000,.int .i64 1,.int .i64 8,.int .i64 2,.int .u64 6000270,.slice (some ⟨gk,0,none⟩) 1 ck,.slice none 0 0]):=aa E14
      have ad9:=R12.out.lt
      have M14:Hid (gU Zu Zu.heap.size gs 0 oJ m):=aa ((gU.kp ((M12.out.below oT).more oT.size) (agl _) K14 HL2.out).more K14.size)
      have F14:=aa (TH (bk F12.out oT) K14 (by have:=HZ9.out;omega))
      have C14:Hid (gt<gk∧gk<Zu.heap.size∧∀k v,(#[.int .i64 0,.int .i64 0]:Array Value)[k]? =some v→Zu.cell? ⟨gk,k,none⟩=some v):=aa ⟨by omega,agz hk2 K14.size,fun k v hv=>(agy (a:=⟨gk,k,none⟩) (K14.block gk hk2 (by omega))).trans (uK k v hv)⟩
      clear k0 k1 k2 k3 k4 k5 k6 kz kz5 ab2 E14 K14 jx hk2 uK hk3 hk4 oT ad9
      obtain⟨⟨k0,k1,k2,k3,k4,k5,k6⟩,_⟩:=az R14.out.t
      obtain⟨⟨x0,x1,x2,x3,x4,x5,x6⟩,_⟩:=az F14.out
      go_upto_region 32 with (at_builtin;refine eK Zu rfl (.tmp 142) (.tmp 144) 85 95 rfl Tryz.underlying85 pO rfl (by omega) rfl #[.int .i64 0,.int .i64 2,.int .i64 8000,.int .i64 1,.int .i64 8,.slice none 0 0,.slice (some ⟨gs,0,none⟩) 1 cs] _ rfl rfl (by simp[Value.oneCell']) (by omega) ?_;intro gv cv w15 jx hk2 uK hk3 hk4 Gv;obtain⟨⟨k0,k1,k2,k3,k4,k5,k6⟩,kz⟩:=az (R14.out.below Gv).t;have kz6:=kz 6)
      generalize ab1:World.setCell w15 _ _=w16
      obtain⟨E16,K16⟩:=(R14.out.below Gv).set ab1
      have ad8:=R14.out.lt
      have T16:Hid (Gw w16 w16.heap.size gk gv gs cs m):=aa ⟨agz C14.out.2.1 (agm Gv.size K16.size),agz hk2 K16.size,
       fun k v hv=>(agy (a:=⟨gk,k,none⟩) (K16.block gk (agz C14.out.2.1 Gv.size) (by have:=C14.out.1;omega))).trans ((Gv.cell (p:=⟨gk,k,none⟩) C14.out.2.1).trans (C14.out.2.2 k v hv)),
       fun k v hv=>(agy (a:=⟨gv,k,none⟩) (K16.block gv hk2 (by omega))).trans (uK k v hv),
       (gU.kp ((M14.out.below Gv).more Gv.size) (agl _) K16 HL2.out).more K16.size⟩
      have R16:=aa E16
      clear k0 k1 k2 k3 k4 k5 k6 kz kz6 ab1 E16 K16 jx hk2 uK hk3 hk4 Gv ad8 x0 x1 x2 x3 x4 x5 x6
      go_wp2_with fail
      exact⟨.inr ⟨rfl,gk,ck,gv,cv,gs,cs,m,R16.out,T16.out⟩,by simp[intOf]⟩
    ·obtain⟨wo,rfl⟩:∃wo:World,wo=wr:=⟨_,rfl⟩
     have R1:=aa r1
     have R2:=aa r2
     obtain⟨⟨k0,k1,k2,k3,k4,k5,k6⟩,_⟩:=az r1.t
     clear r1 r2 ET
     go_wp2_with (go_at_call 42;(with_reducible refine(htp.out gk ck gv cv gs cs m wo R2.out).mono ?_);rintro e w2 ⟨A2,c2,rfl,cD,b2⟩)
     refine bodyPost_ret (results_tmp2 rfl _ _ _) rfl ?_
     have hz:=R1.out.be.size
     exact⟨A2,c2,rfl,aq.base cD hz,af R1.out.be b2⟩
end
end Go.Proofs.YtbhfpehgacaidaaGreatDoor
