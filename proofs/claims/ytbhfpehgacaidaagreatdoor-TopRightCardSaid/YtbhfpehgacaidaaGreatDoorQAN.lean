/- A part of the proof of the given statement TopRight. Conditions: none. -/
import Derived.Test.YtbhfpehgacaidaaGreatDoorQAM
namespace Go.Proofs.YtbhfpehgacaidaaGreatDoor
set_option linter.unusedVariables false
set_option linter.unusedSimpArgs false
set_option maxRecDepth 100000
set_option maxHeartbeats 8000000
section
open Go.RowKit
def GF(v:Nat):Int:=if v%2=0 then((v/2:Nat):Int)else-((v/2:Nat):Int)-1
theorem Vl(v:Nat)(hv:v≤1000000)(w:World):Calls Tryz.prog 197 #[.int .u64 (v:Int)] w fun e w'=>e= .returned (.int .i64 (GF v))∧w'=w:=by
 obtain⟨h,hh⟩:∃h,h=v/2:=⟨_,rfl⟩
 have e1:(v:Int)/2=(h:Int):=by omega
 have hz:Hid (GF v=if v%2=0 then(h:Int)else-(h:Int)-1):=aa (by unfold GF;rw[hh])
 have i1:=agp (h:Int) (by omega)
 have i2:=agp (-(h:Int)) (by omega)
 have i3:=agp (-(h:Int)-1) (by omega)
 by_cases h2:v%2=0
 ·have e2:(v:Int)%2=0:=by omega
  have hz2:=hz.out
  rw[if_pos h2] at hz2
  have HZ:=aa hz2
  clear hz2 hz hh
  go_enter Tryz.func197,Tryz.ntmps197
  go_wp2_with fail
  go_ret
  rw[HZ.out]
  exact⟨rfl,rfl⟩
 ·have e2:(v:Int)%2=1:=by omega
  have hz2:=hz.out
  rw[if_neg h2] at hz2
  have HZ:=aa hz2
  clear hz2 hz hh
  go_enter Tryz.func197,Tryz.ntmps197
  go_wp2_with fail
  go_ret
  rw[HZ.out]
  exact⟨rfl,rfl⟩
structure Fh where
 st:Int
 ln:Int
 r:Int
 c:Int
 bt:Int
 ls:List fF
def UJ:Fh:=⟨0,0,0,0,0,[]⟩
def frB(f:Fh):Bool:=sV f.r f.c f.bt && (decide (1≤f.ln∧f.ln≤4096∧0≤f.st∧f.st≤4194304-f.ln) && eX f.ls f.c)
theorem aw{W:World}{g:Nat}{v0 v1 v2 v3 v4 v5 v6:Value}(h:W.heap[g]? =some (.cells #[v0,v1,v2,v3,v4,v5,v6] 95 (0,0))):
 (W.cell? ⟨g,0,none⟩=some v0∧W.cell? ⟨g,1,none⟩=some v1∧W.cell? ⟨g,2,none⟩=some v2∧W.cell? ⟨g,3,none⟩=some v3∧W.cell? ⟨g,4,none⟩=some v4∧W.cell? ⟨g,5,none⟩=some v5∧W.cell? ⟨g,6,none⟩=some v6)∧∀j,W.frozen? ⟨g,j,none⟩=false:=
 ⟨⟨(agu _ _ _ _ _ _ h).trans rfl,(agu _ _ _ _ _ _ h).trans rfl,(agu _ _ _ _ _ _ h).trans rfl,(agu _ _ _ _ _ _ h).trans rfl,(agu _ _ _ _ _ _ h).trans rfl,(agu _ _ _ _ _ _ h).trans rfl,(agu _ _ _ _ _ _ h).trans rfl⟩,fun j=>agv W g j _ _ h⟩
theorem xK(f:Fh)(n:Nat)(hn:n=f.ls.length)(hm:n≤100000)(A A2:Option Addr)(k n2 k2:Nat)(w:World)(hs:im w w.heap.size A f.ls):
 Calls Tryz.prog 108 #[.agg #[.int .i64 f.st,.int .i64 f.ln,.int .i64 f.r,.int .i64 f.c,.int .i64 f.bt,.slice A n k,.slice A2 n2 k2]] w fun e w'=>e= .returned (.bool (frB f))∧Below w.heap.size w w':=by
 obtain⟨st,ln,r,c,bt,ls⟩:=f
 obtain⟨F,hF⟩:∃F,F=frB ⟨st,ln,r,c,bt,ls⟩:=⟨_,rfl⟩
 rw[←hF]
 dsimp only at*
 unfold frB at hF
 dsimp only at hF
 have bK:=fun W (b:Below w.heap.size w W)=>mO ls n hn (by omega) c A k W ((hs.below b).more b.size)
 have hr:=iO r c bt
 generalize sV r c bt=fb at*
 generalize eX ls c=lb at*
 have Hr:=aa hr
 have Pc:=aa bK
 have HF:=aa hF
 have M0:Hid ((w.alloc (.cells #[.int .i64 st,.int .i64 ln,.int .i64 r,.int .i64 c,.int .i64 bt,.slice A n k,.slice A2 n2 k2] 95)).heap[w.heap.size]? =some (.cells #[.int .i64 st,.int .i64 ln,.int .i64 r,.int .i64 c,.int .i64 bt,.slice A n k,.slice A2 n2 k2] 95 (0,0))):=aa (ago w _)
 have B0:Hid (Below w.heap.size w (w.alloc (.cells #[.int .i64 st,.int .i64 ln,.int .i64 r,.int .i64 c,.int .i64 bt,.slice A n k,.slice A2 n2 k2] 95))):=aa (ak (ac w) _)
 clear hr bK hF hs hn
 cases fb with
 |false=>
  go_enter Tryz.func108,Tryz.ntmps108
  go_wp2_with (go_at_call 36;(with_reducible refine(Hr.out _).mono ?_);rintro e w1 ⟨rfl,b1⟩)
  go_ret
  rw[HF.out]
  exact⟨rfl,af B0.out b1⟩
 |true=>
  rcases (show ¬1≤ln∨(1≤ln∧¬ln≤4096)∨(1≤ln∧ln≤4096∧¬0≤st)∨(1≤ln∧ln≤4096∧0≤st∧¬st≤4194304-ln)∨(1≤ln∧ln≤4096∧0≤st∧st≤4194304-ln)by omega)with h1 | ⟨h1,h2⟩ | ⟨h1,h2,h3⟩ | ⟨h1,h2,h3,h4⟩ | ⟨h1,h2,h3,h4⟩
  all_goals first | (have i1:=agp (4194304-ln) (by omega)) | skip
  all_goals go_enter Tryz.func108,Tryz.ntmps108
  all_goals go_wp2_with (first
   |(go_at_call 36;(with_reducible refine(Hr.out _).mono ?_);rintro e w1 ⟨rfl,b1⟩;obtain⟨⟨m0,m1,m2,m3,m4,m5,m6⟩,_⟩:=aw ((b1.block w.heap.size (by simp)).trans M0.out);have B1:=af B0.out b1)
   |(go_at_call 132;(with_reducible refine(Pc.out _ B1).mono ?_);rintro e w2 ⟨rfl,b2⟩;have B2:=af B1 b2))
  all_goals go_ret
  all_goals rw[HF.out]
  all_goals refine⟨?_,(by first | exact B2 | exact B1)⟩
  all_goals first | (rw[decide_eq_true (by omega)];rfl) | (rw[decide_eq_false (by omega)];rfl)
theorem td(w:World){g j:Nat}(hj:j≠0)(v:Value):(w.drew.setCell ⟨g,j,none⟩ v).cell? ⟨g,0,none⟩=w.cell? ⟨g,0,none⟩:=by
 have:(w.setCell ⟨g,j,none⟩ v).cell? ⟨g,0,none⟩=w.cell? ⟨g,0,none⟩:=World.cell?_setCell_other _ _ _ _ (by intro h;simp only[Addr.mk.injEq] at h;omega)
 exact this
def uw(l:List Int)(p:Nat)(x:Int)(most g:Nat)(w:World)(e:Ending)(w':World):Prop:=pX l p x most g w e w'∧w'.cell? ⟨g,0,none⟩=w.cell? ⟨g,0,none⟩
theorem QX(l:List Int)(p:Nat)(x:Int)(hx:x≠0)(most g:Nat)(w:World)(h:cG w g l p x):
 Calls Tryz.prog 51 #[.pointer (some ⟨g,0,none⟩),.int .u64 (most:Int)] w (uw l p x most g w):=by
 have hb:(x != 0)=true:=by rw[bne_iff_ne];exact hx
 have e1:aG l p x most=(0,p,x):=if_pos hx
 have H:=aa h
 obtain⟨A,c,h0,h1,h2,h3,h4,h5,h6,h7⟩:=h
 have E1:=aa e1
 clear e1
 go_enter Tryz.func51,Tryz.ntmps51
 go_wp2_with fail
 go_ret
 unfold uw pX
 rw[E1.out]
 exact⟨⟨rfl,H.out,Kp.refl _ _⟩,rfl⟩
theorem We(l:List Int)(hm:l.length≤50000)(hby:aH l)(p:Nat)(hp:p≤l.length)(most g:Nat)(w:World)(h:cG w g l p 0):
 Calls Tryz.prog 51 #[.pointer (some ⟨g,0,none⟩),.int .u64 (most:Int)] w (uw l p 0 most g w):=by
 have H:=aa h
 have hr:aG l p 0 most=if (cY (l.drop p) 0 0).2.2≠0 then(0,p,(cY (l.drop p) 0 0).2.2)else if most<(cY (l.drop p) 0 0).1 then(0,p,4)else((cY (l.drop p) 0 0).1,p+(cY (l.drop p) 0 0).2.1,0):=by unfold aG;rw[if_neg (by simp)]
 have hsm:=kR (l.drop p) 0 0
 rw[Nat.zero_add,List.length_drop] at hsm
 have hcon:∀(A':Option Addr) (B c':Nat) (W:World),ag .u8 W B A' (l.drop p)→Calls Tryz.prog 111 #[.slice A' (l.length-p) c'] W fun e w'=>e= .returned (.tuple #[.int .u64 ((cY (l.drop p) 0 0).1:Int),.int .i64 ((cY (l.drop p) 0 0).2.1:Int),.int .i64 (cY (l.drop p) 0 0).2.2])∧w'=W:=
  fun A' B c' W ha=>vD (l.drop p) (l.length-p) (by simp) (by omega) (hby.drop p) A' B c' W ha
 generalize cY (l.drop p) 0 0=v at hr hsm hcon
 obtain⟨rn,rs,re⟩:=v
 dsimp only at hr hsm hcon
 have Hr:=aa hr
 have cC:=aa hcon
 clear hr hcon h
 obtain⟨A,c,h0,h1,h2,h3,h4,h5,h6,h7⟩:=H.out
 have dp:ag .u8 w g (if c=p then A else Option.map (fun x=>x.add p) A) (l.drop p):=gi h5 hp h6
 have Sy:c=p→ag .u8 w.drew g A (l.drop p):=fun e=>by rw[if_pos e] at dp;exact dp
 have Sx:¬c=p→ag .u8 w.drew g (Option.map (fun x=>x.add p) A) (l.drop p):=fun e=>by rw[if_neg e] at dp;exact dp
 clear dp
 have ep:(p:Int)≤(l.length:Int):=by omega
 go_enter Tryz.func51,Tryz.ntmps51
 go_wp2_with fail
 by_cases CX:c=p
 all_goals (first | have yo:=Sy CX | have yo:=Sx CX)
 all_goals clear Sy Sx
 all_goals go_region_held3 (fun w'=>w'.cell? ⟨g,0,none⟩=some (.slice A l.length c)∧w'.cell? ⟨g,1,none⟩=some (.int .i64 (p:Int))) (first | (go_keep;done))
  (first | (go_at_call 111;(with_reducible refine(cC.out _ _ _ _ yo).mono ?_);rintro e w5 ⟨rfl,rfl⟩))
 all_goals have Hw:Hid (cG w.drew g l p 0):=aa H.out.drew
 all_goals have KW:Hid (Kp (fun q=>q=g) w w.drew):=aa ((Kp.refl _ _).drew)
 all_goals have h3:re≠0∨(re=0∧most<rn)∨(re=0∧¬most<rn):=by omega
 all_goals rcases h3 with he | ⟨rfl,he⟩ | ⟨rfl,he⟩
 all_goals first
  |(have hb:(re != 0)=true:=bne_iff_ne.2 he
    have hb2:(re == 0)=false:=beq_eq_false_iff_ne.2 he
    have e1:=Hr.out
    rw[if_pos he] at e1
    have E1:=aa e1
    clear e1 he yo
    go_wp2_with fail
    go_ret
    unfold uw pX
    rw[E1.out]
    exact⟨⟨rfl,Hw.out.setE _,KW.out.set_ rfl _⟩,td _ (by decide) _⟩)
  |(have hb:(rn:Int) > (most:Int):=Int.ofNat_lt.2 he
    have e1:=Hr.out
    rw[if_neg (by simp),if_pos he] at e1
    have E1:=aa e1
    clear e1 he yo
    go_wp2_with fail
    go_ret
    unfold uw pX
    rw[E1.out]
    exact⟨⟨rfl,Hw.out.setE _,KW.out.set_ rfl _⟩,td _ (by decide) _⟩)
  |(have hb:¬((most:Int)<(rn:Int)):=fun h=>he (Int.ofNat_lt.1 h)
    obtain⟨q,hq⟩:∃q,q=p+rs:=⟨_,rfl⟩
    have eq:(p:Int)+(rs:Int)=(q:Int):=by omega
    have hqw:=agp (q:Int) (by omega)
    have e1:=Hr.out
    rw[if_neg (by simp),if_neg he,←hq] at e1
    have E1:=aa e1
    clear e1 he yo hq
    go_wp2_with fail
    go_ret
    unfold uw pX
    rw[E1.out]
    exact⟨⟨rfl,Hw.out.setP q,KW.out.set_ rfl _⟩,td _ (by decide) _⟩)
theorem QY(l:List Int)(hm:l.length≤50000)(hby:aH l)(p:Nat)(hp:p≤l.length)(x:Int)(most g:Nat)(w:World)(h:cG w g l p x):
 Calls Tryz.prog 51 #[.pointer (some ⟨g,0,none⟩),.int .u64 (most:Int)] w (uw l p x most g w):=by
 by_cases hx:x≠0
 ·exact QX l p x hx most g w h
 ·obtain rfl:x=0:=by omega
  exact We l hm hby p hp most g w h
def Uk(l:List Int)(w:World)(e:Ending)(w':World):Prop:=∃g,e= .returned (.pointer (some ⟨g,0,none⟩))∧w.heap.size≤g∧cG w' g l 0 0∧Below w.heap.size w w'∧∃A c,w'.cell? ⟨g,0,none⟩=some (.slice A l.length c)∧∀q,aj A=some q→w.heap.size≤q
theorem DW(l:List Int)(n:Nat)(hn:l.length=n)(hm:n≤50000)(A:Option Addr)(B c:Nat)(w:World)(ha:ag .u8 w B A l):Calls Tryz.prog 49 #[.slice A n c] w (Uk l w):=by
 go_enter Tryz.func49,Tryz.ntmps49
 go_wp2_with (at_builtin;refine jU _ rfl (.const (.slice none 0 0)) (.tmp 3) rfl w none 0 rfl (aq.nil _ _) B A n c l rfl hn ha (by omega) (ac _) ?_;intro A' c' w' ho b)
 obtain⟨k1,k2⟩:=bJ ho
 subst hn
 go_ret
 have h:=ago w' (.cells #[.slice A' l.length c',.int .i64 0,.int .i64 0] 202)
 exact⟨_,rfl,b.size,Kz ho.ints k1 (agm k2 (by decide)),ak b _,A',c',(agu _ _ _ _ _ _ h).trans rfl,fun q hq=>(agB ho q (by rw[ae];exact hq)).1⟩
theorem oI(l:List Int)(hm:l.length≤50000)(hby:aH l)(p:Nat)(hp:p≤l.length)(x:Int)(most:Nat)(M:Int)(hM:(most:Int)=M)(g:Nat)(w:World)(h:cG w g l p x):
 ∃v p' x',aG l p x most=(v,p',x')∧v≤most∧p'≤l.length∧Calls Tryz.prog 51 #[.pointer (some ⟨g,0,none⟩),.int .u64 M] w fun e w'=>e= .returned (.int .u64 (v:Int))∧cG w' g l p' x'∧Kp (fun q=>q=g) w w'∧w'.cell? ⟨g,0,none⟩=w.cell? ⟨g,0,none⟩:=by
 subst hM
 have h1:=QY l hm hby p hp x most g w h
 have h2:=sy (l:=l) (p:=p) x most
 have h3:=dP x most hp
 unfold uw pX at h1
 generalize aG l p x most=r at*
 obtain⟨v,p',x'⟩:=r
 refine⟨v,p',x',rfl,h2,h3, ?_⟩
 refine h1.mono ?_
 rintro e w' ⟨⟨h4,h5,h6⟩,h7⟩
 exact⟨h4,h5,h6,h7⟩
end
end Go.Proofs.YtbhfpehgacaidaaGreatDoor
