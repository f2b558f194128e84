/- A part of the proof of the given statement TopRight. Conditions: none. -/
import Derived.Test.YtbhfpehgacaidaaGreatDoorQAL
namespace Go.Proofs.YtbhfpehgacaidaaGreatDoor
set_option linter.unusedVariables false
set_option linter.unusedSimpArgs false
set_option maxRecDepth 100000
set_option maxHeartbeats 8000000
section
open Go.RowKit
def XR(r:List Pg×List Hl)(w:World)(e:Ending)(w':World):Prop:=Bf r w e w'
theorem mI(l:List Int)(n:Nat)(hn:l.length=n)(hm:n≤3000)(hby:aH l)(A:Option Addr)(B c:Nat)(hc:n≤c)(cK:c≤9223372036854775807)(w:World)(hB:B≤w.heap.size)(ha:ag .u8 w B A l):
 Calls Tryz.prog 30 #[.slice A n c] w (XR (CO l) w):=by
 have bQ:=qK hby (by omega)
 have hall:=(iM _ l (agl _) hby).2
 have hsc:=Du l n hn (by omega) hby A B c hc cK w hB ha
 unfold CO at*
 unfold Uf at hsc
 generalize cm l=S at*
 obtain⟨P,u⟩:=S
 dsimp only at*
 have Hsc:=aa hsc
 have Ck:=fun (E:List (El Pg)) (hE:E.map (·.1)=P) (w1:World) (A1:Option Addr) (c1:Nat) (ho:ik w1 w.heap.size A1 P.length c1 E)=>DZ E P.length (by rw[←hE];simp) (by omega) (fun t ht=>by
  have h1:=hall t.1 (by rw[←hE];exact List.mem_map.2 ⟨t,ht,rfl⟩)
  exact⟨h1.2,(iP h1.1).2.1⟩) (fun t ht=>(ho.cap t ht).1) A1 w1.heap.size c1 w1 (agl _) ho.rd
 have Hmd:=aa Ck
 clear Ck hsc hall ha
 go_enter Tryz.func30,Tryz.ntmps30
 go_wp2_with (first
  |(go_at_call 15;(with_reducible refine Hsc.out.mono ?_);rintro e w1 ⟨A1,c1,E1,rfl,cM,he1,b1⟩;have rM:=Hmd.out E1 he1 w1 A1 c1 cM;rw[he1] at rM)
  |(go_at_call 16;(with_reducible refine rM.mono ?_);rintro e w2 ⟨A2,c2,E2,A3,c3,rfl,cD,yq,bF,b2⟩))
 go_ret2
 exact⟨A2,c2,E2,A3,c3,rfl,aV.base cD b1.size,yq,gP.base bF b1.size,b1.trans (b2.mono b1.size)⟩
def pQ(b:Int):Bool:=decide (4≤b∧b≤24)
def sV(r c b:Int):Bool:=decide (1≤r∧r≤1048576∧1≤c∧c≤8) && pQ b
theorem xM{W:World}{g:Nat}{v0 v1 v2:Value}(h:W.heap[g]? =some (.cells #[v0,v1,v2] 37 (0,0))):
 W.cell? ⟨g,0,none⟩=some v0∧W.cell? ⟨g,1,none⟩=some v1∧W.cell? ⟨g,2,none⟩=some v2:=⟨(agu _ _ _ _ _ _ h).trans rfl,(agu _ _ _ _ _ _ h).trans rfl,(agu _ _ _ _ _ _ h).trans rfl⟩
theorem Ot(b:Int)(w:World):Calls Tryz.prog 86 #[.int .i64 b] w fun e w'=>e= .returned (.bool (pQ b))∧w'=w:=by
 have hb:Hid (pQ b=decide (4≤b∧b≤24)):=aa rfl
 generalize pQ b=d at*
 by_cases h1:4≤b
 all_goals by_cases h2:b≤24
 all_goals first | (exfalso;omega) | skip
 all_goals go_enter Tryz.func86,Tryz.ntmps86
 all_goals go_wp2_with fail
 all_goals go_ret
 all_goals refine⟨?_,rfl⟩
 all_goals rw[hb.out]
 all_goals first | (rw[decide_eq_true (by omega)];rfl) | (rw[decide_eq_false (by omega)];rfl)
theorem iO(r c b:Int)(w:World):Calls Tryz.prog 36 #[.agg #[.int .i64 r,.int .i64 c,.int .i64 b]] w fun e w'=>e= .returned (.bool (sV r c b))∧Below w.heap.size w w':=by
 have hd:=Ot b
 have hb:Hid (sV r c b=(decide (1≤r∧r≤1048576∧1≤c∧c≤8) && pQ b)):=aa rfl
 generalize sV r c b=f at*
 generalize pQ b=d at*
 have Hd:=aa hd
 clear hd
 rcases (show ¬1≤r∨(1≤r∧¬r≤1048576)∨(1≤r∧r≤1048576∧¬1≤c)∨(1≤r∧r≤1048576∧1≤c∧¬c≤8)∨(1≤r∧r≤1048576∧1≤c∧c≤8)by omega)with h1 | ⟨h1,h2⟩ | ⟨h1,h2,h3⟩ | ⟨h1,h2,h3,h4⟩ | ⟨h1,h2,h3,h4⟩
 all_goals go_enter Tryz.func36,Tryz.ntmps36
 all_goals go_wp2_with (go_at_call 86;(with_reducible refine(Hd.out _).mono ?_);rintro e w' ⟨rfl,rfl⟩)
 all_goals go_ret
 all_goals refine⟨?_,ak (ac w) _⟩
 all_goals rw[hb.out]
 all_goals first | (rw[decide_eq_true (by omega)];rfl) | (rw[decide_eq_false (by omega)];rfl)
structure eC where
 kd:Int
 rn:Int
 rd:Int
 fr:Int
 fc:Int
 fb:Int
 s1:Int
 s2:Int
 s3:Int
 s4:Int
def ku(i:eC):Value:=.agg #[.int .i64 i.kd,.int .i64 i.rn,.int .i64 i.rd,.int .i64 i.fr,.int .i64 i.fc,.int .i64 i.fb,.int .i64 i.s1,.int .i64 i.s2,.int .i64 i.s3,.int .i64 i.s4]
def WD(n m:Int):Bool:=decide (1≤n∧n≤m)
def jw(i:eC):Bool:=qw i.rn i.rd && (if i.kd=1 then sV i.fr i.fc i.fb && decide (i.s1=0∧i.s2=0∧i.s3=0∧i.s4=0)
 else if i.kd=2 then WD i.s1 64 && WD i.s2 64 && WD i.s3 16 && WD i.s4 4 && decide (i.fr=0∧i.fc=0∧i.fb=0)else false)
theorem aQ{W:World}{g:Nat}{v0 v1 v2 v3 v4 v5 v6 v7 v8 v9:Value}(h:W.heap[g]? =some (.cells #[v0,v1,v2,v3,v4,v5,v6,v7,v8,v9] 43 (0,0))):
 W.cell? ⟨g,0,none⟩=some v0∧W.cell? ⟨g,1,none⟩=some v1∧W.cell? ⟨g,2,none⟩=some v2∧W.cell? ⟨g,3,none⟩=some v3∧W.cell? ⟨g,4,none⟩=some v4∧W.cell? ⟨g,5,none⟩=some v5∧W.cell? ⟨g,6,none⟩=some v6∧W.cell? ⟨g,7,none⟩=some v7∧W.cell? ⟨g,8,none⟩=some v8∧W.cell? ⟨g,9,none⟩=some v9:=
 ⟨(agu _ _ _ _ _ _ h).trans rfl,(agu _ _ _ _ _ _ h).trans rfl,(agu _ _ _ _ _ _ h).trans rfl,(agu _ _ _ _ _ _ h).trans rfl,(agu _ _ _ _ _ _ h).trans rfl,(agu _ _ _ _ _ _ h).trans rfl,(agu _ _ _ _ _ _ h).trans rfl,(agu _ _ _ _ _ _ h).trans rfl,(agu _ _ _ _ _ _ h).trans rfl,(agu _ _ _ _ _ _ h).trans rfl⟩
theorem xN(i:eC)(w:World):Calls Tryz.prog 32 #[ku i] w fun e w'=>e= .returned (.bool (jw i))∧Below w.heap.size w w':=by
 obtain⟨kd,rn,rd,fr,fc,fb,s1,s2,s3,s4⟩:=i
 have ht:=mA rn rd
 have hr:=iO fr fc fb
 have hw:=fun n m=>GH n m
 have hb:Hid (jw ⟨kd,rn,rd,fr,fc,fb,s1,s2,s3,s4⟩=(qw rn rd && (if kd=1 then sV fr fc fb && decide (s1=0∧s2=0∧s3=0∧s4=0)else if kd=2 then WD s1 64 && WD s2 64 && WD s3 16 && WD s4 4 && decide (fr=0∧fc=0∧fb=0)else false))):=aa rfl
 unfold ku
 dsimp only
 generalize jw ⟨kd,rn,rd,fr,fc,fb,s1,s2,s3,s4⟩=F at*
 generalize qw rn rd=rb at*
 generalize sV fr fc fb=fB at*
 have Ht:=aa ht
 have Hr:=aa hr
 clear ht hr
 cases rb with
 |false=>
  go_enter Tryz.func32,Tryz.ntmps32
  go_wp2_with (go_at_call 77;(with_reducible refine(Ht.out _).mono ?_);rintro e w1 ⟨rfl,b1⟩)
  go_ret
  refine⟨?_,af (ak (ac w) _) b1⟩
  rw[hb.out]
  rfl
 |true=>
  go_enter Tryz.func32,Tryz.ntmps32
  go_upto_region 3 with (go_at_call 77;(with_reducible refine(Ht.out _).mono ?_);rintro e w1 ⟨rfl,b1⟩)
  have hM:=aQ ((b1.block w.heap.size (by simp)).trans (ago w (.cells #[.int .i64 kd,.int .i64 rn,.int .i64 rd,.int .i64 fr,.int .i64 fc,.int .i64 fb,.int .i64 s1,.int .i64 s2,.int .i64 s3,.int .i64 s4] 43)))
  have B1:=af (ak (ac w) _) b1
  obtain⟨m0,m1,m2,m3,m4,m5,m6,m7,m8,m9⟩:=hM
  clear b1
  have hb2:=hb.out
  rw[Bool.true_and] at hb2
  by_cases jx:kd=1
  ·rw[if_pos jx] at hb2
   subst jx
   have Pe:=aa hb2
   clear hb hb2
   cases fB with
   |false=>
    go_wp2_with (go_at_call 36;(with_reducible refine(Hr.out _).mono ?_);rintro e w2 ⟨rfl,b2⟩)
    go_ret
    rw[Pe.out]
    exact⟨rfl,af B1 b2⟩
   |true=>
    rcases (show ¬s1=0∨(s1=0∧¬s2=0)∨(s1=0∧s2=0∧¬s3=0)∨(s1=0∧s2=0∧s3=0∧¬s4=0)∨(s1=0∧s2=0∧s3=0∧s4=0)by omega)with h1 | ⟨h1,h2⟩ | ⟨h1,h2,h3⟩ | ⟨h1,h2,h3,h4⟩ | ⟨h1,h2,h3,h4⟩
    all_goals go_wp2_with (go_at_call 36;(with_reducible refine(Hr.out _).mono ?_);rintro e w2 ⟨rfl,b2⟩;have n6:=later b2 m6;have n7:=later b2 m7;have n8:=later b2 m8;have n9:=later b2 m9)
    all_goals go_ret
    all_goals rw[Pe.out]
    all_goals refine⟨?_,af B1 b2⟩
    all_goals first | (rw[decide_eq_true (by omega)];rfl) | (rw[decide_eq_false (by omega)];rfl) | (rw[decide_eq_false (by omega)];show Ending.returned (.bool (s4 == 0))=_;rw[beq_eq_false_iff_ne.2 h4];rfl)
  ·rw[if_neg jx] at hb2
   by_cases hk2:kd=2
   ·rw[if_pos hk2] at hb2
    subst hk2
    have w1':=fun W=>hw s1 64 W
    have w2':=fun W=>hw s2 64 W
    have w3':=fun W=>hw s3 16 W
    have w4':=fun W=>hw s4 4 W
    have hb3:F=(decide (1≤s1∧s1≤64) && decide (1≤s2∧s2≤64) && decide (1≤s3∧s3≤16) && decide (1≤s4∧s4≤4) && decide (fr=0∧fc=0∧fb=0)):=hb2
    generalize decide (1≤s1∧s1≤64)=a1 at*
    generalize decide (1≤s2∧s2≤64)=a2 at*
    generalize decide (1≤s3∧s3≤16)=a3 at*
    generalize decide (1≤s4∧s4≤4)=a4 at*
    have W1:=aa w1'
    have W2:=aa w2'
    have W3:=aa w3'
    have W4:=aa w4'
    have Pe:=aa hb3
    clear hb hb2 hb3 w1' w2' w3' w4' hw
    rcases (show a1=false∨(a1=true∧a2=false)∨(a1=true∧a2=true∧a3=false)∨(a1=true∧a2=true∧a3=true∧a4=false)∨(a1=true∧a2=true∧a3=true∧a4=true)by cases a1 <;> cases a2 <;> cases a3 <;> cases a4 <;> simp)with h1 | ⟨h1,h2⟩ | ⟨h1,h2,h3⟩ | ⟨h1,h2,h3,h4⟩ | ⟨h1,h2,h3,h4⟩
    all_goals subst_vars
    all_goals go_wp2_with (go_at_call 78;first
     |((with_reducible refine(W1.out _).mono ?_);rintro e w' ⟨rfl,rfl⟩)
     |((with_reducible refine(W2.out _).mono ?_);rintro e w' ⟨rfl,rfl⟩)
     |((with_reducible refine(W3.out _).mono ?_);rintro e w' ⟨rfl,rfl⟩)
     |((with_reducible refine(W4.out _).mono ?_);rintro e w' ⟨rfl,rfl⟩))
    all_goals go_ret
    all_goals refine⟨?_,B1⟩
    all_goals first | rfl | (rw[decide_eq_true (by omega)];rfl) | (rw[decide_eq_false (by omega)];rfl)
   ·rw[if_neg hk2] at hb2
    have Pe:=aa hb2
    clear hb hb2
    go_wp2_with fail
    go_ret
    rw[Pe.out]
    exact⟨rfl,B1⟩
theorem wM(l:List Int)(hm:l.length≤50000)(hby:aH l)(p:Nat)(hp:p≤l.length)(x:Int)(most:Nat)(M:Int)(hM:(most:Int)=M)(g:Nat)(w:World)(h:cG w g l p x):
 ∃v p' x',aG l p x most=(v,p',x')∧v≤most∧p'≤l.length∧Calls Tryz.prog 51 #[.pointer (some ⟨g,0,none⟩),.int .u64 M] w fun e w'=>e= .returned (.int .u64 (v:Int))∧cG w' g l p' x'∧Kp (fun q=>q=g) w w':=by
 subst hM
 have h1:=KA l hm hby p hp x most g w h
 have h2:=sy (l:=l) (p:=p) x most
 have h3:=dP x most hp
 unfold pX at h1
 generalize aG l p x most=r at*
 obtain⟨v,p',x'⟩:=r
 exact⟨v,p',x',rfl,h2,h3,h1⟩
def pJ(l:List Int)(p:Nat)(x:Int):eC×Nat×Int:=
 let a:=aG l p x 2
 let b:=aG l a.2.1 a.2.2 1048576
 let c:=aG l b.2.1 b.2.2 1048576
 if (a.1:Int)=1 then
  let d:=aG l c.2.1 c.2.2 1048576
  let e:=aG l d.2.1 d.2.2 8
  let f:=aG l e.2.1 e.2.2 24
  (⟨a.1,b.1,c.1,d.1,e.1,f.1,0,0,0,0⟩,f.2)
 else
  let d:=aG l c.2.1 c.2.2 64
  let e:=aG l d.2.1 d.2.2 64
  let f:=aG l e.2.1 e.2.2 16
  let g:=aG l f.2.1 f.2.2 4
  (⟨a.1,b.1,c.1,0,0,0,d.1,e.1,f.1,g.1⟩,g.2)
def dT(i:eC):Array Value:=#[.int .i64 i.kd,.int .i64 i.rn,.int .i64 i.rd,.int .i64 i.fr,.int .i64 i.fc,.int .i64 i.fb,.int .i64 i.s1,.int .i64 i.s2,.int .i64 i.s3,.int .i64 i.s4]
def qh:eC:=⟨0,0,0,0,0,0,0,0,0,0⟩
structure CM (w W:World) (g:Nat) (l:List Int) (p:Nat) (x:Int) (b:Nat) (i:eC):Prop where
 oc:cG W g l p x
 lo:W.heap[b+1]? =some (.cells (dT i) 43 (0,0))
 re:W.heap[b]? =some (.cells (dT qh) 43 (0,0))
 kp:Kp (fun q=>q=g) w W
 gb:g<b
 bw:w.heap.size≤b
section
variable {w W W' : World} {g b p p' : Nat} {l : List Int} {x x' : Int} {i i' : eC}
theorem CM.num(h:CM w W g l p x b i)(ho:cG W' g l p' x')(hk:Kp (fun q=>q=g) W W'):CM w W' g l p' x' b i:=by
 have hg:=h.gb
 have hb1:=(agn.1 h.lo).1
 have hb0:=(agn.1 h.re).1
 exact⟨ho,(hk.block _ hb1 (by omega)).trans h.lo,(hk.block _ hb0 (by omega)).trans h.re,h.kp.trans hk,h.gb,h.bw⟩
theorem CM.set(h:CM w W g l p x b i)(j:Nat)(v:Value)(hv:(dT i).setIfInBounds j v=dT i'):CM w (W.setCell ⟨b+1,j,none⟩ v) g l p x b i':=by
 have hg:=h.gb
 have hb:=h.bw
 refine⟨h.oc.keep fun q hq=>agr _ _ _ _ (show q≠b+1 by omega), ?_,(agr _ _ _ _ (show b≠b+1 by omega)).trans h.re,⟨h.kp.os,h.kp.tape,h.kp.output,by simpa [World.setCell] using h.kp.size,fun k hk hs=>(agr _ _ _ _ (show k≠b+1 by omega)).trans (h.kp.block k hk hs)⟩,h.gb,h.bw⟩
 rw[agA _ (b+1) j _ _ _ h.lo]
 rw[←hv]
theorem ir{W:World}{q:Nat}{i:eC}(h:W.heap[q]? =some (.cells (dT i) 43 (0,0)))(j:Nat):W.frozen? ⟨q,j,none⟩=false:=agv W q j _ _ h
end
def lJ(W:World)(g:Nat)(i:eC):World:=(((((((((W.setCell ⟨g,0,none⟩ (.int .i64 i.kd)).setCell ⟨g,1,none⟩ (.int .i64 i.rn)).setCell ⟨g,2,none⟩ (.int .i64 i.rd)).setCell ⟨g,3,none⟩ (.int .i64 i.fr)).setCell ⟨g,4,none⟩ (.int .i64 i.fc)).setCell ⟨g,5,none⟩ (.int .i64 i.fb)).setCell ⟨g,6,none⟩ (.int .i64 i.s1)).setCell ⟨g,7,none⟩ (.int .i64 i.s2)).setCell ⟨g,8,none⟩ (.int .i64 i.s3)).setCell ⟨g,9,none⟩ (.int .i64 i.s4)
theorem gS{W:World}{g:Nat}{i i':eC}(h:W.heap[g]? =some (.cells (dT i) 43 (0,0)))(j:Nat)(v:Value)(hv:(dT i).setIfInBounds j v=dT i'):(W.setCell ⟨g,j,none⟩ v).heap[g]? =some (.cells (dT i') 43 (0,0)):=by
 rw[agA _ g j _ _ _ h,hv]
theorem rX{W:World}{g:Nat}{i0:eC}(h:W.heap[g]? =some (.cells (dT i0) 43 (0,0)))(i:eC):(lJ W g i).heap[g]? =some (.cells (dT i) 43 (0,0)):=
 gS (i:=⟨i.kd,i.rn,i.rd,i.fr,i.fc,i.fb,i.s1,i.s2,i.s3,i0.s4⟩) (i':=⟨i.kd,i.rn,i.rd,i.fr,i.fc,i.fb,i.s1,i.s2,i.s3,i.s4⟩) (gS (i:=⟨i.kd,i.rn,i.rd,i.fr,i.fc,i.fb,i.s1,i.s2,i0.s3,i0.s4⟩) (i':=⟨i.kd,i.rn,i.rd,i.fr,i.fc,i.fb,i.s1,i.s2,i.s3,i0.s4⟩) (gS (i:=⟨i.kd,i.rn,i.rd,i.fr,i.fc,i.fb,i.s1,i0.s2,i0.s3,i0.s4⟩) (i':=⟨i.kd,i.rn,i.rd,i.fr,i.fc,i.fb,i.s1,i.s2,i0.s3,i0.s4⟩) (gS (i:=⟨i.kd,i.rn,i.rd,i.fr,i.fc,i.fb,i0.s1,i0.s2,i0.s3,i0.s4⟩) (i':=⟨i.kd,i.rn,i.rd,i.fr,i.fc,i.fb,i.s1,i0.s2,i0.s3,i0.s4⟩) (gS (i:=⟨i.kd,i.rn,i.rd,i.fr,i.fc,i0.fb,i0.s1,i0.s2,i0.s3,i0.s4⟩) (i':=⟨i.kd,i.rn,i.rd,i.fr,i.fc,i.fb,i0.s1,i0.s2,i0.s3,i0.s4⟩) (gS (i:=⟨i.kd,i.rn,i.rd,i.fr,i0.fc,i0.fb,i0.s1,i0.s2,i0.s3,i0.s4⟩) (i':=⟨i.kd,i.rn,i.rd,i.fr,i.fc,i0.fb,i0.s1,i0.s2,i0.s3,i0.s4⟩) (gS (i:=⟨i.kd,i.rn,i.rd,i0.fr,i0.fc,i0.fb,i0.s1,i0.s2,i0.s3,i0.s4⟩) (i':=⟨i.kd,i.rn,i.rd,i.fr,i0.fc,i0.fb,i0.s1,i0.s2,i0.s3,i0.s4⟩) (gS (i:=⟨i.kd,i.rn,i0.rd,i0.fr,i0.fc,i0.fb,i0.s1,i0.s2,i0.s3,i0.s4⟩) (i':=⟨i.kd,i.rn,i.rd,i0.fr,i0.fc,i0.fb,i0.s1,i0.s2,i0.s3,i0.s4⟩) (gS (i:=⟨i.kd,i0.rn,i0.rd,i0.fr,i0.fc,i0.fb,i0.s1,i0.s2,i0.s3,i0.s4⟩) (i':=⟨i.kd,i.rn,i0.rd,i0.fr,i0.fc,i0.fb,i0.s1,i0.s2,i0.s3,i0.s4⟩) (gS (i:=i0) (i':=⟨i.kd,i0.rn,i0.rd,i0.fr,i0.fc,i0.fb,i0.s1,i0.s2,i0.s3,i0.s4⟩) (h) 0 _ rfl) 1 _ rfl) 2 _ rfl) 3 _ rfl) 4 _ rfl) 5 _ rfl) 6 _ rfl) 7 _ rfl) 8 _ rfl) 9 _ rfl
theorem mG{W:World}{g q:Nat}(hq:q≠g)(i:eC):(lJ W g i).heap[q]? =W.heap[q]? :=by
 have k:=fun (W:World) (j:Nat) (v:Value)=>agr W ⟨g,j,none⟩ v q hq
 unfold lJ
 rw[k,k,k,k,k,k,k,k,k,k]
theorem tL(W:World)(g:Nat)(i:eC):(lJ W g i).os=W.os∧(lJ W g i).tape=W.tape∧(lJ W g i).output=W.output∧(lJ W g i).heap.size=W.heap.size:=by
 unfold lJ
 simp[World.setCell]
theorem tO{fn:Func}(h:fn.results=#[.cell 2 43])(tmps:Array Value)(w:World){g:Nat}{i:eC}(ht:tmps.getD 2 undef= .pointer (some ⟨g,0,none⟩))(hr:w.heap[g]? =some (.cells (dT i) 43 (0,0))):
 (results fn tmps).run Tryz.prog w= .ok (ku i) w:=by
 obtain⟨c0,c1,c2,c3,c4,c5,c6,c7,c8,c9⟩:=aQ (show w.heap[g]? =some (.cells #[.int .i64 i.kd,.int .i64 i.rn,.int .i64 i.rd,.int .i64 i.fr,.int .i64 i.fc,.int .i64 i.fb,.int .i64 i.s1,.int .i64 i.s2,.int .i64 i.s3,.int .i64 i.s4] 43 (0,0))from hr)
 have key:(results fn tmps).run Tryz.prog w=((asAddr (tmps.getD 2 undef)).run Tryz.prog w).andThen fun a w₁=>(loadVar 43 a).run Tryz.prog w₁:=by
  simp only[results,h]
  simp[Sem.run_bind,Result.andThen]
 rw[key,ht]
 simp[go_sem,c0,c1,c2,c3,c4,c5,c6,c7,c8,c9,ku]
def Ul(r:eC×Nat×Int)(l:List Int)(g:Nat)(w:World)(e:Ending)(w':World):Prop:=e= .returned (ku r.1)∧cG w' g l r.2.1 r.2.2∧Kp (fun q=>q=g) w w'
theorem CM.done{w W:World}{g b p:Nat}{l:List Int}{x:Int}{i:eC}(h:CM w W g l p x b i):Ul (i,p,x) l g w (.returned (ku i)) (lJ W b i):=by
 obtain⟨f1,f2,f3,f4⟩:=tL W b i
 have hg:=h.gb
 have hb:=h.bw
 exact⟨rfl,h.oc.keep fun q hq=>mG (by omega) i,⟨f1.trans h.kp.os,f2.trans h.kp.tape,f3.trans h.kp.output,by rw[f4];exact h.kp.size,fun k hk hs=>(mG (by omega) i).trans (h.kp.block k hk hs)⟩⟩
theorem Rx(l:List Int)(hm:l.length≤50000)(hby:aH l)(p:Nat)(hp:p≤l.length)(x:Int)(g:Nat)(w:World)(h:cG w g l p x):
 Calls Tryz.prog 52 #[.pointer (some ⟨g,0,none⟩)] w (Ul (pJ l p x) l g w):=by
 obtain⟨RR,cN⟩:∃RR,RR=pJ l p x:=⟨_,rfl⟩
 rw[←cN]
 have I0:Hid (CM w ((w.alloc (.cells (dT qh) 43)).alloc (.cells (dT qh) 43)) g l p x w.heap.size qh):=by
  have hlt:=h.lt
  refine aa ⟨h.keep fun q hq=>(ags _ _ _ (by simp;omega)).trans (ags _ _ _ (by omega)), ?_,(ags _ _ _ (by simp)).trans (ago w _),((Kp.refl _ w).alloc _).alloc _,hlt,agl _⟩
  have:=ago (w.alloc (.cells (dT qh) 43)) (.cells (dT qh) 43)
  rw[World.size_alloc] at this
  exact this
 have Jv:=cN
 unfold pJ at Jv
 dsimp only at Jv
 have HR:=aa Jv
 clear cN Jv h
 go_enter Tryz.func52,Tryz.ntmps52
 go_upto_region 2 with fail
 obtain⟨b,hb⟩:∃b,b=w.heap.size:=⟨_,rfl⟩
 obtain⟨W0,hW0⟩:∃W0,W0=(w.alloc (.cells (dT qh) 43)).alloc (.cells (dT qh) 43):=⟨_,rfl⟩
 rw[←hW0,←hb] at I0
 have lU:=hW0
 unfold dT qh at lU
 dsimp only at lU
 rw[←lU,←hb]
 clear hW0 lU hb
 unfold qh at I0
 obtain⟨v1,p1,x1,e1,RM,Ac,hc1⟩:=wM l hm hby p hp x 2 2 rfl g W0 I0.out.oc
 have Hc1:=aa hc1
 have hr1:=HR.out
 rw[e1] at hr1
 dsimp only at hr1
 have cv1:=agp (v1:Int) (by omega)
 clear hc1 e1
 have PR:=aa hr1
 clear hr1
 go_upto_region 3 with (go_at_call 51;(with_reducible refine Hc1.out.mono ?_);rintro e U1 ⟨rfl,cM,jx⟩;obtain⟨c0,c1,c2,c3,c4,c5,c6,c7,c8,c9⟩:=aQ ((I0.out.num cM jx).lo);have f0:=ir (I0.out.num cM jx).lo 0)
 have I1:Hid (CM w (U1.setCell ⟨b+1,0,none⟩ (.int .i64 (v1:Int))) g l p1 x1 b ⟨(v1:Int),0,0,0,0,0,0,0,0,0⟩):=aa ((I0.out.num cM jx).set 0 _ rfl)
 obtain⟨W1,hW1⟩:∃W,W=U1.setCell ⟨b+1,0,none⟩ (.int .i64 (v1:Int)):=⟨_,rfl⟩
 rw[←hW1] at I1 ⊢
 clear hW1 cM jx c0 c1 c2 c3 c4 c5 c6 c7 c8 c9 f0 Hc1 HR I0
 obtain⟨v2,p2,x2,e2,hv2,lS,hc2⟩:=wM l hm hby p1 Ac x1 1048576 1048576 rfl g W1 I1.out.oc
 have Uv:=aa hc2
 have hr2:=PR.out
 rw[e2] at hr2
 dsimp only at hr2
 have cv2:=agp (v2:Int) (by omega)
 clear hc2 e2
 have lX:=aa hr2
 clear hr2
 go_upto_region 4 with (go_at_call 51;(with_reducible refine Uv.out.mono ?_);rintro e U2 ⟨rfl,cD,hk2⟩;obtain⟨c0,c1,c2,c3,c4,c5,c6,c7,c8,c9⟩:=aQ ((I1.out.num cD hk2).lo);have f0:=ir (I1.out.num cD hk2).lo 1)
 have I2:Hid (CM w (U2.setCell ⟨b+1,1,none⟩ (.int .i64 (v2:Int))) g l p2 x2 b ⟨(v1:Int),(v2:Int),0,0,0,0,0,0,0,0⟩):=aa ((I1.out.num cD hk2).set 1 _ rfl)
 obtain⟨W2,hW2⟩:∃W,W=U2.setCell ⟨b+1,1,none⟩ (.int .i64 (v2:Int)):=⟨_,rfl⟩
 rw[←hW2] at I2 ⊢
 clear hW2 cD hk2 c0 c1 c2 c3 c4 c5 c6 c7 c8 c9 f0 Uv PR I1
 obtain⟨v3,p3,x3,e3,hv3,WM,hc3⟩:=wM l hm hby p2 lS x2 1048576 1048576 rfl g W2 I2.out.oc
 have Hc3:=aa hc3
 have hr3:=lX.out
 rw[e3] at hr3
 dsimp only at hr3
 have cv3:=agp (v3:Int) (by omega)
 clear hc3 e3
 have mo:=aa hr3
 clear hr3
 go_upto_region 5 with (go_at_call 51;(with_reducible refine Hc3.out.mono ?_);rintro e U3 ⟨rfl,bF,hk3⟩;obtain⟨c0,c1,c2,c3,c4,c5,c6,c7,c8,c9⟩:=aQ ((I2.out.num bF hk3).lo);have f0:=ir (I2.out.num bF hk3).lo 2)
 have I3:Hid (CM w (U3.setCell ⟨b+1,2,none⟩ (.int .i64 (v3:Int))) g l p3 x3 b ⟨(v1:Int),(v2:Int),(v3:Int),0,0,0,0,0,0,0⟩):=aa ((I2.out.num bF hk3).set 2 _ rfl)
 obtain⟨W3,hW3⟩:∃W,W=U3.setCell ⟨b+1,2,none⟩ (.int .i64 (v3:Int)):=⟨_,rfl⟩
 rw[←hW3] at I3 ⊢
 clear hW3 bF hk3 c0 c1 c2 c3 c4 c5 c6 c7 c8 c9 f0 Hc3 lX I2
 obtain⟨c0,c1,c2,c3,c4,c5,c6,c7,c8,c9⟩:=aQ I3.out.lo
 have HQ:=mo.out
 by_cases h1:(v1:Int)=1
 ·rw[if_pos h1] at HQ
  have mo:=aa HQ
  clear HQ
  go_upto_region 6 with fail
  clear c0 c1 c2 c3 c4 c5 c6 c7 c8 c9 h1
  obtain⟨v4,p4,x4,e4,hv4,Sh,Xg⟩:=wM l hm hby p3 WM x3 1048576 1048576 rfl g W3 I3.out.oc
  have Zi:=aa Xg
  have hr4:=mo.out
  rw[e4] at hr4
  dsimp only at hr4
  have cv4:=agp (v4:Int) (by omega)
  clear Xg e4
  have yf:=aa hr4
  clear hr4
  go_upto_region 7 with (go_at_call 51;(with_reducible refine Zi.out.mono ?_);rintro e U4 ⟨rfl,bE,hk4⟩;obtain⟨c0,c1,c2,c3,c4,c5,c6,c7,c8,c9⟩:=aQ ((I3.out.num bE hk4).lo);have f0:=ir (I3.out.num bE hk4).lo 3)
  have I4:Hid (CM w (U4.setCell ⟨b+1,3,none⟩ (.int .i64 (v4:Int))) g l p4 x4 b ⟨(v1:Int),(v2:Int),(v3:Int),(v4:Int),0,0,0,0,0,0⟩):=aa ((I3.out.num bE hk4).set 3 _ rfl)
  obtain⟨W4,YT⟩:∃W,W=U4.setCell ⟨b+1,3,none⟩ (.int .i64 (v4:Int)):=⟨_,rfl⟩
  rw[←YT] at I4 ⊢
  clear YT bE hk4 c0 c1 c2 c3 c4 c5 c6 c7 c8 c9 f0 Zi mo I3
  obtain⟨v5,p5,x5,e5,hv5,hp5,PE⟩:=wM l hm hby p4 Sh x4 8 8 rfl g W4 I4.out.oc
  have Zh:=aa PE
  have KR:=yf.out
  rw[e5] at KR
  dsimp only at KR
  have cv5:=agp (v5:Int) (by omega)
  clear PE e5
  have C7:=aa KR
  clear KR
  go_upto_region 8 with (go_at_call 51;(with_reducible refine Zh.out.mono ?_);rintro e U5 ⟨rfl,bT,qN⟩;obtain⟨c0,c1,c2,c3,c4,c5,c6,c7,c8,c9⟩:=aQ ((I4.out.num bT qN).lo);have f0:=ir (I4.out.num bT qN).lo 4)
  have I5:Hid (CM w (U5.setCell ⟨b+1,4,none⟩ (.int .i64 (v5:Int))) g l p5 x5 b ⟨(v1:Int),(v2:Int),(v3:Int),(v4:Int),(v5:Int),0,0,0,0,0⟩):=aa ((I4.out.num bT qN).set 4 _ rfl)
  obtain⟨W5,YS⟩:∃W,W=U5.setCell ⟨b+1,4,none⟩ (.int .i64 (v5:Int)):=⟨_,rfl⟩
  rw[←YS] at I5 ⊢
  clear YS bT qN c0 c1 c2 c3 c4 c5 c6 c7 c8 c9 f0 Zh yf I4
  obtain⟨v6,p6,x6,e6,hv6,Px,YP⟩:=wM l hm hby p5 hp5 x5 24 24 rfl g W5 I5.out.oc
  have Zg:=aa YP
  have KQ:=C7.out
  rw[e6] at KQ
  dsimp only at KQ
  have cv6:=agp (v6:Int) (by omega)
  clear YP e6
  have HR6:=aa KQ
  clear KQ
  go_upto_region 9 with (go_at_call 51;(with_reducible refine Zg.out.mono ?_);rintro e U6 ⟨rfl,dC,xw⟩;obtain⟨c0,c1,c2,c3,c4,c5,c6,c7,c8,c9⟩:=aQ ((I5.out.num dC xw).lo);have f0:=ir (I5.out.num dC xw).lo 5)
  have I6:Hid (CM w (U6.setCell ⟨b+1,5,none⟩ (.int .i64 (v6:Int))) g l p6 x6 b ⟨(v1:Int),(v2:Int),(v3:Int),(v4:Int),(v5:Int),(v6:Int),0,0,0,0⟩):=aa ((I5.out.num dC xw).set 5 _ rfl)
  obtain⟨W6,hW6⟩:∃W,W=U6.setCell ⟨b+1,5,none⟩ (.int .i64 (v6:Int)):=⟨_,rfl⟩
  rw[←hW6] at I6 ⊢
  clear hW6 dC xw c0 c1 c2 c3 c4 c5 c6 c7 c8 c9 f0 Zg C7 I5
  obtain⟨c0,c1,c2,c3,c4,c5,c6,c7,c8,c9⟩:=aQ I6.out.lo
  obtain⟨d0,d1,d2,d3,d4,d5,d6,d7,d8,d9⟩:=aQ I6.out.re
  have fz:=fun j=>ir I6.out.re j
  have z0:=fz 0
  have z1:=fz 1
  have z2:=fz 2
  have z3:=fz 3
  have z4:=fz 4
  have z5:=fz 5
  have z6:=fz 6
  have z7:=fz 7
  have z8:=fz 8
  have z9:=fz 9
  clear fz
  go_wp2_with fail
  have hrow:=rX I6.out.re ⟨(v1:Int),(v2:Int),(v3:Int),(v4:Int),(v5:Int),(v6:Int),0,0,0,0⟩
  have hdone:=I6.out.done
  unfold lJ at hrow hdone
  dsimp only at hrow hdone
  refine bodyPost_ret (tO rfl _ _ rfl hrow) rfl ?_
  rw[show RR=(⟨(v1:Int),(v2:Int),(v3:Int),(v4:Int),(v5:Int),(v6:Int),0,0,0,0⟩,p6,x6)from HR6.out]
  exact hdone
 ·rw[if_neg h1] at HQ
  have mo:=aa HQ
  clear HQ
  go_upto_region 10 with fail
  clear c0 c1 c2 c3 c4 c5 c6 c7 c8 c9 h1
  obtain⟨v4,p4,x4,e4,hv4,Sh,Xg⟩:=wM l hm hby p3 WM x3 64 64 rfl g W3 I3.out.oc
  have Zi:=aa Xg
  have hr4:=mo.out
  rw[e4] at hr4
  dsimp only at hr4
  have cv4:=agp (v4:Int) (by omega)
  clear Xg e4
  have yf:=aa hr4
  clear hr4
  go_upto_region 11 with (go_at_call 51;(with_reducible refine Zi.out.mono ?_);rintro e U4 ⟨rfl,bE,hk4⟩;obtain⟨c0,c1,c2,c3,c4,c5,c6,c7,c8,c9⟩:=aQ ((I3.out.num bE hk4).lo);have f0:=ir (I3.out.num bE hk4).lo 6)
  have I4:Hid (CM w (U4.setCell ⟨b+1,6,none⟩ (.int .i64 (v4:Int))) g l p4 x4 b ⟨(v1:Int),(v2:Int),(v3:Int),0,0,0,(v4:Int),0,0,0⟩):=aa ((I3.out.num bE hk4).set 6 _ rfl)
  obtain⟨W4,YT⟩:∃W,W=U4.setCell ⟨b+1,6,none⟩ (.int .i64 (v4:Int)):=⟨_,rfl⟩
  rw[←YT] at I4 ⊢
  clear YT bE hk4 c0 c1 c2 c3 c4 c5 c6 c7 c8 c9 f0 Zi mo I3
  obtain⟨v5,p5,x5,e5,hv5,hp5,PE⟩:=wM l hm hby p4 Sh x4 64 64 rfl g W4 I4.out.oc
  have Zh:=aa PE
  have KR:=yf.out
  rw[e5] at KR
  dsimp only at KR
  have cv5:=agp (v5:Int) (by omega)
  clear PE e5
  have C7:=aa KR
  clear KR
  go_upto_region 12 with (go_at_call 51;(with_reducible refine Zh.out.mono ?_);rintro e U5 ⟨rfl,bT,qN⟩;obtain⟨c0,c1,c2,c3,c4,c5,c6,c7,c8,c9⟩:=aQ ((I4.out.num bT qN).lo);have f0:=ir (I4.out.num bT qN).lo 7)
  have I5:Hid (CM w (U5.setCell ⟨b+1,7,none⟩ (.int .i64 (v5:Int))) g l p5 x5 b ⟨(v1:Int),(v2:Int),(v3:Int),0,0,0,(v4:Int),(v5:Int),0,0⟩):=aa ((I4.out.num bT qN).set 7 _ rfl)
  obtain⟨W5,YS⟩:∃W,W=U5.setCell ⟨b+1,7,none⟩ (.int .i64 (v5:Int)):=⟨_,rfl⟩
  rw[←YS] at I5 ⊢
  clear YS bT qN c0 c1 c2 c3 c4 c5 c6 c7 c8 c9 f0 Zh yf I4
  obtain⟨v6,p6,x6,e6,hv6,Px,YP⟩:=wM l hm hby p5 hp5 x5 16 16 rfl g W5 I5.out.oc
  have Zg:=aa YP
  have KQ:=C7.out
  rw[e6] at KQ
  dsimp only at KQ
  have cv6:=agp (v6:Int) (by omega)
  clear YP e6
  have HR6:=aa KQ
  clear KQ
  go_upto_region 13 with (go_at_call 51;(with_reducible refine Zg.out.mono ?_);rintro e U6 ⟨rfl,dC,xw⟩;obtain⟨c0,c1,c2,c3,c4,c5,c6,c7,c8,c9⟩:=aQ ((I5.out.num dC xw).lo);have f0:=ir (I5.out.num dC xw).lo 8)
  have I6:Hid (CM w (U6.setCell ⟨b+1,8,none⟩ (.int .i64 (v6:Int))) g l p6 x6 b ⟨(v1:Int),(v2:Int),(v3:Int),0,0,0,(v4:Int),(v5:Int),(v6:Int),0⟩):=aa ((I5.out.num dC xw).set 8 _ rfl)
  obtain⟨W6,hW6⟩:∃W,W=U6.setCell ⟨b+1,8,none⟩ (.int .i64 (v6:Int)):=⟨_,rfl⟩
  rw[←hW6] at I6 ⊢
  clear hW6 dC xw c0 c1 c2 c3 c4 c5 c6 c7 c8 c9 f0 Zg C7 I5
  obtain⟨v7,p7,x7,e7,hv7,hp7,NW⟩:=wM l hm hby p6 Px x6 4 4 rfl g W6 I6.out.oc
  have Hc7:=aa NW
  have Ch:=HR6.out
  rw[e7] at Ch
  dsimp only at Ch
  have cv7:=agp (v7:Int) (by omega)
  clear NW e7
  have Vh:=aa Ch
  clear Ch
  go_upto_region 14 with (go_at_call 51;(with_reducible refine Hc7.out.mono ?_);rintro e U7 ⟨rfl,fQ,Gn⟩;obtain⟨c0,c1,c2,c3,c4,c5,c6,c7,c8,c9⟩:=aQ ((I6.out.num fQ Gn).lo);have f0:=ir (I6.out.num fQ Gn).lo 9)
  have I7:Hid (CM w (U7.setCell ⟨b+1,9,none⟩ (.int .i64 (v7:Int))) g l p7 x7 b ⟨(v1:Int),(v2:Int),(v3:Int),0,0,0,(v4:Int),(v5:Int),(v6:Int),(v7:Int)⟩):=aa ((I6.out.num fQ Gn).set 9 _ rfl)
  obtain⟨W7,hW7⟩:∃W,W=U7.setCell ⟨b+1,9,none⟩ (.int .i64 (v7:Int)):=⟨_,rfl⟩
  rw[←hW7] at I7 ⊢
  clear hW7 fQ Gn c0 c1 c2 c3 c4 c5 c6 c7 c8 c9 f0 Hc7 HR6 I6
  obtain⟨c0,c1,c2,c3,c4,c5,c6,c7,c8,c9⟩:=aQ I7.out.lo
  obtain⟨d0,d1,d2,d3,d4,d5,d6,d7,d8,d9⟩:=aQ I7.out.re
  have fz:=fun j=>ir I7.out.re j
  have z0:=fz 0
  have z1:=fz 1
  have z2:=fz 2
  have z3:=fz 3
  have z4:=fz 4
  have z5:=fz 5
  have z6:=fz 6
  have z7:=fz 7
  have z8:=fz 8
  have z9:=fz 9
  clear fz
  go_wp2_with fail
  have hrow:=rX I7.out.re ⟨(v1:Int),(v2:Int),(v3:Int),0,0,0,(v4:Int),(v5:Int),(v6:Int),(v7:Int)⟩
  have hdone:=I7.out.done
  unfold lJ at hrow hdone
  dsimp only at hrow hdone
  refine bodyPost_ret (tO rfl _ _ rfl hrow) rfl ?_
  rw[show RR=(⟨(v1:Int),(v2:Int),(v3:Int),0,0,0,(v4:Int),(v5:Int),(v6:Int),(v7:Int)⟩,p7,x7)from Vh.out]
  exact hdone
def ew(L:List eC):List Value:=L.flatMap fun i=>(dT i).toList
theorem Oi(L M:List eC):ew (L++M)=ew L++ew M:=by simp[ew]
theorem AK(L:List eC):(ew L).length=L.length*10:=by
 induction L with
 |nil=>rfl
 |cons a L ih=>simp only[ew,List.flatMap_cons,List.length_append,List.length_cons] at ih ⊢;rw[ih];simp[dT];omega
theorem Oh(L:List eC)(i j:Nat)(hi:i<L.length)(hj:j<10):(ew L)[i*10+j]? =(dT L[i]).toList[j]? :=by
 induction L generalizing i with
 |nil=>simp at hi
 |cons a L ih=>
  have hl:((dT a).toList).length=10:=rfl
  cases i with
  |zero=>
   simp only[ew,List.flatMap_cons,Nat.zero_mul,Nat.zero_add,List.getElem_cons_zero]
   rw[List.getElem?_append_left (by omega)]
  |succ i=>
   have h1:=ih i (by simpa using hi)
   simp only[ew,List.flatMap_cons,List.getElem_cons_succ] at h1 ⊢
   rw[List.getElem?_append_right (by omega),hl,show (i+1)*10+j-10=i*10+j by omega]
   exact h1
def ij(w:World)(B:Nat)(A:Option Addr)(n c:Nat)(L:List eC):Prop:=w.ownsRow B 43 10 (.slice A n c) n (ew L)∧L.length=n
theorem ij.nil(w:World)(B:Nat):ij w B none 0 0 []:=⟨World.ownsRow_nil _ _ _ _,rfl⟩
theorem ij.below{w w':World}{B B1 n c:Nat}{A:Option Addr}{L:List eC}(h:ij w B A n c L)(hb:Below B1 w w')(hB:w.heap.size≤B1):ij w' B A n c L:=⟨aD h.1 hb hB,h.2⟩
theorem ij.base{w:World}{B B' n c:Nat}{A:Option Addr}{L:List eC}(h:ij w B A n c L)(hB:B'≤B):ij w B' A n c L:=⟨aO h.1 hB,h.2⟩
theorem ij.alloc{w:World}{B n c:Nat}{A:Option Addr}{L:List eC}(h:ij w B A n c L)(o:Obj):ij (w.alloc o) B A n c L:=⟨World.ownsRow.alloc h.1 o,h.2⟩
theorem ij.lt{w:World}{B n c q:Nat}{A:Option Addr}{L:List eC}(h:ij w B A n c L)(hq:aj A=some q):B≤q∧q<w.heap.size:=agB h.1 q (by rw[ae];exact hq)
theorem ij.kept{w w':World}{B n c:Nat}{A:Option Addr}{L:List eC}(h:ij w B A n c L)(hk:∀q,aj A=some q→w'.heap[q]? =w.heap[q]?):ij w' B A n c L:=
 ⟨ap h.1 fun q hq=>hk q (by rw[←ae A n c];exact hq),h.2⟩
theorem ij.rd{w:World}{B n c:Nat}{A:Option Addr}{L:List eC}(h:ij w B A n c L):Rd w w.heap.size A (ew L):=ip h.1
theorem Ry:(Tryz.prog.info? 43).map (fun i=>(i.zero,i.size,i.bytes))=some (some (ku qh),10,80):=by kernel_rfl
theorem Ny(L:List eC):∀u∈ew L,u.oneCell'=true:=fun u hu=>by
 obtain⟨i,_,h⟩:=List.mem_flatMap.1 hu
 simp only[dT,List.mem_cons,List.not_mem_nil,or_false] at h
 rcases h with rfl | rfl | rfl | rfl | rfl | rfl | rfl | rfl | rfl | rfl <;> rfl
theorem aa9{ops:Array Oper}{rest:List Oper}{o:Oper}{a:Act}{Q:Exit→Act→World→Prop}(w2:World)(hgd:o.guard=none)(s x:Operand)
 (ho:o.op= .call {callee:=.builtin .append,args:=#[s,x],argTypes:=#[27,27]}) (B:Nat) (A1:Option Addr) (n1 c1:Nat) (L:List eC) (hs:a.eval s= .slice A1 n1 c1) (hown:ij w2 B A1 n1 c1 L)
 (i:eC) (arr:Array Value) (fo:arr.toList=(dT i).toList) (ty:TypeId)
 (hx:a.eval x= .slice (some ⟨w2.heap.size,0,none⟩) 1 1) (hsz:n1+1≤100000) (hB:B≤w2.heap.size)
 (h:∀A' c' w',ij w' B A' (n1+1) c' (L++[i])→dl A1 w2 w'→Below B w2 w'→wpList Tryz.prog ops Q rest (a.put o.dst (.slice A' (n1+1) c')) w'):wpList Tryz.prog ops Q (o :: rest) a (w2.alloc (.cells arr ty)):=by
 obtain⟨i0,cw,hz0,hz1,hz2⟩:=info_parts Ry
 have Si:ew [i]=(dT i).toList:=by simp[ew]
 refine aP _ hgd s x 27 ho B 43 i0 _ 10 80 Tryz.underlying27 cw hz0 hz1 hz2 rfl (by omega) _ n1 _ hs (hown.alloc _).1 (w2.heap.size+1) _ 1 1 (ew [i]) hx (by rw[AK];rfl) (dr w2 _ _ _ (by rw[fo,Si])) (Ny _) (by simp only[maxLen];omega) (by omega) (by simp;omega) ?_
 intro A' c' w' h1 h2 h3
 exact h A' c' w' ⟨by rw[Oi];exact h1,by rw[List.length_append,hown.2];rfl⟩ (dl.lit h2) (aI ((ak (ac w2) _).mono hB) (hown.alloc _).1 h2 (by simp;omega))
def fP(l:List Int):Nat→Nat→Int→List eC×Nat×Int
 |0,p,x=>([],p,x)
 |k+1,p,x=>
  let a:=pJ l p x
  let r:=fP l k a.2.1 a.2.2
  (a.1 :: r.1,r.2)
def dh(l:List Int):List eC×Int×Int:=
 if l.length<6 then([],0,3)
 else if l.take 6≠[75,73,78,79,82,65] then([],0,2)
 else
  let c:=aG l 6 0 4
  let r:=fP l c.1 c.2.1 c.2.2
  if r.2.2≠0 then([],0,r.2.2)
  else if c.1=0 then([],0,2)
  else if r.1.any (fun i=> !jw i)then([],0,2)
  else if l.length-r.2.1<4 then([],0,3)
  else if df ((l.drop r.2.1).take 4)≠(fC (l.take r.2.1)).toNat then([],0,5)
  else(r.1,(r.2.1+4:Nat),0)
abbrev fF:=Int×Int×Int
def tV(ls:List fF)(k:Nat):Int:=(ls.getD k (0,0,0)).1
def tT(ls:List fF)(k:Nat):Int:=(ls.getD k (0,0,0)).2.1
def vn(ls:List fF)(k:Nat):Int:=(ls.getD k (0,0,0)).2.2
def gH(ch:Int)(f t g:Int):Bool:=decide (0≤f) && decide (f<ch) && decide (0≤t) && decide (t<ch) && !(f == t) && decide (-1024≤g) && decide (g≤1024)
theorem jD{ch f t g:Int}:gH ch f t g=true↔0≤f∧f<ch∧0≤t∧t<ch∧f≠t∧ -1024≤g∧g≤1024:=by simp[gH,and_assoc]
theorem gG{ch f t g:Int}(h:¬(0≤f∧f<ch∧0≤t∧t<ch∧f≠t∧ -1024≤g∧g≤1024)):gH ch f t g=false:=by
 cases e:gH ch f t g with
 |false=>rfl
 |true=>exact absurd (jD.1 e) h
def eX(ls:List fF)(ch:Int):Bool:=decide (1≤ch) && decide (ch≤8) && decide (ls.length≤16) && ls.all fun s=>gH ch s.1 s.2.1 s.2.2
theorem gI{ls:List fF}{ch:Int}:eX ls ch=true↔1≤ch∧ch≤8∧ls.length≤16∧∀k,k<ls.length→gH ch (tV ls k) (tT ls k) (vn ls k)=true:=by
 simp only[eX,Bool.and_eq_true,decide_eq_true_eq,List.all_eq_true,and_assoc]
 refine and_congr Iff.rfl (and_congr Iff.rfl (and_congr Iff.rfl ⟨fun h k hk=> ?_,fun h s hs=> ?_⟩))
 ·have:=h ls[k] (agt hk)
  simpa [tV,tT,vn,hk] using this
 ·obtain⟨k,hk,rfl⟩:=List.getElem_of_mem hs
  simpa [tV,tT,vn,hk] using h k hk
theorem qE{ls:List fF}{ch:Int}(h:¬(1≤ch∧ch≤8∧ls.length≤16∧∀k,k<ls.length→gH ch (tV ls k) (tT ls k) (vn ls k)=true)):eX ls ch=false:=by
 cases e:eX ls ch with
 |false=>rfl
 |true=>exact absurd (gI.1 e) h
theorem Nk{ls:List fF}{ch:Int}(h:eX ls ch=true):∀s∈ls,gH ch s.1 s.2.1 s.2.2=true:=by
 simp only[eX,Bool.and_eq_true,List.all_eq_true] at h
 exact h.2
def im(w:World)(B:Nat)(A:Option Addr)(ls:List fF):Prop:=
 0<ls.length→∃b off,A=some ⟨b,off,none⟩∧b<B∧∀i,i<ls.length→w.cell? ⟨b,off+i*3,none⟩=some (.int .i64 (tV ls i))∧w.cell? ⟨b,off+i*3+1,none⟩=some (.int .i64 (tT ls i))∧w.cell? ⟨b,off+i*3+2,none⟩=some (.int .i64 (vn ls i))
theorem im.below{w w':World}{B:Nat}{A:Option Addr}{ls:List fF}(h:im w B A ls)(hb:Below B w w'):im w' B A ls:=fun h0=>by
 obtain⟨b,off,e,hB,hc⟩:=h h0
 exact⟨b,off,e,hB,fun i hi=>⟨(hb.cell (p:=⟨b,off+i*3,none⟩) hB).trans (hc i hi).1,(hb.cell (p:=⟨b,off+i*3+1,none⟩) hB).trans (hc i hi).2.1,(hb.cell (p:=⟨b,off+i*3+2,none⟩) hB).trans (hc i hi).2.2⟩⟩
theorem im.more{w:World}{B B2:Nat}{A:Option Addr}{ls:List fF}(h:im w B A ls)(hB:B≤B2):im w B2 A ls:=fun h0=>by
 obtain⟨b,off,e,hb,hc⟩:=h h0
 exact⟨b,off,e,by omega,hc⟩
theorem im.at_{w:World}{B:Nat}{A:Option Addr}{ls:List fF}(h:im w B A ls){i:Nat}(hi:i<ls.length):
 ∃b off,A=some ⟨b,off,none⟩∧w.cell? ⟨b,off+i*3,none⟩=some (.int .i64 (tV ls i))∧w.cell? ⟨b,off+i*3+1,none⟩=some (.int .i64 (tT ls i))∧w.cell? ⟨b,off+i*3+2,none⟩=some (.int .i64 (vn ls i)):=by
 obtain⟨b,off,e,_,hc⟩:=h (by omega)
 exact⟨b,off,e,hc i hi⟩
theorem im.nil{w:World}{B:Nat}{A:Option Addr}:im w B A []:=fun h=>absurd h (by simp)
theorem mO(ls:List fF)(n:Nat)(hn:n=ls.length)(hm:n≤9223372036854775807)(ch:Int)(A:Option Addr)(c:Nat)(w:World)(hs:im w w.heap.size A ls):
 Calls Tryz.prog 132 #[.slice A n c,.int .i64 ch] w fun e w'=>e= .returned (.bool (eX ls ch))∧Below w.heap.size w w':=by
 have Hn:=aa hn
 by_cases h1:ch<1
 ·have hr:=aa (qE (ls:=ls) (ch:=ch) (by omega))
  clear hn
  go_enter Tryz.func132,Tryz.ntmps132
  go_wp2
  go_ret
  exact⟨aC hr.out.symm,ac w⟩
 by_cases h2:8<ch
 ·have hr:=aa (qE (ls:=ls) (ch:=ch) (by omega))
  clear hn
  go_enter Tryz.func132,Tryz.ntmps132
  go_wp2
  go_ret
  exact⟨aC hr.out.symm,ac w⟩
 by_cases h3:16<n
 ·have hr:=aa (qE (ls:=ls) (ch:=ch) (by omega))
  have hI:(16:Int)<(n:Int):=by omega
  clear hn
  go_enter Tryz.func132,Tryz.ntmps132
  go_wp2
  go_ret
  exact⟨aC hr.out.symm,ac w⟩
 have hI:(n:Int)≤16:=by omega
 have n16:n≤16:=by omega
 have Pa:Hid ((∀k,k<ls.length→gH ch (tV ls k) (tT ls k) (vn ls k)=true)→eX ls ch=true):=fun h=>gI.2 ⟨by omega,by omega,by omega,h⟩
 have Lz:Hid (∀k,k<ls.length→gH ch (tV ls k) (tT ls k) (vn ls k)=false→eX ls ch=false):=fun k hk h=>qE fun h'=>by rw[h'.2.2.2 k hk] at h;cases h
 clear hn h3
 go_enter Tryz.func132,Tryz.ntmps132
 go_wp2
 go_loopw [6,20] (fun _ iv wr=>(∃k:Nat,k≤n∧iv= .int .i64 k∧∀j,j<k→gH ch (tV ls j) (tT ls j) (vn ls j)=true)∧Below w.heap.size w wr) (fun _ iv _=>n-(intOf iv).toNat)
 case atStart=>exact⟨⟨0,agw _,rfl,fun j h=>absurd h (by omega)⟩,ac w⟩
 case round=>
  obtain⟨⟨k,hk,rfl,hj⟩,hbl⟩:=hrel
  have Hj:=aa hj
  have Hb:=aa hbl
  clear hj hbl
  by_cases hlt:k<n
  ·have jV:k<ls.length:=by rw[←Hn.out];exact hlt
   obtain⟨b1,o1,rfl,hc1,hc2,hc3⟩:=(hs.below Hb.out).at_ jV
   have nz1:=World.new_ne wr _ hc1
   have nz2:=World.new_ne wr _ hc2
   have nz3:=World.new_ne wr _ hc3
   have FR:Hid (gH ch (tV ls k) (tT ls k) (vn ls k)=false→eX ls ch=false):=Lz.out k jV
   obtain⟨f,hf⟩:∃f,f=tV ls k:=⟨_,rfl⟩
   obtain⟨t,ht⟩:∃t,t=tT ls k:=⟨_,rfl⟩
   obtain⟨g,hg⟩:∃g,g=vn ls k:=⟨_,rfl⟩
   rw[←hf] at hc1
   rw[←ht] at hc2
   rw[←hg] at hc3
   rw[←hf,←ht,←hg] at FR
   have HF:=aa hf
   have HT:=aa ht
   have HG:=aa hg
   clear hf ht hg
   by_cases a0:f<0
   ·have hr:=aa (FR.out (gG (by omega)))
    go_wp2
    go_ret
    exact⟨aC hr.out.symm,ak Hb.out _⟩
   by_cases a1:ch≤f
   ·have hr:=aa (FR.out (gG (by omega)))
    go_wp2
    go_ret
    exact⟨aC hr.out.symm,ak Hb.out _⟩
   by_cases a2:t<0
   ·have hr:=aa (FR.out (gG (by omega)))
    go_wp2
    go_ret
    exact⟨aC hr.out.symm,ak Hb.out _⟩
   by_cases a3:ch≤t
   ·have hr:=aa (FR.out (gG (by omega)))
    go_wp2
    go_ret
    exact⟨aC hr.out.symm,ak Hb.out _⟩
   by_cases a4:f=t
   ·have hr:=aa (FR.out (gG (by omega)))
    have heq:(f == t)=true:=by simp[a4]
    clear a4
    go_wp2
    go_ret
    exact⟨aC hr.out.symm,ak Hb.out _⟩
   have hne:(f == t)=false:=by simp[a4]
   by_cases a5:g< -1024
   ·have hr:=aa (FR.out (gG (by omega)))
    go_wp2
    go_ret
    exact⟨aC hr.out.symm,ak Hb.out _⟩
   by_cases a6:1024<g
   ·have hr:=aa (FR.out (gG (by omega)))
    go_wp2
    go_ret
    exact⟨aC hr.out.symm,ak Hb.out _⟩
   have dU:Hid (gH ch f t g=true):=jD.2 ⟨by omega,by omega,by omega,by omega,a4,by omega,by omega⟩
   clear a4
   go_wp2
   go_roundw
   case rel=>
    refine⟨⟨k+1,by omega,by go_num,fun j h=> ?_⟩,ak Hb.out _⟩
    by_cases e:j=k
    ·subst e;rw[←HF.out,←HT.out,←HG.out];exact dU.out
    ·exact Hj.out j (by omega)
   case measure=>simp[intOf];omega
  ·have hr:=aa (Pa.out fun j hj=>Hj.out j (by have:=Hn.out;omega))
   go_wp2
   go_ret
   exact⟨aC hr.out.symm,Hb.out⟩
def eY:List fF→List Value
 |[]=>[]
 |s :: ls=>.int .i64 s.1 :: .int .i64 s.2.1 :: .int .i64 s.2.2 :: eY ls
theorem mZ:∀ls:List fF,(eY ls).length=ls.length*3
 |[]=>rfl
 |s :: ls=>by simp only[eY,List.length_cons,mZ ls];omega
theorem Fi:∀a b:List fF,eY (a++b)=eY a++eY b
 |[],b=>rfl
 |s :: a,b=>by simp[eY,Fi a b]
theorem Fg:∀(ls:List fF),∀u∈eY ls,u.oneCell'=true
 |[],u,h=>by simp[eY] at h
 |s :: ls,u,h=>by
  simp only[eY,List.mem_cons] at h
  rcases h with rfl | rfl | rfl | h
  ·rfl
  ·rfl
  ·rfl
  ·exact Fg ls u h
theorem xP:∀(ls:List fF) (i:Nat),i<ls.length→(eY ls)[i*3]? =some (.int .i64 (tV ls i))∧(eY ls)[i*3+1]? =some (.int .i64 (tT ls i))∧(eY ls)[i*3+2]? =some (.int .i64 (vn ls i))
 |[],i,h=>by simp at h
 |s :: ls,0,h=>⟨rfl,rfl,rfl⟩
 |s :: ls,i+1,h=>by
  have:=xP ls i (by simpa using h)
  have e1:(i+1)*3=i*3+3:=by omega
  have e2:(i+1)*3+1=i*3+1+3:=by omega
  have e3:(i+1)*3+2=i*3+2+3:=by omega
  rw[e1]
  exact this
theorem Wm{w:World}{B:Nat}{A:Option Addr}{ls:List fF}(h:im w B A ls):Rd w B A (eY ls):=fun h0=>by
 rw[mZ] at h0
 obtain⟨b,off,e,hB,hc⟩:=h (by omega)
 refine⟨b,off,e,hB,fun j u hu=> ?_⟩
 have hj:j<ls.length*3:=by rw[←mZ];exact(List.getElem?_eq_some_iff.1 hu).1
 obtain⟨i,hi⟩:∃i,i=j/3:=⟨_,rfl⟩
 have hi':i<ls.length:=by omega
 obtain⟨f1,f2,f3⟩:=xP ls i hi'
 obtain⟨g1,g2,g3⟩:=hc i hi'
 have h3:j=i*3∨j=i*3+1∨j=i*3+2:=by omega
 rcases h3 with rfl | rfl | rfl
 ·rw[f1] at hu;cases hu;exact g1
 ·rw[f2] at hu;cases hu;exact g2
 ·rw[f3] at hu;cases hu;exact g3
theorem Kq{w:World}{B:Nat}{A:Option Addr}{ls:List fF}(h:Rd w B A (eY ls)):im w B A ls:=fun h0=>by
 obtain⟨b,off,e,hB,hc⟩:=h (by rw[mZ];omega)
 refine⟨b,off,e,hB,fun i hi=> ?_⟩
 obtain⟨f1,f2,f3⟩:=xP ls i hi
 exact⟨hc _ _ f1,hc _ _ f2,hc _ _ f3⟩
theorem QM{w:World}{B n c:Nat}{A:Option Addr}{ls:List fF}{e:TypeId}(h:w.ownsRow B e 3 (.slice A n c) n (eY ls)):im w w.heap.size A ls:=Kq (ip h)
theorem Nj:(Tryz.prog.info? 227).map (fun i=>(i.zero,i.size,i.bytes))=some (some (.agg #[.int .i64 0,.int .i64 0,.int .i64 0]),3,24):=by kernel_rfl
theorem ac8{ops:Array Oper}{rest:List Oper}{o:Oper}{a:Act}{Q:Exit→Act→World→Prop}(w:World)(hgd:o.guard=none)(s x:Operand)
 (ho:o.op= .call {callee:=.builtin .append,args:=#[s,x],argTypes:=#[92,92]}) (B:Nat) (A1:Option Addr) (n1 c1:Nat) (l1:List fF) (hs:a.eval s= .slice A1 n1 c1) (hown:w.ownsRow B 227 3 (.slice A1 n1 c1) n1 (eY l1))
 (B1:Nat) (A:Option Addr) (n c:Nat) (l2:List fF) (hx:a.eval x= .slice A n c) (hn:n=l2.length) (hr:im w B1 A l2) (hsz:n1+n≤100000) (hB:B≤w.heap.size)
 (h:∀A' c' w',w'.ownsRow B 227 3 (.slice A' (n1+n) c') (n1+n) (eY (l1++l2))→w.grownBy w' (Value.slice A1 n1 c1).ownBlock→((Value.slice A' (n1+n) c').ownBlock=(Value.slice A1 n1 c1).ownBlock∨(Value.slice A' (n1+n) c').ownBlock=some w.heap.size)→wpList Tryz.prog ops Q rest (a.put o.dst (.slice A' (n1+n) c')) w'):wpList Tryz.prog ops Q (o :: rest) a w:=by
 obtain⟨i0,cw,hz0,hz1,hz2⟩:=info_parts Nj
 refine aP w hgd s x 92 ho B 227 i0 _ 3 24 Tryz.underlying92 cw hz0 hz1 hz2 rfl (by omega) _ n1 _ hs hown B1 A n c (eY l2) hx (by rw[mZ,hn]) (Wm hr) (Fg _) (by simp only[maxLen];omega) (by omega) hB ?_
 intro A' c' w' h1 h2 h3
 rw[←Fi] at h1
 exact h A' c' w' h1 h2 h3
end
end Go.Proofs.YtbhfpehgacaidaaGreatDoor
