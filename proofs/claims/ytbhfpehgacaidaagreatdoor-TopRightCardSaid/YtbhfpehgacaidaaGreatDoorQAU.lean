/- A part of the proof of the given statement TopRight. Conditions: none. -/
import Derived.Lib.SlBytesConst
import Derived.Test.YtbhfpehgacaidaaGreatDoorQAT
namespace Go.Proofs.YtbhfpehgacaidaaGreatDoor
set_option linter.unusedVariables false
set_option linter.unusedSimpArgs false
set_option maxRecDepth 100000
set_option maxHeartbeats 8000000
section
open Go.RowKit
theorem FN(y:Nat)(hy:y<256):bits .and .u8 (y:Int) 15=((y%16:Nat):Int):=by
 have key:∀y:Fin 256,bits .and .u8 ((y.1:Nat):Int) 15=((y.1%16:Nat):Int):=by decide+kernel
 exact key ⟨y,hy⟩
theorem pK{L:List Mk}(h:∀m∈L,BK m)(hl:L.length≤400):aH (ox L)∧(ox L).length≤20000:=by
 refine⟨fun x hx=> ?_, ?_⟩
 ·unfold ox at hx
  rcases agC.1 hx with h1 | h1
  ·exact xi L _ x h1
  ·exact kE _ _ x h1
 ·unfold ox
  rw[List.length_append,aS]
  have:=qL h hl L.length
  omega
theorem N9(E:List (El Pg))(n:Nat)(hn:n=E.length)(hm:n≤400)(hs:dM E)(KZ:∀t∈E,t.1.body.length≤t.2.2∧t.2.2≤maxLen)(A:Option Addr)(B c:Nat)(w:World)(hB:B≤w.heap.size)(ha:iE gY w B A E):
 Calls Tryz.prog 34 #[.slice A n c] w (dF (dy (E.map (·.1)),0) w):=by
 have WP:=QU E n hn hm hs KZ A B c w hB ha
 have dU:=BI (P:=E.map (·.1)) (fun p hp=>by obtain⟨t,ht,rfl⟩:=List.mem_map.1 hp;exact(hs t ht).1)
 have Sj:(om (E.map (·.1))).length≤400:=by
  have:=List.length_filterMap_le ia (E.map (·.1))
  rw[List.length_map] at this
  unfold om
  omega
 have Ge:dy (E.map (·.1))=iI (ox (om (E.map (·.1))))++bM (iI (ox (om (E.map (·.1))))).length 4++[75,69,78,68]:=rfl
 have Gd:=pK dU Sj
 generalize dy (E.map (·.1))=TT at*
 generalize om (E.map (·.1))=M at*
 have hib:=fun (W:World) (A2:Option Addr) (B2 c2:Nat) (YZ:B2≤W.heap.size) (h2:Rd W B2 A2 (fY M))=>xj M M.length rfl Sj dU A2 B2 c2 W YZ h2
 generalize ox M=X at*
 have Hof:=aa WP
 have Hib:=aa hib
 have Htl:=aa Ge
 obtain⟨hx1,hx2⟩:=Gd
 have Hx1:=aa hx1
 clear WP dU hib Ge hs KZ ha hx1 hn
 go_enter Tryz.func34,Tryz.ntmps34
 go_wp2_with (first
  |(go_at_call 68;(with_reducible refine Hof.out.mono ?_);rintro e w1 ⟨A1,c1,rfl,cM,b1⟩;have hc2:=Hib.out w1 A1 w1.heap.size c1 (agl _) (ip cM.1))
  |(go_at_call 67;(with_reducible refine hc2.mono ?_);rintro e w2 ⟨A2,c2,rfl,cD,b2⟩;dsimp only at cD ⊢))
 have B2:=aa (af b1 b2)
 have O2:=aa cD
 obtain⟨k,hk⟩:∃k,k=X.length:=⟨_,rfl⟩
 rw[←hk] at hx2 O2 ⊢
 have Hk:=aa hk
 clear hk cD b1 b2 cM
 go_loopw [6,8,20] (fun ov _ iv wr=>(∃(i:Nat) (A3:Option Addr) (c3:Nat),i≤k∧iv= .int .i64 i∧ov= .slice A3 (2*i) c3∧aq wr w2.heap.size A3 (2*i) c3 (iI (X.take i)))∧Below w2.heap.size w2 wr) (fun _ _ iv _=>k-(intOf iv).toNat)
 case atStart=>exact⟨⟨0,none,0,agw _,rfl,rfl,aq.nil _ _⟩,ac w2⟩
 case round=>
  obtain⟨⟨i,A3,c3,hi,rfl,rfl,hO⟩,hb⟩:=hrel
  obtain⟨wo,rfl⟩:∃wo:World,wo=wr:=⟨_,rfl⟩
  have HO:=aa hO
  have HB:=aa hb
  clear hO hb
  by_cases hlt:i<k
  ·have nQ:(i:Int)<(k:Int):=by omega
   have hiX:i<X.length:=by have:=Hk.out;omega
   obtain⟨b,off,rfl,x0⟩:=(O2.out.ints.below HB.out).at_ hiX
   have Jt:=Hx1.out.ix_ hiX
   have qc:Hid (iI (X.take (i+1))=iI (X.take i)++[96+ix X i/16,96+ix X i%16]):=Av hiX
   generalize ix X i=x at*
   obtain⟨y,rfl⟩:∃y:Nat,x=(y:Int):=⟨x.toNat,by omega⟩
   have hy:y<256:=by omega
   have a1:bits .and .u8 (y:Int) 15=((y%16:Nat):Int):=FN y hy
   obtain⟨xx,hh4⟩:∃v:Nat,v=y/16:=⟨_,rfl⟩
   obtain⟨Ni,hl4⟩:∃v:Nat,v=y%16:=⟨_,rfl⟩
   rw[←hl4] at a1
   have e1:(y:Int)/16=(xx:Int):=by omega
   have e2:(96:Int)+(xx:Int)<256:=by omega
   have e3:(96:Int)+(Ni:Int)<256:=by omega
   have aac:Hid (iI (X.take (i+1))=iI (X.take i)++[96+(xx:Int),96+(Ni:Int)]):=by
    show _=_
    rw[qc.out,e1,show (y:Int)%16=(Ni:Int)by omega]
   have u1:IntKind.u8.wrap (96+(xx:Int))=96+(xx:Int):=by rw[IntKind.wrap_u8];omega
   have u2:IntKind.u8.wrap (96+(Ni:Int))=96+(Ni:Int):=by rw[IntKind.wrap_u8];omega
   clear qc Jt hh4 hl4
   go_wp2_with (at_builtin;refine cF _ rfl (.tmp 24) (.tmp 31) rfl w2 A3 (2*i) c3 _ rfl (HO.out.below (ak (ac wo) _) (agl _)) (wo.heap.size+1) _ 2 2 [96+(xx:Int),96+(Ni:Int)] rfl rfl (dH wo .u8 _ _ _ rfl) (by omega) (ak HB.out _) ?_;intro A5 c5 w5 bT b5)
   exact⟨⟨⟨i+1,A5,c5,by omega,by go_num,rfl,by rw[aac.out];exact bT⟩,b5⟩,by simp[intOf];omega⟩
  ·obtain rfl:i=k:=by omega
   have nQ:¬(i:Int)<(i:Int):=by omega
   obtain⟨HX,Xs⟩:∃HX,HX=iI X:=⟨_,rfl⟩
   obtain⟨h9,WW⟩:∃h9,h9=2*i:=⟨_,rfl⟩
   have Ew:HX.length=h9:=by rw[Xs,xA,WW,Hk.out]
   have hO:=HO.out
   rw[List.take_of_length_le (by rw[Hk.out];exact agl _),←Xs,←WW] at hO
   have Da:=aa hO
   have hTT:Hid (TT=HX++bM h9 4++[75,69,78,68]):=by show _=_;rw[Htl.out,←Xs,Ew]
   have adI:h9≤50000:=by omega
   have u1:IntKind.u64.wrap (h9:Int)=(h9:Int):=agq _ (by omega)
   have Hxl:=aa Ew
   have aaJ:byteCells ⟨#[75,69,78,68]⟩=([75,69,78,68]:List Int).map (.int .u8):=rfl
   rw[←WW]
   clear Xs Ew hO HO Htl WW
   go_wp2_with (first
    |(go_at_call 69;(with_reducible refine(js h9 (by omega) _).mono ?_);rintro e w5 ⟨A5,c5,rfl,bT,b5⟩;have O5:=Da.out.below b5 (agl _))
    |(at_builtin;refine cF _ rfl (.tmp 34) (.tmp 38) rfl w2 A3 h9 c3 HX rfl O5 _ A5 4 c5 (bM h9 4) rfl (aS _ _) bT.ints (by omega) (af HB.out b5) ?_;intro A7 c7 w7 fQ b7)
    |(at_builtin;refine Lr _ rfl (.tmp 40) _ rfl w2 A7 (h9+4) c7 _ rfl fQ ⟨#[75,69,78,68]⟩ rfl (by decide) [75,69,78,68] aaJ (show h9+4+4≤1000000 by omega) b7 ?_;intro A6 c6 w6 dC b6))
   go_ret2
   have CS:(HX++bM h9 4++[75,69,78,68]).length=h9+4+4:=by rw[List.length_append,List.length_append,aS,Hxl.out];rfl
   rw[hTT.out]
   have hbf:=af B2.out b6
   have WP:=aq.base dC B2.out.size
   refine⟨A6,c6, ?_, ?_,hbf⟩
   ·show _=Ending.returned (.tuple #[.slice A6 (HX++bM h9 4++[75,69,78,68]).length c6,.int .i64 0])
    rw[CS];rfl
   ·show aq _ _ A6 (HX++bM h9 4++[75,69,78,68]).length c6 (HX++bM h9 4++[75,69,78,68])
    rw[CS];exact WP
theorem Nt(E:List (El Pg))(n:Nat)(hn:n=E.length)(hm:n≤400)(hs:dM E)(KZ:∀t∈E,t.1.body.length≤t.2.2∧t.2.2≤maxLen)(A:Option Addr)(B c:Nat)(w:World)(hB:B≤w.heap.size)(ha:iE gY w B A E):
 Calls Tryz.prog 18 #[.slice A n c] w (XQ (dy (E.map (·.1))) w):=by
 have WP:=QU E n hn hm hs KZ A B c w hB ha
 have dU:=BI (P:=E.map (·.1)) (fun p hp=>by obtain⟨t,ht,rfl⟩:=List.mem_map.1 hp;exact(hs t ht).1)
 have Sj:(om (E.map (·.1))).length≤400:=by
  have:=List.length_filterMap_le ia (E.map (·.1))
  rw[List.length_map] at this
  unfold om
  omega
 have Ge:dy (E.map (·.1))=iI (ox (om (E.map (·.1))))++bM (iI (ox (om (E.map (·.1))))).length 4++[75,69,78,68]:=rfl
 have Gd:=pK dU Sj
 generalize dy (E.map (·.1))=TT at*
 generalize om (E.map (·.1))=M at*
 have hib:=fun (W:World) (A2:Option Addr) (B2 c2:Nat) (YZ:B2≤W.heap.size) (h2:Rd W B2 A2 (fY M))=>xj M M.length rfl Sj dU A2 B2 c2 W YZ h2
 generalize ox M=X at*
 have Hof:=aa WP
 have Hib:=aa hib
 have Htl:=aa Ge
 obtain⟨hx1,hx2⟩:=Gd
 have Hx1:=aa hx1
 clear WP dU hib Ge hs KZ ha hx1 hn
 go_enter Tryz.func18,Tryz.ntmps18
 go_wp2_with (first
  |(go_at_call 68;(with_reducible refine Hof.out.mono ?_);rintro e w1 ⟨A1,c1,rfl,cM,b1⟩;have hc2:=Hib.out w1 A1 w1.heap.size c1 (agl _) (ip cM.1))
  |(go_at_call 67;(with_reducible refine hc2.mono ?_);rintro e w2 ⟨A2,c2,rfl,cD,b2⟩;dsimp only at cD ⊢))
 have B2:=aa (af b1 b2)
 have O2:=aa cD
 obtain⟨k,hk⟩:∃k,k=X.length:=⟨_,rfl⟩
 rw[←hk] at hx2 O2 ⊢
 have Hk:=aa hk
 clear hk cD b1 b2 cM
 go_loopw [5,7,16] (fun ov _ iv wr=>(∃(i:Nat) (A3:Option Addr) (c3:Nat),i≤k∧iv= .int .i64 i∧ov= .slice A3 (2*i) c3∧aq wr w2.heap.size A3 (2*i) c3 (iI (X.take i)))∧Below w2.heap.size w2 wr) (fun _ _ iv _=>k-(intOf iv).toNat)
 case atStart=>exact⟨⟨0,none,0,agw _,rfl,rfl,aq.nil _ _⟩,ac w2⟩
 case round=>
  obtain⟨⟨i,A3,c3,hi,rfl,rfl,hO⟩,hb⟩:=hrel
  obtain⟨wo,rfl⟩:∃wo:World,wo=wr:=⟨_,rfl⟩
  have HO:=aa hO
  have HB:=aa hb
  clear hO hb
  by_cases hlt:i<k
  ·have nQ:(i:Int)<(k:Int):=by omega
   have hiX:i<X.length:=by have:=Hk.out;omega
   obtain⟨b,off,rfl,x0⟩:=(O2.out.ints.below HB.out).at_ hiX
   have Jt:=Hx1.out.ix_ hiX
   have qc:Hid (iI (X.take (i+1))=iI (X.take i)++[96+ix X i/16,96+ix X i%16]):=Av hiX
   generalize ix X i=x at*
   obtain⟨y,rfl⟩:∃y:Nat,x=(y:Int):=⟨x.toNat,by omega⟩
   have hy:y<256:=by omega
   have a1:bits .and .u8 (y:Int) 15=((y%16:Nat):Int):=FN y hy
   obtain⟨xx,hh4⟩:∃v:Nat,v=y/16:=⟨_,rfl⟩
   obtain⟨Ni,hl4⟩:∃v:Nat,v=y%16:=⟨_,rfl⟩
   rw[←hl4] at a1
   have e1:(y:Int)/16=(xx:Int):=by omega
   have e2:(96:Int)+(xx:Int)<256:=by omega
   have e3:(96:Int)+(Ni:Int)<256:=by omega
   have aac:Hid (iI (X.take (i+1))=iI (X.take i)++[96+(xx:Int),96+(Ni:Int)]):=by
    show _=_
    rw[qc.out,e1,show (y:Int)%16=(Ni:Int)by omega]
   have u1:IntKind.u8.wrap (96+(xx:Int))=96+(xx:Int):=by rw[IntKind.wrap_u8];omega
   have u2:IntKind.u8.wrap (96+(Ni:Int))=96+(Ni:Int):=by rw[IntKind.wrap_u8];omega
   clear qc Jt hh4 hl4
   go_wp2_with (at_builtin;refine cF _ rfl (.tmp 20) (.tmp 27) rfl w2 A3 (2*i) c3 _ rfl (HO.out.below (ak (ac wo) _) (agl _)) (wo.heap.size+1) _ 2 2 [96+(xx:Int),96+(Ni:Int)] rfl rfl (dH wo .u8 _ _ _ rfl) (by omega) (ak HB.out _) ?_;intro A5 c5 w5 bT b5)
   exact⟨⟨⟨i+1,A5,c5,by omega,by go_num,rfl,by rw[aac.out];exact bT⟩,b5⟩,by simp[intOf];omega⟩
  ·obtain rfl:i=k:=by omega
   have nQ:¬(i:Int)<(i:Int):=by omega
   obtain⟨HX,Xs⟩:∃HX,HX=iI X:=⟨_,rfl⟩
   obtain⟨h9,WW⟩:∃h9,h9=2*i:=⟨_,rfl⟩
   have Ew:HX.length=h9:=by rw[Xs,xA,WW,Hk.out]
   have hO:=HO.out
   rw[List.take_of_length_le (by rw[Hk.out];exact agl _),←Xs,←WW] at hO
   have Da:=aa hO
   have hTT:Hid (TT=HX++bM h9 4++[75,69,78,68]):=by show _=_;rw[Htl.out,←Xs,Ew]
   have adI:h9≤50000:=by omega
   have u1:IntKind.u64.wrap (h9:Int)=(h9:Int):=agq _ (by omega)
   have Hxl:=aa Ew
   have aaJ:byteCells ⟨#[75,69,78,68]⟩=([75,69,78,68]:List Int).map (.int .u8):=rfl
   rw[←WW]
   clear Xs Ew hO HO Htl WW
   go_wp2_with (first
    |(go_at_call 69;(with_reducible refine(js h9 (by omega) _).mono ?_);rintro e w5 ⟨A5,c5,rfl,bT,b5⟩;have O5:=Da.out.below b5 (agl _))
    |(at_builtin;refine cF _ rfl (.tmp 30) (.tmp 34) rfl w2 A3 h9 c3 HX rfl O5 _ A5 4 c5 (bM h9 4) rfl (aS _ _) bT.ints (by omega) (af HB.out b5) ?_;intro A7 c7 w7 fQ b7)
    |(at_builtin;refine Lr _ rfl (.tmp 36) _ rfl w2 A7 (h9+4) c7 _ rfl fQ ⟨#[75,69,78,68]⟩ rfl (by decide) [75,69,78,68] aaJ (show h9+4+4≤1000000 by omega) b7 ?_;intro A6 c6 w6 dC b6))
   go_ret
   have CS:(HX++bM h9 4++[75,69,78,68]).length=h9+4+4:=by rw[List.length_append,List.length_append,aS,Hxl.out];rfl
   rw[hTT.out]
   have hbf:=af B2.out b6
   have WP:=aq.base dC B2.out.size
   refine⟨A6,c6, ?_, ?_,hbf⟩
   ·show _=Ending.returned (.slice A6 (HX++bM h9 4++[75,69,78,68]).length c6)
    rw[CS];rfl
   ·show aq _ _ A6 (HX++bM h9 4++[75,69,78,68]).length c6 (HX++bM h9 4++[75,69,78,68])
    rw[CS];exact WP
def Jq(I:List eC)(j:Nat):List Int:=[75,73,78,79,82,65]++bU [(I.length:Int)]++(I.take j).flatMap kw
theorem EN{I:List eC}{j:Nat}(h:j<I.length):Jq I (j+1)=Jq I j++kw I[j]:=by
 unfold Jq
 rw[agx h,List.flatMap_append,←List.append_assoc]
 simp
theorem KX(I:List eC):Jq I I.length=lV I:=by unfold Jq lV;rw[List.take_length]
theorem KN{i:eC}(h:jw i=true):(1≤i.rn∧i.rn≤1048576∧1≤i.rd∧i.rd≤1048576)∧((i.kd=1∧1≤i.fr∧i.fr≤1048576∧1≤i.fc∧i.fc≤8∧4≤i.fb∧i.fb≤24∧i.s1=0∧i.s2=0∧i.s3=0∧i.s4=0)∨(i.kd=2∧1≤i.s1∧i.s1≤64∧1≤i.s2∧i.s2≤64∧1≤i.s3∧i.s3≤16∧1≤i.s4∧i.s4≤4∧i.fr=0∧i.fc=0∧i.fb=0)):=by
 unfold jw qw sV pQ WD at h
 rw[Bool.and_eq_true] at h
 obtain⟨h1,h2⟩:=h
 have h1:=of_decide_eq_true h1
 refine⟨h1, ?_⟩
 split at h2
 ·simp only[Bool.and_eq_true,decide_eq_true_eq] at h2
  left;omega
 ·split at h2
  ·simp only[Bool.and_eq_true,decide_eq_true_eq] at h2
   right;omega
  ·simp at h2
theorem uW{L:List Int}{n:Nat}(hn:n=L.length)(hm:n≤4)(hb:∀x∈L,0≤x∧x<18446744073709551616)(W:World)(g:Nat)(hg:g=W.heap.size)(arr:Array Value)(fo:arr.toList=L.map (.int .u64)):
 Calls Tryz.prog 85 #[.slice (some ⟨g,0,none⟩) n n] (W.alloc (.cells arr 83)) (XQ (bU L) (W.alloc (.cells arr 83))):=by
 subst hg
 exact qz L n hn (by omega) (fun i hi=>hb _ (lg hi)) (some ⟨W.heap.size,0,none⟩) (W.heap.size+1) n _ (dH W .u64 L _ _ fo) (by simp)
theorem jC{L:List Int}(hm:L.length≤4)(hb:∀x∈L,0≤x∧x<18446744073709551616):(bU L).length≤40:=by
 have:=iZ L (fun x hx=>(hb x hx).2)
 omega
theorem RB{i:eC}(h:jw i=true):(kw i).length≤80:=by
 obtain⟨h1,h2⟩:=KN h
 unfold kw
 rw[List.length_append]
 have a1:(bU [i.kd,i.rn,i.rd]).length≤40:=jC (by simp) (fun x hx=>by simp at hx;omega)
 split
 ·have a2:(bU [i.fr,i.fc,i.fb]).length≤40:=jC (by simp) (fun x hx=>by simp at hx;omega)
  omega
 ·have a2:(bU [i.s1,i.s2,i.s3,i.s4]).length≤40:=jC (by simp) (fun x hx=>by simp at hx;omega)
  omega
theorem Cm{I:List eC}(hI:∀i∈I,jw i=true)(h4:I.length≤4):∀j,j≤I.length→(Jq I j).length≤46+80*j
 |0,_=>by
  have a1:(bU [(I.length:Int)]).length≤40:=jC (by simp) (fun x hx=>by simp at hx;omega)
  simp[Jq];omega
 |j+1,h=>by
  have:=Cm hI h4 j (by omega)
  have h2:=RB (hI _ (agt (show j<I.length by omega)))
  rw[EN (by omega),List.length_append]
  omega
theorem FM{ops:Array Oper}{rest:List Oper}{o:Oper}{a:Act}{Q:Exit→Act→World→Prop}(w:World)(hgd:o.guard=none)(s x:Operand)
 (ho:o.op= .call {callee:=.builtin .append,args:=#[s,x],argTypes:=#[22,22]}) (W0:World) (ad:Addr) (n:Nat) (B0:Nat) (xs:List Int) (hs:a.eval s= .slice (some ad) n n) (hl0:xs.length=n) (hn0:0<n) (hr0:ag .u8 w B0 (some ad) xs)
 (B1:Nat) (A:Option Addr) (m c:Nat) (news:List Int) (hx:a.eval x= .slice A m c) (hl:news.length=m) (Sr:0<m) (hr:ag .u8 w B1 A news) (hsz:n+m≤100000) (hb:Below W0.heap.size W0 w)
 (h:∀A' c' w',aq w' W0.heap.size A' (n+m) c' (xs++news)→Below W0.heap.size W0 w'→wpList Tryz.prog ops Q rest (a.put o.dst (.slice A' (n+m) c')) w'):wpList Tryz.prog ops Q (o :: rest) a w:=by
 obtain⟨i0,cw,hz0,hz1,hz2⟩:=info_parts fD
 obtain⟨b,off,rfl,_,hc⟩:=hr.lt (by omega)
 obtain⟨b0,ae6,e0,_,hc0⟩:=hr0.lt (by omega)
 have cZ:∀j u,(news.map (Value.int .u8))[j]? =some u→w.cell? ((⟨b,off,none⟩:Addr).add j)=some u:=fun j u hu=>by
  have hj:j<news.length:=by have:=(List.getElem?_eq_some_iff.1 hu).1;simpa using this
  rw[eH hj] at hu
  have hu:=Option.some.inj hu
  subst hu
  rw[Addr.add_lit]
  exact hc j hj
 have Xf:∀j u,(xs.map (Value.int .u8))[j]? =some u→w.drew.cell? (ad.add j)=some u:=fun j u hu=>by
  have hj:j<xs.length:=by have:=(List.getElem?_eq_some_iff.1 hu).1;simpa using this
  rw[eH hj] at hu
  have hu:=Option.some.inj hu
  subst hu
  have e0:=Option.some.inj e0
  rw[e0,Addr.add_lit]
  exact hc0 j hj
 have WI:=Src.ofSlice (P:=Tryz.prog) w (size:=i0.size) Tryz.underlying22 ⟨b,off,none⟩ m c (news.map (.int .u8)) (by rw[hz1];simp[hl]) cZ (bY _ _)
 have hold:(Builtin.firstCells i0.size n (.slice (some ad) n n)).run Tryz.prog w.drew= .ok ((xs.map (Value.int .u8)).toArray) w.drew:=by
  rw[hz1]
  exact run_firstCells_some w.drew 1 n ad n n _ (by simp[hl0]) Xf
 have hrun:=run_append_grow_src (P:=Tryz.prog) w 22 22 o.type 5 i0 _ Tryz.underlying22 cw hz0 (some ad) n n _ hold (.slice (some ⟨b,off,none⟩) m c) m _ WI (by omega) (by omega) (by rw[hz2];exact growslice_fits (by omega) (by omega))
 refine wpList_plain hgd fun _ hK=> ?_
 unfold Oper.wp execOp
 simp only[ho,resolve,invoke,builtin,Sem.run_bind,Sem.run_pure,Result.andThen_ok,List.map_toArray,List.map_cons,List.map_nil,hs,hx,hrun]
 have WX:=grownCap_ge w (n+m) n 5
 have hcm:grownCap w (n+m) n 5≤maxLen:=grownCap_le_maxLen w (n+m) n 5 (by simp only[maxLen];omega)
 have hlen:(xs.map (Value.int .u8)++news.map (Value.int .u8)).length=(n+m)*1:=by simp[hl0,hl]
 refine hK _ _ (h (some ⟨w.heap.size,0,none⟩) (grownCap w (n+m) n 5) _ ?_ ?_)
 ·unfold aq
  rw[List.map_append]
  refine⟨hlen,.inr ⟨w.heap.size,_,_,rfl,hb.size,ago w.drew _,WX,hcm, ?_, ?_⟩⟩
  ·simp only[Array.size_append,List.size_toArray,size_zeroCells,hlen]
   simp[Value.cells]
   omega
  ·simp only[Array.toList_append]
   rw[←hlen]
   exact List.take_left
 ·exact ak hb.drew _
theorem AV{w:World}{C:Array Value}{t:TypeId}{fr:Nat×Nat}{l:List Int}(h:C.toList=l.map (.int .u8)):ag .u8 (w.alloc (.cells C t fr)) (w.heap.size+1) (some ⟨w.heap.size,0,none⟩) l:=fun _=>by
 refine⟨w.heap.size,0,rfl,by omega,fun i u hu=> ?_⟩
 rw[Nat.zero_add,World.cell?_alloc_mark w C t fr i,←Array.getElem?_toList,h]
 exact hu
theorem Jn(I:List eC)(k:Nat)(hk:k=I.length)(h4:k≤4)(hI:∀i∈I,jw i=true)(A:Option Addr)(B c:Nat)(w:World)(hB:B≤w.heap.size)(ha:Rd w B A (ew I)):
 Calls Tryz.prog 35 #[.slice A k c] w (XQ (mU I) w):=by
 have Hk:=aa hk
 have HL:=aa (Cm hI (by omega))
 have h0:[75,73,78,79,82,65]++bU [(k:Int)]=Jq I 0:=by rw[hk];simp[Jq]
 have H0:=aa h0
 have u1:IntKind.u64.wrap (k:Int)=(k:Int):=agq _ (by omega)
 have adN:(bU [(k:Int)]).length≤40:=jC (by simp) (fun x hx=>by simp at hx;omega)
 have hcv:=Lib.run_convert_bytes_const (P:=Tryz.prog) w 22 5 #[.int .u8 75,.int .u8 73,.int .u8 78,.int .u8 79,.int .u8 82,.int .u8 65] 6 6 Tryz.underlying22 Tryz.underlying5
 obtain⟨wl,Ey⟩:∃wl,wl=w.alloc (.cells #[.int .u8 75,.int .u8 73,.int .u8 78,.int .u8 79,.int .u8 82,.int .u8 65] 5 (6,7)):=⟨_,rfl⟩
 have aaB:(convert 22 22 (.slice (some ⟨w.heap.size,0,none⟩) 6 6)).run Tryz.prog (w.alloc (.cells #[.int .u8 75,.int .u8 73,.int .u8 78,.int .u8 79,.int .u8 82,.int .u8 65] 5))= .ok (.slice (some ⟨w.heap.size,0,none⟩) 6 6) wl:=by rw[Ey];exact hcv
 have bl:Below w.heap.size w wl:=by rw[Ey];exact ak (ac w) _
 have hzl:wl.heap.size=w.heap.size+1:=by rw[Ey];simp
 have il:ag .u8 wl wl.heap.size (some ⟨w.heap.size,0,none⟩) [75,73,78,79,82,65]:=by rw[hzl,Ey];exact AV rfl
 have Hl:=aa il
 have Hzl:=aa hzl
 have Bl:=aa bl
 have Gh:=uW (L:=[(k:Int)]) (n:=1) rfl (by omega) (fun x hx=>by simp at hx;omega) wl wl.heap.size rfl #[.int .u64 (k:Int)] rfl
 have Hp0:=aa Gh
 have aak:0<(bU [(k:Int)]).length:=by
  have:j9 (k:Int).toNat≠[]:=by rw[Int.toNat_natCast,nH (by omega)];simp
  simp only[bU,List.flatMap_cons,List.flatMap_nil,List.append_nil]
  exact List.length_pos_iff.2 this
 obtain⟨P0,hP0⟩:∃P0,P0=bU [(k:Int)]:=⟨_,rfl⟩
 rw[←hP0] at H0 Hp0 adN aak
 clear Gh h0 hk hP0 hcv Ey bl hzl il
 go_enter Tryz.func35,Tryz.ntmps35
 go_wp2_with (first
  |(go_at_call 85;(with_reducible refine Hp0.out.mono ?_);rintro e w2 ⟨A2,c2,rfl,cD,b2⟩;have I2:=Hl.out.below ((ak (ac wl) _).trans (b2.mono (ak (ac wl) (.cells #[.int .u64 (k:Int)] 83)).size)))
  |(at_builtin;refine FM _ rfl (.tmp 8) (.tmp 13) rfl w _ 6 _ _ rfl rfl (by omega) I2 _ A2 P0.length c2 P0 rfl rfl aak cD.ints (by omega) (af Bl.out (af (ak (ac wl) _) b2)) ?_;intro A3 c3 w3 bF b3))
 rw[H0.out] at bF
 have oD:=aa bF
 have B3:=aa b3
 obtain⟨n3,hn3⟩:∃n3,n3=6+P0.length:=⟨_,rfl⟩
 rw[←hn3] at oD ⊢
 have adV:Hid (n3=(Jq I 0).length):=by show _=_;rw[←H0.out,hn3];simp;omega
 clear bF b3 Hp0 H0 aak hn3 cD b2 I2 aaB
 go_loopw [3,5,6,17] (fun ov _ _ iv wr=>(∃(j n:Nat) (A':Option Addr) (c':Nat),j≤k∧iv= .int .i64 j∧ov= .slice A' n c'∧n=(Jq I j).length∧aq wr w.heap.size A' n c' (Jq I j))∧Below w.heap.size w wr) (fun _ _ _ iv _=>k-(intOf iv).toNat)
 case atStart=>exact⟨⟨0,n3,A3,c3,agw _,rfl,rfl,adV.out,oD.out⟩,B3.out⟩
 case round=>
  obtain⟨⟨j,n,A4,c4,hj,rfl,rfl,hn,hO⟩,hb⟩:=hrel
  obtain⟨wo,rfl⟩:∃wo:World,wo=wr:=⟨_,rfl⟩
  have HO:=aa hO
  have HB:=aa hb
  have Hn:=aa hn
  have hnl:n≤400:=by rw[hn];have:=HL.out j (by have:=Hk.out;omega);omega
  clear hO hb hn oD B3
  by_cases hlt:j<k
  ·have hjI:(j:Int)<(k:Int):=by omega
   have hjL:j<I.length:=by have:=Hk.out;omega
   obtain⟨b,off,rfl,sQ,x0,x1,x2,x3,x4,x5,x6,x7,x8,x9⟩:=xh (ha.below (HB.out.mono hB)) hjL
   have dp:=KN (hI _ (agt hjL))
   have hsu:Hid (Jq I (j+1)=Jq I j++kw I[j]):=EN hjL
   have hdf:Hid (kw I[j]=bU [I[j].kd,I[j].rn,I[j].rd]++(if I[j].kd=1 then bU [I[j].fr,I[j].fc,I[j].fb] else bU [I[j].s1,I[j].s2,I[j].s3,I[j].s4])):=rfl
   generalize kw I[j]=IB at*
   generalize I[j]=i at*
   obtain⟨kd,rn,rd,fr,fc,fb,s1,s2,s3,s4⟩:=i
   dsimp only at*
   obtain⟨⟨h1,h2,h3,h4'⟩,Ae⟩:=dp
   have hkd:1≤kd∧kd≤2:=by omega
   have u2:IntKind.u64.wrap kd=kd:=agq _ (by omega)
   have u3:IntKind.u64.wrap rn=rn:=agq _ (by omega)
   have u4:IntKind.u64.wrap rd=rd:=agq _ (by omega)
   obtain⟨wb,ig⟩:∃wb,wb=wo.alloc (.cells #[.int .i64 kd,.int .i64 rn,.int .i64 rd,.int .i64 fr,.int .i64 fc,.int .i64 fb,.int .i64 s1,.int .i64 s2,.int .i64 s3,.int .i64 s4] 43):=⟨_,rfl⟩
   have Mo:=aa (show wb.heap[wo.heap.size]? =some (.cells #[.int .i64 kd,.int .i64 rn,.int .i64 rd,.int .i64 fr,.int .i64 fc,.int .i64 fb,.int .i64 s1,.int .i64 s2,.int .i64 s3,.int .i64 s4] 43 (0,0))by rw[ig];exact ago wo _)
   have bb:Hid (Below wo.heap.size wo wb):=by rw[ig];exact aa (ak (ac wo) _)
   have Ac:=uW (L:=[kd,rn,rd]) (n:=3) rfl (by omega) (fun x hx=>by simp at hx;omega) wb wb.heap.size rfl #[.int .u64 kd,.int .u64 rn,.int .u64 rd] rfl
   have Jf:(bU [kd,rn,rd]).length≤40:=jC (by simp) (fun x hx=>by simp at hx;omega)
   generalize bU [kd,rn,rd]=P1 at*
   have Hp1:=aa Ac
   have yt:=HO.out.below bb.out (agl _)
   have HOb:=aa yt
   obtain⟨⟨k0,k1,k2,k3,k4,k5,k6,k7,k8,k9⟩⟩:=And.intro (aQ Mo.out) trivial
   clear Ac yt
   go_upto_region 5 with fail
   rw[←ig]
   clear ig x0 x1 x2 x3 x4 x5 x6 x7 x8 x9
   go_upto_region 6 with (first
    |(go_at_call 85;(with_reducible refine Hp1.out.mono ?_);rintro e w2 ⟨A2,c2,rfl,cD,b2⟩;have O2:=(HOb.out.alloc _).below b2 (agl _))
    |(at_builtin;refine aba _ rfl (.tmp 21) (.tmp 34) rfl w.heap.size A4 n c4 _ rfl O2 (af (af HB.out bb.out) (af (ak (ac wb) _) b2)).size _ A2 P1.length c2 P1 rfl rfl cD.ints (by omega) ?_;intro A5 c5 w5 bT EL qN))
   have hne:(Value.slice A4 n c4).ownBlock≠some wo.heap.size:=fun e=>by
    have:=(agB HO.out _ e).2
    omega
   have B2:Below w.heap.size w w2:=af (af HB.out bb.out) (af (ak (ac wb) _) b2)
   have b5:Below w.heap.size w w5:=aI B2 O2 EL B2.size
   have Z6:wo.heap.size<wb.heap.size:=(agn.1 Mo.out).1
   have M2:=(b2.block wo.heap.size (by simp;omega)).trans ((ags wb _ _ Z6).trans Mo.out)
   have M5:=(EL.block wo.heap.size (by have:=b2.size;simp at this;omega) (fun e=>hne e.symm)).trans M2
   have ⟨k0,k1,k2,k3,k4,k5,k6,k7,k8,k9⟩:=aQ M5
   have B5:=aa b5
   have O5:=aa bT
   obtain⟨m,hm⟩:∃m,m=n+P1.length:=⟨_,rfl⟩
   have hmn:m≤440:=by omega
   rw[←hm] at O5 ⊢
   have Hm:=aa hm
   clear bT EL qN b5 B2 M2 M5 b2 cD O2 hm
   by_cases h9:kd=1
   ·have hkb:(kd == 1)=true:=by rw[h9];rfl
    have hr:=(by omega:1≤fr∧fr≤1048576∧1≤fc∧fc≤8∧4≤fb∧fb≤24)
    have SJ:IB=P1++bU [fr,fc,fb]:=by rw[hdf.out,if_pos h9]
    have v1:IntKind.u64.wrap fr=fr:=agq _ (by omega)
    have v2:IntKind.u64.wrap fc=fc:=agq _ (by omega)
    have v3:IntKind.u64.wrap fb=fb:=agq _ (by omega)
    have lS:=uW (L:=[fr,fc,fb]) (n:=3) rfl (by omega) (fun x hx=>by simp at hx;omega) (w5.alloc (.cells #[.int .i64 fr,.int .i64 fc,.int .i64 fb] 37)) (w5.heap.size+1) (by simp) #[.int .u64 fr,.int .u64 fc,.int .u64 fb] rfl
    have yJ:(bU [fr,fc,fb]).length≤40:=jC (by simp) (fun x hx=>by simp at hx;omega)
    generalize bU [fr,fc,fb]=P2 at*
    have Hp2:=aa lS
    have Us:=aa SJ
    have H9:=aa h9
    clear lS SJ hdf Ae h9
    go_wp2_with (first
     |(go_at_call 85;(with_reducible refine Hp2.out.mono ?_);rintro e w6 ⟨A6,c6,rfl,dC,b6⟩;have O6:=((O5.out.alloc _).alloc _).below b6 (agl _))
     |(at_builtin;refine cF _ rfl (.tmp 41) (.tmp 52) rfl w A5 m c5 _ rfl O6 _ A6 P2.length c6 P2 rfl rfl dC.ints (by omega) (af B5.out (af (ak (ak (ac w5) _) _) b6)) ?_;intro A7 c7 w7 fQ b7))
    refine⟨⟨⟨j+1,m+P2.length,A7,c7,by omega,by go_num,rfl, ?_, ?_⟩,b7⟩,by simp[intOf];omega⟩
    ·rw[hsu.out,List.length_append,←Hn.out,Us.out,List.length_append,Hm.out];omega
    ·rw[hsu.out,Us.out,←List.append_assoc];exact fQ
   ·have hkb:(kd == 1)=false:=by rw[beq_eq_false_iff_ne];exact h9
    have hr:=(by omega:1≤s1∧s1≤64∧1≤s2∧s2≤64∧1≤s3∧s3≤16∧1≤s4∧s4≤4)
    have SJ:IB=P1++bU [s1,s2,s3,s4]:=by rw[hdf.out,if_neg h9]
    have v1:IntKind.u64.wrap s1=s1:=agq _ (by omega)
    have v2:IntKind.u64.wrap s2=s2:=agq _ (by omega)
    have v3:IntKind.u64.wrap s3=s3:=agq _ (by omega)
    have v4:IntKind.u64.wrap s4=s4:=agq _ (by omega)
    have lS:=uW (L:=[s1,s2,s3,s4]) (n:=4) rfl (by omega) (fun x hx=>by simp at hx;omega) w5 w5.heap.size rfl #[.int .u64 s1,.int .u64 s2,.int .u64 s3,.int .u64 s4] rfl
    have yJ:(bU [s1,s2,s3,s4]).length≤40:=jC (by simp) (fun x hx=>by simp at hx;omega)
    generalize bU [s1,s2,s3,s4]=P2 at*
    have Hp2:=aa lS
    have Us:=aa SJ
    have H9:=aa h9
    clear lS SJ hdf Ae h9
    go_wp2_with (first
     |(go_at_call 85;(with_reducible refine Hp2.out.mono ?_);rintro e w6 ⟨A6,c6,rfl,dC,b6⟩;have O6:=(O5.out.alloc _).below b6 (agl _))
     |(at_builtin;refine cF _ rfl (.tmp 54) (.tmp 68) rfl w A5 m c5 _ rfl O6 _ A6 P2.length c6 P2 rfl rfl dC.ints (by omega) (af B5.out (af (ak (ac w5) _) b6)) ?_;intro A7 c7 w7 fQ b7))
    refine⟨⟨⟨j+1,m+P2.length,A7,c7,by omega,by go_num,rfl, ?_, ?_⟩,b7⟩,by simp[intOf];omega⟩
    ·rw[hsu.out,List.length_append,←Hn.out,Us.out,List.length_append,Hm.out];omega
    ·rw[hsu.out,Us.out,←List.append_assoc];exact fQ
  ·obtain rfl:j=k:=by omega
   have hjI:¬(j:Int)<(j:Int):=by omega
   have hall:Jq I j=lV I:=by rw[Hk.out];exact KX I
   have hHd:mU I=lV I++bM (fC (lV I)).toNat 4:=rfl
   have hby:aH (lV I):=by
    unfold lV
    intro x hx
    rcases agC.1 hx with h1 | h1
    ·rcases agC.1 h1 with h2 | h2
     ·simp at h2;omega
     ·exact gX _ x h2
    ·obtain⟨i,_,h2⟩:=List.mem_flatMap.1 h1
     unfold kw at h2
     rcases agC.1 h2 with h3 | h3
     ·exact gX _ x h3
     ·split at h3
      ·exact gX _ x h3
      ·exact gX _ x h3
   rw[hall] at HO Hn
   generalize mU I=RR at*
   generalize lV I=L0 at*
   obtain⟨cr,mW⟩:∃cr:Nat,cr=(fC L0).toNat:=⟨_,rfl⟩
   have YO:cr<4294967296:=by rw[mW];exact(fC L0).isLt
   have u3:IntKind.u64.wrap (cr:Int)=(cr:Int):=agq _ (by omega)
   have RN:=dW L0 hby n Hn.out (by omega) A4 wo.heap.size c4 wo HO.out.ints
   rw[←mW] at RN hHd
   have Hth:=aa RN
   have HHd:=aa hHd
   clear RN hby mW hHd hall
   go_wp2_with (first
    |(go_at_call 55;(with_reducible refine Hth.out.mono ?_);rintro e w' ⟨rfl,rfl⟩)
    |(go_at_call 69;(with_reducible refine(js cr (by omega) _).mono ?_);rintro e w5 ⟨A5,c5,rfl,bT,b5⟩;have O5:=HO.out.below b5 (agl _))
    |(at_builtin;refine cF _ rfl (.tmp 71) (.tmp 75) rfl w A4 n c4 L0 rfl O5 _ A5 4 c5 (bM cr 4) rfl (aS _ _) bT.ints (by omega) (af HB.out b5) ?_;intro A6 c6 w6 dC b6))
   go_ret
   have CS:(L0++bM cr 4).length=n+4:=by rw[List.length_append,aS,Hn.out]
   rw[HHd.out]
   refine⟨A6,c6, ?_, ?_,b6⟩
   ·show _=Ending.returned (.slice A6 (L0++bM cr 4).length c6)
    rw[CS];rfl
   ·show aq _ _ A6 (L0++bM cr 4).length c6 (L0++bM cr 4)
    rw[CS];exact dC
theorem Ky(P:List Pg):(om P).length≤P.length:=List.length_filterMap_le ia P
theorem vE(F:List Pg)(h4:F.length≤400)(hb:∀p∈F,aH p.body):(dy F).length≤60*F.length+40:=by
 have h1:=Ky F
 have h2:=qL (BI hb) (by omega) (om F).length
 unfold dy
 rw[List.length_append,List.length_append,aS,xA]
 unfold ox
 rw[List.length_append,aS]
 simp
 omega
theorem Jm(I:List eC)(h4:I.length≤4)(hI:∀i∈I,jw i=true):(mU I).length≤500:=by
 have:=Cm hI h4 I.length (agl _)
 rw[KX] at this
 unfold mU
 rw[List.length_append,aS]
 omega
theorem xJ(I:List eC)(k:Nat)(hk:k=I.length)(jx:1≤k)(hk4:k≤4)(hI:∀i∈I,jw i=true)(A1:Option Addr)(B c1:Nat)(w:World)(hB:B≤w.heap.size)(ha:Rd w B A1 (ew I))
 (T:List fT) (hkT:k=T.length) (hT:∀t∈T,t.1.length≤400∧∀e∈t.1,e.1.data.length≤60000) (A2:Option Addr) (c2:Nat) (hr:OW w B A2 T)
 (L:List Pk) (hL:nu (DX T)=(L,0)) (PG:L.length≤300) (hLd:∀p∈L,p.data.length≤65540) (P:List Pg) (hP:eM L=(P,0)) (nS:P.length≤300) (hPb:∀p∈P,aH p.body∧p.body.length≤255)
 (F:List Pg) (hF:cz P=(F,0)) (hFl:F.length≤260) (hFb:∀p∈F,aH p.body∧p.body.length≤255) (hFo:MI F=true):
 Calls Tryz.prog 8 #[.slice A1 k c1,.slice A2 k c2] w (dF (mU I++fd F++dy F,0) w):=by
 have hbl:iJ F=(fd F,0):=by unfold iJ;rw[if_pos hFo]
 have hall:=fun W (hb:Below B w W) (hBW:B≤W.heap.size)=>Lt T k hkT hT A2 B c2 W hBW (hr.below hb) (by omega)
 rw[hL] at hall
 have hsp:=fun (E:List (El Pk)) (W:World) (Ax:Option Addr) (Bx cx:Nat) (hB:Bx≤W.heap.size) (he:E.map (·.1)=L) (h:iE iA W Bx Ax E)=>show Calls _ _ _ _ (yb (P,0) W)from by have:=zf E L.length (by rw[←he];simp) PG (fun t ht=>hLd _ (by rw[←he];exact List.mem_map.2 ⟨t,ht,rfl⟩)) Ax Bx cx W hB h;rw[he,hP] at this;exact this
 have hsm:=fun (Q:List Pg) (hQ:∀p∈Q,aH p.body∧p.body.length≤255) (E:List (El Pg)) (he:E.map (·.1)=Q)=>show dM E from fun t ht=>hQ _ (by rw[←he];exact List.mem_map.2 ⟨t,ht,rfl⟩)
 have hgu:=fun (E:List (El Pg)) (W:World) (Ax:Option Addr) (Bx cx:Nat) (hB:Bx≤W.heap.size) (hc:P.length≤cx) (he:E.map (·.1)=P) (h:iE gY W Bx Ax E)=>show Calls _ _ _ _ (yb (F,0) W)from by have:=wO E P.length (by rw[←he];simp) nS (hsm P hPb E he) Ax Bx cx hc W hB h;rw[he,hF] at this;exact this
 have hby:=fun (E:List (El Pg)) (W:World) (Ax:Option Addr) (Bx cx:Nat) (hB:Bx≤W.heap.size) (he:E.map (·.1)=F) (h:iE gY W Bx Ax E)=>show Calls _ _ _ _ (dF (fd F,0) W)from by have:=wR E F.length (by rw[←he];simp) (by omega) (hsm F hFb E he) Ax Bx cx W hB h;rw[he,hbl] at this;exact this
 have hta:=fun (E:List (El Pg)) (W:World) (Ax:Option Addr) (Bx cx:Nat) (hB:Bx≤W.heap.size) (he:E.map (·.1)=F) (EO:∀t∈E,t.1.body.length≤t.2.2∧t.2.2≤maxLen) (h:iE gY W Bx Ax E)=>show Calls _ _ _ _ (dF (dy F,0) W)from by have:=N9 E F.length (by rw[←he];simp) (by omega) (hsm F hFb E he) EO Ax Bx cx W hB h;rw[he] at this;exact this
 have ml:=fun (W:World) (hb:Below B w W) (hBW:B≤W.heap.size)=>Jn I k hk hk4 hI A1 B c1 W hBW (Rd.below ha hb)
 have hbn:(fd F).length≤69420:=by have:=rf F (fun p hp=>(hFb p hp).2);omega
 have htn:=vE F (by omega) (fun p hp=>(hFb p hp).1)
 have hhn:=Jm I (by omega) hI
 have uR:=aa hall
 have Vb:=aa hsp
 have Hgu:=aa hgu
 have Hby:=aa hby
 have Hta:=aa hta
 have Gy:=aa ml
 have Hk:=aa hk
 have HI:=aa hI
 generalize mU I=HO at*
 generalize dy F=TO at*
 clear hbl
 generalize fd F=BO at*
 have hg1:¬(k:Int)<1:=by omega
 have hg4:¬(4:Int)<(k:Int):=by omega
 have hgk:((k:Int) != (k:Int))=false:=by simp
 clear hall hsp hsm hgu hby hta ml hL hP hF hk hI hkT hT hr hLd hPb hFb hFo
 go_enter Tryz.func8,Tryz.ntmps8
 go_wp2_with fail
 go_loopw [7,30] (fun _ iv wr=>(∃i:Nat,i≤k∧iv= .int .i64 i)∧Below w.heap.size w wr) (fun _ iv _=>k-(intOf iv).toNat)
 case atStart=>exact⟨⟨0,agw _,rfl⟩,ac w⟩
 case round=>
  obtain⟨⟨i,hi,rfl⟩,hb⟩:=hrel
  obtain⟨wo,rfl⟩:∃wo:World,wo=wr:=⟨_,rfl⟩
  have HB:=aa hb
  clear hb
  by_cases hlt:i<k
  ·have nQ:(i:Int)<(k:Int):=by omega
   have CT:i<I.length:=by have:=Hk.out;omega
   obtain⟨b,off,rfl,sQ,x0,x1,x2,x3,x4,x5,x6,x7,x8,x9⟩:=xh (Rd.below ha (HB.out.mono hB)) CT
   have bK:=xN I[i]
   rw[HI.out _ (agt CT)] at bK
   generalize I[i]=vi at*
   obtain⟨i0,i1,i2,i3,i4,i5,i6,i7,i8,i9⟩:=vi
   unfold ku at bK
   dsimp only at*
   have Pc:=aa bK
   clear bK
   go_wp2_with (go_at_call 32;(with_reducible refine(Pc.out _).mono ?_);rintro e w4 ⟨rfl,b4⟩)
   exact⟨⟨⟨i+1,by omega,by go_num⟩,af HB.out (af (ak (ac wo) _) b4)⟩,by simp[intOf];omega⟩
  ·obtain rfl:i=k:=by omega
   have nQ:¬(i:Int)<(i:Int):=by omega
   have kJ:B≤wo.heap.size:=agm hB HB.out.size
   have Xn:=uR.out wo (HB.out.mono hB) kJ
   have Hal:=aa Xn
   clear Xn
   go_wp2_with (first
    |(go_at_call 33;(with_reducible refine Hal.out.mono ?_);rintro e w1 ⟨A3,c3,E3,rfl,bF,YN,b1⟩;dsimp only at bF YN ⊢;have hc:=Vb.out E3 w1 A3 w1.heap.size c3 (agl _) YN bF.rd;have He3:=aa YN;clear YN)
    |(go_at_call 24;(with_reducible refine hc.mono ?_);clear hc;rintro e w2 ⟨A4,c4,E4,rfl,bE,Gr,b2⟩;dsimp only at bE Gr ⊢;have hd:=Hgu.out E4 w2 A4 w2.heap.size c4 (agl _) (bJ bE.row).1 Gr bE.rd;have He4:=aa Gr;clear Gr)
    |(go_at_call 22;(with_reducible refine hd.mono ?_);clear hd;rintro e w3 ⟨A5,c5,E5,rfl,bT,KV,b3⟩;dsimp only at bT KV ⊢;have hf:=Hby.out E5 w3 A5 w3.heap.size c5 (agl _) KV bT.rd;have He5:=aa KV;clear KV)
    |(go_at_call 20;(with_reducible refine hf.mono ?_);clear hf;rintro e w4 ⟨A6,c6,rfl,dC,b4⟩;dsimp only at dC ⊢;have ht:=Hta.out E5 w4 A5 w3.heap.size c5 b4.size He5.out bT.cap (bT.rd.below b4))
    |(go_at_call 34;(with_reducible refine ht.mono ?_);clear ht;rintro e w5 ⟨A7,c7,rfl,fQ,b5⟩;dsimp only at fQ ⊢;have O6:=dC.below b5 (agl _);have B5:=af (af (af (af (af HB.out b1) b2) b3) b4) b5;have hh:=Gy.out w5 (B5.mono hB) (agm hB B5.size))
    |(go_at_call 35;(with_reducible refine hh.mono ?_);clear hh;rintro e w6 ⟨A8,c8,rfl,mj,b6⟩)
    |(at_builtin;refine cF _ rfl (.tmp 79) (.tmp 80) rfl w5 A8 HO.length c8 HO rfl mj _ A6 BO.length c6 BO rfl rfl (O6.below b6 (agl _)).ints (by omega) b6 ?_;intro A9 c9 w7 lh b9)
    |(at_builtin;refine cF _ rfl (.tmp 81) (.tmp 82) rfl w5 A9 (HO.length+BO.length) c9 _ rfl lh _ A7 TO.length c7 TO rfl rfl (fQ.below b9 (agl _)).ints (by omega) b9 ?_;intro A0 c0 w8 ho0 b0))
   go_ret2
   have CS:(HO++BO++TO).length=HO.length+BO.length+TO.length:=by rw[List.length_append,List.length_append]
   refine⟨A0,c0, ?_, ?_,af B5 b0⟩
   ·show _=Ending.returned (.tuple #[.slice A0 (HO++BO++TO).length c0,.int .i64 0])
    rw[CS];rfl
   ·show aq _ _ A0 (HO++BO++TO).length c0 (HO++BO++TO)
    rw[CS];exact aq.base ho0 B5.size
theorem Dm{L M:List Int}(hL:aH L)(hM:aH M)(h:strOfNums L=strOfNums M):L=M:=by
 have h1:(strOfNums L).data.toList=(strOfNums M).data.toList:=by rw[h]
 have e:∀K:List Int,aH K→K=((strOfNums K).data.toList).map (fun b:UInt8=>(b.toNat:Int)):=fun K hK=>by
  apply List.ext_getElem
  ·simp[strOfNums]
  ·intro i h2 h3
   have:=hK.ix_ h2
   rw[dQ h2] at this
   simp[strOfNums]
   omega
 rw[e L hL,e M hM,h1]
theorem vv(l m:List Int)(n k:Nat)(hn:n=l.length)(hk:k=m.length)(hl:aH l)(hm:aH m)(A A2:Option Addr)(B B2 c c2:Nat)(w:World)(ha:ag .u8 w B A l)(hb:ag .u8 w B2 A2 m):
 Calls Tryz.prog 21 #[.slice A n c,.slice A2 k c2] w fun e w'=>e= .returned (.bool (decide (l=m)))∧w'=w:=by
 have c1:=kC (w:=w) (c:=c) hn ha
 have c2':=kC (w:=w) (c:=c2) hk hb
 by_cases h:l=m
 ·rw[decide_eq_true h]
  rw[←h] at c2'
  generalize strOfNums l=S at*
  clear hn hk ha hb h
  go_enter Tryz.func21,Tryz.ntmps21
  go_wp2_with fail
  go_ret
  exact⟨by simp,rfl⟩
 ·rw[decide_eq_false h]
  have hs:¬strOfNums l=strOfNums m:=fun e=>h (Dm hl hm e)
  generalize strOfNums l=S at*
  generalize strOfNums m=T at*
  have hs2:(S.toList == T.toList)=false:=beq_eq_false_iff_ne.2 fun e=>hs (ByteArray.ext (Array.toList_inj.1 (by rw[←ByteArray.toList_eq,←ByteArray.toList_eq];exact e)))
  clear hn hk ha hb h
  go_enter Tryz.func21,Tryz.ntmps21
  go_wp2_with fail
  go_ret
  exact⟨by simp[hs],rfl⟩
theorem Mc(l m:List Int)(n k:Nat)(hn:n=l.length)(hk:k=m.length)(hl:aH l)(hm:aH m)(A A2:Option Addr)(B B2 c c2:Nat)(w:World)(ha:ag .u8 w B A l)(hb:ag .u8 w B2 A2 m):
 Calls Tryz.prog 9 #[.slice A n c,.slice A2 k c2] w fun e w'=>e= .returned (.bool (decide (l=m)))∧w'=w:=by
 have c1:=kC (w:=w) (c:=c) hn ha
 have c2':=kC (w:=w) (c:=c2) hk hb
 by_cases h:l=m
 ·rw[decide_eq_true h]
  rw[←h] at c2'
  generalize strOfNums l=S at*
  clear hn hk ha hb h
  go_enter Tryz.func9,Tryz.ntmps9
  go_wp2_with fail
  go_ret
  exact⟨by simp,rfl⟩
 ·rw[decide_eq_false h]
  have hs:¬strOfNums l=strOfNums m:=fun e=>h (Dm hl hm e)
  generalize strOfNums l=S at*
  generalize strOfNums m=T at*
  have hs2:(S.toList == T.toList)=false:=beq_eq_false_iff_ne.2 fun e=>hs (ByteArray.ext (Array.toList_inj.1 (by rw[←ByteArray.toList_eq,←ByteArray.toList_eq];exact e)))
  clear hn hk ha hb h
  go_enter Tryz.func9,Tryz.ntmps9
  go_wp2_with fail
  go_ret
  exact⟨by simp[hs],rfl⟩
def LR(m l:List Int):Bool:=decide (m.length≤l.length) && decide (l.drop (l.length-m.length)=m)
theorem Qg(m l:List Int):LR m l=decide (m<:+l):=by
 unfold LR
 rw[Bool.eq_iff_iff,Bool.and_eq_true,decide_eq_true_eq,decide_eq_true_eq,decide_eq_true_eq]
 constructor
 ·rintro ⟨h1,h2⟩
  have h3:=List.take_append_drop (l.length-m.length) l
  rw[h2] at h3
  exact⟨_,h3⟩
 ·rintro ⟨t,rfl⟩
  refine⟨by simp, ?_⟩
  rw[List.length_append,Nat.add_sub_cancel,List.drop_left]
theorem Vv(l m:List Int)(n k:Nat)(hn:n=l.length)(hk:k=m.length)(jx:1≤k)(xu:n≤100000)(hk9:k≤100000)(hl:aH l)(hm:aH m)(A A2:Option Addr)(B B2 c c2:Nat)(hc:n≤c)(w:World)(ha:ag .u8 w B A l)(hb:ag .u8 w B2 A2 m):
 Calls Tryz.prog 28 #[.slice A n c,.slice A2 k c2] w fun e w'=>e= .returned (.bool (decide (m<:+l)))∧w'=w:=by
 rw[←Qg]
 by_cases h:k≤n
 ·have hI:(n:Int)≥(k:Int):=by omega
  obtain⟨d,hd⟩:∃d,d=n-k:=⟨_,rfl⟩
  obtain⟨b,off,rfl,_,_⟩:=ha.lt (by omega)
  have hdi:(n:Int)-(k:Int)=(d:Int):=by omega
  have wd:IntKind.i64.wrap (d:Int)=(d:Int):=agp _ (by omega)
  have xt:=kt ha d
  have YR:=vv (l.drop d) m (n-d) k (by rw[List.length_drop];omega) hk (hl.drop d) hm (some ⟨b,off+d,none⟩) A2 B B2 (c-d) c2 w xt hb
  have hr:LR m l=decide (l.drop d=m):=by unfold LR;rw[←hn,←hk,decide_eq_true h,Bool.true_and,hd]
  have Hr:=aa hr
  have Hbq:=aa YR
  have hdc:d≤c:=by omega
  have PC:¬(c-d=0):=by omega
  clear hr YR xt ha hb hd hn hk
  go_enter Tryz.func28,Tryz.ntmps28
  go_wp2_with (go_at_call 21;(with_reducible refine Hbq.out.mono ?_);rintro e w' ⟨rfl,rfl⟩)
  go_ret
  rw[Hr.out]
  exact⟨rfl,rfl⟩
 ·have hI:¬(k:Int)≤(n:Int):=by omega
  have hr:LR m l=false:=by unfold LR;rw[←hn,←hk,decide_eq_false h,Bool.false_and]
  have Hr:=aa hr
  clear hr ha hb hn hk
  go_enter Tryz.func28,Tryz.ntmps28
  go_wp2_with fail
  go_ret
  rw[Hr.out]
  exact⟨rfl,rfl⟩
end
end Go.Proofs.YtbhfpehgacaidaaGreatDoor
