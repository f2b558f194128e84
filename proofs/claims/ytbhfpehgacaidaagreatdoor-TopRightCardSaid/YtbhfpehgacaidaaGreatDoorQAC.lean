/- A part of the proof of the given statement TopRight. Conditions: none. -/
import Derived.Laws.BitsAllLaws
import Derived.Test.YtbhfpehgacaidaaGreatDoorQAB
namespace Go.Proofs.YtbhfpehgacaidaaGreatDoor
set_option linter.unusedVariables false
set_option linter.unusedSimpArgs false
set_option maxRecDepth 100000
set_option maxHeartbeats 8000000
section
open Go.RowKit
theorem Cy{l:List Int}{k:Nat}(h:k<l.length):bv (l.take (k+1))=bv (l.take k)++[BitVec.ofInt 8 (ix l k)]:=by rw[bW h];simp[bv]
theorem kY{c:Int}(h0:0≤c)(h1:c<256):(BitVec.ofInt 8 c).toNat=c.toNat:=by
 rw[BitVec.toNat_ofInt];congr 1;omega
theorem adw(s:BitVec 8){c:Int}(h0:0≤c)(h1:c<256):bits .xor .u8 (s.toNat:Int) c=((s ^^^ BitVec.ofInt 8 c).toNat:Int):=by
 have hs:=s.isLt
 rw[u8_xor _ _ (by omega) (by omega) h0 h1,BitVec.toNat_xor,kY h0 h1];rfl
theorem abE(s:BitVec 16){c:Int}(h0:0≤c)(h1:c<256):bits .xor .u16 (s.toNat:Int) (c*256)=((s ^^^ ((BitVec.ofInt 8 c).setWidth 16<<<8)).toNat:Int):=by
 have hs:=s.isLt
 rw[u16_xor _ _ (by omega) (by omega) (by omega) (by omega),BitVec.toNat_xor,BitVec.toNat_shiftLeft,BitVec.toNat_setWidth,kY h0 h1,Nat.shiftLeft_eq]
 congr 2
 omega
theorem abD(s:BitVec 32){c:Int}(h0:0≤c)(h1:c<256):bits .xor .u32 (s.toNat:Int) c=((s ^^^ (BitVec.ofInt 8 c).setWidth 32).toNat:Int):=by
 have hs:=s.isLt
 rw[u32_xor _ _ (by omega) (by omega) (by omega) (by omega),BitVec.toNat_xor,BitVec.toNat_setWidth,kY h0 h1]
 congr 2
 omega
theorem abL(t:BitVec 8)(h:t.toNat/128=1):bits .xor .u8 ((t.toNat:Int)*2%256) 7=((GV 7#8 t).toNat:Int):=by
 rw[nB,if_pos h,u8_xor _ _ (by omega) (by omega) (by omega) (by omega)]
 congr 2
theorem abK(t:BitVec 8)(h:¬t.toNat/128=1):(t.toNat:Int)*2%256=((GV 7#8 t).toNat:Int):=by
 rw[nB,if_neg h];omega
theorem ZF(t:BitVec 16)(h:t.toNat/32768=1):bits .xor .u16 (IntKind.u16.wrap ((t.toNat:Int)*2)) 32773=((GV 0x8005#16 t).toNat:Int):=by
 rw[nB,if_pos h,IntKind.wrap_u16,u16_xor _ _ (by omega) (by omega) (by omega) (by omega)]
 congr 2
theorem ZE(t:BitVec 16)(h:¬t.toNat/32768=1):IntKind.u16.wrap ((t.toNat:Int)*2)=((GV 0x8005#16 t).toNat:Int):=by
 rw[nB,if_neg h,IntKind.wrap_u16];omega
theorem ZC(t:BitVec 32)(h:t.toNat%2=1):bits .xor .u32 ((t.toNat:Int)/2) 3988292384=((Bn 0xedb88320#32 t).toNat:Int):=by
 have hs:=t.isLt
 rw[vH,if_pos h,u32_xor _ _ (by omega) (by omega) (by omega) (by omega)]
 congr 2
theorem ZA(t:BitVec 32)(h:¬t.toNat%2=1):(t.toNat:Int)/2=((Bn 0xedb88320#32 t).toNat:Int):=by
 rw[vH,if_neg h];omega
theorem Kk(t:BitVec 32):bits .and .u32 (t.toNat:Int) 1=((t.toNat%2:Nat):Int):=by
 have hs:=t.isLt
 rw[u32_and _ _ (by omega) (by omega) (by omega) (by omega)]
 show ((t.toNat &&& 1:Nat):Int)=_
 rw[Nat.and_one_is_mod]
theorem Md(s:BitVec 8)(l:List (BitVec 8))(c:BitVec 8):Me s (l++[c])=rV 7#8 8 (Me s l ^^^ c):=by simp[Me,in8]
theorem Hh(s:BitVec 16)(l:List (BitVec 8))(c:BitVec 8):zl s (l++[c])=rV 0x8005#16 8 (zl s l ^^^ (c.setWidth 16<<<8)):=by simp[zl,abY]
theorem He(s:BitVec 32)(l:List (BitVec 8))(c:BitVec 8):zk s (l++[c])=vI 0xedb88320#32 8 (zk s l ^^^ c.setWidth 32):=by simp[zk,abX]
theorem abS(s:BitVec 32):bits .xor .u32 IntKind.u32.max (s.toNat:Int)=((~~~ s).toNat:Int):=by
 have hs:=s.isLt
 have hm:IntKind.u32.max=4294967295:=by decide
 rw[hm,u32_xor _ _ (by omega) (by omega) (by omega) (by omega),BitVec.not_def,BitVec.toNat_xor,BitVec.toNat_allOnes]
 rfl
theorem xS(l:List Int)(hf:aH l)(n:Nat)(hn:n=l.length)(hm:n≤140737488355328)(A:Option Addr)(b c:Nat)(w:World)(ha:ag .u8 w b A l):
 Calls Tryz.prog 149 #[.slice A n c] w fun e w'=>e= .returned (.int .u8 ((JK l).toNat:Int))∧w=w':=by
 subst hn
 go_enter Tryz.func149,Tryz.ntmps149
 go_wp2_with fail
 go_loop [3,9] (fun s i=>∃k:Nat,k≤l.length∧i= .int .i64 k∧s= .int .u8 ((Me 0#8 (bv (l.take k))).toNat:Int)) (fun _ i=>l.length-(intOf i).toNat)
 case atStart=>exact⟨0,agw _,rfl,rfl⟩
 case round=>
  obtain⟨k,hk,rfl,rfl⟩:=hrel
  by_cases hlt:k<l.length
  ·obtain⟨bb,oo,rfl,hc1⟩:=ha.at_ hlt
   obtain⟨x0,x1⟩:=hf.ix_ hlt
   obtain⟨S,hS⟩:∃S,S=Me 0#8 (bv (l.take k)):=⟨_,rfl⟩
   obtain⟨U,hU⟩:∃U,U=S ^^^ BitVec.ofInt 8 (ix l k):=⟨_,rfl⟩
   have hx:=adw S x0 x1
   rw[←hU] at hx
   rw[←hS]
   have HS:=aa hS
   have HU:=aa hU
   have b1:(S.toNat:Int)≤255:=by have:=S.isLt;omega
   clear hS hU
   go_wp2_with fail
   clear hx hc1
   go_loop [3,16] (fun s j=>∃m:Nat,m≤8∧j= .int .i64 m∧s= .int .u8 ((rV 7#8 m U).toNat:Int)) (fun _ j=>8-(intOf j).toNat)
   case atStart=>exact⟨0,agw _,rfl,rfl⟩
   case round=>
    obtain⟨m,Sp,rfl,rfl⟩:=hrel
    by_cases jR:m<8
    ·obtain⟨V,hV⟩:∃V,V=rV 7#8 m U:=⟨_,rfl⟩
     rw[←hV]
     have HV:=aa hV
     clear hV
     have b2:(V.toNat:Int)≤255:=by have:=V.isLt;omega
     have b3:(0:Int)≤(V.toNat:Int):=by omega
     by_cases hb:V.toNat/128=1
     ·obtain⟨X,hX⟩:∃X,X=GV 7#8 V:=⟨_,rfl⟩
      have hs:=abL V hb
      rw[←hX] at hs
      have ht:((V.toNat:Int)/128 == 1)=true:=by simp;omega
      have HX:=aa hX
      clear hX hb
      go_wp2_with fail
      go_round
      case rel=>exact⟨m+1,by omega,by go_num,by show _=Value.int .u8 (((GV 7#8 (rV 7#8 m U))).toNat:Int);rw[←HV.out,←HX.out]⟩
      case measure=>simp[intOf];omega
     ·obtain⟨X,hX⟩:∃X,X=GV 7#8 V:=⟨_,rfl⟩
      have hs:=abK V hb
      rw[←hX] at hs
      have ht:((V.toNat:Int)/128 == 1)=false:=by simp;omega
      have HX:=aa hX
      clear hX hb
      go_wp2_with fail
      go_round
      case rel=>exact⟨m+1,by omega,by go_num,by show _=Value.int .u8 (((GV 7#8 (rV 7#8 m U))).toNat:Int);rw[←HV.out,←HX.out];exact congrArg _ (by omega)⟩
      case measure=>simp[intOf];omega
    ·have e:m=8:=by omega
     subst e
     go_wp2_with fail
     go_round
     case rel=>exact⟨k+1,by omega,by go_num,by rw[Cy hlt,Md,←HS.out,←HU.out]⟩
     case measure=>simp[intOf];omega
  ·have e:k=l.length:=by omega
   subst e
   go_wp2_with fail
   go_ret
   exact⟨rfl,rfl⟩
theorem qq(l:List Int)(hf:aH l)(n:Nat)(hn:n=l.length)(hm:n≤140737488355328)(A:Option Addr)(b c:Nat)(w:World)(ha:ag .u8 w b A l):
 Calls Tryz.prog 99 #[.slice A n c] w fun e w'=>e= .returned (.int .u16 ((um l).toNat:Int))∧w=w':=by
 subst hn
 go_enter Tryz.func99,Tryz.ntmps99
 go_wp2_with fail
 go_loop [3,9] (fun s i=>∃k:Nat,k≤l.length∧i= .int .i64 k∧s= .int .u16 ((zl 0#16 (bv (l.take k))).toNat:Int)) (fun _ i=>l.length-(intOf i).toNat)
 case atStart=>exact⟨0,agw _,rfl,rfl⟩
 case round=>
  obtain⟨k,hk,rfl,rfl⟩:=hrel
  by_cases hlt:k<l.length
  ·obtain⟨bb,oo,rfl,hc1⟩:=ha.at_ hlt
   obtain⟨x0,x1⟩:=hf.ix_ hlt
   obtain⟨S,hS⟩:∃S,S=zl 0#16 (bv (l.take k)):=⟨_,rfl⟩
   obtain⟨U,hU⟩:∃U,U=S ^^^ ((BitVec.ofInt 8 (ix l k)).setWidth 16<<<8):=⟨_,rfl⟩
   have hx:=abE S x0 x1
   rw[←hU] at hx
   rw[←hS]
   have HS:=aa hS
   have HU:=aa hU
   have b1:(S.toNat:Int)≤65535:=by have:=S.isLt;omega
   clear hS hU
   go_wp2_with fail
   clear hx hc1
   go_loop [3,18] (fun s j=>∃m:Nat,m≤8∧j= .int .i64 m∧s= .int .u16 ((rV 0x8005#16 m U).toNat:Int)) (fun _ j=>8-(intOf j).toNat)
   case atStart=>exact⟨0,agw _,rfl,rfl⟩
   case round=>
    obtain⟨m,Sp,rfl,rfl⟩:=hrel
    by_cases jR:m<8
    ·obtain⟨V,hV⟩:∃V,V=rV 0x8005#16 m U:=⟨_,rfl⟩
     rw[←hV]
     have HV:=aa hV
     clear hV
     have b2:(V.toNat:Int)≤65535:=by have:=V.isLt;omega
     have b3:(0:Int)≤(V.toNat:Int):=by omega
     by_cases hb:V.toNat/32768=1
     ·obtain⟨X,hX⟩:∃X,X=GV 0x8005#16 V:=⟨_,rfl⟩
      have hs:=ZF V hb
      rw[←hX] at hs
      have ht:((V.toNat:Int)/32768 == 1)=true:=by simp;omega
      have HX:=aa hX
      clear hX hb
      go_wp2_with fail
      go_round
      case rel=>exact⟨m+1,by omega,by go_num,by show _=Value.int .u16 (((GV 0x8005#16 (rV 0x8005#16 m U))).toNat:Int);rw[←HV.out,←HX.out]⟩
      case measure=>simp[intOf];omega
     ·obtain⟨X,hX⟩:∃X,X=GV 0x8005#16 V:=⟨_,rfl⟩
      have hs:=ZE V hb
      rw[←hX] at hs
      have ht:((V.toNat:Int)/32768 == 1)=false:=by simp;omega
      have HX:=aa hX
      clear hX hb
      go_wp2_with fail
      go_round
      case rel=>exact⟨m+1,by omega,by go_num,by show _=Value.int .u16 (((GV 0x8005#16 (rV 0x8005#16 m U))).toNat:Int);rw[←HV.out,←HX.out]⟩
      case measure=>simp[intOf];omega
    ·have e:m=8:=by omega
     subst e
     go_wp2_with fail
     go_round
     case rel=>exact⟨k+1,by omega,by go_num,by rw[Cy hlt,Hh,←HS.out,←HU.out]⟩
     case measure=>simp[intOf];omega
  ·have e:k=l.length:=by omega
   subst e
   go_wp2_with fail
   go_ret
   exact⟨rfl,rfl⟩
theorem dW(l:List Int)(hf:aH l)(n:Nat)(hn:n=l.length)(hm:n≤140737488355328)(A:Option Addr)(b c:Nat)(w:World)(ha:ag .u8 w b A l):
 Calls Tryz.prog 55 #[.slice A n c] w fun e w'=>e= .returned (.int .u32 ((fC l).toNat:Int))∧w=w':=by
 subst hn
 go_enter Tryz.func55,Tryz.ntmps55
 go_wp2_with fail
 go_loop [3,9] (fun s i=>∃k:Nat,k≤l.length∧i= .int .i64 k∧s= .int .u32 ((zk 0xffffffff#32 (bv (l.take k))).toNat:Int)) (fun _ i=>l.length-(intOf i).toNat)
 case atStart=>exact⟨0,agw _,rfl,rfl⟩
 case round=>
  obtain⟨k,hk,rfl,rfl⟩:=hrel
  by_cases hlt:k<l.length
  ·obtain⟨bb,oo,rfl,hc1⟩:=ha.at_ hlt
   obtain⟨x0,x1⟩:=hf.ix_ hlt
   obtain⟨S,hS⟩:∃S,S=zk 0xffffffff#32 (bv (l.take k)):=⟨_,rfl⟩
   obtain⟨U,hU⟩:∃U,U=S ^^^ (BitVec.ofInt 8 (ix l k)).setWidth 32:=⟨_,rfl⟩
   have hx:=abD S x0 x1
   rw[←hU] at hx
   rw[←hS]
   have HS:=aa hS
   have HU:=aa hU
   have b1:(S.toNat:Int)≤4294967295:=by have:=S.isLt;omega
   clear hS hU
   go_wp2_with fail
   clear hx hc1
   go_loop [3,17] (fun s j=>∃m:Nat,m≤8∧j= .int .i64 m∧s= .int .u32 ((vI 0xedb88320#32 m U).toNat:Int)) (fun _ j=>8-(intOf j).toNat)
   case atStart=>exact⟨0,agw _,rfl,rfl⟩
   case round=>
    obtain⟨m,Sp,rfl,rfl⟩:=hrel
    by_cases jR:m<8
    ·obtain⟨V,hV⟩:∃V,V=vI 0xedb88320#32 m U:=⟨_,rfl⟩
     rw[←hV]
     have HV:=aa hV
     clear hV
     have b2:(V.toNat:Int)≤4294967295:=by have:=V.isLt;omega
     have b3:(0:Int)≤(V.toNat:Int):=by omega
     by_cases hb:V.toNat%2=1
     ·obtain⟨X,hX⟩:∃X,X=Bn 0xedb88320#32 V:=⟨_,rfl⟩
      have hs:=ZC V hb
      rw[←hX] at hs
      have ht:=Kk V
      rw[show V.toNat%2=1 from by omega] at ht
      have HX:=aa hX
      clear hX hb
      go_wp2_with fail
      go_round
      case rel=>exact⟨m+1,by omega,by go_num,by show _=Value.int .u32 (((Bn 0xedb88320#32 (vI 0xedb88320#32 m U))).toNat:Int);rw[←HV.out,←HX.out]⟩
      case measure=>simp[intOf];omega
     ·obtain⟨X,hX⟩:∃X,X=Bn 0xedb88320#32 V:=⟨_,rfl⟩
      have hs:=ZA V hb
      rw[←hX] at hs
      have ht:=Kk V
      rw[show V.toNat%2=0 from by omega] at ht
      have HX:=aa hX
      clear hX hb
      go_wp2_with fail
      go_round
      case rel=>exact⟨m+1,by omega,by go_num,by show _=Value.int .u32 (((Bn 0xedb88320#32 (vI 0xedb88320#32 m U))).toNat:Int);rw[←HV.out,←HX.out]⟩
      case measure=>simp[intOf];omega
    ·have e:m=8:=by omega
     subst e
     go_wp2_with fail
     go_round
     case rel=>exact⟨k+1,by omega,by go_num,by rw[Cy hlt,He,←HS.out,←HU.out]⟩
     case measure=>simp[intOf];omega
  ·have e:k=l.length:=by omega
   subst e
   go_wp2_with fail
   go_ret
   exact⟨kU (abS _),rfl⟩
structure Pg where
 seq:Int
 first:Bool
 last:Bool
 guard:Bool
 body:List Int
def jq(b:Bool)(v:Int):Int:=if b then v else 0
theorem Fl(b:Bool)(v:Int)(w:World):Calls Tryz.prog 123 #[.bool b,.int .u8 v] w fun e w'=>e= .returned (.int .u8 (jq b v))∧w'=w:=by
 cases b
 all_goals go_enter Tryz.func123,Tryz.ntmps123
 all_goals go_wp2_with fail
 all_goals go_ret
 all_goals exact⟨rfl,rfl⟩
def fy(g:Bool):Nat:=if g then 255 else 252
theorem wN(g:Bool)(w:World):Calls Tryz.prog 113 #[.bool g] w fun e w'=>e= .returned (.int .i64 (fy g:Int))∧w'=w:=by
 cases g
 all_goals go_enter Tryz.func113,Tryz.ntmps113
 all_goals go_wp2_with fail
 all_goals go_ret
 all_goals exact⟨rfl,rfl⟩
def na(p:Pg):Int:=jq p.first 1+jq p.last 2+jq p.guard 4
theorem Tm(p:Pg):bits .or .u8 (bits .or .u8 (jq p.first 1) (jq p.last 2)) (jq p.guard 4)=na p:=by
 obtain⟨s,f,l,g,b⟩:=p
 cases f <;> cases l <;> cases g <;> (show bits .or .u8 (bits .or .u8 _ _) _=_;simp only[jq,na,if_true,if_false,Bool.false_eq_true];first | decide | kernel_rfl)
theorem Fk(p:Pg):0≤na p∧na p<8:=by
 obtain⟨s,f,l,g,b⟩:=p
 simp only[na]
 cases f <;> cases l <;> cases g <;> decide
def cR(p:Pg):Bool:=decide (0≤p.seq∧p.seq≤2147483647∧1≤p.body.length∧p.body.length≤fy p.guard)
def BC(p:Pg):List Int:=[75,80,na p]++bM p.seq.toNat 4++[(p.body.length:Int)]++p.body
def VS(l:List Int):List Int:=l++bM (fC l).toNat 4
def ez(p:Pg):List Int×Int:=if cR p then(VS (BC p),0)else([],1)
theorem kE(N s:Nat):aH (bM N s):=fun x hx=>vO N s x (List.mem_reverse.1 hx)
theorem Ku(p:Pg)(h:cR p=true)(hb:aH p.body):aH (BC p):=by
 intro x hx
 have hf:=Fk p
 have hl:p.body.length≤255:=by
  have:=(of_decide_eq_true h).2.2.2
  have:fy p.guard≤255:=by unfold fy;split <;> omega
  omega
 simp only[BC,agC,List.mem_cons,List.not_mem_nil,or_false] at hx
 rcases hx with (((rfl | rfl | rfl) | hx) | rfl) | hx
 ·omega
 ·omega
 ·omega
 ·exact kE _ _ x hx
 ·omega
 ·exact hb x hx
def ju(p:Pg)(A:Option Addr)(c:Nat):Value:=.agg #[.int .i64 p.seq,.bool p.first,.bool p.last,.bool p.guard,.slice A p.body.length c]
def dF(r:List Int×Int)(w:World)(e:Ending)(w':World):Prop:=∃A c,e= .returned (.tuple #[.slice A r.1.length c,.int .i64 r.2])∧aq w' w.heap.size A r.1.length c r.1∧Below w.heap.size w w'
theorem IC(p:Pg)(A:Option Addr)(c:Nat)(w:World)(hl:p.body.length≤50000)(aW:cR p=false):
 Calls Tryz.prog 70 #[ju p A c] w (dF (ez p) w):=by
 have hr:Hid (ez p=([],1)):=by show _=_;unfold ez;rw[aW];rfl
 unfold cR at aW
 have SN:=of_decide_eq_false aW
 have h4:p.seq<0∨(¬p.seq<0∧p.seq > 2147483647)∨(¬p.seq<0∧¬p.seq > 2147483647∧(p.body.length:Int)<1)∨(¬p.seq<0∧¬p.seq > 2147483647∧¬(p.body.length:Int)<1∧(p.body.length:Int) > (fy p.guard:Int)):=by omega
 clear aW SN
 unfold ju
 generalize p.body.length=n at*
 obtain⟨m,hm⟩:∃m:Int,m=(fy p.guard:Int):=⟨_,rfl⟩
 have EH:∀W,Calls Tryz.prog 113 #[.bool p.guard] W fun e w'=>e= .returned (.int .i64 m)∧w'=W:=fun W=>by rw[hm];exact wN _ _
 rw[←hm] at h4
 clear hm
 go_enter Tryz.func70,Tryz.ntmps70
 go_wp2_with fail
 obtain⟨w1,bj⟩:∃w1,w1=w.alloc (.cells #[.int .i64 p.seq,.bool p.first,.bool p.last,.bool p.guard,.slice A n c] 124):=⟨_,rfl⟩
 have M:=ago w (.cells #[.int .i64 p.seq,.bool p.first,.bool p.last,.bool p.guard,.slice A n c] 124)
 have B1:Below w.heap.size w w1:=by rw[bj];exact ak (ac w) _
 rw[←bj] at M ⊢
 have k0:w1.cell? ⟨w.heap.size,0,none⟩=some (.int .i64 p.seq):=(agu _ _ _ _ _ _ M).trans rfl
 have k3:w1.cell? ⟨w.heap.size,3,none⟩=some (.bool p.guard):=(agu _ _ _ _ _ _ M).trans rfl
 have k4:w1.cell? ⟨w.heap.size,4,none⟩=some (.slice A n c):=(agu _ _ _ _ _ _ M).trans rfl
 have HB:=aa B1
 have Zd:=aa EH
 clear bj M B1 EH
 rcases h4 with h | ⟨h1,h⟩ | ⟨h1,h2,h⟩ | ⟨h1,h2,h3,h⟩
 all_goals go_quiet ((go_at_call 113;exact Calls.quiet_of_same (Zd.out _)))
 all_goals go_wp2_with fail
 all_goals go_ret2
 all_goals rw[hr.out]
 all_goals exact⟨none,0,rfl,aq.nil _ _,below_drewN HB.out _⟩
theorem Mz(p:Pg)(A:Option Addr)(B c:Nat)(w:World)(hB:B≤w.heap.size)(ha:ag .u8 w B A p.body)(hby:aH p.body)(dU:cR p=true):
 Calls Tryz.prog 70 #[ju p A c] w (dF (ez p) w):=by
 have hr:Hid (ez p=(VS (BC p),0)):=by show _=_;unfold ez;rw[dU];rfl
 have YU:=aa (Ku p dU hby)
 have WO:=of_decide_eq_true dU
 have h0:¬p.seq<0:=by omega
 have h1:¬p.seq > 2147483647:=by omega
 have h2:¬(p.body.length:Int)<1:=by omega
 have h3:¬(p.body.length:Int) > (fy p.guard:Int):=by omega
 have aco:p.body.length≤255:=by
  have:fy p.guard≤255:=by unfold fy;split <;> omega
  omega
 obtain⟨N,hN⟩:=Int.eq_ofNat_of_zero_le (show 0≤p.seq by omega)
 have ac1:N<18446744073709551616:=by omega
 have uN:=agq (N:Int) (by omega)
 have YF:Hid (BC p=[75,80,na p]++bM N 4++[(p.body.length:Int)]++p.body):=by show _=_;unfold BC;rw[hN];rfl
 have li:=Tm p
 have acM:=Fk p
 unfold ju
 rw[hN]
 rw[hN] at h0 h1
 obtain⟨F,hF⟩:∃F,F=na p:=⟨_,rfl⟩
 rw[←hF] at YF li acM
 obtain⟨bd,lW⟩:∃bd,bd=p.body:=⟨_,rfl⟩
 rw[←lW] at ha h2 h3 aco YF ⊢
 obtain⟨m,hm⟩:∃m:Int,m=(fy p.guard:Int):=⟨_,rfl⟩
 have EH:∀W,Calls Tryz.prog 113 #[.bool p.guard] W fun e w'=>e= .returned (.int .i64 m)∧w'=W:=fun W=>by rw[hm];exact wN _ _
 rw[←hm] at h3
 have ul:=IntWalk.u8_in (bd.length:Int) (by omega)
 generalize p.first=pf at*
 generalize p.last=pl at*
 generalize p.guard=pg at*
 obtain⟨w1,bj⟩:∃w1,w1=w.alloc (.cells #[.int .i64 (N:Int),.bool pf,.bool pl,.bool pg,.slice A bd.length c] 124):=⟨_,rfl⟩
 have M:=ago w (.cells #[.int .i64 (N:Int),.bool pf,.bool pl,.bool pg,.slice A bd.length c] 124)
 have B1:Below w.heap.size w w1:=by rw[bj];exact ak (ac w) _
 have hz1:w1.heap.size=w.heap.size+1:=by rw[bj];simp
 rw[←bj] at M
 have k0:w1.cell? ⟨w.heap.size,0,none⟩=some (.int .i64 (N:Int)):=(agu _ _ _ _ _ _ M).trans rfl
 have k1:w1.cell? ⟨w.heap.size,1,none⟩=some (.bool pf):=(agu _ _ _ _ _ _ M).trans rfl
 have k2:w1.cell? ⟨w.heap.size,2,none⟩=some (.bool pl):=(agu _ _ _ _ _ _ M).trans rfl
 have k3:w1.cell? ⟨w.heap.size,3,none⟩=some (.bool pg):=(agu _ _ _ _ _ _ M).trans rfl
 have k4:w1.cell? ⟨w.heap.size,4,none⟩=some (.slice A bd.length c):=(agu _ _ _ _ _ _ M).trans rfl
 have HB:=aa B1
 have Zd:=aa EH
 have Ha:=aa ((ha.below (B1.mono hB)).more (B':=w1.heap.size) (by omega))
 have g1:¬(2147483647:Int)<(N:Int):=by omega
 have g3:¬m<(bd.length:Int):=by omega
 clear hm EH M B1 dU WO hF lW hN ha
 go_enter Tryz.func70,Tryz.ntmps70
 go_wp2_with fail
 rw[←bj]
 clear bj
 go_quiet ((go_at_call 113;exact Calls.quiet_of_same (Zd.out _)))
 go_wp2_with fail
 obtain⟨w2,hw2⟩:∃w2,w2=w1.drewN nq:=⟨_,rfl⟩
 have hz2:w2.heap.size=w.heap.size+1:=by rw[hw2];exact hz1
 have kG:Hid (Below w.heap.size w w2):=by show Below _ _ _;rw[hw2];exact below_drewN HB.out nq
 have X4:Hid (ag .u8 w2 w2.heap.size A bd):=by show ag _ _ _ _ _;rw[hw2];exact Ha.out
 have j0:w2.cell? ⟨w.heap.size,0,none⟩=some (.int .i64 (N:Int)):=by rw[hw2];exact k0
 have j1:w2.cell? ⟨w.heap.size,1,none⟩=some (.bool pf):=by rw[hw2];exact k1
 have j2:w2.cell? ⟨w.heap.size,2,none⟩=some (.bool pl):=by rw[hw2];exact k2
 have j3:w2.cell? ⟨w.heap.size,3,none⟩=some (.bool pg):=by rw[hw2];exact k3
 have j4:w2.cell? ⟨w.heap.size,4,none⟩=some (.slice A bd.length c):=by rw[hw2];exact k4
 rw[←hw2]
 clear hw2 k0 k1 k2 k3 k4 hz1 HB Ha Zd
 clear w1
 go_quiet ((go_at_call 123;exact Calls.quiet_of_same (Fl _ _ _)))
 obtain⟨w3,hw3⟩:∃w3,w3=w2.drewN nq:=⟨_,rfl⟩
 have hz3:Hid (w3.heap.size=w.heap.size+1):=by show _=_;rw[hw3];exact hz2
 have kL:Hid (Below w.heap.size w w3):=by show Below _ _ _;rw[hw3];exact below_drewN kG.out nq
 have Ha3:Hid (ag .u8 w3 w3.heap.size A bd):=by show ag _ _ _ _ _;rw[hw3];exact X4.out
 have c0:w3.cell? ⟨w.heap.size,0,none⟩=some (.int .i64 (N:Int)):=by rw[hw3];exact j0
 have c4:w3.cell? ⟨w.heap.size,4,none⟩=some (.slice A bd.length c):=by rw[hw3];exact j4
 rw[←hw3]
 clear hw3 j0 j1 j2 j3 j4 hz2 kG X4 li h0 h1 h2 h3 g1 g3
 clear w2
 obtain⟨cr,mW⟩:∃cr:Nat,cr=(fC (BC p)).toNat:=⟨_,rfl⟩
 have YO:cr<4294967296:=by rw[mW];exact BitVec.isLt _
 have hcon:∀(n':Nat) (YG:n'=(BC p).length) (A':Option Addr) (b' c':Nat) (W:World),n'≤100000→ag .u8 W b' A' (BC p)→Calls Tryz.prog 55 #[.slice A' n' c'] W fun e w'=>e= .returned (.int .u32 (cr:Int))∧W=w':=
  fun n' YG A' b' c' W NM hi'=>by rw[mW];exact dW (BC p) YU.out n' YG (by omega) A' b' c' W hi'
 have hrr:Hid (ez p=(BC p++bM cr 4,0)):=by show _=_;rw[hr.out,mW];rfl
 have hpl:Hid (bd.length+8=(BC p).length):=by show _=_;rw[YF.out];simp[aS];omega
 obtain⟨L,hL⟩:∃L,L=BC p:=⟨_,rfl⟩
 have cC:=aa hcon
 rw[←hL] at YF hrr hpl cC
 clear mW hL hcon hr YU
 have ucr:=agq (cr:Int) (by omega)
 have OL:aq (w3.alloc (.cells #[.int .u8 75,.int .u8 80,.int .u8 F] 5)) w3.heap.size (some ⟨w3.heap.size,0,none⟩) 3 3 [75,80,F]:=World.ownsRow_lit w3 #[.int .u8 75,.int .u8 80,.int .u8 F] 3 (by simp) (by simp[maxLen]) (by simp)
 have c0a:∀o,(w3.alloc o).cell? ⟨w.heap.size,0,none⟩=some (.int .i64 (N:Int)):=fun o=>later (ak (ac w3) o) c0
 go_wp2_with (first
  |(go_at_call 69;(with_reducible refine(js N ac1 _).mono ?_);rintro e w5 ⟨A5,c5,rfl,bT,b5⟩;have B5:Below w3.heap.size w3 w5:=kK (ak (ac w3) _) b5;have O5:=OL.below b5 (agl _))
  |(at_builtin;refine cF _ rfl (.tmp 42) (.tmp 46) rfl w3 _ 3 3 [75,80,F] rfl O5 _ A5 4 c5 (bM N 4) rfl (aS _ _) bT.ints (by omega) B5 ?_;intro A6 c6 w6 dC b6;have c4b:=later b6 c4)
  |(at_builtin;refine cF _ rfl (.tmp 48) (.tmp 53) rfl w3 _ _ _ _ rfl (dC.alloc _) _ _ 1 1 [(bd.length:Int)] rfl rfl (dN _ _ _) (by omega) (ak b6 _) ?_;intro A7 c7 w7 fQ b7;have c4c:=later b7 c4)
  |(at_builtin;refine cF _ rfl (.tmp 55) (.tmp 57) rfl w3 _ _ _ _ rfl fQ _ A bd.length c bd rfl rfl (Ha3.out.below b7) (by omega) b7 ?_;intro A8 c8 w8 mj b8;rw[←YF.out] at mj)
  |(go_at_call 55;(with_reducible refine(cC.out _ (by have:=hpl.out;omega) _ _ _ _ (by omega) mj.ints).mono ?_);rintro e w9 ⟨rfl,rfl⟩)
  |(go_at_call 69;(with_reducible refine(js cr (by omega) _).mono ?_);rintro e F9 ⟨A10,c10,rfl,Ci,uv⟩;have Pp:Below w3.heap.size w3 F9:=kK b8 uv;have O0:=mj.below uv (agl _))
  |(at_builtin;refine cF _ rfl (.tmp 59) (.tmp 63) rfl w3 _ _ _ _ rfl O0 _ A10 4 c10 (bM cr 4) rfl (aS _ _) Ci.ints (by omega) Pp ?_;intro A11 c11 w11 NK CG))
 all_goals go_ret2
 all_goals have iu:(L++bM cr 4).length=8+bd.length+4:=by rw[List.length_append,aS,←hpl.out];omega
 all_goals rw[hrr.out]
 all_goals refine⟨A11,c11, ?_, ?_,kL.out.trans (CG.mono kL.out.size)⟩
 all_goals (show _;simp only[iu])
 all_goals first | rfl | exact NK.base kL.out.size
theorem kW(p:Pg)(A:Option Addr)(B c:Nat)(w:World)(hB:B≤w.heap.size)(hl:p.body.length≤50000)(ha:ag .u8 w B A p.body)(hby:aH p.body):
 Calls Tryz.prog 70 #[ju p A c] w (dF (ez p) w):=by
 cases h:cR p with
 |false=>exact IC p A c w hl h
 |true=>exact Mz p A B c w hB ha hby h
theorem nW(l:List Int)(n:Nat)(hn:n=l.length)(hm:n≤60000)(A:Option Addr)(B c:Nat)(w:World)(hB:B≤w.heap.size)(ha:ag .u8 w B A l)(hA:A=none→l=[]):
 Calls Tryz.prog 73 #[.slice A n c] w fun e w'=>∃A' c',e= .returned (.slice A' n c')∧aq w' w.heap.size A' n c' l∧Below w.heap.size w w':=by
 cases A with
 |none=>
  obtain rfl:=hA rfl
  subst hn
  have he:∀w:World,(binOp .eql 22 (.slice none 0 c) (.slice none 0 0)).run Tryz.prog w= .ok (.bool true) w:=fun _=>rfl
  go_enter Tryz.func73,Tryz.ntmps73
  go_wp2_with fail
  go_ret
  exact⟨none,0,rfl,aq.nil _ _,ac w⟩
 |some ad=>
  have Hn:=aa hn
  clear hn
  have he:∀w:World,(binOp .eql 22 (.slice (some ad) n c) (.slice none 0 0)).run Tryz.prog w= .ok (.bool false) w:=fun _=>rfl
  go_enter Tryz.func73,Tryz.ntmps73
  go_wp2_with (at_builtin;refine jU _ rfl (.tmp 5) (.tmp 6) rfl w _ _ rfl (II w) _ (some ad) n c l rfl Hn.out.symm (ha.below ((Below.refl _ _).alloc hB _)) (by omega) (ak (ac w) _) ?_;intro A2 c2 w2 cD hb2)
  go_ret
  exact⟨A2,c2,rfl,cD,hb2⟩
theorem jA{fn:Func}{p u v:Tmp}{ty:TypeId}(h:fn.results=#[.cell p ty,.tmp u,.tmp v])(tmps:Array Value)(P:Program)(w:World):
 (results fn tmps).run P w=
   ((asAddr (tmps.getD p undef)).run P w).andThen fun a w₁=>((loadVar ty a).run P w₁).andThen fun x w₂=>.ok (.tuple #[x,tmps.getD u undef,tmps.getD v undef]) w₂:=by
 simp only[results,h]
 simp[Sem.run_bind,Result.andThen]
theorem ed{fn:Func}(h:fn.results=#[.cell 4 124,.tmp 5,.tmp 6])(tmps:Array Value)(w:World){g:Nat}{v0 v1 v2 v3 v4:Value}(ht:tmps.getD 4 undef= .pointer (some ⟨g,0,none⟩))
 (c0:w.cell? ⟨g,0,none⟩=some v0) (c1:w.cell? ⟨g,1,none⟩=some v1) (c2:w.cell? ⟨g,2,none⟩=some v2) (c3:w.cell? ⟨g,3,none⟩=some v3) (c4:w.cell? ⟨g,4,none⟩=some v4):
 (results fn tmps).run Tryz.prog w= .ok (.tuple #[.agg #[v0,v1,v2,v3,v4],tmps.getD 5 undef,tmps.getD 6 undef]) w:=by
 rw[jA h,ht]
 simp[go_sem,c0,c1,c2,c3,c4]
end
end Go.Proofs.YtbhfpehgacaidaaGreatDoor
