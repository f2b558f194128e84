/- A part of the proof of the given statement TopRight. Conditions: none. -/
import Derived.WalkKit
import Derived.WalkLawsBesides
import Derived.WalkSpells
import Derived.Deep.QuietTactic
import Derived.BigQuiet
import Derived.Lib.Hide
import Derived.Deep.AppendLies
import Derived.Maps.AppendAt
import Derived.Laws.CopyOwn
import Derived.StillTailTactics
import Derived.Deep.RegionHeld3
import Derived.Test.YtbhfpehgacaidaaGreatDoorProg
namespace Go.Proofs.YtbhfpehgacaidaaGreatDoor
set_option linter.unusedVariables false
set_option linter.unusedSimpArgs false
set_option maxRecDepth 100000
set_option maxHeartbeats 8000000
theorem aa {p:Prop} (h:p):RowKit.Hid p:=Lib.hid h
section
open Go.RowKit
theorem agl(n:Nat):n≤n:=Nat.le_refl n
theorem agm{a b c:Nat}:a≤b→b≤c→a≤c:=Nat.le_trans
theorem agn{α:Type}{x:Array α}{i:Nat}{b:α}:x[i]? =some b↔∃h:i<x.size,x[i]=b:=Array.getElem?_eq_some_iff
theorem ago(w:World)(o:Obj):(w.alloc o).heap[w.heap.size]? =some o:=heap_alloc_new w o
theorem agp(n:Int):-9223372036854775808≤n∧n≤9223372036854775807→IntKind.i64.wrap n=n:=IntWalk.i64_in n
theorem agq(n:Int):0≤n∧n≤18446744073709551615→IntKind.u64.wrap n=n:=IntWalk.u64_in n
theorem agr(w:World)(a:Addr)(u:Value)(k:Nat):k≠a.block→(w.setCell a u).heap[k]? =w.heap[k]?:=Below.heap_setCell w a u k
theorem ags(w:World)(o:Obj)(k:Nat):k<w.heap.size→(w.alloc o).heap[k]? =w.heap[k]?:=Below.heap_alloc w o k
theorem agt{α:Type}{l:List α}{n:Nat}(h:n<l.length):l[n]∈l:=List.getElem_mem h
theorem agu(w:World)(g j:Nat)(cs:Array Value)(t:TypeId)(fr:Nat×Nat):w.heap[g]? =some (.cells cs t fr)→w.cell? ⟨g,j,none⟩=cs[j]?:=cell_of_row w g j cs t fr
theorem agv(w:World)(g j:Nat)(cs:Array Value)(t:TypeId):w.heap[g]? =some (.cells cs t)→w.frozen? ⟨g,j,none⟩=false:=frozen_of_row w g j cs t
theorem agw(n:Nat):0≤n:=Nat.zero_le n
theorem agx{α:Type}{i:Nat}{l:List α}(h:i<l.length):l.take (i+1)=l.take i++[l[i]]:=List.take_succ_eq_append_getElem h
theorem agy{w w':World}{a:Addr}:w'.heap[a.block]? =w.heap[a.block]?→w'.cell? a=w.cell? a:=World.cell?_of_block
theorem agz{n m k:Nat}:n<m→m≤k→n<k:=Nat.lt_of_lt_of_le
theorem agA(w:World)(g i:Nat)(cs:Array Value)(t:TypeId)(v:Value):w.heap[g]? =some (.cells cs t)→(w.setCell ⟨g,i,none⟩ v).heap[g]? =some (.cells (cs.setIfInBounds i v) t):=heap_setCell_same w g i cs t v
theorem agB{w:World}{b:Nat}{e:TypeId}{z:Nat}{v:Value}{n:Nat}{xs:List Value}:w.ownsRow b e z v n xs→∀k:Nat,v.ownBlock=some k→b≤k∧k<w.heap.size:=World.ownsRow.lt
theorem agC{α:Type}{a:α}{s t:List α}:a∈s++t↔a∈s∨a∈t:=List.mem_append
theorem agD(n:Int):IntKind.i64.wrap n=(n+9223372036854775808)%18446744073709551616-9223372036854775808:=IntKind.wrap_i64 n
end
section
open Go.RowKit
def ix(xs:List Int)(k:Nat):Int:=xs.getD k 0
theorem dQ{xs:List Int}{k:Nat}(h:k<xs.length):ix xs k=xs[k]:=by simp[ix,h]
theorem Cc{xs:List Int}{k:Nat}(h:xs.length≤k):ix xs k=0:=by simp[ix,List.getElem?_eq_none h]
theorem jO(xs ys:List Int)(hl:xs.length=ys.length)(h:∀k,k<xs.length→ix xs k=ix ys k):xs=ys:=by
 apply List.ext_getElem hl
 intro i h1 h2
 have:=h i h1
 rwa[dQ h1,dQ h2] at this
theorem lg{xs:List Int}{k:Nat}(h:k<xs.length):ix xs k∈xs:=by rw[dQ h];exact agt h
theorem kZ{xs:List Int}{x:Int}(h:x∈xs):∃k,k<xs.length∧x=ix xs k:=by
 obtain⟨k,hk,e⟩:=List.getElem_of_mem h
 exact⟨k,hk,by rw[dQ hk,e]⟩
theorem eF(f:Nat→Int)(n k:Nat)(h:k<n):ix ((List.range n).map f) k=f k:=by
 rw[dQ (by simpa using h)];simp
theorem sJ(xs:List Int)(k j:Nat)(x:Int)(hk:k<xs.length):ix (xs.set k x) j=if j=k then x else ix xs j:=by
 by_cases hj:j<xs.length
 ·rw[dQ (by simpa using hj),List.getElem_set,dQ hj]
  by_cases e:k=j
  ·subst e;simp
  ·rw[if_neg e,if_neg (by omega)]
 ·rw[Cc (by simpa using hj),if_neg (by omega),Cc (by omega)]
theorem wY{xs ys:List Int}{k:Nat}(h:k<xs.length):ix (xs++ys) k=ix xs k:=by
 rw[dQ (by simp;omega),dQ h,List.getElem_append_left h]
theorem uD{xs ys:List Int}{k:Nat}(h:xs.length≤k):ix (xs++ys) k=ix ys (k-xs.length):=by
 by_cases hk:k<(xs++ys).length
 ·rw[dQ hk,List.getElem_append_right h,dQ]
 ·rw[Cc (by omega),Cc (by simp at hk;omega)]
theorem qJ{xs:List Int}{n k:Nat}(h:k<n):ix (xs.take n) k=ix xs k:=by simp[ix,h]
theorem jF{xs:List Int}{n k:Nat}:ix (xs.drop n) k=ix xs (n+k):=by simp[ix]
theorem bW{xs:List Int}{k:Nat}(h:k<xs.length):xs.take (k+1)=xs.take k++[ix xs k]:=by
 rw[agx h,dQ h]
def eqI(xs ys:List Int):Bool:=decide (xs=ys)
theorem Fp{xs ys:List Int}(h:xs=ys):eqI xs ys=true:=decide_eq_true h
theorem AP{xs ys:List Int}(h:xs≠ys):eqI xs ys=false:=decide_eq_false h
theorem Tp(xs:List Int):eqI xs xs=true:=Fp rfl
theorem aC{a b:Bool}(h:a=b):Ending.returned (.bool a)= .returned (.bool b):=by rw[h]
theorem kU{k:IntKind}{a b:Int}(h:a=b):Ending.returned (.int k a)= .returned (.int k b):=by rw[h]
def Rd(w:World)(B:Nat)(A:Option Addr)(vs:List Value):Prop:=
 0<vs.length→∃b off,A=some ⟨b,off,none⟩∧b<B∧∀i u,vs[i]? =some u→w.cell? ⟨b,off+i,none⟩=some u
def ag(k:IntKind)(w:World)(B:Nat)(A:Option Addr)(xs:List Int):Prop:=Rd w B A (xs.map (Value.int k))
theorem eH{k:IntKind}{xs:List Int}{i:Nat}(h:i<xs.length):(xs.map (Value.int k))[i]? =some (.int k (ix xs i)):=by
 simp[ix,h]
section
variable {w w' : World} {B B' : Nat} {A : Option Addr} {vs : List Value} {k : IntKind} {xs : List Int}
theorem Rd.nil:Rd w B A []:=fun h=>absurd h (by simp)
theorem Rd.block_keep(h:Rd w B A vs)(hk:∀g,g<B→w'.heap[g]? =w.heap[g]?):Rd w' B A vs:=fun hn=>by
 obtain⟨b,off,e,hb,hc⟩:=h hn
 exact⟨b,off,e,hb,fun i u hu=>(agy (hk b hb)).trans (hc i u hu)⟩
theorem Rd.below(h:Rd w B A vs)(hb:Below B w w'):Rd w' B A vs:=h.block_keep hb.block
theorem Rd.more(h:Rd w B A vs)(hB:B≤B'):Rd w B' A vs:=fun hn=>by
 obtain⟨b,off,e,hb,hc⟩:=h hn
 exact⟨b,off,e,by omega,hc⟩
theorem ag.nil:ag k w B A []:=Rd.nil
theorem ag.below(h:ag k w B A xs)(hb:Below B w w'):ag k w' B A xs:=Rd.below h hb
theorem ag.more(h:ag k w B A xs)(hB:B≤B'):ag k w B' A xs:=Rd.more h hB
theorem ag.drewN(h:ag k w B A xs)(n:Nat):ag k (w.drewN n) B A xs:=h
theorem ag.at_(h:ag k w B A xs){i:Nat}(hi:i<xs.length):∃b off,A=some ⟨b,off,none⟩∧w.cell? ⟨b,off+i,none⟩=some (.int k (ix xs i)):=by
 obtain⟨b,off,e,_,hc⟩:=h (by simp;omega)
 exact⟨b,off,e,hc i _ (eH hi)⟩
theorem ag.lt(h:ag k w B A xs)(hi:0<xs.length):∃b off,A=some ⟨b,off,none⟩∧b<B∧∀i,i<xs.length→w.cell? ⟨b,off+i,none⟩=some (.int k (ix xs i)):=by
 obtain⟨b,off,e,hb,hc⟩:=h (by simpa using hi)
 exact⟨b,off,e,hb,fun i hi=>hc i _ (eH hi)⟩
end
theorem Qz{w:World}{g:Nat}{u:Value}(h:w.cell? ⟨g,0,none⟩=some u):Rd w (g+1) (some ⟨g,0,none⟩) [u]:=fun _=>by
 refine⟨g,0,rfl,by omega,fun i v hv=> ?_⟩
 cases i with
 |zero=>simp at hv;subst hv;exact h
 |succ i=>simp at hv
theorem dN(w:World)(u:Value)(t:TypeId):Rd (w.alloc (.cells #[u] t)) (w.heap.size+1) (some ⟨w.heap.size,0,none⟩) [u]:=Qz (by simp[World.cell?_alloc_new])
theorem QA(w:World)(u:Value)(t:TypeId):Rd (w.alloc (.cells #[u] t)).drew (w.heap.size+1) (some ⟨w.heap.size,0,none⟩) [u]:=Qz (by simp[World.cell?_alloc_new])
section
variable {w w' : World} {B : Nat} {e : TypeId} {size n c : Nat} {A : Option Addr} {v : Value} {vs : List Value}
theorem QN(h:w.ownsRow B e size v n vs):∃A c,v= .slice A n c:=by
 rcases h.2 with ⟨rfl,rfl⟩ | ⟨g,cap,cur,rfl,_⟩
 ·exact⟨none,0,rfl⟩
 ·exact⟨_,cap,rfl⟩
theorem ip(h:w.ownsRow B e size (.slice A n c) n vs):Rd w w.heap.size A vs:=fun hn=>by
 rcases h.2 with ⟨_,rfl⟩ | ⟨g,cap,cur,hv,_,hg,UT,hcm,hcs,ht⟩
 ·have:=h.1;simp at this;simp[this] at hn
 ·injection hv with hv
  subst hv
  refine⟨g,0,rfl,(agn.1 hg).1,fun i u hu=> ?_⟩
  rw[Nat.zero_add]
  have hi:i<n*size:=by have:=(List.getElem?_eq_some_iff.1 hu).1;rw[h.1] at this;exact this
  rw[agu w g i cur e (0,0) hg]
  rw[←ht,List.getElem?_take,if_pos hi] at hu
  simpa using hu
theorem eW(h:w.ownsRow B e size (.slice A n c) n vs)(hn:0<n):∃g,A=some ⟨g,0,none⟩∧B≤g∧g<w.heap.size:=by
 rcases h.2 with ⟨_,rfl⟩ | ⟨g,cap,cur,hv,hB,hg,_⟩
 ·omega
 ·injection hv with hv
  exact⟨g,hv,hB,(agn.1 hg).1⟩
theorem V5{m:Nat}(h:w.ownsRow B e 1 (.slice A n c) n vs)(hm:m≤n):w.ownsRow B e 1 (.slice A m c) m (vs.take m):=by
 have hl:=h.1
 refine⟨by rw[List.length_take,hl];omega, ?_⟩
 rcases h.2 with ⟨hv,rfl⟩ | ⟨g,cap,cur,hv,hB,hg,UT,hcm,hcs,ht⟩
 ·injection hv with h1 h2 h3
  subst h1;subst h3
  obtain rfl:m=0:=by omega
  exact .inl ⟨rfl,rfl⟩
 ·injection hv with h1 h2 h3
  subst h1;subst h3
  refine .inr ⟨g,c,cur,rfl,hB,hg,by omega,hcm,hcs, ?_⟩
  rw[←ht,List.take_take]
  congr 1;omega
theorem bJ(h:w.ownsRow B e size (.slice A n c) n vs):n≤c∧c≤maxLen:=by
 rcases h.2 with ⟨hv,rfl⟩ | ⟨g,cap,cur,hv,hB,hg,UT,hcm,hcs,ht⟩
 ·injection hv with h1 h2 h3;subst h3;exact⟨agl _,agw _⟩
 ·injection hv with h1 h2 h3;subst h3;exact⟨UT,hcm⟩
theorem ki{k:IntKind}{xs:List Int}{g:Nat}(h:w.ownsRow B e 1 (.slice (some ⟨g,0,none⟩) n c) n (xs.map (Value.int k))){i:Nat}(hi:i<n):w.cell? ⟨g,i,none⟩=some (.int k (ix xs i)):=by
 have hl:xs.length=n:=by have:=h.1;simpa using this
 rw[World.ownsRow.cellAt h i (by omega),eH (by omega)]
theorem u9{k:IntKind}{xs:List Int}{g:Nat}(h:w.ownsRow B e 1 (.slice (some ⟨g,0,none⟩) n c) n (xs.map (Value.int k)))(i:Nat)(x:Int):
 (w.setCell ⟨g,i,none⟩ (.int k x)).ownsRow B e 1 (.slice (some ⟨g,0,none⟩) n c) n ((xs.set i x).map (Value.int k)):=by
 rw[List.map_set];exact(World.ownsRow.stored h i (.int k x)).1
theorem bR{k:IntKind}{xs:List Int}(h:w.ownsRow B e 1 (.slice A n c) n (xs.map (Value.int k))):ag k w w.heap.size A xs:=ip h
theorem BG{k:IntKind}{xs:List Int}(h:w.ownsRow B e 1 v n (xs.map (Value.int k))):xs.length=n:=by have:=h.1;simpa using this
theorem ap(h:w.ownsRow B e size v n vs)(hb:∀g,v.ownBlock=some g→w'.heap[g]? =w.heap[g]?):w'.ownsRow B e size v n vs:=by
 refine⟨h.1, ?_⟩
 rcases h.2 with h' | ⟨g,cap,cur,rfl,h2,hg,r⟩
 ·exact .inl h'
 ·exact .inr ⟨g,cap,cur,rfl,h2,by rw[hb g (by simp[Value.ownBlock])];exact hg,r⟩
theorem aO{B':Nat}(h:w.ownsRow B e size v n vs)(hB:B'≤B):w.ownsRow B' e size v n vs:=by
 refine⟨h.1, ?_⟩
 rcases h.2 with h' | ⟨g,cap,cur,rfl,h2,r⟩
 ·exact .inl h'
 ·exact .inr ⟨g,cap,cur,rfl,agm hB h2,r⟩
theorem aD{B1:Nat}(h:w.ownsRow B e size v n vs)(hb:Below B1 w w')(hB:w.heap.size≤B1):w'.ownsRow B e size v n vs:=
 ap h fun g hg=>hb.block g (agz (h.lt g hg).2 hB)
theorem sw(h:w.ownsRow B e size v n vs)(m:Nat):(w.drewN m).ownsRow B e size v n vs:=h
end
theorem VH{P:Program}(w:World)(B:Nat)(t ty e:TypeId)(i:TypeInfo)(z:Value)(size bytes:Nat)(ht:P.underlying t=some (.slice e))(hi:P.info? e=some i)(hz:i.zero=some z)
 (hsize:i.size=size) (hby:i.bytes=bytes) (hzs:z.cells.size=size) (hsz:0<size)
 (v:Value) (n:Nat) (xs:List Value) (hown:w.ownsRow B e size v n xs) (B1:Nat) (A:Option Addr) (m c:Nat) (news:List Value) (hl:news.length=m*size) (hr:Rd w B1 A news)
 (h1:∀u∈news,u.oneCell'=true) (h63:n+m≤maxLen) (hbytes:(n+m)*bytes≤140737488355328) (hbase:B≤w.heap.size):
 ∃A' c' w',(Builtin.append_ #[t,t] ty #[v,.slice A m c]).run P w= .ok (.slice A' (n+m) c') w'∧w'.ownsRow B e size (.slice A' (n+m) c') (n+m) (xs++news)∧w.grownBy w' v.ownBlock∧
  ((Value.slice A' (n+m) c').ownBlock=v.ownBlock∨(Value.slice A' (n+m) c').ownBlock=some w.heap.size):=by
 have key:∃v' w',(Builtin.append_ #[t,t] ty #[v,.slice A m c]).run P w= .ok v' w'∧w'.ownsRow B e size v' (n+m) (xs++news)∧w.grownBy w' v.ownBlock∧(v'.ownBlock=v.ownBlock∨v'.ownBlock=some w.heap.size):=by
  cases A with
  |none=>
   have hn:news=[]:=by
    cases news with
    |nil=>rfl
    |cons a l=>obtain⟨b,off,h,_⟩:=hr (by simp);cases h
   subst hn
   have hm:m=0:=by
    rcases Nat.mul_eq_zero.1 (hl.symm:m*size=0)with h | h
    ·exact h
    ·omega
   subst hm
   refine⟨v,w, ?_,by simpa using hown,World.grownBy.refl w _,.inl rfl⟩
   rcases hown.2 with ⟨rfl,rfl⟩ | ⟨g,cap,cur,rfl,_,_,UT,_⟩
   ·simp[Builtin.append_,run_underlying ht,sizeOf,typeInfo,hi,Builtin.lenOf,Builtin.firstCells]
   ·simp[Builtin.append_,run_underlying ht,sizeOf,typeInfo,hi,Builtin.lenOf,Builtin.firstCells,UT,storeCells]
  |some ad=>
   have cZ:∀j u,news[j]? =some u→w.cell? (ad.add j)=some u:=by
    intro j u hu
    have hj:0<news.length:=by have:=(List.getElem?_eq_some_iff.1 hu).1;omega
    obtain⟨b,off,h,_,hc⟩:=hr hj
    injection h with h
    subst h
    have:=hc j u hu
    simp only[Addr.add]
    split
    ·rename_i h0;subst h0;simpa using this
    ·exact this
   obtain⟨v',w',hrun,h2,h3,_,h5⟩:=run_append_own_at (P:=P) w B t ty e i z size bytes ht hi hz hsize hby hzs hsz v n xs hown ad m c news hl cZ h1 h63 hbytes hbase
   exact⟨v',w',hrun,h2,h3,h5⟩
 obtain⟨v',w',hrun,h2,h3,h4⟩:=key
 obtain⟨A',c',rfl⟩:=QN h2
 exact⟨A',c',w',hrun,h2,h3,h4⟩
theorem rO{P:Program}(w:World){o:Oper}{a:Act}{K:Act→World→Prop}{Q:Exit→Act→World→Prop}(s x:Operand)(t:TypeId)
 (ho:o.op= .call {callee:=.builtin .append,args:=#[s,x],argTypes:=#[t,t]})
 (B:Nat) (e:TypeId) (i:TypeInfo) (z:Value) (size bytes:Nat) (ht:P.underlying t=some (.slice e)) (hi:P.info? e=some i) (hz:i.zero=some z)
 (hsize:i.size=size) (hby:i.bytes=bytes) (hzs:z.cells.size=size) (hsz:0<size)
 (v:Value) (n:Nat) (xs:List Value) (hs:a.eval s=v) (hown:w.ownsRow B e size v n xs) (B1:Nat) (A:Option Addr) (m c:Nat) (news:List Value) (hx:a.eval x= .slice A m c) (hl:news.length=m*size) (hr:Rd w B1 A news)
 (h1:∀u∈news,u.oneCell'=true) (h63:n+m≤maxLen) (hbytes:(n+m)*bytes≤140737488355328) (hbase:B≤w.heap.size)
 (h:∀A' c' w',w'.ownsRow B e size (.slice A' (n+m) c') (n+m) (xs++news)→w.grownBy w' v.ownBlock→((Value.slice A' (n+m) c').ownBlock=v.ownBlock∨(Value.slice A' (n+m) c').ownBlock=some w.heap.size)→K (a.put o.dst (.slice A' (n+m) c')) w'):o.wp P a w K Q:=by
 obtain⟨A',c',w',hrun,h2,h3,h4⟩:=VH (P:=P) w B t o.type e i z size bytes ht hi hz hsize hby hzs hsz v n xs hown B1 A m c news hl hr h1 h63 hbytes hbase
 unfold Oper.wp execOp
 simp only[ho,resolve,invoke,builtin,Sem.run_bind,Sem.run_pure,Result.andThen_ok,List.map_toArray,List.map_cons,List.map_nil,hs,hx,hrun]
 exact h A' c' w' h2 h3 h4
theorem aP{P:Program}(w:World){ops:Array Oper}{rest:List Oper}{o:Oper}{a:Act}{Q:Exit→Act→World→Prop}(hgd:o.guard=none)(s x:Operand)(t:TypeId)
 (ho:o.op= .call {callee:=.builtin .append,args:=#[s,x],argTypes:=#[t,t]})
 (B:Nat) (e:TypeId) (i:TypeInfo) (z:Value) (size bytes:Nat) (ht:P.underlying t=some (.slice e)) (hi:P.info? e=some i) (hz:i.zero=some z)
 (hsize:i.size=size) (hby:i.bytes=bytes) (hzs:z.cells.size=size) (hsz:0<size)
 (v:Value) (n:Nat) (xs:List Value) (hs:a.eval s=v) (hown:w.ownsRow B e size v n xs) (B1:Nat) (A:Option Addr) (m c:Nat) (news:List Value) (hx:a.eval x= .slice A m c) (hl:news.length=m*size) (hr:Rd w B1 A news)
 (h1:∀u∈news,u.oneCell'=true) (h63:n+m≤maxLen) (hbytes:(n+m)*bytes≤140737488355328) (hbase:B≤w.heap.size)
 (h:∀A' c' w',w'.ownsRow B e size (.slice A' (n+m) c') (n+m) (xs++news)→w.grownBy w' v.ownBlock→((Value.slice A' (n+m) c').ownBlock=v.ownBlock∨(Value.slice A' (n+m) c').ownBlock=some w.heap.size)→wpList P ops Q rest (a.put o.dst (.slice A' (n+m) c')) w'):wpList P ops Q (o :: rest) a w:=
 wpList_plain hgd fun _ hK=>rO w s x t ho B e i z size bytes ht hi hz hsize hby hzs hsz v n xs hs hown B1 A m c news hx hl hr h1 h63 hbytes hbase fun A' c' w' h2 h3 h4=>hK _ _ (h A' c' w' h2 h3 h4)
theorem mD{P:Program}(w:World){ops:Array Oper}{o:Oper}{a:Act}{K:Act→World→Prop}{Q:Exit→Act→World→Prop}{E:Prop}(hgd:o.guard=none)(s x:Operand)(t:TypeId)
 (ho:o.op= .call {callee:=.builtin .append,args:=#[s,x],argTypes:=#[t,t]})
 (B:Nat) (e:TypeId) (i:TypeInfo) (z:Value) (size bytes:Nat) (ht:P.underlying t=some (.slice e)) (hi:P.info? e=some i) (hz:i.zero=some z)
 (hsize:i.size=size) (hby:i.bytes=bytes) (hzs:z.cells.size=size) (hsz:0<size)
 (v:Value) (n:Nat) (xs:List Value) (hs:a.eval s=v) (hown:w.ownsRow B e size v n xs) (B1:Nat) (A:Option Addr) (m c:Nat) (news:List Value) (hx:a.eval x= .slice A m c) (hl:news.length=m*size) (hr:Rd w B1 A news)
 (h1:∀u∈news,u.oneCell'=true) (h63:n+m≤maxLen) (hbytes:(n+m)*bytes≤140737488355328) (hbase:B≤w.heap.size)
 (h:∀A' c' w',w'.ownsRow B e size (.slice A' (n+m) c') (n+m) (xs++news)→w.grownBy w' v.ownBlock→((Value.slice A' (n+m) c').ownBlock=v.ownBlock∨(Value.slice A' (n+m) c').ownBlock=some w.heap.size)→K (a.put o.dst (.slice A' (n+m) c')) w'):
 if Region.wanted o (yielded ops a.tmps)=true then Oper.wp P o a w K Q else E:=by
 have hw:Region.wanted o (yielded ops a.tmps)=true:=by simp[Region.wanted,hgd]
 rw[if_pos hw]
 exact rO w s x t ho B e i z size bytes ht hi hz hsize hby hzs hsz v n xs hs hown B1 A m c news hx hl hr h1 h63 hbytes hbase h
theorem bY(k:IntKind)(xs:List Int):∀u∈xs.map (Value.int k),u.oneCell'=true:=by
 intro u hu
 obtain⟨x,_,rfl⟩:=List.mem_map.1 hu
 rfl
theorem aI{w0 w w':World}{B:Nat}{e:TypeId}{size n:Nat}{v:Value}{xs:List Value}(h:Below B w0 w)(hown:w.ownsRow B e size v n xs)(hg:w.grownBy w' v.ownBlock)(hB:B≤w.heap.size):Below B w0 w':=
 h.grown hg hB fun k hk=>(hown.lt k hk).1
theorem DU{w:World}{B:Nat}{e:TypeId}{g c n:Nat}{vs cur:List Value}(hg:w.heap[g]? =some (.cells cur.toArray e (0,0)))(hc:cur.length=c)(hn:n≤c)(hm:c≤maxLen)(ht:cur.take n=vs)(hB:B≤g):
 w.ownsRow B e 1 (.slice (some ⟨g,0,none⟩) n c) n vs:=by
 subst ht
 exact⟨by simp;omega,.inr ⟨g,c,cur.toArray,rfl,hB,hg,hn,hm,by simpa using hc,by simp⟩⟩
theorem later{w w':World}(hb:Below w.heap.size w w'){a:Addr}{v:Value}(h:w.cell? a=some v):w'.cell? a=some v:=
 (hb.cell (block_lt_of_cell h)).trans h
theorem dr(w:World)(vs:List Value)(arr:Array Value)(t:TypeId)(h:arr.toList=vs):Rd (w.alloc (.cells arr t)) (w.heap.size+1) (some ⟨w.heap.size,0,none⟩) vs:=fun _=>by
 refine⟨w.heap.size,0,rfl,by omega,fun i v hv=> ?_⟩
 rw[Nat.zero_add,agu _ w.heap.size i arr t (0,0) (ago w _)]
 subst h
 simpa using hv
theorem dH(w:World)(k:IntKind)(xs:List Int)(arr:Array Value)(t:TypeId)(h:arr.toList=xs.map (.int k)):ag k (w.alloc (.cells arr t)) (w.heap.size+1) (some ⟨w.heap.size,0,none⟩) xs:=dr w _ arr t h
theorem kK{w w1 w2:World}(h:Below w.heap.size w w1)(h2:Below w1.heap.size w1 w2):Below w.heap.size w w2:=h.trans (h2.mono h.size)
theorem V4{w w':World}{B:Nat}{e:TypeId}{size n:Nat}{v:Value}{vs:List Value}(h:w.ownsRow B e size v n vs)(hk:∀g,B≤g→g<w.heap.size→w'.heap[g]? =w.heap[g]?):w'.ownsRow B e size v n vs:=
 ap h fun g hg=>hk g (h.lt g hg).1 (h.lt g hg).2
theorem zK(w:World)(e:TypeId)(size:Nat):(w.alloc (.cells #[] e)).ownsRow w.heap.size e size (.slice (some ⟨w.heap.size,0,none⟩) 0 0) 0 []:=
 World.ownsRow_lit w #[] 0 (agl _) (agw _) (by simp)
theorem ag.drew{k:IntKind}{w:World}{B:Nat}{A:Option Addr}{xs:List Int}(h:ag k w B A xs):ag k w.drew B A xs:=h
theorem Rd.drew{w:World}{B:Nat}{A:Option Addr}{vs:List Value}(h:Rd w B A vs):Rd w.drew B A vs:=h
theorem ak{w w':World}(h:Below w.heap.size w w')(o:Obj):Below w.heap.size w (w'.alloc o):=h.alloc h.size o
theorem ac(w:World):Below w.heap.size w w:=Below.refl _ _
structure Kp (S:Nat→Prop) (w w':World):Prop where
 os:w'.os=w.os
 tape:w'.tape=w.tape
 output:w'.output=w.output
 size:w.heap.size≤w'.heap.size
 block:∀k,k<w.heap.size→¬S k→w'.heap[k]? =w.heap[k]?
section
variable {S : Nat → Prop} {w w' w'' : World}
theorem Kp.refl(S:Nat→Prop)(w:World):Kp S w w:=⟨rfl,rfl,rfl,agl _,fun _ _ _=>rfl⟩
theorem Kp.trans(h:Kp S w w')(k:Kp S w' w''):Kp S w w'':=
 ⟨k.os.trans h.os,k.tape.trans h.tape,k.output.trans h.output,agm h.size k.size,fun i hi hS=>(k.block i (agz hi h.size) hS).trans (h.block i hi hS)⟩
theorem Kp.below(h:Kp S w w'){B:Nat}(hS:∀k,S k→B≤k)(hB:B≤w.heap.size):Below B w w':=
 ⟨h.os,h.tape,h.output,h.size,fun k hk=>h.block k (by omega) (fun hs=>by have:=hS k hs;omega)⟩
theorem Kp.of_below(h:Below w.heap.size w w'):Kp S w w':=⟨h.os,h.tape,h.output,h.size,fun k hk _=>h.block k hk⟩
theorem Kp.mono{S':Nat→Prop}(h:Kp S w w')(hS:∀k,S k→S' k):Kp S' w w':=⟨h.os,h.tape,h.output,h.size,fun k hk hs=>h.block k hk fun hs'=>hs (hS k hs')⟩
theorem Kp.drewN(h:Kp S w w')(n:Nat):Kp S w (w'.drewN n):=⟨h.os,h.tape,h.output,h.size,h.block⟩
theorem Kp.drew(h:Kp S w w'):Kp S w w'.drew:=⟨h.os,h.tape,h.output,h.size,h.block⟩
theorem Kp.set_(h:Kp S w w'){p:Addr}(hp:S p.block)(u:Value):Kp S w (w'.setCell p u):=
 h.trans ⟨rfl,rfl,rfl,by simp[World.setCell],fun k _ hk=>agr _ _ _ _ (fun e=>hk (e ▸ hp))⟩
theorem Kp.alloc(h:Kp S w w')(o:Obj):Kp S w (w'.alloc o):=
 h.trans ⟨rfl,rfl,rfl,by simp,fun k hk _=>ags _ _ _ hk⟩
end
theorem fD:(Tryz.prog.info? 5).map (fun i=>(i.zero,i.size,i.bytes))=some (some (.int .u8 0),1,1):=by kernel_rfl
def aq(w:World)(B:Nat)(A:Option Addr)(n c:Nat)(l:List Int):Prop:=w.ownsRow B 5 1 (.slice A n c) n (l.map (.int .u8))
theorem II(w:World):aq (w.alloc (.cells #[] 5)) w.heap.size (some ⟨w.heap.size,0,none⟩) 0 0 []:=zK w _ _
theorem aq.ints{w:World}{B:Nat}{A:Option Addr}{n c:Nat}{l:List Int}(h:aq w B A n c l):ag .u8 w w.heap.size A l:=bR h
theorem aq.base{w:World}{B B':Nat}{A:Option Addr}{n c:Nat}{l:List Int}(h:aq w B A n c l)(hB:B'≤B):aq w B' A n c l:=aO h hB
theorem aq.alloc{w:World}{B:Nat}{A:Option Addr}{n c:Nat}{l:List Int}(h:aq w B A n c l)(o:Obj):aq (w.alloc o) B A n c l:=World.ownsRow.alloc h o
theorem aq.below{w w':World}{B B1:Nat}{A:Option Addr}{n c:Nat}{l:List Int}(h:aq w B A n c l)(hb:Below B1 w w')(hB:w.heap.size≤B1):aq w' B A n c l:=aD h hb hB
theorem cF{ops:Array Oper}{rest:List Oper}{o:Oper}{a:Act}{Q:Exit→Act→World→Prop}(w:World)(hgd:o.guard=none)(s x:Operand)
 (ho:o.op= .call {callee:=.builtin .append,args:=#[s,x],argTypes:=#[22,22]}) (W0:World) (A1:Option Addr) (n c1:Nat) (xs:List Int) (hs:a.eval s= .slice A1 n c1) (hown:aq w W0.heap.size A1 n c1 xs)
 (B1:Nat) (A:Option Addr) (m c:Nat) (news:List Int) (hx:a.eval x= .slice A m c) (hl:news.length=m) (hr:ag .u8 w B1 A news) (hsz:n+m≤100000) (hb:Below W0.heap.size W0 w)
 (h:∀A' c' w',aq w' W0.heap.size A' (n+m) c' (xs++news)→Below W0.heap.size W0 w'→wpList Tryz.prog ops Q rest (a.put o.dst (.slice A' (n+m) c')) w'):wpList Tryz.prog ops Q (o :: rest) a w:=by
 obtain⟨i0,cw,hz0,hz1,hz2⟩:=info_parts fD
 refine aP w hgd s x 22 ho W0.heap.size 5 i0 _ 1 1 Tryz.underlying22 cw hz0 hz1 hz2 rfl (by omega) _ n _ hs hown B1 A m c (news.map (Value.int .u8)) hx (by simpa using hl) hr (bY _ _) (by simp only[maxLen];omega) (by omega) hb.size fun A' c' w' h2 h3 _=>h A' c' w' ?_ (aI hb hown h3 hb.size)
 unfold aq
 rw[List.map_append]
 exact h2
theorem jU{ops:Array Oper}{rest:List Oper}{o:Oper}{a:Act}{Q:Exit→Act→World→Prop}(w:World)(hgd:o.guard=none)(s x:Operand)
 (ho:o.op= .call {callee:=.builtin .append,args:=#[s,x],argTypes:=#[22,22]}) (W0:World) (A1:Option Addr) (c1:Nat) (hs:a.eval s= .slice A1 0 c1) (hown:aq w W0.heap.size A1 0 c1 [])
 (B1:Nat) (A:Option Addr) (m c:Nat) (news:List Int) (hx:a.eval x= .slice A m c) (hl:news.length=m) (hr:ag .u8 w B1 A news) (hsz:m≤100000) (hb:Below W0.heap.size W0 w)
 (h:∀A' c' w',aq w' W0.heap.size A' m c' news→Below W0.heap.size W0 w'→wpList Tryz.prog ops Q rest (a.put o.dst (.slice A' m c')) w'):wpList Tryz.prog ops Q (o :: rest) a w:=by
 refine cF w hgd s x ho W0 A1 0 c1 [] hs hown B1 A m c news hx hl hr (by omega) hb fun A' c' w' h1 h2=> ?_
 rw[Nat.zero_add] at h1 ⊢
 exact h A' c' w' h1 h2
theorem aq.nil(w:World)(B:Nat):aq w B none 0 0 []:=World.ownsRow_nil _ _ _ _
theorem kj{w:World}{B g n c:Nat}{l:List Int}(h:aq w B (some ⟨g,0,none⟩) n c l){i:Nat}(hi:i<n):w.cell? ⟨g,i,none⟩=some (.int .u8 (ix l i)):=ki h hi
theorem qC{w:World}{B g n c:Nat}{l:List Int}(h:aq w B (some ⟨g,0,none⟩) n c l)(i:Nat)(x:Int):aq (w.setCell ⟨g,i,none⟩ (.int .u8 x)) B (some ⟨g,0,none⟩) n c (l.set i x):=u9 h i x
theorem nL{w:World}{B n c:Nat}{A:Option Addr}{l:List Int}(h:aq w B A n c l)(hn:0<n):∃g,A=some ⟨g,0,none⟩∧B≤g∧g<w.heap.size:=eW h hn
theorem RG(n:Int)(i:Nat)(hi:i<63)(k:Int)(hk:(BitVec.ofInt 64 k).toNat=2 ^ i-1):bits .and .i64 n k=n%((2 ^ i:Nat):Int):=by
 have key:(BitVec.ofInt 64 n &&& BitVec.ofInt 64 k).toNat=(n%((2 ^ 64:Nat):Int)).toNat%2 ^ i:=by
  rw[BitVec.toNat_and,BitVec.toNat_ofInt,hk,Nat.and_two_pow_sub_one_eq_mod]
 show IntKind.i64.wrap ((BitVec.ofInt 64 n &&& BitVec.ofInt 64 k).toNat:Nat)=_
 have hp:(2:Nat) ^ i≤2 ^ 62:=Nat.pow_le_pow_right (by omega) (by omega)
 have Gh:0<(2:Nat) ^ i:=Nat.two_pow_pos i
 have h1:(n%((2 ^ 64:Nat):Int)).toNat%2 ^ i<2 ^ i:=Nat.mod_lt _ Gh
 rw[key,agp _ (by constructor <;> omega)]
 have h2:((n%((2 ^ 64:Nat):Int)).toNat:Int)=n%((2 ^ 64:Nat):Int):=Int.toNat_of_nonneg (Int.emod_nonneg _ (by omega))
 rw[Int.natCast_emod,h2,Int.emod_emod_of_dvd]
 exact Int.natCast_dvd_natCast.2 (Nat.pow_dvd_pow 2 (by omega))
theorem Qs(xs ys:List Int)(n m:Nat)(hn:n=xs.length)(hm:m=ys.length)(hmx:n≤140737488355328)(Sn:m≤140737488355328)(A B:Option Addr)(b1 b2 c d:Nat)(w:World)(ha:ag .i64 w b1 A xs)(hb:ag .i64 w b2 B ys):
 Calls Tryz.prog 48 #[.slice A n c,.slice B m d] w fun e w'=>e= .returned (.bool (eqI xs ys))∧∃n,w'=w.drewN n:=by
 subst hn
 subst hm
 by_cases hlen:xs.length=ys.length
 ·have hne:((xs.length:Int) != (ys.length:Int))=false:=by simp[hlen]
  have J6:=aa hlen
  clear hlen
  go_enter Tryz.func48,Tryz.ntmps48
  go_wp2
  go_loopw [4,5] (fun r i wr=>r= .bool false∧(∃k:Nat,k≤xs.length∧i= .int .i64 k∧∀j,j<k→ix xs j=ix ys j)∧∃n,wr=w.drewN n) (fun _ i _=>xs.length-(intOf i).toNat)
  case atStart=>exact⟨rfl,⟨0,agw _,rfl,fun j h=>absurd h (by omega)⟩,0,rfl⟩
  case round=>
   obtain⟨rfl,⟨k,hk,rfl,hj⟩,n,rfl⟩:=hrel
   have Hj:=aa hj
   clear hj
   by_cases hlt:k<xs.length
   ·have jR:k<ys.length:=by have:=J6.out;omega
    obtain⟨b1,o1,rfl,hc1⟩:=ha.at_ hlt
    obtain⟨b2,o2,rfl,hc2⟩:=hb.at_ jR
    go_wp2
    go_quiet (fail)
    go_wp2
    ·go_ret
     have hn:(ix xs k != ix ys k)=true:=by assumption
     refine⟨aC (AP (fun h=> ?_)).symm,n+nq,World.drewN_drewN _ _ _⟩
     subst h
     simp at hn
    ·have hn:(ix xs k != ix ys k)=false:=by assumption
     go_roundw
     case rel=>
      refine⟨rfl,⟨k+1,by omega,by go_num,fun j h=> ?_⟩,n+nq,rfl⟩
      by_cases e:j=k
      ·subst e;simpa using hn
      ·exact Hj.out j (by omega)
     case measure=>simp[intOf];omega
   ·go_wp2
    go_ret
    have e:xs=ys:=jO _ _ J6.out (fun j h=>Hj.out j (by omega))
    exact⟨aC (Fp e).symm,n,rfl⟩
 ·have hne:((xs.length:Int) != (ys.length:Int))=true:=by simp;omega
  have J6:=aa hlen
  clear hlen
  go_enter Tryz.func48,Tryz.ntmps48
  go_wp2
  go_ret
  exact⟨aC (AP (fun h=>J6.out (by rw[h]))).symm,0,rfl⟩
def cG(w:World)(g:Nat)(l:List Int)(p:Nat)(e:Int):Prop:=
 ∃A c,w.cell? ⟨g,0,none⟩=some (.slice A l.length c)∧w.cell? ⟨g,1,none⟩=some (.int .i64 (p:Int))∧w.cell? ⟨g,2,none⟩=some (.int .i64 e)∧w.frozen? ⟨g,1,none⟩=false∧w.frozen? ⟨g,2,none⟩=false∧
  ag .u8 w g A l∧l.length≤c∧c≤9223372036854775807
theorem cG.keep{w w':World}{g:Nat}{l:List Int}{p:Nat}{e:Int}(h:cG w g l p e)(hb:∀q,q≤g→w'.heap[q]? =w.heap[q]?):cG w' g l p e:=by
 obtain⟨A,c,h0,h1,h2,h3,h4,h5,h6,h7⟩:=h
 have hg:=hb g (agl _)
 exact⟨A,c,(agy (a:=⟨g,0,none⟩) hg).trans h0,(agy (a:=⟨g,1,none⟩) hg).trans h1,(agy (a:=⟨g,2,none⟩) hg).trans h2,
  (World.frozen?_of_block (a:=⟨g,1,none⟩) hg).trans h3,(World.frozen?_of_block (a:=⟨g,2,none⟩) hg).trans h4,h5.block_keep (fun q hq=>hb q (by omega)),h6,h7⟩
theorem cG.lt{w:World}{g:Nat}{l:List Int}{p:Nat}{e:Int}(h:cG w g l p e):g<w.heap.size:=by
 obtain⟨A,c,h0,_⟩:=h
 exact block_lt_of_cell h0
theorem cG.below{w w':World}{g:Nat}{l:List Int}{p:Nat}{e:Int}{B:Nat}(h:cG w g l p e)(hb:Below B w w')(hB:w.heap.size≤B):cG w' g l p e:=
 h.keep fun q hq=>hb.block q (by have:=h.lt;omega)
theorem cG.drewN{w:World}{g:Nat}{l:List Int}{p:Nat}{e:Int}(h:cG w g l p e)(n:Nat):cG (w.drewN n) g l p e:=h
theorem cG.drew{w:World}{g:Nat}{l:List Int}{p:Nat}{e:Int}(h:cG w g l p e):cG w.drew g l p e:=h
theorem Kz{w:World}{A:Option Addr}{l:List Int}{c:Nat}(ha:ag .u8 w w.heap.size A l)(hc:l.length≤c)(cK:c≤9223372036854775807):
 cG (w.alloc (.cells #[.slice A l.length c,.int .i64 0,.int .i64 0] 202)) w.heap.size l 0 0:=by
 have h:=ago w (.cells #[.slice A l.length c,.int .i64 0,.int .i64 0] 202)
 exact⟨A,c,(agu _ _ _ _ _ _ h).trans rfl,(agu _ _ _ _ _ _ h).trans rfl,(agu _ _ _ _ _ _ h).trans rfl,agv _ _ 1 _ _ h,agv _ _ 2 _ _ h,
  ha.below ((Below.refl _ _).alloc (agl _) _),hc,cK⟩
def abi(l:List Int)(w:World)(e:Ending)(w':World):Prop:=∃g,e= .returned (.pointer (some ⟨g,0,none⟩))∧w.heap.size≤g∧cG w' g l 0 0∧Below w.heap.size w w'
theorem gD(l:List Int)(n:Nat)(hn:l.length=n)(hm:n≤50000)(A:Option Addr)(B c:Nat)(w:World)(ha:ag .u8 w B A l):Calls Tryz.prog 49 #[.slice A n c] w (abi l w):=by
 go_enter Tryz.func49,Tryz.ntmps49
 go_wp2_with (at_builtin;refine jU _ rfl (.const (.slice none 0 0)) (.tmp 3) rfl w none 0 rfl (aq.nil _ _) B A n c l rfl hn ha (by omega) (ac _) ?_;intro A' c' w' ho b)
 obtain⟨k1,k2⟩:=bJ ho
 subst hn
 go_ret
 exact⟨_,rfl,b.size,Kz ho.ints k1 (agm k2 (by decide)),ak b _⟩
theorem pG(l:List Int)(p:Nat)(x:Int)(g:Nat)(w:World)(h:cG w g l p x):Calls Tryz.prog 53 #[.pointer (some ⟨g,0,none⟩)] w fun e w'=>e= .returned (.int .i64 x)∧w'=w:=by
 obtain⟨A,c,h0,h1,h2,h3,h4,h5,h6,h7⟩:=h
 go_enter Tryz.func53,Tryz.ntmps53
 go_wp2_with fail
 go_ret
 exact⟨rfl,rfl⟩
theorem nM(l:List Int)(p:Nat)(x:Int)(g:Nat)(w:World)(h:cG w g l p x):Calls Tryz.prog 56 #[.pointer (some ⟨g,0,none⟩)] w fun e w'=>e= .returned (.int .i64 (p:Int))∧w'=w:=by
 obtain⟨A,c,h0,h1,h2,h3,h4,h5,h6,h7⟩:=h
 go_enter Tryz.func56,Tryz.ntmps56
 go_wp2_with fail
 go_ret
 exact⟨rfl,rfl⟩
theorem gZ(l:List Int)(p:Nat)(x:Int)(g:Nat)(w:World)(h:cG w g l p x)(hl:l.length≤50000)(hp:p≤50000):
 Calls Tryz.prog 54 #[.pointer (some ⟨g,0,none⟩)] w fun e w'=>e= .returned (.int .i64 ((l.length:Int)-(p:Int)))∧∃q,w'=w.drewN q:=by
 obtain⟨A,c,h0,h1,h2,h3,h4,h5,h6,h7⟩:=h
 have hw:=agp ((l.length:Int)-(p:Int)) (by omega)
 go_enter Tryz.func54,Tryz.ntmps54
 go_wp2_with fail
 go_quiet (fail)
 go_wp2_with fail
 go_ret
 exact⟨rfl,nq,rfl⟩
theorem AU(s:Nat)(hs:s≤8)(w:World):Calls Tryz.prog 112 #[.int .i64 (s:Int)] w fun e w'=>e= .returned (.int .i64 (s:Int))∧w'=w:=by
 have e1:(if (s:Int)<0 then(0:Int)else(s:Int))=(s:Int):=by rw[if_neg (by omega)]
 have e2:(if (8:Int)<(s:Int)then(8:Int)else(s:Int))=(s:Int):=by rw[if_neg (by omega)]
 go_enter Tryz.func112,Tryz.ntmps112
 go_wp2_with fail
 go_ret
 exact⟨rfl,rfl⟩
section
variable {w : World} {g : Nat} {l : List Int} {p : Nat} {x : Int}
theorem cG.setE(h:cG w g l p x)(y:Int):cG (w.setCell ⟨g,2,none⟩ (.int .i64 y)) g l p y:=by
 obtain⟨A,c,h0,h1,h2,h3,h4,h5,h6,h7⟩:=h
 exact⟨A,c,by simp[go_sem,h0],by simp[go_sem,h1],by simp[go_sem,h2],by rw[World.frozen?_setCell];exact h3,by rw[World.frozen?_setCell];exact h4,
  h5.block_keep (fun q hq=>agr _ _ _ _ (by simp;omega)),h6,h7⟩
theorem cG.setP(h:cG w g l p x)(q:Nat):cG (w.setCell ⟨g,1,none⟩ (.int .i64 (q:Int))) g l q x:=by
 obtain⟨A,c,h0,h1,h2,h3,h4,h5,h6,h7⟩:=h
 exact⟨A,c,by simp[go_sem,h0],by simp[go_sem,h1],by simp[go_sem,h2],by rw[World.frozen?_setCell];exact h3,by rw[World.frozen?_setCell];exact h4,
  h5.block_keep (fun q hq=>agr _ _ _ _ (by simp;omega)),h6,h7⟩
end
theorem aq.of_other{w w':World}{B:Nat}{A:Option Addr}{n c:Nat}{l:List Int}(h:aq w B A n c l)(hk:∀q,(Value.slice A n c).ownBlock=some q→w'.heap[q]? =w.heap[q]?):aq w' B A n c l:=ap h hk
def takeL(l:List Int)(p:Nat)(x:Int)(s:Nat):List Int:=if x≠0 then [] else if l.length<p+s then [] else(l.drop p).take s
def lF(l:List Int)(p:Nat)(x:Int)(s:Nat):Nat:=if x≠0 then p else if l.length<p+s then p else p+s
def lG(l:List Int)(p:Nat)(x:Int)(s:Nat):Int:=if x≠0 then x else if l.length<p+s then 3 else 0
def rB(l:List Int)(p:Nat)(x:Int)(s g:Nat)(w:World)(e:Ending)(w':World):Prop:=
 ∃A' c',e= .returned (.slice A' (takeL l p x s).length c')∧aq w' w.heap.size A' (takeL l p x s).length c' (takeL l p x s)∧cG w' g l (lF l p x s) (lG l p x s)∧Kp (fun q=>q=g) w w'
theorem Qc(l:List Int)(p:Nat)(x:Int)(hx:x≠0)(s g:Nat)(w:World)(h:cG w g l p x):
 Calls Tryz.prog 50 #[.pointer (some ⟨g,0,none⟩),.int .i64 (s:Int)] w (rB l p x s g w):=by
 have hb:(x != 0)=true:=by rw[bne_iff_ne];exact hx
 have e1:takeL l p x s=[]:=if_pos hx
 have e2:lF l p x s=p:=if_pos hx
 have e3:lG l p x s=x:=if_pos hx
 have H:=aa h
 obtain⟨A,c,h0,h1,h2,h3,h4,h5,h6,h7⟩:=h
 have E1:=aa e1
 have E2:=aa e2
 have E3:=aa e3
 clear e1 e2 e3
 go_enter Tryz.func50,Tryz.ntmps50
 go_wp2_with fail
 go_ret
 unfold rB
 rw[E1.out,E2.out,E3.out]
 exact⟨none,0,rfl,aq.nil _ _,H.out,Kp.refl _ _⟩
theorem GU(l:List Int)(hm:l.length≤50000)(p:Nat)(hp:p≤l.length)(s:Nat)(hs:s≤50000)(hlt:l.length<p+s)(g:Nat)(w:World)(h:cG w g l p 0):
 Calls Tryz.prog 50 #[.pointer (some ⟨g,0,none⟩),.int .i64 (s:Int)] w (rB l p 0 s g w):=by
 have e1:takeL l p 0 s=[]:=by unfold takeL;rw[if_neg (by simp),if_pos hlt]
 have e2:lF l p 0 s=p:=by unfold lF;rw[if_neg (by simp),if_pos hlt]
 have e3:lG l p 0 s=3:=by unfold lG;rw[if_neg (by simp),if_pos hlt]
 have H:=aa h
 obtain⟨A,c,h0,h1,h2,h3,h4,h5,h6,h7⟩:=h
 have E1:=aa e1
 have E2:=aa e2
 have E3:=aa e3
 clear e1 e2 e3
 have d1:(if (s:Int)<0 then(0:Int)else(s:Int))=(s:Int):=by rw[if_neg (by omega)]
 have d2:(s:Int) > (l.length:Int)-(p:Int):=by omega
 have d3:(l.length:Int)-(p:Int)<(s:Int):=by omega
 go_enter Tryz.func50,Tryz.ntmps50
 go_wp2_with fail
 (with_reducible refine(gZ l p 0 g _ H.out hm (by omega)).mono ?_);rintro e w2 ⟨rfl,k,hw2⟩
 have H2:Hid (cG w2 g l p 0):=by show cG _ _ _ _ _;rw[hw2];exact H.out.drewN k
 have K2:Hid (Kp (fun q=>q=g) w w2):=by show Kp _ _ _;rw[hw2];exact(Kp.refl _ _).drewN k
 clear h0 h1 h2 h3 h4 h5 hw2
 obtain⟨A2,c2,k0,k1,k2,k3,k4,k5,k6,k7⟩:=H2.out
 go_wp2_with fail
 go_ret
 unfold rB
 rw[E1.out,E2.out,E3.out]
 exact⟨none,0,rfl,aq.nil _ _,H2.out.setE 3,K2.out.set_ rfl _⟩
theorem Vr(l:List Int)(hm:l.length≤50000)(p s:Nat)(hs:1≤s)(Pw:p+s≤l.length)(g:Nat)(w:World)(h:cG w g l p 0):
 Calls Tryz.prog 50 #[.pointer (some ⟨g,0,none⟩),.int .i64 (s:Int)] w (rB l p 0 s g w):=by
 have e1:takeL l p 0 s=(l.drop p).take s:=by unfold takeL;rw[if_neg (by simp),if_neg (by omega)]
 have e2:lF l p 0 s=p+s:=by unfold lF;rw[if_neg (by simp),if_neg (by omega)]
 have e3:lG l p 0 s=0:=by unfold lG;rw[if_neg (by simp),if_neg (by omega)]
 have Ew:Hid (((l.drop p).take s).length=s):=by show _=_;simp;omega
 have H:=aa h
 have E1:=aa e1
 have E2:=aa e2
 have E3:=aa e3
 clear e1 e2 e3 h
 have d1:(if (s:Int)<0 then(0:Int)else(s:Int))=(s:Int):=by rw[if_neg (by omega)]
 have d2:¬((s:Int) > (l.length:Int)-(p:Int)):=by omega
 have d3:¬((l.length:Int)-(p:Int)<(s:Int)):=by omega
 obtain⟨q,hq⟩:∃q,q=p+s:=⟨_,rfl⟩
 have eq:(p:Int)+(s:Int)=(q:Int):=by omega
 have hqw:=agp (q:Int) (by omega)
 have e5:q-p=s:=by omega
 have e6:(p:Int)≤(q:Int):=by omega
 obtain⟨A,c,h0,h1,h2,h3,h4,h5,h6,h7⟩:=H.out
 go_enter Tryz.func50,Tryz.ntmps50
 go_wp2_with fail
 (with_reducible refine(gZ l p 0 g _ H.out hm (by omega)).mono ?_);rintro e w2 ⟨rfl,k,hw2⟩
 have H2:Hid (cG w2 g l p 0):=by show cG _ _ _ _ _;rw[hw2];exact H.out.drewN k
 have K2:Hid (Kp (fun q=>q=g) w w2):=by show Kp _ _ _;rw[hw2];exact(Kp.refl _ _).drewN k
 have hs2:Hid (w2.heap.size=w.heap.size):=by show _=_;rw[hw2];rfl
 clear h0 h1 h2 h3 h4 h5 h6 h7 hw2 A c
 obtain⟨A,c,k0,k1,k2,k3,k4,k5,k6,k7⟩:=H2.out
 have sO:g<w2.heap.size:=block_lt_of_cell k0
 have e7:(q:Int)≤(c:Int):=by omega
 have e4:¬c=p:=by omega
 obtain⟨b,off,rfl,hbg,hcell⟩:=k5.lt (by omega)
 have EK:ag .u8 w2 w2.heap.size (some ⟨b,off+p,none⟩) ((l.drop p).take s):=fun _=>by
  refine⟨b,off+p,rfl,by omega,fun i u hu=> ?_⟩
  have hi:i<s:=by have:=(List.getElem?_eq_some_iff.1 hu).1;rw[List.length_map,Ew.out] at this;exact this
  rw[eH (by rw[Ew.out];exact hi),qJ hi,jF] at hu
  rw[←Option.some.inj hu,Nat.add_assoc]
  exact hcell (p+i) (by omega)
 obtain⟨xs,Ps⟩:∃xs,xs=(l.drop p).take s:=⟨_,rfl⟩
 have Hxs:=aa Ps
 rw[←Ps] at EK Ew E1
 have FU:=aa EK
 have Hq:=aa hq
 clear Ps hq Pw hcell k5 EK
 obtain⟨i0,cw,hz0,hz1,hz2⟩:=info_parts fD
 go_wp2_with fail
 go_region_held3 (fun w'=>w'.cell? ⟨g,0,none⟩=some (.slice (some ⟨b,off,none⟩) l.length c)∧w'.cell? ⟨g,1,none⟩=some (.int .i64 (p:Int))) (first | (go_keep;done) | exact⟨later b5 k0,later b5 k1⟩)
  (first | (refine mD _ rfl (.const (.slice none 0 0)) (.tmp 34) 22 rfl w2.heap.size 5 i0 _ 1 1 Tryz.underlying22 cw hz0 hz1 hz2 rfl (by omega) (.slice none 0 0) 0 [] rfl (aq.nil w2 _) _ _ s _ (xs.map (Value.int .u8)) rfl (by rw[List.length_map,Ew.out,Nat.mul_one]) (by exact FU.out) (bY _ _) (by simp only[maxLen];omega) (by omega) (by simp) ?_;intro A5 c5 w5 bT EL Xl;have b5:Below w2.heap.size w2 w5:=(by first | exact aI (ac w2) (aq.nil w2 w2.heap.size) EL (by simp) | exact aI (ac w2).drew (aq.nil w2.drew w2.heap.size) EL (by simp));rw[Nat.zero_add] at bT;rw[Nat.zero_add]))
 have acj:aq w5 w2.heap.size A5 s c5 xs:=bT
 have O5:=aa (H2.out.below b5 (agl _))
 obtain⟨A6,c6,d0,d1',d2',d3',d4',d5',d6',d7'⟩:=O5.out
 have Ho5:=aa acj
 have Hb5:=aa b5
 clear bT acj EL Xl k0 k1 k2 k3 k4
 go_wp2_with fail
 go_ret
 unfold rB
 rw[E1.out,E2.out,E3.out,Ew.out]
 refine⟨A5,c5,rfl, ?_, ?_, ?_⟩
 ·rw[←hs2.out]
  exact aq.of_other Ho5.out fun k hk=>agr _ _ _ _ (fun e=>by have:=(agB Ho5.out k hk).1;simp at e;omega)
 ·rw[←Hq.out]
  exact O5.out.setP q
 ·exact(K2.out.trans (Kp.of_below Hb5.out)).set_ rfl _
theorem Dj(l:List Int)(hm:l.length≤50000)(p:Nat)(hp:p≤l.length)(x:Int)(s:Nat)(hs1:1≤s)(hs:s≤50000)(g:Nat)(w:World)(h:cG w g l p x):
 Calls Tryz.prog 50 #[.pointer (some ⟨g,0,none⟩),.int .i64 (s:Int)] w (rB l p x s g w):=by
 by_cases hx:x≠0
 ·exact Qc l p x hx s g w h
 ·obtain rfl:x=0:=by omega
  by_cases hlt:l.length<p+s
  ·exact GU l hm p hp s hs hlt g w h
  ·exact Vr l hm p s hs1 (by omega) g w h
end
end Go.Proofs.YtbhfpehgacaidaaGreatDoor
