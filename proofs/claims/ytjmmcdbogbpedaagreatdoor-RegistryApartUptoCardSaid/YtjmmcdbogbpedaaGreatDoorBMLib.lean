import Derived.Test.YtjmmcdbogbpedaaGreatDoorBMDefer
import Derived.Test.YtjmmcdbogbpedaaGreatDoorBMPack
import Derived.Test.YtjmmcdbogbpedaaGreatDoorBMHex
import Derived.Below
import Derived.Sort.Grow
import Derived.Deep.Draws
import Derived.Lib.LaidTab
import Derived.Lib.IndexMore
import Derived.Lib.ItoaNum
import Derived.Lib.Join
import Derived.Lib.Repeat
import Derived.Lib.Split
import Derived.Lib.SplitLaws
import Derived.Lib.SlTrimSet
namespace Go.AM
set_option linter.unusedSectionVars false
variable [Lay]
open Go.RowKit Go.Sort
section
variable {E:Env} {w w':World} {I:Nat→Nat→Prop} {h:qa} {μ:Nat→Option Nat}
theorem RelH.below(R:RelH w I μ h)(b:Below w.heap.size w w'):RelH w' I μ h∧Fr w (Wr h μ) I w' (Wr h μ) I:=by
 have F:Fr w (Wr h μ) I w' (Wr h μ) I:=
  ⟨b.os, b.tape, b.output, b.size, fun q hq _ => b.block q hq, fun q vs e fz hq hv => ⟨vs, (b.block q hq).trans hv, rfl, fun _ _ => rfl⟩, fun q hq hg x hx => by rw [b.block q hq] at hx; exact hg x hx,
   fun q o hw=> .inl hw,fun _ _ h=>h,fun q o hi=> .inl hi⟩
 refine⟨⟨R.inj,fun i x q hi lx hq=>Nat.lt_of_lt_of_le (R.lt i x q hi lx hq) b.size,fun i x hi=> ?_,R.disj,fun q o hi=>Nat.lt_of_lt_of_le (R.ilt q o hi) b.size,R.laid.step R.disj R.ilt F⟩,F⟩
 have hc:=R.keptI F
 cases x with
 |hole=>trivial
 |gone=>trivial
 |_=>exact zm.mono (HM.refl h μ) F.shape hc F.im (fun _=>rfl) (fun q hq=>b.block q (R.lt i _ q hi trivial hq)) (R.blk i _ hi)
theorem qvr(k:Nat)(os:Array Obj):Below w.heap.size w (grow (w.drewN k) os):=
 ⟨rfl,rfl,rfl,by simp [grow],fun i hi=>by simp only [grow,World.heap_drewN];exact Array.getElem?_append_left hi⟩
theorem qsr(k:Nat):Below w.heap.size w (w.drewN k):=⟨rfl,rfl,rfl,Nat.le_refl _,fun _ _=>rfl⟩
theorem qh.ofLib{f:FuncId}{args:List AV}{r:AV}(en:ka E.P f)
  (H: ∀(w:World) (I:Nat→Nat→Prop) (μ:Nat→Option Nat) (vs:Array Value),RelH w I μ h→qr w I h μ vs.toList args→Calls E.P f vs w fun e w'=> ∃v,e= .returned v∧Rep w' I h μ v r∧Below w.heap.size w w'):
  qh E f args h (fun r' h'=>r'= .ret r∧h'=h):=by
 unfold qh
 refine⟨en,fun w I μ vs R hv=>(H w I μ vs R hv).mono ?_⟩
 rintro e w' ⟨v,rfl,hr,hb⟩
 obtain⟨R',F⟩:=R.below hb
 exact⟨.ret r,h,I,μ,⟨rfl,rfl⟩,hr,R',F,HM.refl _ _⟩
def qg2(E:Env)(f:FuncId)(ins:List Sh)(hin:List BSh)(outs:List FA)(G:(xb (Sh.ty.tyL ins) (tyH hin)).den→Option (jb (qak outs))):Prop:= ∀x y,G x=some y→qd0 E f ins hin outs x y
theorem q1x{w:World}{I:Nat→Nat→Prop}{h:qa}{μ:Nat→Option Nat}{vs:Array Value}{x:AV}(c:qr w I h μ vs.toList [x]): ∃v,vs= #[v]∧Rep w I h μ v x:=by
 obtain⟨l⟩:=vs
 match l,c with
 |[v],c=>exact⟨v,rfl,c.2 0 v x rfl rfl⟩
 |[],c=>exact absurd c.1 (by simp)
 |_::_::_,c=>exact absurd c.1 (by simp)
theorem qn5{w:World}{I:Nat→Nat→Prop}{h:qa}{μ:Nat→Option Nat}{vs:Array Value}{x y:AV}(c:qr w I h μ vs.toList [x,y]): ∃v u,vs= #[v,u]∧Rep w I h μ v x∧Rep w I h μ u y:=by
 obtain⟨l⟩:=vs
 match l,c with
 |[v,u],c=>exact⟨v,u,rfl,c.2 0 v x rfl rfl,c.2 1 u y rfl rfl⟩
 |[],c=>exact absurd c.1 (by simp)
 |[_],c=>exact absurd c.1 (by simp)
 |_::_::_::_,c=>exact absurd c.1 (by simp)
theorem jfo{vs:List Value}{x y z:AV}(hx: ∀v∈vs[0]?,Rep w I h μ v x)(hy: ∀v∈vs[1]?,Rep w I h μ v y)(hz: ∀v∈vs[2]?,Rep w I h μ v z)(hl:vs.length=3):Rep w I h μ (.tuple vs.toArray) (.tup [x,y,z]):=by
 refine .tup _ _ (by simpa using hl) fun i v c e1 e2=> ?_
 match i with
 |0=>cases e2;exact hx v (by simpa using e1)
 |1=>cases e2;exact hy v (by simpa using e1)
 |2=>cases e2;exact hz v (by simpa using e1)
 |n+3=>simp at e2
noncomputable def qfa:Str×Str→Option (Str×Str×Bool):=fun(s,sep)=>
 if s.length<4294967281 then some (Lib.cut s sep) else none
theorem qni{f g:FuncId}(en:ka E.P f)(hg:g∈Lay.ints)(s sep:Str)(hs:s.length<4294967281)
  (c : ∀ (s sep : ByteArray) (m : Int) (w : World), s.size < 4294967281 → w.cell? ⟨g, 0, none⟩ = some (.int .i64 m) →
   Calls E.P f #[.string s,.string sep] w fun e w'=>e= .returned (.tuple #[.string ⟨(Lib.cut s.data.toList sep.data.toList).1.toArray⟩,.string ⟨(Lib.cut s.data.toList sep.data.toList).2.1.toArray⟩,.bool (Lib.cut s.data.toList sep.data.toList).2.2])∧∃n,w'=w.drewN n):
  qh E f [.str s,.str sep] [] fun r h'=>r= .ret (.tup [.str (Lib.cut s sep).1,.str (Lib.cut s sep).2.1,.bool (Lib.cut s sep).2.2])∧h'=[]:=by
 refine qh.ofLib en fun w I μ vs R hv=> ?_
 obtain⟨v,u,rfl,h1,h2⟩:=qn5 hv
 obtain rfl:=ji h1
 obtain rfl:=ji h2
 obtain⟨m,hm,_⟩:=R.laid.2 g hg
 refine(c ⟨s.toArray⟩ ⟨sep.toArray⟩ m w (show s.toArray.size<_ by rw [List.size_toArray];exact hs) hm).mono ?_
 rintro e w' ⟨rfl,n,rfl⟩
 refine⟨_,rfl, ?_,qsr n⟩
 exact jfo (vs:=[_,_,_]) (by rintro v ⟨⟩;exact .str _) (by rintro v ⟨⟩;exact .str _) (by rintro v ⟨⟩;exact .bool _) rfl
theorem qnr{f g:FuncId}(en:ka E.P f)(hg:g∈Lay.ints)
  (c : ∀ (s sep : ByteArray) (m : Int) (w : World), s.size < 4294967281 → w.cell? ⟨g, 0, none⟩ = some (.int .i64 m) →
   Calls E.P f #[.string s,.string sep] w fun e w'=>e= .returned (.tuple #[.string ⟨(Lib.cut s.data.toList sep.data.toList).1.toArray⟩,.string ⟨(Lib.cut s.data.toList sep.data.toList).2.1.toArray⟩,.bool (Lib.cut s.data.toList sep.data.toList).2.2])∧∃n,w'=w.drewN n):
  qg2 E f [.d .str,.d .str] [] [⟨false,⟨[(0,.tup [.d .str,.d .str,.d .bool])],[]⟩⟩] qfa:=by
 intro x y hy
 change (if List.length x.1<4294967281 then some (Lib.cut x.1 x.2) else none)=some y at hy
 split at hy
 ·rename_i hs
  cases hy
  exact qni en hg x.1 x.2 hs c
 ·cases hy
noncomputable def zw:Int→Option Str:=fun n=>if -9223372036854775808≤n∧n≤9223372036854775807 then some (Lib.itoa n) else none
theorem qjw{f g:FuncId}{nm:String}(en:ka E.P f)(hg:(g,Lib.pow10Tab.map fun z=>Value.int .u64 z)∈Lay.cells)(hn:E.P.globalNamed nm=some g)(n:Int)(h0: -9223372036854775808≤n)(h1:n≤9223372036854775807)
  (c : ∀ (n : Int), -9223372036854775808 ≤ n → n ≤ 9223372036854775807 → ∀ (w : World), Lib.TabIs E.P w nm .u64 Lib.pow10Tab →
   Calls E.P f #[.int .i64 n] w fun e w'=>e= .returned (.string ⟨(Lib.itoa n).toArray⟩)∧∃k os,w'=grow (w.drewN k) os):
  qh E f [.int .i64 n] [] fun r h'=>r= .ret (.str (Lib.itoa n))∧h'=[]:=by
 refine qh.ofLib en fun w I μ vs R hv=> ?_
 obtain⟨v,rfl,h2⟩:=q1x hv
 obtain rfl:=jg h2
 obtain⟨⟨e,fz,hm⟩,_⟩:=R.laid.1 _ hg
 refine(c n h0 h1 w (by unfold Lib.TabIs World.var?;rw [hn];simp only [Option.bind_some];rw [hm])).mono ?_
 rintro e w' ⟨rfl,k,os,rfl⟩
 exact⟨_,rfl,.str _,qvr k os⟩
theorem qk1{f g:FuncId}{nm:String}(en:ka E.P f)(hg:(g,Lib.pow10Tab.map fun z=>Value.int .u64 z)∈Lay.cells)(hn:E.P.globalNamed nm=some g)
  (c : ∀ (n : Int), -9223372036854775808 ≤ n → n ≤ 9223372036854775807 → ∀ (w : World), Lib.TabIs E.P w nm .u64 Lib.pow10Tab →
   Calls E.P f #[.int .i64 n] w fun e w'=>e= .returned (.string ⟨(Lib.itoa n).toArray⟩)∧∃k os,w'=grow (w.drewN k) os):
  qg2 E f [.d (.int .i64)] [] [⟨false,⟨[(0,.d .str)],[]⟩⟩] zw:=by
 intro (n:Int) (y:Str) hy
 change zw n=some y at hy
 unfold zw at hy
 split at hy
 ·rename_i hs
  cases hy
  exact qjw en hg hn n hs.1 hs.2 c
 ·cases hy
noncomputable def yw:List Str×Str→Option Str:=fun(l,sep)=>
 if l.length≤140737488355328∧(Lib.join l sep).length≤140737488355328 then some (Lib.join l sep) else none
theorem q06{t:List Str}{ad:Option Addr}{n cap:Nat}(hr:RD w I (.sl .str) t [.slice ad n cap]):
  n=t.length∧t.length≤cap∧(t≠[]→∃g o,ad=some ⟨g,o,none⟩∧∀(j:Nat) (x:Str),t[j]? =some x→w.cell? ⟨g,o+j,none⟩=some (.string ⟨x.toArray⟩)):=by
 cases hr with
 | sl _ _ _ _ cs hcap hel hat =>
  refine⟨rfl,hcap,fun h0=> ?_⟩
  obtain⟨g,o,ha,hc⟩:=hat (List.length_pos_iff.2 h0)
  refine⟨g,o,ha,fun j x hj=> ?_⟩
  obtain⟨hlt,he⟩:=List.getElem?_eq_some_iff.1 hj
  have hr:=hel j hlt
  have h1:cs j=[.string ⟨x.toArray⟩]:=by
   clear hc
   rw [he] at hr
   generalize cs j=q at hr
   cases hr
   rfl
  have:=(hc j hlt 0 _ (by rw [h1];rfl)).1
  simpa [Ty.sz] using this
theorem qjx{f:FuncId}(en:ka E.P f)(l:List Str)(sep:Str)(hN:l.length≤140737488355328)(hlen:(Lib.join l sep).length≤140737488355328)
  (c0: ∀(a:Option Addr) (c:Nat) (sep:ByteArray) (w:World),Calls E.P f #[.slice a 0 c,.string sep] w fun e w'=>e= .returned (.string ⟨#[]⟩)∧w'=w)
  (c : ∀ (bk o c : Nat) (xs : List ByteArray) (sep : ByteArray) (w : World), (∀ (j : Nat) x, xs[j]? = some x → w.cell? ⟨bk, o + j, none⟩ = some (.string x)) → bk < w.heap.size → xs.length ≤ 140737488355328 → xs.length ≤ c →
   (Lib.join (xs.map (·.data.toList)) sep.data.toList).length≤140737488355328→
   Calls E.P f #[.slice (some ⟨bk,o,none⟩) xs.length c,.string sep] w fun e w'=>e= .returned (.string ⟨(Lib.join (xs.map (·.data.toList)) sep.data.toList).toArray⟩)∧Below w.heap.size w w'):
  qh E f [.sl .str l false,.str sep] [] fun r h'=>r= .ret (.str (Lib.join l sep))∧h'=[]:=by
 refine qh.ofLib en fun w I μ vs R hv=> ?_
 obtain⟨v,u,rfl,h1,h2⟩:=qn5 hv
 obtain rfl:=ji h2
 cases h1 with
 | sl _ _ _ a n cap hr _ =>
  obtain⟨rfl,hcap,hat⟩:=q06 hr
  by_cases h0:l=[]
  ·subst h0
   refine(c0 a cap ⟨sep.toArray⟩ w).mono ?_
   rintro e w' ⟨rfl,rfl⟩
   exact⟨_,rfl,.str _,.refl _ _⟩
  ·obtain ⟨g, o, rfl, hc⟩ := hat h0
   have hmap:(l.map fun x=>(⟨x.toArray⟩:ByteArray)).map (·.data.toList)=l:=by simp [List.map_map,Function.comp_def]
   have key:=c g o cap (l.map fun x=>⟨x.toArray⟩) ⟨sep.toArray⟩ w (fun j x hj=>by
    rw [List.getElem?_map] at hj
    cases hq:l[j]? with
    |none=>rw [hq] at hj;cases hj
    |some y=>rw [hq] at hj;cases hj;exact hc j y hq) (by
    obtain⟨x,hx⟩: ∃x,l[0]? =some x:=by cases l with
     |nil=>exact absurd rfl h0
     |cons x r=>exact⟨x,rfl⟩
    have:=hc 0 x hx
    unfold World.cell? at this
    simp only [Option.isSome_none,Bool.false_eq_true,if_false] at this
    cases hb:w.heap[g]? with
    |none=>rw [hb] at this;cases this
    |some _=>exact(Array.getElem?_eq_some_iff.1 hb).1) (by simpa using hN) (by simpa using hcap) (by rw [hmap];exact hlen)
   rw [hmap,List.length_map] at key
   refine key.mono ?_
   rintro e w' ⟨rfl,hb⟩
   exact⟨_,rfl,.str _,hb⟩
theorem qk2{f:FuncId}(en:ka E.P f)
  (c0: ∀(a:Option Addr) (c:Nat) (sep:ByteArray) (w:World),Calls E.P f #[.slice a 0 c,.string sep] w fun e w'=>e= .returned (.string ⟨#[]⟩)∧w'=w)
  (c : ∀ (bk o c : Nat) (xs : List ByteArray) (sep : ByteArray) (w : World), (∀ (j : Nat) x, xs[j]? = some x → w.cell? ⟨bk, o + j, none⟩ = some (.string x)) → bk < w.heap.size → xs.length ≤ 140737488355328 → xs.length ≤ c →
   (Lib.join (xs.map (·.data.toList)) sep.data.toList).length≤140737488355328→
   Calls E.P f #[.slice (some ⟨bk,o,none⟩) xs.length c,.string sep] w fun e w'=>e= .returned (.string ⟨(Lib.join (xs.map (·.data.toList)) sep.data.toList).toArray⟩)∧Below w.heap.size w w'):
  qg2 E f [.d (.sl .str),.d .str] [] [⟨false,⟨[(0,.d .str)],[]⟩⟩] yw:=by
 intro x y hy
 change (if List.length x.1≤140737488355328∧(Lib.join x.1 x.2).length≤140737488355328 then some (Lib.join x.1 x.2) else none)=some y at hy
 split at hy
 ·rename_i hs
  cases hy
  exact qjx en x.1 x.2 hs.1 hs.2 c0 c
 ·cases hy
noncomputable def xk:Str×Str→Option Str:=fun(s,cs)=>
 if cs.length<4294967281∧cs.all (fun b=>decide (b.toNat<128))=true then some (Lib.trimLeftS s cs) else none
theorem qd2{f:FuncId}(en:ka E.P f)(s cs:Str)(h1:cs.length<4294967281)(h2:cs.all (fun b=>decide (b.toNat<128))=true)
  (c : ∀ (s cs : ByteArray) (w : World), cs.size < 4294967281 → (∀ (j : Nat) b, cs.data.toList[j]? = some b → b.toNat < 128) →
   Calls E.P f #[.string s,.string cs] w fun e w'=>e= .returned (.string ⟨(Lib.trimLeftS s.data.toList cs.data.toList).toArray⟩)∧Below w.heap.size w w'):
  qh E f [.str s,.str cs] [] fun r h'=>r= .ret (.str (Lib.trimLeftS s cs))∧h'=[]:=by
 refine qh.ofLib en fun w I μ vs R hv=> ?_
 obtain⟨v,u,rfl,q1,q2⟩:=qn5 hv
 obtain rfl:=ji q1
 obtain rfl:=ji q2
 refine(c ⟨s.toArray⟩ ⟨cs.toArray⟩ w (show cs.toArray.size<_ by rw [List.size_toArray];exact h1) (fun j b hb=>by
  have hb:cs[j]? =some b:=hb
  exact of_decide_eq_true (List.all_eq_true.1 h2 b (List.mem_of_getElem? hb)))).mono ?_
 rintro e w' ⟨rfl,hb⟩
 exact⟨_,rfl,.str _,hb⟩
theorem qec{f:FuncId}(en:ka E.P f)
  (c : ∀ (s cs : ByteArray) (w : World), cs.size < 4294967281 → (∀ (j : Nat) b, cs.data.toList[j]? = some b → b.toNat < 128) →
   Calls E.P f #[.string s,.string cs] w fun e w'=>e= .returned (.string ⟨(Lib.trimLeftS s.data.toList cs.data.toList).toArray⟩)∧Below w.heap.size w w'):
  qg2 E f [.d .str,.d .str] [] [⟨false,⟨[(0,.d .str)],[]⟩⟩] xk:=by
 intro x y hy
 change (if List.length x.2<4294967281∧List.all x.2 (fun b=>decide (UInt8.toNat b<128))=true then some (Lib.trimLeftS x.1 x.2) else none)=some y at hy
 split at hy
 ·rename_i hs
  cases hy
  exact qd2 en x.1 x.2 hs.1 hs.2 c
 ·cases hy
noncomputable def qhg{α:Type}:List α→Option (List α):=fun l=>if l.length≤4294967296 then some l else none
theorem qx5{t:Ty}{f:FuncId}(c: ∀l:List t.den,l.length≤4294967296→qh E f [.sl t l false] [] (fun r h'=>r= .ret (.own t 0 false)∧h'=[.arr t l true])):
  qg2 E f [.d (.sl t)] [] [⟨false,⟨[(0,.fx (.own t 0 false))],[.arr t true]⟩⟩] (fun q:List t.den=>qhg q):=by
 intro x y hy
 change (if List.length x≤4294967296 then some x else none)=some y at hy
 split at hy
 ·rename_i hs
  cases hy
  exact c x hs
 ·cases hy
noncomputable def qaa{α:Type}:((Int×Int)×List α)→Option (List α):=fun q=>if 0≤q.1.1∧q.1.1<q.1.2∧q.1.2≤(q.2.length:Int) then some (q.2.take q.1.1.toNat++q.2.drop q.1.2.toNat) else none
theorem q36{t:Ty}{f:FuncId}(c: ∀(l:List t.den) (i j:Nat) (full:Bool),i<j→j≤l.length→
   qh E f [.own t 0 full,.int .i64 i,.int .i64 j] [.arr t l true] (fun r h'=>r= .ret (.own t 1 false)∧h'=[.gone,.arr t (l.take i++l.drop j) true])):
  qg2 E f [.fx (.own t 0 false),.d (.int .i64),.d (.int .i64)] [.arr t true] [⟨false,⟨[(0,.fx (.own t 1 false))],[.gone,.arr t true]⟩⟩] (fun q:(Int×Int)×List t.den=>qaa q):=by
 intro (q:(Int×Int)×List t.den) y hy
 obtain⟨⟨i,j⟩,l⟩:=q
 change (if 0≤i∧i<j∧j≤(l.length:Int) then some (l.take i.toNat++l.drop j.toNat) else none)=some y at hy
 split at hy
 ·rename_i hs
  cases hy
  obtain⟨i,rfl⟩:=Int.eq_ofNat_of_zero_le hs.1
  obtain⟨j,rfl⟩:=Int.eq_ofNat_of_zero_le (show 0≤j by omega)
  exact c l i j false (by omega) (by omega)
 ·cases hy
noncomputable def yb{α:Type}:(Int×(List α×List α))→Option (List α×List α):=fun q=>
 match q.2.2 with
 |[x]=>if 0≤q.1∧q.1≤(q.2.1.length:Int)∧q.2.1.length≤4294967296 then some ([x],q.2.1.take q.1.toNat++x::q.2.1.drop q.1.toNat) else none
 |_=>none
noncomputable def w9{α:Type}:(Int×(List α×List α))→Option (List α×List α):=fun q=>
 match q.2.2 with
 |[x]=>if 0≤q.1∧q.1≤(q.2.1.length:Int)∧q.2.1.length≤4294967296 then some (q.2.1.take q.1.toNat++x::q.2.1.drop q.1.toNat,[x]) else none
 |_=>none
theorem q37{t:Ty}{f:FuncId}(c: ∀(l:List t.den) (i:Nat) (x:t.den),i≤l.length→l.length≤4294967296→
   qh E f [.own t 0 false,.int .i64 i,.own t 1 true] [.arr t l true,.arr t [x] true] (fun r h'=>r= .ret (.own t 2 false)∧h'=[.gone,.arr t [x] true,.arr t (l.take i++x::l.drop i) true])):
  qg2 E f [.fx (.own t 0 false),.d (.int .i64),.fx (.own t 1 true)] [.arr t true,.arr t true] [⟨false,⟨[(0,.fx (.own t 2 false))],[.gone,.arr t true,.arr t true]⟩⟩] (fun q:Int×(List t.den×List t.den)=>yb q):=by
 intro (q:Int×(List t.den×List t.den)) y hy
 obtain⟨i,l,v⟩:=q
 replace hy:yb (i,(l,v))=some y:=hy
 unfold yb at hy
 dsimp only at hy
 split at hy
 ·rename_i x
  split at hy
  ·rename_i hs
   cases hy
   obtain⟨i,rfl⟩:=Int.eq_ofNat_of_zero_le hs.1
   exact c l i x (by omega) (by omega)
  ·cases hy
 ·cases hy
noncomputable def qjj:Str→Option Str:=fun s=>if s.length≤35184372088832 then some (zr s) else none
theorem qtn{f:FuncId}(en:ka E.P f)
  (c: ∀(s:ByteArray) (w:World),s.size≤35184372088832→Calls E.P f #[.string s] w fun e w'=>e= .returned (.string ⟨(zr s.data.toList).toArray⟩)∧Below w.heap.size w w'):
  qg2 E f [.d .str] [] [⟨false,⟨[(0,.d .str)],[]⟩⟩] qjj:=by
 intro (s:Str) y hy
 change (if List.length s≤35184372088832 then some (zr s) else none)=some y at hy
 split at hy
 ·rename_i hs
  cases hy
  have:=qh.ofLib (h:=[]) (args:=[.str s]) (r:= .str (zr s)) en fun w I μ vs R hv=>by
   obtain⟨v,rfl,h1⟩:=q1x hv
   obtain rfl:=ji h1
   refine(c ⟨s.toArray⟩ w (show s.toArray.size≤_ by rw [List.size_toArray];exact hs)).mono ?_
   rintro e w' ⟨rfl,hb⟩
   exact⟨_,rfl,.str _,hb⟩
  exact this
 ·cases hy
noncomputable def qbq:Str×Str→Option Int:=fun(a,b)=>some (Lib.compareBytes a b)
theorem qe9{f:FuncId}(en:ka E.P f)
  (c: ∀(a b:ByteArray) (w:World),Calls E.P f #[.string a,.string b] w fun e w'=>e= .returned (.int .i64 (Lib.compareBytes a.data.toList b.data.toList))∧w'=w):
  qg2 E f [.d .str,.d .str] [] [⟨false,⟨[(0,.d (.int .i64))],[]⟩⟩] qbq:=by
 intro x y hy
 change some (Lib.compareBytes (x.1:Str) (x.2:Str))=some y at hy
 cases hy
 have:=qh.ofLib (h:=[]) (args:=[.str x.1,.str x.2]) (r:= .int .i64 (Lib.compareBytes (x.1:Str) (x.2:Str))) en fun w I μ vs R hv=>by
  obtain⟨v,u,rfl,h1,h2⟩:=qn5 hv
  obtain rfl:=ji h1
  obtain rfl:=ji h2
  refine(c ⟨(x.1:Str).toArray⟩ ⟨(x.2:Str).toArray⟩ w).mono ?_
  rintro e w' ⟨rfl,rfl⟩
  exact⟨_,rfl,.int _ _,Below.refl _ _⟩
 exact this
noncomputable def jd:Str×Int→Option Int:=fun(s,c)=>some (Lib.indexByte s c.toNat.toUInt8)
theorem qdo{f:FuncId}(en:ka E.P f)
  (c: ∀(s:ByteArray) (c:Int) (w:World),Calls E.P f #[.string s,.int .u8 c] w fun e w'=>e= .returned (.int .i64 (Lib.indexByte s.data.toList c.toNat.toUInt8))∧w'=w):
  qg2 E f [.d .str,.d (.int .u8)] [] [⟨false,⟨[(0,.d (.int .i64))],[]⟩⟩] jd:=by
 intro x y hy
 change some (Lib.indexByte (x.1:Str) ((x.2:Int).toNat.toUInt8))=some y at hy
 cases hy
 have:=qh.ofLib (h:=[]) (args:=[.str x.1,.int .u8 x.2]) (r:= .int .i64 (Lib.indexByte (x.1:Str) ((x.2:Int).toNat.toUInt8))) en fun w I μ vs R hv=>by
  obtain⟨v,u,rfl,h1,h2⟩:=qn5 hv
  obtain rfl:=ji h1
  obtain rfl:=jg h2
  refine(c ⟨(x.1:Str).toArray⟩ x.2 w).mono ?_
  rintro e w' ⟨rfl,rfl⟩
  exact⟨_,rfl,.int _ _,Below.refl _ _⟩
 exact this
theorem qh.fmap{f:FuncId}{args:List AV}{k v:Ty}{l:List (k.den×v.den)}(hk:qin k=true)(c:qh E f args [] (fun r h'=>r= .ret (.mptr 0)∧h'=[.mp k v l])):
  qh E f args [] (fun r h'=>r= .ret (.fmap k v l)∧h'=[]):=by
 unfold qh at c ⊢
 obtain⟨en,c⟩:=c
 refine⟨en,fun w I μ vs R hv=>(c w I μ vs R hv).mono ?_⟩
 rintro e w' ⟨r,h',I',μ',⟨rfl,rfl⟩,he,R',F,M⟩
 cases e with
 | returned u =>
  cases he with
  | mptr _ g hp =>
   obtain⟨x,hx,_,h2⟩:=hp
   have hx:some (AB.mp k v l)=some x:=hx
   cases hx
   have hg:=h2 (by simp)
   have hm:uc w' I' μ' 0 k v l:=R'.blk 0 _ rfl
   rw [uc.of hk] at hm
   obtain⟨g',es,cl,k1,k2,k3⟩:=hm
   rw [hg] at k1;cases k1
   obtain⟨I2,R2,F2,M2,hI⟩:=R'.freezeMap (i:=0) rfl hg
   have F3:=F.trans F2
   refine⟨.ret (.fmap k v l),[],I2,μ',⟨rfl,rfl⟩,.fmap k v l g es cl hI k2 k3, ?_, ?_, ?_⟩
   ·refine ⟨fun i j x y g hi => by simp at hi, fun i x g hi => by simp at hi, fun i x hi => by simp at hi, ?_, R2.ilt, R2.laid⟩
    rintro q o _ ⟨i,_,hx⟩
    rcases hx with⟨_,hx⟩|⟨_,_,hx⟩|⟨_,_,hx,_⟩|⟨_,_,_,hx⟩ <;>simp at hx
   ·refine ⟨F3.os, F3.tape, F3.output, F3.size, F3.same, F3.part, F3.nf, ?_, F3.im, F3.im'⟩
    rintro q o ⟨i,_,hx⟩
    rcases hx with⟨_,hx⟩|⟨_,_,hx⟩|⟨_,_,hx,_⟩|⟨_,_,_,hx⟩ <;>simp at hx
   ·exact⟨fun b x hb=>by simp at hb,fun b x y hb=>by simp at hb⟩
 |_=>exact he.elim
noncomputable def yl:Str×Str→Option (Str×Bool):=fun(s,p)=>some (Lib.trimPrefix s p,Lib.hasPrefix s p)
theorem jef{f:FuncId}(en:ka E.P f)
  (c: ∀(s p:ByteArray) (w:World),Calls E.P f #[.string s,.string p] w fun e w'=>e= .returned (.tuple #[.string ⟨(Lib.trimPrefix s.data.toList p.data.toList).toArray⟩,.bool (Lib.hasPrefix s.data.toList p.data.toList)])∧w'=w):
  qg2 E f [.d .str,.d .str] [] [⟨false,⟨[(0,.tup [.d .str,.d .bool])],[]⟩⟩] yl:=by
 intro x y hy
 change some (Lib.trimPrefix (x.1:Str) (x.2:Str),Lib.hasPrefix (x.1:Str) (x.2:Str))=some y at hy
 cases hy
 have:=qh.ofLib (h:=[]) (args:=[.str x.1,.str x.2]) (r:= .tup [.str (Lib.trimPrefix (x.1:Str) (x.2:Str)),.bool (Lib.hasPrefix (x.1:Str) (x.2:Str))]) en fun w I μ vs R hv=>by
  obtain⟨v,u,rfl,h1,h2⟩:=qn5 hv
  obtain rfl:=ji h1
  obtain rfl:=ji h2
  refine(c ⟨(x.1:Str).toArray⟩ ⟨(x.2:Str).toArray⟩ w).mono ?_
  rintro e w' ⟨rfl,rfl⟩
  exact⟨_,rfl,.tup _ _ rfl (fun i v c e1 e2=>by
   match i with
   |0=>cases e1;cases e2;exact .str _
   |1=>cases e1;cases e2;exact .bool _
   |n+2=>simp at e2),Below.refl _ _⟩
 exact this
end
end Go.AM
