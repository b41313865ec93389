import Derived.Test.YtjmmcdbogbpedaaGreatDoorBMDel
import Derived.Test.YtjmmcdbogbpedaaGreatDoorBMLib
import Derived.Laws.IdiomCopy
namespace Go.AM
set_option linter.unusedSectionVars false
variable [Lay]
open Go.RowKit Go.Lib Go.Shelf
theorem jj{P:Program}(w:World)(dT sT ty elem:TypeId)(k m:Nat)(b o dLen dCap:Nat)(a:Addr)(sLen sCap:Nat)(cs:List Value)
  (hu:P.underlying dT=some (.slice elem)) (hs:(P.info? elem).map (·.size)=some k) (hm:m=Nat.min sLen dLen) (hn:cs.length=m*k)
  (hsrc: ∀j v,cs[j]? =some v→w.cell? (a.add j)=some v) (hc: ∀j,j<cs.length→(w.cell? ⟨b,o+j,none⟩).isSome=true) (hf: ∀j,j<cs.length→w.frozen? ⟨b,o+j,none⟩=false) (h1: ∀v∈cs,v.oneCell'=true):
  (Builtin.copy_ #[dT,sT] ty #[.slice (some ⟨b,o,none⟩) dLen dCap,.slice (some a) sLen sCap]).run P w= .ok (goInt m) (w.setCells b o cs):=by
 have hl:=run_loadCells_list (P:=P) w a cs hsrc
 have hst:=run_storeCells_cells (P:=P) b o cs 0 w (by simpa using hc) (by simpa using hf) h1
 cases hq:P.info? elem with
 |none=>simp [hq] at hs
 |some i=>
  have hi:i.size=k:=by simpa [hq] using hs
  rw [hn] at hl
  simp [Builtin.copy_,run_underlying hu,Builtin.lenOf,Builtin.firstCells,sizeOf,typeInfo,hq,hi,←hm,hl,hst]
theorem jh.take{w:World}{I:Nat→Nat→Prop}{t:Ty}{l:List t.den}{us:List Value}(r:jh w I t l us)(i:Nat)(hi:i≤l.length):jh w I t (l.take i) (us.take (i*t.sz)):=by
 have h0:=r.1
 have h1:i*t.sz≤l.length*t.sz:=Nat.mul_le_mul_right _ hi
 refine⟨by simp only [List.length_take];rw [Nat.min_eq_left hi,Nat.min_eq_left (by omega)];exact Nat.le_refl _,fun k hk=> ?_⟩
 have hk':k<i:=by simp at hk;omega
 have hki:k*t.sz+t.sz≤i*t.sz:=by
  have:=Nat.mul_le_mul_right t.sz (show k+1≤i by omega)
  rwa [Nat.succ_mul] at this
 have e:((us.take (i*t.sz)).drop (k*t.sz)).take t.sz=(us.drop (k*t.sz)).take t.sz:=by
  rw [List.drop_take,List.take_take,Nat.min_eq_left (by omega)]
 rw [e,List.getElem_take]
 exact r.2 k (by omega)
theorem jh.drop{w:World}{I:Nat→Nat→Prop}{t:Ty}{l:List t.den}{us:List Value}(r:jh w I t l us)(i:Nat)(hi:i≤l.length):jh w I t (l.drop i) ((us.drop (i*t.sz)).take ((l.length-i)*t.sz)):=by
 have h0:=r.1
 have e1:l.length*t.sz=i*t.sz+(l.length-i)*t.sz:=by rw [←Nat.add_mul];congr 1;omega
 refine⟨by simp only [List.length_take,List.length_drop];rw [Nat.min_eq_left (by omega)];exact Nat.le_refl _,fun k hk=> ?_⟩
 have hk':k<l.length-i:=by simpa using hk
 have hki:k*t.sz+t.sz≤(l.length-i)*t.sz:=by
  have:=Nat.mul_le_mul_right t.sz (show k+1≤l.length-i by omega)
  rwa [Nat.succ_mul] at this
 have e:(((us.drop (i*t.sz)).take ((l.length-i)*t.sz)).drop (k*t.sz)).take t.sz=(us.drop ((i+k)*t.sz)).take t.sz:=by
  rw [List.drop_take,List.take_take,Nat.min_eq_left (by omega),List.drop_drop,Nat.add_mul]
 rw [e,List.getElem_drop]
 exact r.2 (i+k) (by omega)
theorem jh.ins{w:World}{I:Nat→Nat→Prop}{t:Ty}{l:List t.den}{us vs rest:List Value}{x:t.den}(r:jh w I t l us)(i:Nat)(hi:i≤l.length)(hx:RD w I t x vs):
  jh w I t (l.take i++x::l.drop i) (us.take (i*t.sz)++vs++(us.drop (i*t.sz)).take ((l.length-i)*t.sz)++rest):=by
 have h0:=r.1
 have h1:i*t.sz≤l.length*t.sz:=Nat.mul_le_mul_right _ hi
 have e1:l.length*t.sz=i*t.sz+(l.length-i)*t.sz:=by rw [←Nat.add_mul];congr 1;omega
 have hv:=hx.len
 have a1:(us.take (i*t.sz)).length=(l.take i).length*t.sz:=by rw [List.length_take,List.length_take,Nat.min_eq_left hi,Nat.min_eq_left (by omega)]
 have a2:((us.drop (i*t.sz)).take ((l.length-i)*t.sz)).length=(l.drop i).length*t.sz:=by rw [List.length_take,List.length_drop,List.length_drop,Nat.min_eq_left (by omega)]
 have q1:jh w I t [x] vs:=⟨by simp [hv],fun k hk=>by
  have:k=0:=by simpa using hk
  subst this
  rw [Nat.zero_mul,List.drop_zero,List.take_of_length_le (by omega)]
  exact hx⟩
 have q2:=jh.app (rest:=[]) (r.take i hi) q1 a1 (by simpa using hv)
 rw [List.append_nil] at q2
 have q3:=jh.app (rest:=rest) q2 (r.drop i hi) (by rw [List.length_append,List.length_append,a1,hv,Nat.add_mul];simp) a2
 rwa [List.append_assoc,List.singleton_append] at q3
theorem qqk(w:World)(c c':Array Value)(e:TypeId)(fz:Nat×Nat):(w.alloc (.cells c e fz)).setRow w.heap.size c'=w.alloc (.cells c' e fz):=by
 have h: ∀(a:Array Obj) (f:Obj→Obj) (o:Obj),(a.push o).modify a.size f=a.push (f o):=by
  intro a f o
  apply Array.ext
  ·simp
  ·intro i h1 h2
   rw [Array.getElem_modify]
   by_cases hi:i=a.size
   ·subst hi;simp
   ·have : i < a.size := by simp at h2; omega
    rw [if_neg (by omega),Array.getElem_push_lt this,Array.getElem_push_lt this]
 show({ w with heap:=(w.heap.push _).modify w.heap.size _ }:World)={ w with heap:=w.heap.push _ }
 rw [h]
theorem qh.insert{E:Env}{f:FuncId}(t:Ty)(ht:t≠.int .u8)(hen:ka E.P f)(zc:Array Value)(hzc:zc.size=t.sz)
  (shift : ∀ (g n cap i vb vc : Nat) (us vs : Array Value) (e e2 : TypeId) (w : World), w.heap[g]? = some (.cells us e (0, 0)) → w.heap[vb]? = some (.cells vs e2 (0, 0)) → vb ≠ g → i < n → n + 1 ≤ cap → cap * t.sz ≤ us.size → t.sz ≤ vs.size → n ≤ 4294967296 →
   (∀k v,k<n*t.sz→us[k]? =some v→v.oneCell'=true)→(∀k v,k<t.sz→vs[k]? =some v→v.oneCell'=true)→
   Calls E.P f #[.slice (some ⟨g,0,none⟩) n cap,.int .i64 i,.slice (some ⟨vb,0,none⟩) 1 vc] w fun en w'=>en= .returned (.slice (some ⟨g,0,none⟩) (n+1) cap)∧
    w'=(w.drew.setCells g ((i+1)*t.sz) ((us.toList.drop (i*t.sz)).take ((n-i)*t.sz))).setCells g (i*t.sz) (vs.toList.take t.sz))
  (grow : ∀ (g n i vb vc : Nat) (us vs : Array Value) (e e2 : TypeId) (w : World), w.heap[g]? = some (.cells us e (0, 0)) → w.heap[vb]? = some (.cells vs e2 (0, 0)) → i < n → n * t.sz ≤ us.size → t.sz ≤ vs.size → n ≤ 4294967296 →
   (∀k v,k<n*t.sz→us[k]? =some v→v.oneCell'=true)→(∀k v,k<t.sz→vs[k]? =some v→v.oneCell'=true)→
   Calls E.P f #[.slice (some ⟨g,0,none⟩) n n,.int .i64 i,.slice (some ⟨vb,0,none⟩) 1 vc] w fun en w'=> ∃G te,n+1≤G∧en= .returned (.slice (some ⟨w.heap.size,0,none⟩) (n+1) G)∧
    w'=(((w.alloc (.cells ((us.toList.take (i*t.sz)).toArray++Builtin.zeroCells zc (n+1-i)++Builtin.zeroCells zc (G-(n+1))) te (0,0))).drew.setCells w.heap.size (i*t.sz) (vs.toList.take t.sz)).drew).setCells w.heap.size ((i+1)*t.sz) ((us.toList.drop (i*t.sz)).take ((n-i)*t.sz)))
  (l:List t.den) (i:Nat) (x:t.den) (hi:i<l.length) (hl:l.length≤4294967296):
  qh E f [.own t 0 false,.int .i64 i,.own t 1 true] [.arr t l true,.arr t [x] true] (fun r h'=>r= .ret (.own t 2 false)∧h'=[.gone,.arr t [x] true,.arr t (l.take i++x::l.drop i) true]):=by
 unfold qh
 refine⟨hen,fun w I μ vs R hv=> ?_⟩
 obtain⟨hl3,hc3⟩:=hv
 obtain⟨v0,v1,v2,hvs⟩: ∃v0 v1 v2,vs= #[v0,v1,v2]:=by
  obtain⟨ls⟩:=vs
  match ls,hl3 with
  |[a,b,c],_=>exact⟨a,b,c,rfl⟩
 subst hvs
 have r0:Rep w I [.arr t l true,.arr t [x] true] μ v0 (.own t 0 false):=hc3 0 _ _ rfl rfl
 have r1:Rep w I [.arr t l true,.arr t [x] true] μ v1 (.int .i64 i):=hc3 1 _ _ rfl rfl
 have r2:Rep w I [.arr t l true,.arr t [x] true] μ v2 (.own t 1 true):=hc3 2 _ _ rfl rfl
 cases r1
 have hbb:([.arr t l true,.arr t [x] true]:qa)[0]? =some (.arr t l true):=rfl
 have hbb1:([.arr t l true,.arr t [x] true]:qa)[1]? =some (.arr t [x] true):=rfl
 -- the row
 obtain⟨a,cap,rfl,_,h3,_,h5,_⟩:=yn (g:=qd [.arr t l true,.arr t [x] true]) (fun b=> .inl rfl) r0 (t':=t) (l:=l) (fr':=true) rfl
 rcases h5 with⟨h6,_⟩|⟨q,us,e,h6,rfl,h8,h9⟩
 ·omega
 have hB:=R.blk 0 _ hbb
 rcases hB with hB|⟨q2,us2,e2,g1,g2,g3,g4,_⟩
 ·subst hB;simp at hi
 rw [h6] at g1;injection g1 with g1;subst g1
 obtain⟨fz8,h8,hz8⟩:=h8
 obtain rfl:fz8=(0,0):=hz8.resolve_right fun hh=>ht hh.1
 obtain⟨fz9,g2,_⟩:=g2
 rw [h8] at g2;injection g2 with g2;injection g2 with g2 g2';subst g2
 have hrow:jh w I t l us.toList:=⟨by simpa using g3,g4⟩
 have hone: ∀k v,k<l.length*t.sz→us[k]? =some v→v.oneCell'=true:=by
  intro k v hk hv
  have hs:0<t.sz:=by
   rcases Nat.eq_zero_or_pos t.sz with hz|hz
   ·rw [hz] at hk;omega
   ·exact hz
  have hq:k / t.sz<l.length:=Nat.div_lt_of_lt_mul (by rwa [Nat.mul_comm])
  have hm:k%t.sz<t.sz:=Nat.mod_lt _ hs
  have hkk:k / t.sz*t.sz+k%t.sz=k:=Nat.div_add_mod' k t.sz
  refine(g4 (k / t.sz) hq).one v ?_
  apply List.mem_of_getElem? (i:=k%t.sz)
  rw [List.getElem?_take,if_pos hm,List.getElem?_drop,hkk]
  simpa using hv
 -- what is put in
 obtain⟨a1,cap1,rfl,_,_,_,k5,_⟩:=yn (g:=qd [.arr t l true,.arr t [x] true]) (fun b=> .inl rfl) r2 (t':=t) (l:=[x]) (fr':=true) rfl
 rcases k5 with⟨k6,_⟩|⟨p,xs,e4,k6,rfl,k8,k9⟩
 ·cases k6
 have hB1:=R.blk 1 _ hbb1
 rcases hB1 with hB1|⟨p2,xs2,e5,m1,m2,m3,m4,_⟩
 ·cases hB1
 rw [k6] at m1;injection m1 with m1;subst m1
 obtain⟨fz6,k8,kz8⟩:=k8
 obtain rfl:fz6=(0,0):=kz8.resolve_right fun hh=>ht hh.1
 obtain⟨fz7,m2,_⟩:=m2
 rw [k8] at m2;injection m2 with m2;injection m2 with m2 m2';subst m2
 have m3:t.sz≤xs.size:=by simpa using m3
 have hx:RD w I t x (xs.toList.take t.sz):=by
  have:=m4 0 (by simp)
  simpa using this
 have hone1: ∀k v,k<t.sz→xs[k]? =some v→v.oneCell'=true:=by
  intro k v hk hv
  refine hx.one v ?_
  apply List.mem_of_getElem? (i:=k)
  rw [List.getElem?_take,if_pos hk]
  simpa using hv
 have hne:p≠q:=by
  intro hh
  subst hh
  have:=R.inj 1 0 _ _ p hbb1 hbb trivial trivial k6 h6
  cases this
 have e1:l.length*t.sz=i*t.sz+(l.length-i)*t.sz:=by rw [←Nat.add_mul];congr 1;omega
 have e3:(i+1)*t.sz=i*t.sz+t.sz:=Nat.succ_mul _ _
 have hul:l.length*t.sz≤us.toList.length:=by simpa using g3
 have htl:((us.toList.drop (i*t.sz)).take ((l.length-i)*t.sz)).length=(l.length-i)*t.sz:=by
  rw [List.length_take,List.length_drop];omega
 have hvl:(xs.toList.take t.sz).length=t.sz:=by rw [List.length_take];simp only [Array.length_toList];omega
 have hlen:(l.take i++x::l.drop i).length=l.length+1:=by simp;omega
 by_cases hroom:l.length+1≤cap
 ·-- there is room
  refine(shift q l.length cap i p cap1 us xs e e4 w h8 k8 hne hi hroom h9 m3 hl hone hone1).mono fun en w' hh=> ?_
  obtain⟨rfl,rfl⟩:=hh
  have hcs:(l.length+1)*t.sz≤us.toList.length:=Nat.le_trans (Nat.mul_le_mul_right _ hroom) (by simpa using h9)
  rw [Nat.succ_mul] at hcs
  have hfin:qm (qm us.toList ((i+1)*t.sz) ((us.toList.drop (i*t.sz)).take ((l.length-i)*t.sz))) (i*t.sz) (xs.toList.take t.sz)=
    us.toList.take (i*t.sz)++xs.toList.take t.sz++(us.toList.drop (i*t.sz)).take ((l.length-i)*t.sz)++us.toList.drop ((l.length+1)*t.sz):=by
   have b1:(i+1)*t.sz+((us.toList.drop (i*t.sz)).take ((l.length-i)*t.sz)).length≤us.toList.length:=by rw [htl];omega
   rw [yk _ _ _ (by rw [qk,hvl];omega),yk _ _ _ b1,hvl,←e3]
   have c1:(us.toList.take ((i+1)*t.sz)).length=(i+1)*t.sz:=by rw [List.length_take];omega
   rw [List.append_assoc (us.toList.take ((i+1)*t.sz)),List.take_append_of_le_length (by rw [c1];omega),List.take_take,Nat.min_eq_left (by omega)]
   rw [List.drop_append_of_le_length (by rw [c1];exact Nat.le_refl _),List.drop_of_length_le (by rw [c1];exact Nat.le_refl _),List.nil_append,htl]
   rw [←List.append_assoc]
   congr 2
   rw [←Nat.add_mul];congr 1;omega
  have e2':(w.drew.setCells q ((i+1)*t.sz) ((us.toList.drop (i*t.sz)).take ((l.length-i)*t.sz))).setCells q (i*t.sz) (xs.toList.take t.sz)=
    w.drew.setRow q (us.toList.take (i*t.sz)++xs.toList.take t.sz++(us.toList.drop (i*t.sz)).take ((l.length-i)*t.sz)++us.toList.drop ((l.length+1)*t.sz)).toArray:=by
   have h8':w.drew.heap[q]? =some (.cells us e (0,0)):=h8
   rw [ve q e (0,0) _ _ _ _ h8',ve q e (0,0) _ _ _ _ (setRow_heap _ q _ _ e _ h8'),setRow_setRow,←hfin]
  rw [e2']
  have hsz:(us.toList.take (i*t.sz)++xs.toList.take t.sz++(us.toList.drop (i*t.sz)).take ((l.length-i)*t.sz)++us.toList.drop ((l.length+1)*t.sz)).length=us.size:=by
   rw [←hfin,qk,qk];simp
  obtain⟨FIN,hFIN⟩: ∃FIN,FIN=us.toList.take (i*t.sz)++xs.toList.take t.sz++(us.toList.drop (i*t.sz)).take ((l.length-i)*t.sz)++us.toList.drop ((l.length+1)*t.sz):=⟨_,rfl⟩
  rw [←hFIN] at hsz ⊢
  obtain⟨Rd,Fd⟩:=R.drew
  have h8':w.drew.heap[q]? =some (.cells us e (0,0)):=h8
  obtain⟨I',k1,k2,k3⟩:=Rd.adopt (b:=0) (b0:=2) (w':=w.drew.setRow q FIN.toArray)
   (l':=l.take i++x::l.drop i) hbb (Nat.le_refl 2) (.inl rfl) (some q)
   (fun q' hq' => by
    injection hq' with hq'
    subst hq'
    refine⟨h6,us,_,e,⟨(0,0),.inl rfl,h8',setRow_heap w.drew q us _ e _ h8'⟩,by simpa using hsz,fun k hk=>setRow_other w.drew q k _ hk,fun _ hf _=>absurd hf (by simp),fun I'' hmono=> ?_⟩
    have hd:=jh.ins (rest:=us.toList.drop ((l.length+1)*t.sz)) hrow i (by omega) hx
    rw [←hFIN] at hd
    refine⟨by simpa using hd.1,fun k hk=>hmono _ _ _ ?_⟩
    have hd2:=hd.2 k hk
    exact hd2.mono (R.cell Fd) Fd.im)
   (fun hq'=>by cases hq') (fun hf=>by cases hf) rfl rfl rfl (by simp)
  refine⟨_,_,I',gg μ 2 (some q),⟨rfl,rfl⟩, ?_,k1,Fd.trans k2,k3⟩
  show Rep _ _ _ _ _ _
  refine .own t 2 false _ _ cap ⟨_,rfl,by simp,fun t2 l2 fr2 e2=> ?_⟩
  cases e2
  exact⟨rfl,hlen.symm,by omega,fun hf=>(by cases hf),.inr ⟨q,_,e,ki _ _ _,rfl,⟨(0,0),setRow_heap w.drew q us _ e _ h8',.inl rfl⟩,by simpa [hsz] using h9⟩⟩
 ·-- a new row
  obtain rfl:cap=l.length:=by omega
  refine(grow q l.length i p cap1 us xs e e4 w h8 k8 hi g3 m3 hl hone hone1).mono fun en w' hh=> ?_
  obtain⟨G,te,hG,rfl,rfl⟩:=hh
  obtain⟨ROW,hROW⟩: ∃ROW,ROW=(us.toList.take (i*t.sz)).toArray++Builtin.zeroCells zc (l.length+1-i)++Builtin.zeroCells zc (G-(l.length+1)):=⟨_,rfl⟩
  rw [←hROW]
  have hRs:ROW.size=G*t.sz:=by
   rw [hROW]
   simp only [Array.size_append,List.size_toArray,size_zeroCells,hzc]
   rw [List.length_take,Nat.min_eq_left (by omega),←Nat.add_mul,←Nat.add_mul]
   congr 1;omega
  have hRt:ROW.toList.take (i*t.sz)=us.toList.take (i*t.sz):=by
   rw [hROW]
   simp only [Array.toList_append,List.append_assoc]
   rw [List.take_append_of_le_length (by rw [List.length_take];omega),List.take_take,Nat.min_self]
  have hGs:(l.length+1)*t.sz≤G*t.sz:=Nat.mul_le_mul_right _ hG
  rw [Nat.succ_mul] at hGs
  have hfin:qm (qm ROW.toList (i*t.sz) (xs.toList.take t.sz)) ((i+1)*t.sz) ((us.toList.drop (i*t.sz)).take ((l.length-i)*t.sz))=
    us.toList.take (i*t.sz)++xs.toList.take t.sz++(us.toList.drop (i*t.sz)).take ((l.length-i)*t.sz)++ROW.toList.drop ((l.length+1)*t.sz):=by
   have b1:i*t.sz+(xs.toList.take t.sz).length≤ROW.toList.length:=by rw [hvl];simp only [Array.length_toList,hRs];omega
   have c1:(us.toList.take (i*t.sz)++xs.toList.take t.sz).length=(i+1)*t.sz:=by rw [List.length_append,hvl,List.length_take];omega
   rw [yk _ _ _ (by rw [qk,htl];simp only [Array.length_toList,hRs];omega),yk _ _ _ b1,hvl,htl,hRt]
   rw [List.take_append_of_le_length (by rw [c1];exact Nat.le_refl _),List.take_of_length_le (by rw [c1];exact Nat.le_refl _)]
   congr 1
   rw [List.drop_append,List.drop_of_length_le (by rw [c1];omega),List.nil_append,List.drop_drop,c1]
   congr 1
   have e5:(l.length+1)*t.sz=l.length*t.sz+t.sz:=Nat.succ_mul _ _
   omega
  have hw:(((w.alloc (.cells ROW te (0,0))).drew.setCells w.heap.size (i*t.sz) (xs.toList.take t.sz)).drew).setCells w.heap.size ((i+1)*t.sz) ((us.toList.drop (i*t.sz)).take ((l.length-i)*t.sz))=
    (w.drew.drew).alloc (.cells (us.toList.take (i*t.sz)++xs.toList.take t.sz++(us.toList.drop (i*t.sz)).take ((l.length-i)*t.sz)++ROW.toList.drop ((l.length+1)*t.sz)).toArray te (0,0)):=by
   have q0:((w.alloc (.cells ROW te (0,0))).drew).heap[w.heap.size]? =some (.cells ROW te (0,0)):=heap_alloc_new w _
   rw [ve w.heap.size te (0,0) _ _ _ _ q0]
   have q1:(((w.alloc (.cells ROW te (0,0))).drew.setRow w.heap.size (qm ROW.toList (i*t.sz) (xs.toList.take t.sz)).toArray).drew).heap[w.heap.size]? =some (.cells (qm ROW.toList (i*t.sz) (xs.toList.take t.sz)).toArray te (0,0)):=setRow_heap _ _ _ _ te _ q0
   rw [ve w.heap.size te (0,0) _ _ _ _ q1]
   have q2: ∀(W:World) g c,(W.setRow g c).drew=W.drew.setRow g c:=fun W g c=>rfl
   rw [q2,setRow_setRow]
   have q3:(w.alloc (.cells ROW te (0,0))).drew.drew=(w.drew.drew).alloc (.cells ROW te (0,0)):=rfl
   rw [q3]
   show((w.drew.drew).alloc (.cells ROW te (0,0))).setRow (w.drew.drew).heap.size _=_
   rw [qqk,hfin]
  rw [hw]
  obtain⟨Ra,Fa,Ma⟩:=R.drop hbb
  obtain⟨Rb,Fb⟩:=Ra.drew
  obtain⟨Rc,Fc⟩:=Rb.drew
  have hd:=((jh.ins (rest:=ROW.toList.drop ((l.length+1)*t.sz)) hrow i (by omega) hx).drew R).drew (R.drew).1
  obtain⟨I',s1,s2,s3,s4⟩:=qto (h:=qe [.arr t l true,.arr t [x] true] 0 .gone) (b0:=2) Rc (Nat.le_refl 2) (.inl rfl) (t:=t) (l:=l.take i++x::l.drop i) (cs:=(us.toList.take (i*t.sz)++xs.toList.take t.sz++(us.toList.drop (i*t.sz)).take ((l.length-i)*t.sz)++ROW.toList.drop ((l.length+1)*t.sz)).toArray)
   (by simpa using hd) te G false true (by omega) (fun hf => by cases hf) (by
    rw [List.size_toArray,←hfin,qk,qk];simp [hRs])
  rw [hlen] at s1
  exact⟨_,_,I',_,⟨rfl,rfl⟩,s1,s2,((Fa.trans Fb).trans Fc).trans s3,Ma.trans s4⟩
theorem qh.insertEnd{E:Env}{f:FuncId}(hE:EnvOK E)(hen:ka E.P f)(t:Ty)(S e:TypeId)(hty:(E.ti S).ty=some (.sl t))(hud:(E.ti S).ud= .slice e)(hsz:Nat.ble 1 t.sz=true)(hby:(E.ti e).bytes≤1024)
  (walk : ∀ (base va : Option Addr) (n cap vc : Nat) (w : World) (v' : Value) (w' : World), (n = 0 ∧ cap = 0 ∨ ∃ q, base = some ⟨q, 0, none⟩) → n ≤ 4294967296 → n ≤ cap → (Builtin.append_ #[S, S] S #[.slice base n cap, .slice va 1 vc]).run E.P w = .ok v' w' →
   Calls E.P f #[.slice base n cap,.int .i64 n,.slice va 1 vc] w fun en w''=>en= .returned v'∧w''=w')
  (l:List t.den) (x:t.den) (hl:l.length≤4294967296):
  qh E f [.own t 0 false,.int .i64 l.length,.own t 1 true] [.arr t l true,.arr t [x] true] (fun r h'=>r= .ret (.own t 2 false)∧h'=[.gone,.arr t [x] true,.arr t (l++[x]) true]):=by
 unfold qh
 refine⟨hen,fun w I μ vs R hv=> ?_⟩
 obtain⟨hl3,hc3⟩:=hv
 obtain⟨v0,v1,v2,hvs⟩: ∃v0 v1 v2,vs= #[v0,v1,v2]:=by
  obtain⟨ls⟩:=vs
  match ls,hl3 with
  |[a,b,c],_=>exact⟨a,b,c,rfl⟩
 subst hvs
 have r0:Rep w I [.arr t l true,.arr t [x] true] μ v0 (.own t 0 false):=hc3 0 _ _ rfl rfl
 have r1:Rep w I [.arr t l true,.arr t [x] true] μ v1 (.int .i64 l.length):=hc3 1 _ _ rfl rfl
 have r2:Rep w I [.arr t l true,.arr t [x] true] μ v2 (.own t 1 true):=hc3 2 _ _ rfl rfl
 cases r1
 have q0:=r0
 have q2:=r2
 obtain⟨a,cap,rfl,_,h3,_,h5,_⟩:=yn (g:=qd [.arr t l true,.arr t [x] true]) (fun b=> .inl rfl) r0 (t':=t) (l:=l) (fr':=true) rfl
 obtain⟨a1,cap1,rfl,_,_,_,k5,_⟩:=yn (g:=qd [.arr t l true,.arr t [x] true]) (fun b=> .inl rfl) r2 (t':=t) (l:=[x]) (fr':=true) rfl
 have hsum:qq (l.length+[x].length) (E.ti e).bytes:=⟨Nat.le_trans (Nat.mul_le_mul (show l.length+[x].length≤4294967297 by simp;omega) hby) (by decide),by simp;omega⟩
 let ρ:Operand→Value:=fun o=>match o with| .tmp 0=> .slice a l.length cap|_=> .slice a1 [x].length cap1
 have ho:kj E ⟨none,.call { callee:= .builtin .append,args:= #[.tmp 0,.tmp 1],argTypes:= #[S,S] },S,"", #[],none⟩ ρ w I [.arr t l true,.arr t [x] true] μ ⟨.own t 2 false,[(0,.gone),(2,.arr t (l++[x]) true)],[qq (l.length+[x].length) (E.ti e).bytes]⟩:=qo4 (g:=qd [.arr t l true,.arr t [x] true]) (b0:=2) (t:=S) (u:=S) (e:=e) (x:= .own t 0 false) (y:= .own t 1 true) hE R (fun b=> .inl rfl) (Nat.le_refl 2) (.inl rfl) rfl rfl hud ⟨q0,q2,trivial⟩
  (by
   rw [Nat.beq_refl]
   unfold chk
   dsimp only
   unfold qjd
   rw [hty]
   dsimp only
   rw [hsz]
   unfold chk
   dsimp only
   have e2:gt (qd [.arr t l true,.arr t [x] true]) t (.own t 1 true)=some [x]:=by simp [gt,qd]
   rw [e2]
   show(match qd [.arr t l true,.arr t [x] true] 0 with| .arr u l fr=>_|_=>none)=_
   show(if e:t=t∧t=t then _ else _)=_
   rw [dif_pos ⟨rfl,rfl⟩])
  (fun c hc=>by rw [List.mem_singleton.1 hc];exact hsum)
 obtain⟨v',nx,w',I',μ',e1,e2,s1,s2,s3,s4⟩:=ho
 have hrun:(Builtin.append_ #[S,S] S #[.slice a l.length cap,.slice a1 1 cap1]).run E.P w= .ok v' w':=by
  have hx:(execOp ρ ⟨none,.call { callee:= .builtin .append,args:= #[.tmp 0,.tmp 1],argTypes:= #[S,S] },S,"", #[],none⟩).run E.P w=((Builtin.append_ #[S,S] S #[.slice a l.length cap,.slice a1 1 cap1]).run E.P w).andThen fun v w=> .ok (.value v) w:=by
   simp [execOp,resolve,invoke,builtin,ρ]
  rw [hx] at e1
  cases hq:(Builtin.append_ #[S,S] S #[.slice a l.length cap,.slice a1 1 cap1]).run E.P w with
  |ok v2 w2=>
   rw [hq] at e1
   injection e1 with e1 e3
   subst e3
   rcases e2 with e2|⟨e2,_⟩
   ·rw [e2] at e1;injection e1 with e1;subst e1;rfl
   ·rw [e2] at e1;cases e1
  |_=>rw [hq] at e1;cases e1
 refine(walk a a1 l.length cap cap1 w v' w' ?_ hl h3 hrun).mono fun en w'' hh=> ?_
 ·rcases h5 with h5 | ⟨q, vs, e, h6, h7, h8, h9⟩
  ·exact .inl h5
  ·exact .inr ⟨q,h7⟩
 obtain⟨rfl,rfl⟩:=hh
 exact⟨_,_,I',μ',⟨rfl,rfl⟩,s1,s2,s3,s4⟩
theorem qh.frzLast{E:Env}{f:FuncId}{args:List AV}{h hh:qa}{t:Ty}{l:List t.den}{n:Nat}(c:qh E f args h (fun r h'=>r= .ret (.own t n false)∧h'=hh++[.arr t l true]))(hn:n=hh.length)(hl:h.length≤hh.length)
  (hv: ∀x∈hh,x= .gone∨∃t l fr,x= .arr t l fr):qh E f args h (fun r h'=>r= .ret (.sl t l false)∧h'=hh):=by
 unfold qh at c ⊢
 obtain⟨en,c⟩:=c
 refine⟨en,fun w I μ vs R hv2=>(c w I μ vs R hv2).mono ?_⟩
 rintro e w' ⟨r,h',I',μ',⟨rfl,rfl⟩,he,R',F,M⟩
 cases e with
 | returned u =>
  have qd:(hh++[AB.arr t l true])[n]? =some (.arr t l true):=by rw [hn];simp
  have he:Rep w' I' (hh++[.arr t l true]) μ' u (.own t n false):=he
  obtain⟨I2,R2,F2,M2,_⟩:=R'.freeze (i:=n) qd
  have hp:qe (hh++[AB.arr t l true]) n (.arr t l false)=hh++[.arr t l false]:=by
   apply List.ext_getElem?
   intro i
   rw [qi _ _ n i (by simp;omega)]
   by_cases hi:i=n
   ·subst hi;rw [if_pos rfl,hn];simp
   ·rw [if_neg hi]
    by_cases h2:i<hh.length
    ·rw [List.getElem?_append_left h2,List.getElem?_append_left h2]
    ·rw [List.getElem?_eq_none (by simp;omega),List.getElem?_eq_none (by simp;omega)]
  have F3:=F.trans F2
  have M3:=M.trans M2
  have he2:=he.step R' F2 M2
  have hr:=qae R2 (g:=fun b=>if b=n then .arr t l false else .gone) he2 (fun b hb t' l' fr e=>by
   have:b=n:=by simpa [AV.cells,jv] using hb
   subst this
   rw [if_pos rfl] at e
   cases e
   rw [hp,hn];simp)
  have er:res (fun b=>if b=n then AB.arr t l false else .gone) (.own t n false)= .sl t l false:=by simp [res,qnv]
  rw [er] at hr
  rw [hp] at R2 F3 M3
  have ap: ∀{i:Nat} {x:AB},hh[i]? =some x→(hh++[AB.arr t l false])[i]? =some x:=fun {i x} hi=>by
   rw [List.getElem?_append_left (List.getElem?_eq_some_iff.1 hi).1];exact hi
  have aw: ∀q o,Wr hh μ' q o→Wr (hh++[AB.arr t l false]) μ' q o:=by
   rintro q o ⟨i,hi,hx⟩
   refine⟨i,hi, ?_⟩
   rcases hx with⟨a,hx⟩|⟨a,b,hx⟩|⟨a,b,hx,hy⟩|⟨a,b,d,hx⟩
   ·exact .inl ⟨a,ap hx⟩
   ·exact .inr (.inl ⟨a,b,ap hx⟩)
   ·exact .inr (.inr (.inl ⟨a,b,ap hx,hy⟩))
   ·exact .inr (.inr (.inr ⟨a,b,d,ap hx⟩))
  refine⟨.ret (.sl t l false),hh,I2,μ',⟨rfl,rfl⟩, ?_, ?_, ?_, ?_⟩
  ·cases hr with
   |sl _ _ _ a n cap hr hf=>exact .sl t l false a n cap hr hf
  ·refine ⟨fun i j x y g hi hj => R2.inj i j x y g (ap hi) (ap hj), fun i x g hi => R2.lt i x g (ap hi), fun i x hi => ?_, fun q o hi hw => R2.disj q o hi (aw q o hw), R2.ilt, R2.laid⟩
   have hb:=R2.blk i x (ap hi)
   rcases hv x (List.mem_of_getElem? hi) with rfl|⟨t2,l2,fr2,rfl⟩
   ·trivial
   ·exact hb
  ·exact⟨F3.os,F3.tape,F3.output,F3.size,F3.same,F3.part,F3.nf,fun q o hw=>F3.wr q o (aw q o hw),F3.im,F3.im'⟩
  ·refine ⟨fun b x hb => ?_, fun b x y hb hy => M3.mu b x y hb (ap hy)⟩
   obtain⟨y,hy,ky⟩:=M3.kept b x hb
   have hbl:b<hh.length:=Nat.lt_of_lt_of_le (List.getElem?_eq_some_iff.1 hb).1 hl
   rw [List.getElem?_append_left hbl] at hy
   exact⟨y,hy,ky⟩
 |_=>exact he.elim
theorem q0a{E:Env}{t:Ty}{f:FuncId}(c: ∀(l:List t.den) (i:Nat) (x:t.den),i≤l.length→l.length≤4294967296→
   qh E f [.own t 0 false,.int .i64 i,.own t 1 true] [.arr t l true,.arr t [x] true] (fun r h'=>r= .ret (.own t 2 false)∧h'=[.gone,.arr t [x] true,.arr t (l.take i++x::l.drop i) true])):
  qg2 E f [.fx (.own t 0 false),.d (.int .i64),.fx (.own t 1 true)] [.arr t true,.arr t true] [⟨false,⟨[(0,.d (.sl t))],[.gone,.arr t true]⟩⟩] (fun q:Int×(List t.den×List t.den)=>w9 q):=by
 intro (q:Int×(List t.den×List t.den)) y hy
 obtain⟨i,l,v⟩:=q
 replace hy:w9 (i,(l,v))=some y:=hy
 unfold w9 at hy
 dsimp only at hy
 split at hy
 ·rename_i x
  split at hy
  ·rename_i hs
   cases hy
   obtain⟨i,rfl⟩:=Int.eq_ofNat_of_zero_le hs.1
   exact qh.frzLast (hh:=[.gone,.arr t [x] true]) (n:=2) (c l i x (by omega) (by omega)) rfl (Nat.le_refl 2) (fun z hz=>by
    rcases List.mem_cons.1 hz with rfl|hz
    ·exact .inl rfl
    ·rw [List.mem_singleton.1 hz];exact .inr ⟨_,_,_,rfl⟩)
  ·cases hy
 ·cases hy
end Go.AM
