import Derived.Test.YtjmmcdbogbpedaaGreatDoorBMLaw
import Derived.Shelf.RegionOpenPlain
import Derived.WalkKit
import Derived.Deep.LoopGhost
import Derived.Deep.RegionLaw
import Derived.Lib.Walk
import Derived.Lib.SliceRun
namespace Go.AM
set_option linter.unusedSectionVars false
variable [Lay]
open Go.RowKit Go.Lib Go.Shelf
theorem qwv{P:Program}(w:World)(t e ty:TypeId)(z:Value)(ht:P.underlying t=some (.slice e))(hv: ∀w,(zeroValue e).run P w= .ok z w)(b o n c:Nat)(hn:0<n)(h1: ∀v∈(Builtin.zeroCells z.cells n).toList,v.oneCell'=true)
  (hc: ∀j,j<(Builtin.zeroCells z.cells n).toList.length→(w.cell? ⟨b,o+j,none⟩).isSome=true) (hf: ∀j,j<(Builtin.zeroCells z.cells n).toList.length→w.frozen? ⟨b,o+j,none⟩=false):
  (Builtin.clear_ #[t] ty #[.slice (some ⟨b,o,none⟩) n c]).run P w= .ok (.tuple #[]) (w.setCells b o (Builtin.zeroCells z.cells n).toList):=by
 have hst:=run_storeCells_cells (P:=P) b o (Builtin.zeroCells z.cells n).toList 0 w (by simpa using hc) (by simpa using hf) h1
 simp only [Nat.add_zero] at hst
 obtain⟨m,rfl⟩: ∃m,n=m+1:=⟨n-1,by omega⟩
 simp [Builtin.clear_,run_underlying ht,hv,hst]
theorem ve(g:Nat)(e:TypeId)(fz:Nat×Nat): ∀(vs:List Value) (o:Nat) (w:World) (cs:Array Value),w.heap[g]? =some (.cells cs e fz)→w.setCells g o vs=w.setRow g (qm cs.toList o vs).toArray
 |[],o,w,cs,h=>by
  show w=w.setRow g cs.toList.toArray
  rw [Array.toArray_toList,setRow_self w g cs e fz h]
 |v::r,o,w,cs,h=>by
  show(w.setCell ⟨g,o,none⟩ v).setCells g (o+1) r=_
  rw [setCell_eq_setRow w g o cs e fz v h,ve g e fz r (o+1) _ _ (setRow_heap w g _ _ e fz h),setRow_setRow]
  simp [qm]
theorem q6l{w:World}{I:Nat→Nat→Prop}{t:Ty}{l:List t.den}{us zs:List Value}{i j:Nat}(hij:i<j)(hj:j≤l.length)(hz:zs.length=(j-i)*t.sz)(r:jh w I t l us):
  jh w I t (l.take i++l.drop j) (qm (qm us (i*t.sz) ((us.drop (j*t.sz)).take ((l.length-j)*t.sz))) ((i+(l.length-j))*t.sz) zs):=by
 have hn:l.length*t.sz≤us.length:=r.1
 have e1:l.length*t.sz=j*t.sz+(l.length-j)*t.sz:=by rw [←Nat.add_mul];congr 1;omega
 have e2:j*t.sz=i*t.sz+(j-i)*t.sz:=by rw [←Nat.add_mul];congr 1;omega
 have e3:(i+(l.length-j))*t.sz=i*t.sz+(l.length-j)*t.sz:=Nat.add_mul _ _ _
 have e4:l.length*t.sz=(i+(l.length-j))*t.sz+(j-i)*t.sz:=by rw [←Nat.add_mul];congr 1;omega
 have ht:((us.drop (j*t.sz)).take ((l.length-j)*t.sz)).length=(l.length-j)*t.sz:=by
  rw [List.length_take,List.length_drop];omega
 have hl1:i*t.sz+((us.drop (j*t.sz)).take ((l.length-j)*t.sz)).length≤us.length:=by rw [ht];omega
 have hl2:(i+(l.length-j))*t.sz+zs.length≤(qm us (i*t.sz) ((us.drop (j*t.sz)).take ((l.length-j)*t.sz))).length:=by
  rw [qk,hz];omega
 have hlen:(l.take i++l.drop j).length=i+(l.length-j):=by simp;omega
 refine⟨by rw [hlen,qk,qk];omega,fun k hk=> ?_⟩
 rw [hlen] at hk
 have hks:k*t.sz+t.sz≤(i+(l.length-j))*t.sz:=by
  have:=Nat.mul_le_mul_right t.sz (show k+1≤i+(l.length-j) by omega)
  rwa [Nat.succ_mul] at this
 rcases Nat.lt_or_ge k i with h|h
 ·have hki : k * t.sz + t.sz ≤ i * t.sz := by
   have:=Nat.mul_le_mul_right t.sz (show k+1≤i by omega)
   rwa [Nat.succ_mul] at this
  have:(l.take i++l.drop j)[k]=l[k]:=by
   rw [List.getElem_append_left (by simp;omega)]
   simp
  rw [this]
  have:((qm (qm us (i*t.sz) ((us.drop (j*t.sz)).take ((l.length-j)*t.sz))) ((i+(l.length-j))*t.sz) zs).drop (k*t.sz)).take t.sz=(us.drop (k*t.sz)).take t.sz:=by
   apply List.ext_getElem?
   intro m
   rw [List.getElem?_take,List.getElem?_take]
   split
   ·rw [List.getElem?_drop,List.getElem?_drop,jp _ _ _ _ hl2,if_neg (by omega),jp _ _ _ _ hl1,if_neg (by omega)]
   ·rfl
  rw [this]
  exact r.2 k (by omega)
 ·obtain ⟨d, rfl⟩ : ∃ d, k = i + d := ⟨k - i, by omega⟩
  have hd:(i+d)*t.sz=i*t.sz+d*t.sz:=Nat.add_mul _ _ _
  have hd2:(j+d)*t.sz=j*t.sz+d*t.sz:=Nat.add_mul _ _ _
  have:(l.take i++l.drop j)[i+d]=l[j+d]:=by
   rw [List.getElem_append_right (by simp;omega)]
   simp
   congr 1
   omega
  rw [this]
  have:((qm (qm us (i*t.sz) ((us.drop (j*t.sz)).take ((l.length-j)*t.sz))) ((i+(l.length-j))*t.sz) zs).drop ((i+d)*t.sz)).take t.sz=(us.drop ((j+d)*t.sz)).take t.sz:=by
   apply List.ext_getElem?
   intro m
   rw [List.getElem?_take,List.getElem?_take]
   split
   ·rename_i hm
    rw [List.getElem?_drop,List.getElem?_drop,jp _ _ _ _ hl2,if_neg (by omega),jp _ _ _ _ hl1,if_pos (by rw [ht];omega),List.getElem?_take,if_pos (by omega),List.getElem?_drop]
    congr 1
    omega
   ·rfl
  rw [this]
  exact r.2 (j+d) (by omega)
theorem qh.delete{E:Env}{f:FuncId}(t:Ty)(zc:Array Value)(hen:ka E.P f)(hzc:zc.size=t.sz)
  (qnp : ∀ (g n cap i j : Nat) (vs : Array Value) (e : TypeId) (w : World), js t w g vs e → n ≤ cap → cap * t.sz ≤ vs.size → i < j → j ≤ n → (∀ k v, k < n * t.sz → vs[k]? = some v → v.oneCell' = true) →
   Calls E.P f #[.slice (some ⟨g,0,none⟩) n cap,.int .i64 i,.int .i64 j] w fun e w'=>e= .returned (.slice (some ⟨g,0,none⟩) (n-(j-i)) cap)∧
    w'=(w.drew.setCells g (i*t.sz) ((vs.toList.drop (j*t.sz)).take ((n-j)*t.sz))).setCells g ((i+(n-j))*t.sz) (Builtin.zeroCells zc (j-i)).toList)
  (l:List t.den) (i j:Nat) (full:Bool) (hij:i<j) (hj:j≤l.length):
  qh E f [.own t 0 full,.int .i64 i,.int .i64 j] [.arr t l true] (fun r h'=>r= .ret (.own t 1 false)∧h'=[.gone,.arr t (l.take i++l.drop j) true]):=by
 unfold qh
 refine⟨hen,fun w I μ vs R hv=> ?_⟩
 obtain⟨hl3,hc3⟩:=hv
 obtain⟨v0,v1,v2,hvs⟩: ∃v0 v1 v2,vs= #[v0,v1,v2]:=by
  obtain⟨ls⟩:=vs
  match ls,hl3 with
  |[a,b,c],_=>exact⟨a,b,c,rfl⟩
 subst hvs
 have r0:Rep w I [.arr t l true] μ v0 (.own t 0 full):=hc3 0 _ _ rfl rfl
 have r1:Rep w I [.arr t l true] μ v1 (.int .i64 i):=hc3 1 _ _ rfl rfl
 have r2:Rep w I [.arr t l true] μ v2 (.int .i64 j):=hc3 2 _ _ rfl rfl
 cases r1
 cases r2
 obtain⟨a,cap,rfl,_,h3,_,h5,_⟩:=yn (g:=qd [.arr t l true]) (fun b=> .inl rfl) r0 (t':=t) (l:=l) (fr':=true) rfl
 rcases h5 with⟨h6,_⟩|⟨q,vs,e,h6,rfl,h8,h9⟩
 ·omega
 have hbb:([.arr t l true]:qa)[0]? =some (.arr t l true):=rfl
 have hB:=R.blk 0 _ hbb
 rcases hB with hB|⟨q2,vs2,e2,g1,g2,g3,g4,_⟩
 ·subst hB;simp at hj;omega
 rw [h6] at g1;injection g1 with g1;subst g1
 have hcell:=h8
 obtain⟨fz8,h8,hz8⟩:=h8
 obtain⟨fz9,g2,_⟩:=g2
 rw [h8] at g2;injection g2 with g2;injection g2 with g2 g2';subst g2
 have hrow:jh w I t l vs.toList:=⟨by simpa using g3,g4⟩
 have hone: ∀k v,k<l.length*t.sz→vs[k]? =some v→v.oneCell'=true:=by
  intro k v hk hv
  have hs:0<t.sz:=by
   rcases Nat.eq_zero_or_pos t.sz with hz|hz
   ·rw [hz] at hk;omega
   ·exact hz
  have hq:k / t.sz<l.length:=Nat.div_lt_of_lt_mul (by rwa [Nat.mul_comm])
  have hm:k%t.sz<t.sz:=Nat.mod_lt _ hs
  have hkk:k / t.sz*t.sz+k%t.sz=k:=Nat.div_add_mod' k t.sz
  refine(g4 (k / t.sz) hq).one v ?_
  apply List.mem_of_getElem? (i:=k%t.sz)
  rw [List.getElem?_take,if_pos hm,List.getElem?_drop,hkk]
  simpa using hv
 refine(qnp q l.length cap i j vs e w hcell h3 h9 hij hj hone).mono fun en w' hx=> ?_
 obtain⟨rfl,rfl⟩:=hx
 have hnl:((vs.toList.drop (j*t.sz)).take ((l.length-j)*t.sz)).length=(l.length-j)*t.sz:=by
  have e1:l.length*t.sz=j*t.sz+(l.length-j)*t.sz:=by rw [←Nat.add_mul];congr 1;omega
  rw [List.length_take,List.length_drop];simp only [Array.length_toList];omega
 have hzl:(Builtin.zeroCells zc (j-i)).toList.length=(j-i)*t.sz:=by simp [Builtin.zeroCells,hzc]
 have e1:(w.drew.setCells q (i*t.sz) ((vs.toList.drop (j*t.sz)).take ((l.length-j)*t.sz))).setCells q ((i+(l.length-j))*t.sz) (Builtin.zeroCells zc (j-i)).toList=
   w.drew.setRow q (qm (qm vs.toList (i*t.sz) ((vs.toList.drop (j*t.sz)).take ((l.length-j)*t.sz))) ((i+(l.length-j))*t.sz) (Builtin.zeroCells zc (j-i)).toList).toArray:=by
  have h8':w.drew.heap[q]? =some (.cells vs e fz8):=h8
  rw [ve q e fz8 _ _ _ _ h8',ve q e fz8 _ _ _ _ (setRow_heap _ q _ _ e _ h8'),setRow_setRow]
 rw [e1]
 obtain⟨Rd,Fd⟩:=R.drew
 have h8':w.drew.heap[q]? =some (.cells vs e fz8):=h8
 obtain⟨I',k1,k2,k3⟩:=Rd.adopt (b:=0) (b0:=1) (w':=w.drew.setRow q (qm (qm vs.toList (i*t.sz) ((vs.toList.drop (j*t.sz)).take ((l.length-j)*t.sz))) ((i+(l.length-j))*t.sz) (Builtin.zeroCells zc (j-i)).toList).toArray)
  (l':=l.take i++l.drop j) hbb (Nat.le_refl 1) (.inl rfl) (some q)
  (fun q' hq' => by
   injection hq' with hq'
   subst hq'
   refine⟨h6,vs,_,e,⟨fz8,hz8,h8',setRow_heap w.drew q vs _ e _ h8'⟩,by simp [qk],fun k hk=>setRow_other w.drew q k _ hk,fun _ hf _=>absurd hf (by simp),fun I'' hmono=> ?_⟩
   have hd:=q6l (w:=w) (I:=I) hij hj hzl hrow
   refine⟨by simpa using hd.1,fun k hk=>hmono _ _ _ ?_⟩
   have hd2:=hd.2 k hk
   exact hd2.mono (R.cell Fd) Fd.im)
  (fun hq'=>by cases hq') (fun hf=>by cases hf) rfl rfl rfl (by simp)
 refine⟨_,_,I',gg μ 1 (some q),⟨rfl,rfl⟩, ?_,k1,Fd.trans k2,k3⟩
 show Rep _ _ _ _ _ _
 have hlen:l.length-(j-i)=(l.take i++l.drop j).length:=by simp;omega
 refine .own t 1 false _ _ cap ⟨_,rfl,by simp,fun t2 l2 fr2 e2=> ?_⟩
 cases e2
 exact⟨rfl,hlen,by omega,fun hf=>(by cases hf),.inr ⟨q,_,e,ki _ _ _,rfl,⟨fz8,setRow_heap w.drew q vs _ e _ h8',by simpa [qk] using hz8⟩,by simpa [qk] using h9⟩⟩
end Go.AM
