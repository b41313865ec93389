import Derived.Test.YtjmmcdbogbpedaaGreatDoorBMTrod
namespace Go.AM
set_option linter.unusedSectionVars false
variable [Lay]
open Go.RowKit Go.ChangeShapes
def qvf:List Ty→Type
 |[]=>Unit
 |u::us=>u.den×qvf us
def inL:(us:List Ty)→qvf us→Prop
 |[],_=>True
 |u::us,x=>inR u x.1∧inL us x.2
def upL(B:Nat):(us:List Ty)→qvf us→Prop
 |[],_=>True
 |u::us,x=>upB B u x.1∧upL B us x.2
def q9k(ti:TI)(u:Ty)(x:u.den):AV:=
 match ti.ud.isAgg with
 |true=> .agg (cellsOf u x)
 |false=>match cellsOf u x with|[c]=>c|_=> .junk
def qxj(E:Env):List TypeId→(us:List Ty)→qvf us→List AV
 |t::ts,u::us,x=>q9k (E.ti t) u x.1::qxj E ts us x.2
 |_,_,_=>[]
def qpe(E:Env):List TypeId→List Ty→Bool
 |[],[]=>true
 |t::ts,u::us=>qi5 E t u&&qpe E ts us
 |_,_=>false
section
variable {H:Type} {enc:TypeId×Value→H} {E:Env} {W:World} {spare:Nat→Bool} {held:Bool}
theorem q1w(hE:EnvOK E)(hT: ∀t,tyB E t=true){B:Nat}{Q:DataW H→Prop}(hQ:Clo Q B){t:TypeId}{u:Ty}{v:Value}{d:DataW H}{ps:List MemPlace}{base:Nat}(hu:(E.ti t).ty=some u)(h:DataW.Trod enc E.P W 0 spare held t v d ps)
  (hok:Value.okWide E.P W .any base t v): ∃x:u.den,Rep W (Old W) [] (fun _=>none) v (q9k (E.ti t) u x)∧inR u x∧(Q d→upB B u x):=by
 obtain⟨fuel,hf⟩:=h
 obtain⟨x,hx,hxr⟩:=q45 hE hT hQ fuel u t _ _ _ hu hf
 refine⟨x, ?_,hxr⟩
 obtain⟨_,hkn,_⟩:=hE.ty t u hu
 have hud:=hE.und t hkn
 have hB:=hT t
 unfold tyB at hB
 rw [hu] at hB
 have hlen:=hx.len
 unfold q9k
 cases hag:(E.ti t).ud.isAgg with
 | true =>
  obtain⟨cs,rfl⟩: ∃cs,v= .agg cs:=by
   generalize (E.ti t).ud=q at hud hag
   cases q <;>simp [UD.isAgg] at hag
   ·obtain hud : E.P.underlying t = _ := hud
    simp only [Value.okWide,hud] at hok
    obtain⟨cs,h1,_⟩:=hok
    exact⟨cs,h1⟩
   ·obtain ⟨fields, hud, _⟩ := hud
    simp only [Value.okWide,hud] at hok
    obtain⟨cs,h1,_⟩:=hok
    exact⟨cs,h1⟩
  have hx:RD W (Old W) u x cs.toList:=hx
  have hlen:cs.toList.length=u.sz:=hlen
  exact .agg cs _ (by rw [w6];simpa using hlen) fun i v c e1 e2=>hx.rep i v c (by simpa using e1) e2
 | false =>
  have key:v.cells= #[v]→Rep W (Old W) [] (fun _=>none) v (match cellsOf u x with|[c]=>c|_=> .junk):=by
   intro hc
   rw [hc] at hx
   split
   ·rename_i c hcc
    exact hx.rep 0 v c rfl (by rw [hcc];rfl)
   ·exact .junk _
  apply key
  cases v with
  | agg cs =>
   exfalso
   generalize hq:(E.ti t).ud=q at hud hag hB
   cases q <;>simp [UD.isAgg] at hag
   ·obtain hud : E.P.underlying t = _ := hud
    simp [Value.okWide,hud,Cell.okWide,Cell.ok] at hok
   ·obtain hud : E.P.underlying t = _ := hud
    simp [Value.okWide,hud,Cell.okWide,Cell.ok] at hok
   ·obtain hud : E.P.underlying t = _ := hud
    simp [Value.okWide,hud,Cell.okWide,Cell.ok] at hok
   ·obtain hud : E.P.underlying t = _ := hud
    simp [Value.okWide,hud,Cell.okWide,Cell.ok] at hok
   ·cases u <;>simp at hB
   ·cases u <;>simp at hB
   ·cases u <;>simp at hB
   ·cases u <;>simp at hB
  |_=>rfl
theorem qsn(hE:EnvOK E)(hT: ∀t,tyB E t=true){B:Nat}{Q:DataW H→Prop}(hQ:Clo Q B){base:Nat}: ∀(ts:List TypeId) (us:List Ty) (vs:List Value) (ds:List (DataW H)) (ps:List MemPlace),qpe E ts us=true→DataW.TrodAll enc E.P W 0 spare held ts vs ds ps→
  (∀(j:Nat) t v,ts[j]? =some t→vs[j]? =some v→Value.okWide E.P W .any base t v)→ds.length=us.length∧∃x:qvf us,qr W (Old W) [] (fun _=>none) vs (qxj E ts us x)∧inL us x∧((∀d∈ds,Q d)→upL B us x)
 |[],[],vs,ds,ps,_,h,_=>by
  cases vs <;>cases ds <;>simp [DataW.TrodAll] at h
  exact⟨rfl,(),qr.nil,trivial,fun _=>trivial⟩
 | t :: ts, u :: us, vs, ds, ps, ht, h, hok => by
  cases vs with
  |nil=>simp [DataW.TrodAll] at h
  | cons v vs =>
   cases ds with
   |nil=>simp [DataW.TrodAll] at h
   |cons d ds=>
    obtain⟨p,q,h1,h2,_⟩:=h
    simp only [qpe,Bool.and_eq_true] at ht
    obtain⟨x,hx,hxr,hxb⟩:=q1w hE hT hQ (ke ht.1) h1 (hok 0 t v rfl rfl)
    obtain⟨hl,xs,hxs,hxsr,hxsb⟩:=qsn hE hT hQ ts us vs ds q ht.2 h2 fun j t v e1 e2=>hok (j+1) t v (by simpa using e1) (by simpa using e2)
    exact⟨by simp [hl],(x,xs),qr.cons hx hxs,⟨hxr,hxsr⟩,fun q=>⟨hxb (q _ (by simp)),hxsb fun e he=>q e (by simp [he])⟩⟩
 |[],_::_,_,_,_,ht,_,_=>by simp [qpe] at ht
 |_::_,[],_,_,_,ht,_,_=>by simp [qpe] at ht
theorem qpb{P:Program}(hl:laidOutB P=true){W':World}(hb:Below W.heap.size W W'){sp:Nat→Bool}: ∀(ts:List TypeId) (vs:List Value) (ds:List (DataW H)) (ps:List MemPlace),(ts.all fun t=>P.readableRec t&&Nat.blt t P.types.size)=true→
  DataW.TrodAll enc P W 0 (fun _=>true) true ts vs ds ps→(∀p∈ps,p.block<W.heap.size)→(∀p∈ps,sp p.block=true)→DataW.TrodAll enc P W' 0 sp true ts vs ds ps
 |[],vs,ds,ps,_,h,_,_=>by
  cases vs <;>cases ds <;>simp [DataW.TrodAll] at h ⊢
  exact h
 | t :: ts, vs, ds, ps, ht, h, hlt, hsp => by
  cases vs with
  |nil=>simp [DataW.TrodAll] at h
  | cons v vs =>
   cases ds with
   |nil=>simp [DataW.TrodAll] at h
   |cons d ds=>
    obtain⟨p,q,h1,h2,rfl⟩:=h
    simp only [List.all_cons,Bool.and_eq_true] at ht
    refine⟨p,q, ?_,qpb hl hb ts vs ds q ht.2 h2 (fun x hx=>hlt x (List.mem_append_right _ hx)) (fun x hx=>hsp x (List.mem_append_right _ hx)),rfl⟩
    exact WideElems.Trod_stays hl ht.1.1 (Nat.le_of_ble_eq_true ht.1.2) h1 (fun x hx=>hb.same (hlt x (List.mem_append_left _ hx))) (fun x hx=>hsp x (List.mem_append_left _ hx))
theorem qi9{P:Program}{f:Func}{s:ChangeSpec}{apart fresh handsOn again:Bool}{W W':World}{args:Array Value}{v:Value}{ds gs:List (DataW H)}{before pa pv:List MemPlace}
  (hW:DataW.Whole enc P f.params.toList s.vars apart W args.toList ds gs before)
  (hres: ∀(b:Nat) (sp:Nat→Bool) (hd:Bool),DataW.TrodAll enc P W' b sp hd f.resultTypes.toList (v.resultList f.resultTypes.size) (s.fn H (ds++gs)).results [])
  (hargs: ∀sp:Nat→Bool,(∀p∈before,sp p.block=true)→DataW.TrodAll enc P W' 0 sp true f.params.toList args.toList (s.fn H (ds++gs)).args pa)
  (hvars: ∀sp:Nat→Bool,(∀p∈before,sp p.block=true)→DataW.TrodVars enc P W' sp s.vars (s.fn H (ds++gs)).vars pv)
  (hps:before=pa++pv) (hk:W.keptBut W' (· ∈before)) (hfz: ∀b off,MemPlace.cell b off∈before→W'.frozen? ⟨b,off,none⟩=W.frozen? ⟨b,off,none⟩)
  (hok: ∀(j:Nat) (t:TypeId) (r:Value),f.resultTypes[j]? =some t→(v.resultList f.resultTypes.size)[j]? =some r→Value.okWide P W' .any 0 t r):
  s.post enc P f apart fresh handsOn again W args v W':=by
 have hold: ∀p∈before,(fun b=>decide (b<W.heap.size)) p.block=true:=fun p hp=>by simpa using hW.lt p hp
 refine⟨ds,gs,before,[],pa,pv,hW,hres _ _ _,hargs _ hold,hvars _ hold,World.keptBut_mono (fun p hp=>⟨hp, ?_⟩) hk,fun _=> ?_⟩
 ·rw [hps, List.mem_append] at hp
  exact Or.inr hp
 ·obtain ⟨_, _, _, _, _, hz, hn⟩ := hW
  refine⟨hok,_,_,([]++pa)++pv,⟨[]++pa,pv,trodAll_append (hargs _ (fun _ _=>rfl)) (hres _ _ _),hvars _ (fun _ _=>rfl),rfl, ?_, ?_⟩, ?_⟩
  ·intro b off hp
   have hp':MemPlace.cell b off∈before:=by rw [hps];simpa using hp
   rw [hfz b off hp']
   exact hz b off hp'
  ·intro ha
   have:=hn ha
   rw [hps] at this
   simpa using this
  ·intro p hp _
   rw [hps]
   simpa using hp
theorem q0d{fn:Func}{s:ChangeSpec}{f:FuncId}{us:List Ty}{bt:TypeId}{B:Nat}{Q:DataW H→Prop}(hQ:Clo Q B){N:Prop}(hE:EnvOK E)(hT: ∀t,tyB E t=true)(hl:laidOutB E.P=true)
  (hts:(fn.params.toList.all fun t=>E.P.readableRec t&&Nat.blt t E.P.types.size)=true) (hus:qpe E fn.params.toList us=true) (hres:fn.resultTypes= #[bt]) (hb:E.P.underlying bt=some .bool) (hvars:s.vars=[])
  (hfn: ∀(H:Type) (ds:List (DataW H)),ds.length=us.length→s.fn H ds={ results:=[.lit (.bool true)],args:=ds })
  (hlay:qnz W (Old W)) (hcall: ∀x:qvf us,inL us x→(N→upL B us x)→qh E f (qxj E fn.params.toList us x) [] (fun r h'=>r= .ret (.bool true)∧h'=[]))
  {base:Nat} {args:Array Value} {ds gs:List (DataW H)} {before:List MemPlace} (hval: ∀(j:Nat) t v,fn.params[j]? =some t→args[j]? =some v→Value.okWide E.P W .any base t v)
  (hW:DataW.Whole enc E.P fn.params.toList s.vars false W args.toList ds gs before) (hds:N→∀d∈ds,Q d):
  Calls E.P f args W fun e W'=> ∃v,e= .returned v∧s.post enc E.P fn false true false false W args v W':=by
 have hW':=hW
 obtain⟨p,q,hA,hV,rfl,hfz,hnd⟩:=hW
 rw [hvars] at hV
 obtain⟨rfl,rfl⟩:=trodVars_none hV
 obtain⟨hlen,x,hx,hxr,hxb⟩:=qsn hE hT hQ (base:=base) _ us _ _ _ hus hA fun j t v e1 e2=>hval j t v (by simpa using e1) (by simpa using e2)
 have hc:=hcall x hxr fun n=>hxb (hds n)
 unfold qh at hc
 have R:RelH W (Old W) (fun _=>none) []:=⟨fun i j x y g h1=>by simp at h1,fun i x g h1=>by simp at h1,fun i x h1=>by simp at h1,fun g o _ ⟨i,_,hx⟩=>by simp at hx,fun g o h=>h,hlay⟩
 have hnoW: ∀g o,¬Wr ([]:qa) (fun _=>none) g o:=by
  rintro g o ⟨i,hi,_⟩
  cases hi
 refine(hc.2 W (Old W) (fun _=>none) args R hx).mono fun e W' hp=> ?_
 obtain⟨r,h',I',μ',⟨rfl,rfl⟩,he,hR,hF,hM⟩:=hp
 cases e with
 |panicked c=>exact he.elim
 |outgrown=>exact he.elim
 | returned v =>
  have he:Rep W' I' [] μ' v (.bool true):=he
  have hv:v= .bool true:=by cases he;rfl
  subst hv
  have hbel:Below W.heap.size W W':=⟨hF.os,hF.tape,hF.output,hF.size,fun k hk=>hF.same k hk (hnoW k)⟩
  have hz: ∀a:Addr,a.block<W.heap.size→W'.frozen? a=W.frozen? a:=fun a h1=>hbel.frozen h1
  have hblt: ∀y∈p++[],y.block<W.heap.size:=fun y hy=>by simpa using hW'.lt y hy
  refine⟨_,rfl,qi9 (pa:=p) (pv:=[]) hW' (fun b sp hd=> ?_) (fun sp hsp=> ?_) (fun sp _=> ?_) rfl (hbel.frame _) (fun b off hp=>hz _ (hblt _ hp)) (ok_one hres rfl (okWide_bool_mk hb true))⟩
  ·rw [hfn H _ (by simpa using hlen), hres]
   exact trodAll_mk1 (shut_bool hb true)
  ·rw [hfn H _ (by simpa using hlen)]
   simp only [List.append_nil] at hblt hsp ⊢
   exact qpb hl hbel _ _ _ _ hts hA hblt hsp
  ·rw [hfn H _ (by simpa using hlen), hvars]
   rfl
end
end Go.AM
