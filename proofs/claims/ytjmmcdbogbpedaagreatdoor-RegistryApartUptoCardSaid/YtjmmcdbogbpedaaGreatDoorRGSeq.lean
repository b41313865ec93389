import Derived.Test.YtjmmcdbogbpedaaGreatDoorRGShelf
import Derived.Test.YtjmmcdbogbpedaaGreatDoorRGHex
import Derived.Test.YtjmmcdbogbpedaaGreatDoorTRepo
import Derived.Test.YtjmmcdbogbpedaaGreatDoorRGPartC
import Derived.Test.YtjmmcdbogbpedaaGreatDoorBMSeq
import Derived.RangeFuncNested
import Derived.RangeFuncBound
import Derived.RangeFuncCalls
import Derived.RangeFuncLeaves
import Derived.Shelf.Abstract
import Derived.Shelf.RegionOpen
import Derived.WalkKit
import Derived.OwnWalkIn
import Derived.TacticsInMore
import Derived.LoopNIn
import Derived.LoopIn
namespace Go.Proofs.Tryz
open Go.AM Go.RowKit Go.Shelf
attribute [local go_sem] Oper.semAt_some
set_option maxHeartbeats 4000000 in
set_option maxRecDepth 1000000 in
theorem qnx(s:ByteArray)(w:World):
  Calls prog 107 #[.string s,.string ⟨#[47]⟩] w fun e w'=>e= .returned (.func (.func 174) #[] #[.pointer (some ⟨w.heap.size+1,0,none⟩),.pointer (some ⟨w.heap.size,0,none⟩),.pointer (some ⟨w.heap.size+2,0,none⟩)])∧
   w'=((w.alloc (.cells #[.string s] 9)).alloc (.cells #[.string ⟨#[47]⟩] 9)).alloc (.cells #[.int .i64 0] 3):=by
 go_enter func107,ntmps107
 go_wp2
 go_ret
 exact⟨rfl,rfl⟩
def xm(s:ByteArray):List ByteArray:=(Lib.split s.data.toList [47]).map fun l=>⟨l.toArray⟩
abbrev szB(v:Option Value):Nat:=match v with|some (.string s)=>s.size|_=>0
set_option maxHeartbeats 4000000 in
set_option maxRecDepth 1000000 in
theorem qlx{p:ByteArray→Prop}(n:Nat)(hn:1≤n)(b L:Nat)(s:ByteArray)(w0:World)(hL:b+2<L)(h0:w0.cell? ⟨b,0,none⟩=some (.string s))(hf0:w0.frozen? ⟨b,0,none⟩=false)
  (h1:w0.cell? ⟨b+1,0,none⟩=some (.string ⟨#[47]⟩)) (h2:w0.cell? ⟨b+2,0,none⟩=some (.int .i64 0)) (hs:s.size≤128) (hpp: ∀x∈xm s,p x):
  qn0 Fence.wide n prog 174 #[.pointer (some ⟨b+1,0,none⟩),.pointer (some ⟨b,0,none⟩),.pointer (some ⟨b+2,0,none⟩)] (fun x:{ x:ByteArray // p x }=> #[.string x.1]) b (Below L)
   (fun xs=>xs.map Subtype.val=xm s) (fun pre=>pre.map Subtype.val<+:xm s) (xm s).length w0:=by
 intro l J Jx W hW hJ hJx hJc hY hJ0
 refine callsIn_of_wp func174 rfl trivial ?_ rfl
 simp only [ntmps174,List.size_toArray,List.length_cons,List.length_nil,Nat.reduceAdd,Nat.reduceSub,Array.replicate_succ,Array.replicate_zero,List.push_toArray,List.append_toArray,List.nil_append,List.cons_append]
 have c0:W.cell? ⟨b,0,none⟩=some (.string s):=by
  rw [hW.cell (World.block_lt_of_cell? _ _ h0)];exact h0
 have c1:W.cell? ⟨b+1,0,none⟩=some (.string ⟨#[47]⟩):=by
  rw [hW.cell (World.block_lt_of_cell? _ _ h1)];exact h1
 have c2:W.cell? ⟨b+2,0,none⟩=some (.int .i64 0):=by
  rw [hW.cell (World.block_lt_of_cell? _ _ h2)];exact h2
 have cf:W.frozen? ⟨b,0,none⟩=false:=by
  have:=hW.frozen (p:=⟨b,0,none⟩) (World.block_lt_of_cell? _ _ h0)
  rw [this];exact hf0
 gi_wp2
 gi_loopw [7] (fun v wr=> ∃(pre:List { x:ByteArray // p x }) (r:ByteArray),xm s=pre.map Subtype.val++xm r∧r.size≤128∧wr.cell? ⟨b,0,none⟩=some (.string r)∧wr.frozen? ⟨b,0,none⟩=false∧
   wr.cell? ⟨b+1,0,none⟩=some (.string ⟨#[47]⟩)∧wr.cell? ⟨b+2,0,none⟩=some (.int .i64 0)∧J pre wr) (fun _ wr=>szB (wr.cell? ⟨b,0,none⟩))
 case atStart=>exact⟨[],s,rfl,hs,c0,cf,c1,c2,hJ0⟩
 case round=>
  obtain⟨pre,r,hp,hr,k0,kf,k1,k2,hJr⟩:=hrel
  by_cases hi:Lib.indexByte r.data.toList 47= -1
  ·have hone : xm r = [r] := by
    unfold xm
    rw [qww (by rw [Lib.index_one];exact hi)]
    rfl
   have hpr:p r:=hpp r (by rw [hp,hone];simp)
   obtain⟨fn,tmps,assign,body,hy,hR⟩:=hY pre ⟨r,hpr⟩ wr hJr (by rw [hp,hone];simp)
   dsimp only at hy
   gi_wp2_with (refine⟨trivial, ?_⟩;gi_at_call 176;refine(callsIn_wide.2 (strings_Index_one r 47 _)).mono ?_;rintro e w' ⟨rfl,rfl⟩)
   refine hR.mono ?_
   rintro e W3 (⟨rfl,hJ3,hk3⟩|⟨rfl,hJx3⟩)
   ·gi_wp2
    go_end0
    exact⟨⟨_,rfl⟩,.inl ⟨pre++[⟨r,hpr⟩],by rw [hp,hone];simp,hJ3⟩⟩
   ·gi_wp2
    go_end0
    exact⟨⟨_,rfl⟩,.inr ⟨pre++[⟨r,hpr⟩],by rw [hp,hone];simp,hJx3⟩⟩
  ·obtain ⟨i, hi2⟩ : ∃ i : Nat, Lib.indexByte r.data.toList 47 = (i : Int) := by
    have:=Lib.indexByte_ge r.data.toList 47
    exact⟨(Lib.indexByte r.data.toList 47).toNat,by omega⟩
   have hroom:i+1≤r.size:=by
    have:=Lib.index_room r.data.toList [47] (by rw [Lib.index_one,hi2];omega)
    rw [Lib.index_one,hi2] at this
    have e1:([47]:List UInt8).length=1:=rfl
    have e2:r.data.toList.length=r.size:=rfl
    omega
   have ex0:(r.extract 0 i).data.toList=r.data.toList.take i:=Lib.extract_from_zero r i
   have ex1:(r.extract (i+1) r.size).data.toList=r.data.toList.drop (i+1):=Lib.extract_to_end r (i+1)
   have hmore:xm r=r.extract 0 i::xm (r.extract (i+1) r.size):=by
    unfold xm
    rw [q05 (i:=i) (by rw [Lib.index_one];exact hi2),ex1,List.map_cons,←ex0]
   have hsz:(r.extract (i+1) r.size).size=r.size-(i+1):=by rw [ByteArray.size_extract];omega
   have hpr:p (r.extract 0 i):=hpp _ (by rw [hp,hmore];simp)
   obtain⟨fn,tmps,assign,body,hy,hR⟩:=hY pre ⟨r.extract 0 i,hpr⟩ wr hJr (by rw [hp,hmore];simp)
   dsimp only at hy
   gi_wp2_with (refine⟨trivial, ?_⟩;gi_at_call 176;refine(callsIn_wide.2 (strings_Index_one r 47 _)).mono ?_;rintro e w' ⟨rfl,rfl⟩;rw [hi2])
   refine hR.mono ?_
   rintro e W3 (⟨rfl,hJ3,hk3⟩|⟨rfl,hJx3⟩)
   ·have q0 : W3.cell? ⟨b, 0, none⟩ = some (.string r) := (hk3.cell (p := ⟨b, 0, none⟩) (show b < L by omega)).trans k0
    have qf:W3.frozen? ⟨b,0,none⟩=false:=(hk3.frozen (p:=⟨b,0,none⟩) (show b<L by omega)).trans kf
    have q1:W3.cell? ⟨b+1,0,none⟩=some (.string ⟨#[47]⟩):=(hk3.cell (p:=⟨b+1,0,none⟩) (show b+1<L by omega)).trans k1
    have q2:W3.cell? ⟨b+2,0,none⟩=some (.int .i64 0):=(hk3.cell (p:=⟨b+2,0,none⟩) (show b+2<L by omega)).trans k2
    gi_wp2
    go_roundw
    case rel=>
     refine⟨pre++[⟨r.extract 0 i,hpr⟩],r.extract (i+1) r.size,by rw [hp,hmore];simp,by omega,World.cell?_setCell_same' _ _ _ (by rw [q0];rfl),by rw [World.frozen?_setCell];exact qf, ?_, ?_,hJc _ _ _ hJ3⟩
     ·exact(World.cell?_of_block (heap_setCell_other W3 ⟨b,0,none⟩ (b+1) _ (show b+1≠b by omega))).trans q1
     ·exact(World.cell?_of_block (heap_setCell_other W3 ⟨b,0,none⟩ (b+2) _ (show b+2≠b by omega))).trans q2
    case measure=>
     rw [World.cell?_setCell_same' _ _ _ (by rw [q0];rfl),k0]
     show(r.extract (i+1) r.size).size<r.size
     omega
   ·gi_wp2
    refine bodyPost_ret (results_none rfl _ _ _) rfl ?_
    exact⟨⟨_,rfl⟩,.inr ⟨pre++[⟨r.extract 0 i,hpr⟩],by rw [hp,hmore];simp,hJx3⟩⟩
theorem u5(W:World)(v:Value)(t:TypeId):(W.alloc (.cells #[v] t)).cell? ⟨W.heap.size,0,none⟩=some v∧(W.alloc (.cells #[v] t)).frozen? ⟨W.heap.size,0,none⟩=false:=
 ⟨by rw [World.cell?_alloc_new];rfl,World.frozen?_alloc_new _ _ _ _⟩
theorem xy{W:World}{a:Addr}{v:Value}(o:Obj)(h:W.cell? a=some v∧W.frozen? a=false):(W.alloc o).cell? a=some v∧(W.alloc o).frozen? a=false:=
 ⟨cell_kept h.1 (World.grownBy_alloc W o none) (fun r e=>by cases e),(frozen_kept h.1 (World.grownBy_alloc W o none) (fun r e=>by cases e)).trans h.2⟩
set_option maxHeartbeats 4000000 in
set_option maxRecDepth 1000000 in
theorem qk8(s:Str)(t:Bool)(w:World)(I:Nat→Nat→Prop)(μ:Nat→Option Nat)(R:RelH w I μ [])(hy:qz s=some t):
  Calls prog 58 #[.string ⟨s.toArray⟩] w fun e w'=>e= .returned (.bool t)∧Below w.heap.size w w':=by
 have part: ∀(x:ByteArray) (b:Bool) (W:World),Plain.z0l x.data.toList=some b→Below w.heap.size w W→Calls prog 108 #[.string x] W fun e w'=>e= .returned (.bool b)∧Below W.heap.size W w':=fun x b W hx hb=>
  qh.out (E:=E) (s:=x.data.toList) (((jb6.s _ ()) x.data.toList b hx).mono fun r h' h=>h) (R.below hb).1
 refine(callsIn_wide (n:=5)).1 ?_
 refine callsIn_of_wp_marks func58 rfl trivial ?_ rfl
 simp only [ntmps58,List.size_toArray,List.length_cons,List.length_nil,Nat.reduceAdd,Nat.reduceSub,Array.replicate_succ,Array.replicate_zero,List.push_toArray,List.append_toArray,List.nil_append,List.cons_append]
 obtain⟨r,hr⟩: ∃r,r=w.heap.size:=⟨_,rfl⟩
 gi_wp2_with (refine⟨trivial, ?_⟩;gi_at_call 107;refine(callsIn_wide.2 (qnx _ _)).mono ?_;rintro e w' ⟨rfl,rfl⟩)
 ·have hlong : ¬ s.length ≤ 128 := by omega
  unfold qz ui at hy
  rw [if_neg hlong] at hy
  cases hy
  refine⟨.bool false, ?_,rfl,(Below.refl _ w).alloc (Nat.le_refl _) _⟩
  simp [results,f58,go_sem]
 ·have hshort : s.length ≤ 128 := by omega
  unfold qz ui at hy
  rw [if_pos hshort] at hy
  split at hy
  ·rename_i hall
   have hp: ∀x∈xm ⟨s.toArray⟩,(Plain.z0l x.data.toList).isSome=true:=by
    intro x hx
    obtain⟨y,h1,rfl⟩:=List.mem_map.1 hx
    exact List.all_eq_true.1 hall y h1
   have ht:t=(xm ⟨s.toArray⟩).all fun x=>Plain.z0l x.data.toList==some true:=by
    unfold xm
    rw [List.all_map]
    injection hy with hy
    exact hy.symm
   clear hy
   obtain⟨W1,hW1⟩: ∃W1,W1=w.alloc (.cells #[.bool false] 4):=⟨_,rfl⟩
   obtain⟨W2,hW2⟩: ∃W2,W2=W1.alloc (.cells #[.string ⟨s.toArray⟩] 9):=⟨_,rfl⟩
   obtain⟨W3,hW3⟩: ∃W3,W3=W2.alloc (.cells #[.string ⟨#[47]⟩] 9):=⟨_,rfl⟩
   obtain⟨W4,hW4⟩: ∃W4,W4=W3.alloc (.cells #[.int .i64 0] 3):=⟨_,rfl⟩
   have z1:W1.heap.size=w.heap.size+1:=by rw [hW1,World.size_alloc]
   have z2:W2.heap.size=w.heap.size+2:=by rw [hW2,World.size_alloc,z1]
   have z3:W3.heap.size=w.heap.size+3:=by rw [hW3,World.size_alloc,z2]
   have z4:W4.heap.size=w.heap.size+4:=by rw [hW4,World.size_alloc,z3]
   have cr:=u5 w (.bool false) 4
   have c0:=u5 W1 (.string ⟨s.toArray⟩) 9
   have c1:=u5 W2 (.string ⟨#[47]⟩) 9
   have c2:=u5 W3 (.int .i64 0) 3
   rw [←hW1] at cr
   rw [←hW2,z1] at c0
   rw [←hW3,z2] at c1
   rw [←hW4,z3] at c2
   have cr:=xy (.cells #[.int .i64 0] 3) (xy (.cells #[.string ⟨#[47]⟩] 9) (xy (.cells #[.string ⟨s.toArray⟩] 9) cr))
   have c0:=xy (.cells #[.int .i64 0] 3) (xy (.cells #[.string ⟨#[47]⟩] 9) c0)
   have c1:=xy (.cells #[.int .i64 0] 3) c1
   rw [←hW2,←hW3,←hW4] at cr
   rw [←hW3,←hW4] at c0
   rw [←hW4] at c1
   have hB4:Below w.heap.size w W4:=by
    rw [hW4,hW3,hW2,hW1]
    exact((((Below.refl _ w).alloc (Nat.le_refl _) _).alloc (by simp) _).alloc (by simp;omega) _).alloc (by simp;omega) _
   rw [←hW1,←hW2,←hW3,←hW4]
   refine qdr (F:=Fence.wide) rfl (by omega) (gf:=174) (lb:= #[.pointer (some ⟨w.heap.size+1+1,0,none⟩),.pointer (some ⟨w.heap.size+1,0,none⟩),.pointer (some ⟨w.heap.size+1+2,0,none⟩)]) rfl trivial (enters_of func174 (by kernel_rfl) rfl)
    (bc:=w.heap.size+1) (qlx (p:=fun x=>(Plain.z0l x.data.toList).isSome=true) 4 (by omega) (w.heap.size+1) (w.heap.size+4) ⟨s.toArray⟩ _ (by omega) ?c0 ?f0 ?c1 ?c2 (by show s.toArray.size≤128;simpa using hshort) hp) (by rw [z4];omega) belowK_t (belowK_b (by rw [z4];exact Nat.le_refl _)) (Below.refl _ _) (fun _=>rfl)
    (fun pre W=>(W.cell? ⟨w.heap.size,0,none⟩=some (.bool false)∧W.frozen? ⟨w.heap.size,0,none⟩=false∧∀x∈pre,Plain.z0l x.1.data.toList=some true)∧Below w.heap.size W4 W)
    (fun c pre W=>(c= .ret∧W.cell? ⟨w.heap.size,0,none⟩=some (.bool false)∧∃x∈pre,Plain.z0l x.1.data.toList=some false)∧Below w.heap.size W4 W)
    ?hI ?hIx ?hIc ?h0
    (fun x=>{ tmps:= #[.string ⟨s.toArray⟩,undef,.pointer (some ⟨w.heap.size,0,none⟩),.string x.1,.string ⟨s.toArray⟩,.int .i64 (s.length:Int),.bool (decide (128<(s.length:Int))),.string ⟨s.toArray⟩,.func (.func 174) #[] #[.pointer (some ⟨w.heap.size+1+1,0,none⟩),.pointer (some ⟨w.heap.size+1,0,none⟩),.pointer (some ⟨w.heap.size+1+2,0,none⟩)],.string x.1,undef,undef,undef],defers:=[] }) ?assign ?body ?done ?stop
   case c0=>exact c0.1
   case f0=>exact c0.2
   case c1=>exact c1.1
   case c2=>exact c2.1
   case hI=>
    exact OwnFrom.and (Own.from (fun s A B row hs hg hr=>⟨cell_kept hs.1 hg hr,(frozen_kept hs.1 hg hr).trans hs.2.1,hs.2.2⟩) _) (ownFrom_below (by rw [z4];omega) (by rw [z4];omega))
   case hIx=>
    intro c
    exact OwnFrom.and (Own.from (fun s A B row hs hg hr=>⟨hs.1,cell_kept hs.2.1 hg hr,hs.2.2⟩) _) (ownFrom_below (by rw [z4];omega) (by rw [z4];omega))
   case hIc=>
    rintro pre W v ⟨⟨h1,h2,h3⟩,hb⟩
    exact⟨⟨(World.cell?_of_block (heap_setCell_other W ⟨w.heap.size+1,0,none⟩ w.heap.size v (show w.heap.size≠w.heap.size+1 by omega))).trans h1,by rw [World.frozen?_setCell];exact h2,h3⟩,hb.setCell (p:=⟨w.heap.size+1,0,none⟩) (Nat.le_succ _) v⟩
   case h0=>
    refine⟨⟨cr.1,cr.2,fun x hx=>(by cases hx)⟩,Below.refl _ _⟩
   case assign=>
    intro l x W K hK
    gi_wp2
    exact hK
   case body=>
    rintro l pre x W ⟨⟨hc,hf,hpre⟩,hb⟩ _
    obtain⟨bx,hbx⟩:=Option.isSome_iff_exists.1 x.2
    gi_wp2_with (gi_at_call 108;fail)
    refine⟨trivial,(CallsIn.inRound l (callsIn_wide.2 (part x.1 bx W hbx (hB4.trans hb)))).mono ?_⟩
    rintro e W' ⟨rfl,hbW⟩
    have hko:KeepsOthers W W':=⟨hbW.size,fun k o hk _=>(hbW.block k (Array.getElem?_eq_some_iff.1 hk).1).trans hk⟩
    have hs4:w.heap.size+4≤W.heap.size:=by rw [←z4];exact hb.size
    have hlt:w.heap.size<W.heap.size:=World.block_lt_of_cell? _ _ hc
    have hc':W'.cell? ⟨w.heap.size,0,none⟩=some (.bool false):=(hbW.cell (p:=⟨w.heap.size,0,none⟩) hlt).trans hc
    have hf':W'.frozen? ⟨w.heap.size,0,none⟩=false:=(hbW.frozen (p:=⟨w.heap.size,0,none⟩) hlt).trans hf
    dsimp only
    cases bx with
    |true=>
     gi_wp2
     exact⟨hko,hbW.mono hs4,⟨hc',hf',fun y hy=>(List.mem_append.1 hy).elim (hpre y) (fun e=>by rw [List.mem_singleton.1 e];exact hbx)⟩,hb.trans (hbW.mono (by omega))⟩
    |false=>
     gi_wp2
     exact⟨hko.trans (KeepsOthers.setCell _ _ _),⟨rfl,World.cell?_setCell_same' _ _ _ (by rw [hc'];rfl),x,by simp,hbx⟩,(hb.trans (hbW.mono (by omega))).setCell (p:=⟨w.heap.size,0,none⟩) (Nat.le_refl _) _⟩
   case done=>
    rintro D ys W hD hys ⟨⟨hc,hf,hpre⟩,hb⟩ hK
    gi_wp2
    have hK':=(KeepsOthers.setCell W ⟨w.heap.size,0,none⟩ (.bool true)).same D _ hK rfl
    refine⟨by simp,.inl ⟨_,_,rfl,run_takeDeferred hK', ?_⟩⟩
    have hc5:=cell_kept (World.cell?_setCell_same' W ⟨w.heap.size,0,none⟩ (.bool true) (by rw [hc];rfl)) (grownBy_putObj' _ D (.deferred none)) (fun r e=>by cases e;exact⟨_,hK',rfl⟩)
    refine⟨.bool true, ?_, ?_, ?_⟩
    ·simp [results,f58,go_sem,hc5]
    ·have : t = true := by
      rw [ht,←hys,List.all_map,List.all_eq_true]
      intro x hx
      show(Plain.z0l x.1.data.toList==some true)=true
      rw [hpre x hx]
      rfl
     rw [this]
    ·have hb' := (hB4.trans hb).setCell (p := ⟨w.heap.size, 0, none⟩) (Nat.le_refl _) (.bool true)
     exact hb'.trans (belowK_b (w:=w) (Nat.le_refl _) _ D _ _ (by rw [z4] at hD;omega) hK' rfl rfl)
   case stop=>
    rintro D c pre W hD hpre ⟨⟨rfl,hc,hbad⟩,hb⟩ hK
    gi_wp2
    refine⟨by simp,.inl ⟨_,_,rfl,run_takeDeferred hK, ?_⟩⟩
    have hc5:=cell_kept hc (grownBy_putObj' _ D (.deferred none)) (fun r e=>by cases e;exact⟨_,hK,rfl⟩)
    refine⟨.bool false, ?_, ?_, ?_⟩
    ·simp [results,f58,go_sem,hc5]
    ·have : t = false := by
      obtain⟨x,hx,hxf⟩:=hbad
      rw [ht,List.all_eq_false]
      refine⟨x.1,hpre.subset (List.mem_map.2 ⟨x,hx,rfl⟩), ?_⟩
      rw [hxf]
      decide
     rw [this]
    ·exact(hB4.trans hb).trans (belowK_b (w:=w) (Nat.le_refl _) _ D _ _ (by rw [z4] at hD;omega) hK rfl rfl)
  ·cases hy
end Go.Proofs.Tryz
