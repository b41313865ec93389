import Derived.Test.YtjmmcdbogbpedaaGreatDoorRGSeq
import Derived.Test.YtjmmcdbogbpedaaGreatDoorBMIns
import Derived.Shelf.Spec.SlicesInsertGrow
namespace Go.Proofs.Tryz
open Go.AM Go.RowKit Go.Lib Go.Shelf
set_option maxHeartbeats 4000000 in
set_option maxRecDepth 1000000 in
theorem qv7(g n cap i vb vc:Nat)(us vs:Array Value)(e e2:TypeId)(w:World)(hg:w.heap[g]? =some (.cells us e (0,0)))(hv:w.heap[vb]? =some (.cells vs e2 (0,0)))(hne:vb≠g)(hi:i<n)(hroom:n+1≤cap)(hcap:cap*4≤us.size)(hvs:4≤vs.size)(hn:n≤4294967296)
  (hone: ∀k v,k<n*4→us[k]? =some v→v.oneCell'=true) (hone1: ∀k v,k<4→vs[k]? =some v→v.oneCell'=true) (tl xs:List Value) (htl:tl=(us.toList.drop (i*4)).take ((n-i)*4)) (hxs:xs=vs.toList.take 4):
  Calls prog 80 #[.slice (some ⟨g,0,none⟩) n cap,.int .i64 i,.slice (some ⟨vb,0,none⟩) 1 vc] w fun en w'=>en= .returned (.slice (some ⟨g,0,none⟩) (n+1) cap)∧w'=(w.drew.setCells g ((i+1)*4) tl).setCells g (i*4) xs:=by
 obtain⟨ie,hie,hsz,_⟩:=envOK.info 45 (by kernel_rfl)
 have hie:prog.info? 45=some ie:=hie
 have hsz:ie.size=4:=hsz.trans (by kernel_rfl)
 have hsz2:(prog.info? 45).map (·.size)=some 4:=by rw [hie];simp [hsz]
 have hof: ∀w,(Go.sizeOf 45).run prog w= .ok 4 w:=fun w=>by simp [Go.sizeOf,typeInfo,hie,hsz]
 have hcell: ∀(W:World) k,W.heap[g]? =w.heap[g]? →W.cell? ⟨g,k,none⟩=us[k]? :=fun W k hW=>by simp [World.cell?,hW,hg]
 have hcellv: ∀(W:World) k,W.heap[vb]? =w.heap[vb]? →W.cell? ⟨vb,k,none⟩=vs[k]? :=fun W k hW=>by simp [World.cell?,hW,hv]
 have hfrz: ∀(W:World) k,W.heap[g]? =w.heap[g]? →W.frozen? ⟨g,k,none⟩=false:=fun W k hW=>by simp [World.frozen?,hW,hg]
 have hfrv: ∀k,w.frozen? ⟨vb,k,none⟩=false:=fun k=>by simp [World.frozen?,hv]
 have hshv:w.shape? vb=some (e2,vs.size):=by simp [World.shape?,hv]
 have hshg:w.shape? g=some (e,us.size):=by simp [World.shape?,hg]
 have hus:us.size≠0:=by omega
 have hov: ∀o lb cb,(callFunc 134 #[.slice (some ⟨vb,0,none⟩) 1 vc,.slice (some ⟨g,o,none⟩) lb cb]).run prog w= .ok (.value (.bool false)) w:=fun o lb cb=>by
  rw [run_callFunc_extern func134 (by kernel_rfl) (by kernel_rfl) (by kernel_rfl) (e:=Extern.SlicesOverlaps.overlaps #[26,26] #[4]) (by kernel_rfl),
   Lib.run_overlaps_apart w 26 4 45 underlying26 4 hof ⟨vb,0,none⟩ ⟨g,o,none⟩ 1 vc lb cb hne e2 e vs.size us.size hshv hshg hus (hfrv 0) (hfrv _)]
  rfl
 have htlen:tl.length=(n-i)*4:=by rw [htl,List.length_take,List.length_drop];simp only [Array.length_toList];omega
 have hxlen:xs.length=1*4:=by rw [hxs,List.length_take];simp only [Array.length_toList];omega
 have htget: ∀j v,tl[j]? =some v→j<(n-i)*4∧us[i*4+j]? =some v:=fun j v hj=>by
  rw [htl,List.getElem?_take] at hj
  split at hj
  ·exact⟨by omega,by simpa using hj⟩
  ·cases hj
 have hxget: ∀j v,xs[j]? =some v→j<4∧vs[j]? =some v:=fun j v hj=>by
  rw [hxs,List.getElem?_take] at hj
  split at hj
  ·exact⟨by omega,by simpa using hj⟩
  ·cases hj
 have ht1: ∀v∈tl,v.oneCell'=true:=fun v hv=>by
  obtain⟨j,hj⟩:=List.getElem?_of_mem hv
  obtain⟨h1,h2⟩:=htget j v hj
  exact hone (i*4+j) v (by omega) h2
 have hx1: ∀v∈xs,v.oneCell'=true:=fun v hv=>by
  obtain⟨j,hj⟩:=List.getElem?_of_mem hv
  obtain⟨h1,h2⟩:=hxget j v hj
  exact hone1 j v h1 h2
 have hcp1: ∀ty dc sc,(Builtin.copy_ #[26,26] ty #[.slice (some ⟨g,(i+1)*4,none⟩) (n-i) dc,.slice (some ⟨g,i*4,none⟩) (n+1-i) sc]).run prog w.drew= .ok (goInt ((n-i:Nat):Int)) (w.drew.setCells g ((i+1)*4) tl):=fun ty dc sc=>
  jj w.drew _ _ ty 45 4 (n-i) g ((i+1)*4) (n-i) dc ⟨g,i*4,none⟩ (n+1-i) sc tl underlying26 hsz2 (by simp only [Nat.min_def];split <;>omega) htlen
   (fun j v hj=>by rw [Addr.add_lit,hcell w.drew _ rfl];exact(htget j v hj).2)
   (fun j hj=>by rw [hcell w.drew _ rfl,Array.getElem?_eq_getElem (by rw [htlen] at hj;omega)];rfl) (fun j hj=>hfrz w.drew _ rfl) ht1
 obtain⟨W1,hW1⟩: ∃W1,W1=w.drew.setCells g ((i+1)*4) tl:=⟨_,rfl⟩
 have hsp1: ∀k,k<(n+1)*4→(W1.cell? ⟨g,k,none⟩).isSome=true:=fun k hk=>by
  rw [hW1]
  refine isSome_setCells g _ _ _ (fun j hj=> ?_) _ ?_
  ·rw [hcell w.drew _ rfl,Array.getElem?_eq_getElem (by rw [htlen] at hj;omega)];rfl
  ·rw [hcell w.drew _ rfl,Array.getElem?_eq_getElem (by omega)];rfl
 have hcp2: ∀(W:World),(∀x,W.cell? x=W1.cell? x)→(∀x,W.frozen? x=W1.frozen? x)→∀ty dc,(Builtin.copy_ #[26,26] ty #[.slice (some ⟨g,i*4,none⟩) (n+1-i) dc,.slice (some ⟨vb,0,none⟩) 1 vc]).run prog W= .ok (goInt ((1:Nat):Int)) (W.setCells g (i*4) xs):=fun W hWc hWf ty dc=>
  jj W _ _ ty 45 4 1 g (i*4) (n+1-i) dc ⟨vb,0,none⟩ 1 vc xs underlying26 hsz2 (by simp only [Nat.min_def];split <;>omega) hxlen
   (fun j v hj => by
    rw [Addr.add_lit,hWc,hW1,World.cell?_setCells_out g _ _ _ _ (fun h _=>absurd h hne),Nat.zero_add,hcellv w.drew _ rfl]
    exact(hxget j v hj).2)
   (fun j hj=>by rw [hWc];exact hsp1 _ (by rw [hxlen] at hj;omega)) (fun j hj=>by rw [hWf,hW1,World.frozen?_setCells];exact hfrz w.drew _ rfl) hx1
 rw [←hW1] at hcp1
 have hz2: ¬((i:Int)=(n:Int)):=by omega
 have mixed:prog.follows .mixedOrders=true:=envOK.mixed
 have hin:i≤n:=by omega
 have hb2: ¬(cap=i+1):=by omega
 have hb4: ¬(cap=i):=by omega
 have hb3:(i:Int)≤(n:Int)+1:=by omega
 have htn:((i:Int)+1).toNat=i+1:=by omega
 have htm:((n:Int)+1).toNat=n+1:=by omega
 have hw1:IntKind.i64.wrap ((i:Int)+1)=(i:Int)+1:=by rw [IntKind.wrap_i64];omega
 have hw2:IntKind.i64.wrap ((n:Int)+1)=(n:Int)+1:=by rw [IntKind.wrap_i64];omega
 have hb1:(0:Int)≤(i:Int)+1:=by omega
 clear htl hxs hxget htget hcell hcellv hfrz hfrv
 go_enter func80,ntmps80
 go_wp2_with (simp only [hov])
 go_region_law_o (refine step_copy_runI rfl _ _ 26 26 rfl _ _ (by simp [Act.eval,Act.put]) (by simp [Act.eval,Act.put]) (hcp1 _ _ _) ?_)
 go_wp2_with (at_builtin;refine wpList_copy_runI _ rfl _ _ 26 26 rfl _ _ rfl rfl (hcp2 _ (fun _=>rfl) (fun _=>rfl) _ _) ?_)
 go_ret
 first|exact⟨rfl,rfl⟩|exact⟨rfl,by rw [hW1]⟩
set_option maxHeartbeats 4000000 in
set_option maxRecDepth 1000000 in
theorem qz8(g n i vb vc:Nat)(us vs:Array Value)(e e2:TypeId)(w:World)(hg:w.heap[g]? =some (.cells us e (0,0)))(hv:w.heap[vb]? =some (.cells vs e2 (0,0)))(hi:i<n)(hcap:n*4≤us.size)(hvs:4≤vs.size)(hn:n≤4294967296)
  (hone: ∀k v,k<n*4→us[k]? =some v→v.oneCell'=true) (hone1: ∀k v,k<4→vs[k]? =some v→v.oneCell'=true) (tl xs:List Value) (htl:tl=(us.toList.drop (i*4)).take ((n-i)*4)) (hxs:xs=vs.toList.take 4)
  (ie:TypeInfo) (hie:prog.info? 45=some ie) (hsz:ie.size=4) (hby:ie.bytes≤1024) (z:Value) (hz:ie.zero=some z) (hzs:z.cells.size=4):
  Calls prog 80 #[.slice (some ⟨g,0,none⟩) n n,.int .i64 i,.slice (some ⟨vb,0,none⟩) 1 vc] w fun en w'=> ∃G te,n+1≤G∧en= .returned (.slice (some ⟨w.heap.size,0,none⟩) (n+1) G)∧
   w'=(((w.alloc (.cells ((us.toList.take (i*4)).toArray++Builtin.zeroCells z.cells (n+1-i)++Builtin.zeroCells z.cells (G-(n+1))) te (0,0))).drew.setCells w.heap.size (i*4) xs).drew).setCells w.heap.size ((i+1)*4) tl:=by
 have hsz2:(prog.info? 45).map (·.size)=some 4:=by rw [hie];simp [hsz]
 have hof: ∀w,(Go.sizeOf 45).run prog w= .ok 4 w:=fun w=>by simp [Go.sizeOf,typeInfo,hie,hsz]
 have hcell: ∀k,w.cell? ⟨g,k,none⟩=us[k]? :=fun k=>by simp [World.cell?,hg]
 have hcellv: ∀k,w.cell? ⟨vb,k,none⟩=vs[k]? :=fun k=>by simp [World.cell?,hv]
 have hbw:g<w.heap.size:=(Array.getElem?_eq_some_iff.1 hg).1
 have hvw:vb<w.heap.size:=(Array.getElem?_eq_some_iff.1 hv).1
 have htlen:tl.length=(n-i)*4:=by rw [htl,List.length_take,List.length_drop];simp only [Array.length_toList];omega
 have hxlen:xs.length=1*4:=by rw [hxs,List.length_take];simp only [Array.length_toList];omega
 have htget: ∀j v,tl[j]? =some v→j<(n-i)*4∧us[i*4+j]? =some v:=fun j v hj=>by
  rw [htl,List.getElem?_take] at hj
  split at hj
  ·exact⟨by omega,by simpa using hj⟩
  ·cases hj
 have hxget: ∀j v,xs[j]? =some v→j<4∧vs[j]? =some v:=fun j v hj=>by
  rw [hxs,List.getElem?_take] at hj
  split at hj
  ·exact⟨by omega,by simpa using hj⟩
  ·cases hj
 have ht1: ∀v∈tl,v.oneCell'=true:=fun v hv=>by
  obtain⟨j,hj⟩:=List.getElem?_of_mem hv
  obtain⟨h1,h2⟩:=htget j v hj
  exact hone (i*4+j) v (by omega) h2
 have hx1: ∀v∈xs,v.oneCell'=true:=fun v hv=>by
  obtain⟨j,hj⟩:=List.getElem?_of_mem hv
  obtain⟨h1,h2⟩:=hxget j v hj
  exact hone1 j v h1 h2
 have hkk:(n:Int)+1-(i:Int)=((n+1-i:Nat):Int):=by omega
 have hik:i+(n+1-i)=n+1:=by omega
 have hfit:(n+1)*ie.bytes≤140737488355328:=Nat.le_trans (Nat.mul_le_mul (show n+1≤4294967297 by omega) hby) (by decide)
 have hold:(Builtin.firstCells ie.size i (.slice (some ⟨g,0,none⟩) i n)).run prog w.drew= .ok (us.toList.take (i*4)).toArray w.drew:=by
  rw [hsz]
  exact run_firstCells_some w.drew 4 i ⟨g,0,none⟩ i n (us.toList.take (i*4)) (by rw [List.length_take];simp only [Array.length_toList];omega) (fun j v hj=>by
   rw [Addr.add_lit,Nat.zero_add]
   show w.cell? _=_
   rw [hcell]
   rw [List.getElem?_take] at hj
   split at hj
   ·simpa using hj
   ·cases hj)
 have hrz: ∀ty,(Builtin.append_ #[26,3] ty #[.slice (some ⟨g,0,none⟩) i n,.int .i64 ((n:Int)+1-(i:Int))]).run prog w=
   .ok (.slice (some ⟨w.heap.size,0,none⟩) (n+1) (grownCap w (n+1) n 45)) (w.drew.alloc (.cells ((us.toList.take (i*4)).toArray++Builtin.zeroCells z.cells (n+1-i)++Builtin.zeroCells z.cells (grownCap w (n+1) n 45-(n+1))) 45)):=fun ty=>by
  have h:=Lib.run_append_grow_zeros w 26 3 ty 45 ie z .i64 .i64 underlying26 underlying3 hie hz (some ⟨g,0,none⟩) i n (us.toList.take (i*4)) hold (n+1-i) (by omega) (by omega) (by omega) (by omega)
   (Nat.le_trans (Nat.mul_le_mul (show n+1-i≤4294967297 by omega) hby) (by decide)) (by rw [hik];exact growslice_fits (by omega) hfit)
  rw [hik] at h
  rw [hkk]
  exact h
 obtain⟨G,hG⟩: ∃G,G=grownCap w (n+1) n 45:=⟨_,rfl⟩
 obtain⟨ROW,hROW⟩: ∃ROW:Array Value,ROW=(us.toList.take (i*4)).toArray++Builtin.zeroCells z.cells (n+1-i)++Builtin.zeroCells z.cells (G-(n+1)):=⟨_,rfl⟩
 have hGn:n+1≤G:=by rw [hG];exact grownCap_ge w _ _ _
 rw [←hG] at hrz
 rw [←hROW] at hrz
 have hfin: ∀(en:Ending) (w':World),en= .returned (.slice (some ⟨w.heap.size,0,none⟩) (n+1) G)→w'=((((w.alloc (.cells ROW 45 (0,0))).drew.setCells w.heap.size (i*4) xs).drew).setCells w.heap.size ((i+1)*4) tl)→
   ∃G te,n+1≤G∧en= .returned (.slice (some ⟨w.heap.size,0,none⟩) (n+1) G)∧
   w'=(((w.alloc (.cells ((us.toList.take (i*4)).toArray++Builtin.zeroCells z.cells (n+1-i)++Builtin.zeroCells z.cells (G-(n+1))) te (0,0))).drew.setCells w.heap.size (i*4) xs).drew).setCells w.heap.size ((i+1)*4) tl:=fun en w' h1 h2=>
  ⟨G,45,hGn,h1,by rw [←hROW];exact h2⟩
 have hRl:(n+1)*4≤ROW.size:=by
  rw [hROW]
  simp only [Array.size_append,List.size_toArray,size_zeroCells,hzs,List.length_take,Array.length_toList]
  omega
 obtain⟨W1,hW1⟩: ∃W1,W1=w.drew.alloc (.cells ROW 45):=⟨_,rfl⟩
 rw [←hW1] at hrz
 have hN: ∀j,j<(n+1)*4→(W1.cell? ⟨w.heap.size,j,none⟩).isSome=true:=fun j hj=>by
  rw [hW1,World.cell?_alloc_at (w:=w.drew) ROW _ w.heap.size j rfl,Array.getElem?_eq_getElem (by omega)];rfl
 have hNf: ∀j,W1.frozen? ⟨w.heap.size,j,none⟩=false:=fun j=>by rw [hW1];exact World.frozen?_alloc_at (w:=w.drew) ROW _ w.heap.size j rfl
 have hOb: ∀j v,us[j]? =some v→W1.cell? ⟨g,j,none⟩=some v:=fun j v h=>by rw [hW1,World.cell?_alloc_past (w:=w.drew) _ g j hbw];exact(hcell j).trans h
 have hOv: ∀j v,vs[j]? =some v→W1.cell? ⟨vb,j,none⟩=some v:=fun j v h=>by rw [hW1,World.cell?_alloc_past (w:=w.drew) _ vb j hvw];exact(hcellv j).trans h
 have hcpA: ∀(W:World),(∀x,W.cell? x=W1.cell? x)→(∀x,W.frozen? x=W1.frozen? x)→∀ty dc,(Builtin.copy_ #[26,26] ty #[.slice (some ⟨w.heap.size,i*4,none⟩) (n+1-i) dc,.slice (some ⟨vb,0,none⟩) 1 vc]).run prog W= .ok (goInt ((1:Nat):Int)) (W.setCells w.heap.size (i*4) xs):=fun W hWc hWf ty dc=>
  jj W _ _ ty 45 4 1 w.heap.size (i*4) (n+1-i) dc ⟨vb,0,none⟩ 1 vc xs underlying26 hsz2 (by simp only [Nat.min_def];split <;>omega) hxlen
   (fun j v hj=>by rw [Addr.add_lit,hWc,Nat.zero_add];exact hOv _ v (hxget j v hj).2)
   (fun j hj=>by rw [hWc];exact hN _ (by rw [hxlen] at hj;omega)) (fun j hj=>by rw [hWf];exact hNf _) hx1
 have hbN:g≠w.heap.size:=by omega
 have hcpB: ∀(W:World),(∀x,W.cell? x=(W1.setCells w.heap.size (i*4) xs).cell? x)→(∀x,W.frozen? x=(W1.setCells w.heap.size (i*4) xs).frozen? x)→∀ty dc sc,(Builtin.copy_ #[26,26] ty #[.slice (some ⟨w.heap.size,(i+1)*4,none⟩) (n-i) dc,.slice (some ⟨g,i*4,none⟩) (n-i) sc]).run prog W= .ok (goInt ((n-i:Nat):Int)) (W.setCells w.heap.size ((i+1)*4) tl):=fun W hWc hWf ty dc sc=>
  jj W _ _ ty 45 4 (n-i) w.heap.size ((i+1)*4) (n-i) dc ⟨g,i*4,none⟩ (n-i) sc tl underlying26 hsz2 (by simp only [Nat.min_def];split <;>omega) htlen
   (fun j v hj => by
    rw [Addr.add_lit,hWc,World.cell?_setCells_out _ _ _ _ _ (fun h _=>absurd h hbN)]
    exact hOb _ v (htget j v hj).2)
   (fun j hj=>by rw [hWc];exact isSome_setCells _ _ _ _ (fun t ht=>hN _ (by rw [hxlen] at ht;omega)) _ (hN _ (by rw [htlen] at hj;omega)))
   (fun j hj=>by rw [hWf,World.frozen?_setCells];exact hNf _) ht1
 have hG63:G≤9223372036854775807:=by
  have:=grownCap_le_maxLen w (n+1) n 45 (by unfold maxLen;omega)
  rw [←hG] at this
  unfold maxLen at this
  omega
 have hGi: ¬(G=i):=by omega
 have hGim: ¬(G=i+1):=by omega
 have hci: ¬(n=i):=by omega
 subst hW1
 have hE1: ∀x,((w.alloc (.cells ROW 45)).drew).cell? x=(w.drew.alloc (.cells ROW 45)).cell? x:=fun x=>rfl
 have hE2: ∀x,((w.alloc (.cells ROW 45)).drew).frozen? x=(w.drew.alloc (.cells ROW 45)).frozen? x:=fun x=>rfl
 have hF1: ∀x,(((w.alloc (.cells ROW 45)).drew.setCells w.heap.size (i*4) xs).drew).cell? x=((w.drew.alloc (.cells ROW 45)).setCells w.heap.size (i*4) xs).cell? x:=fun x=>rfl
 have hF2: ∀x,(((w.alloc (.cells ROW 45)).drew.setCells w.heap.size (i*4) xs).drew).frozen? x=((w.drew.alloc (.cells ROW 45)).setCells w.heap.size (i*4) xs).frozen? x:=fun x=>rfl
 have hz2: ¬((i:Int)=(n:Int)):=by omega
 have hz3:(n:Int)<(n:Int)+1:=by omega
 have mixed:prog.follows .mixedOrders=true:=envOK.mixed
 have hw1:IntKind.i64.wrap ((i:Int)+1)=(i:Int)+1:=by rw [IntKind.wrap_i64];omega
 have hw2:IntKind.i64.wrap ((n:Int)+1)=(n:Int)+1:=by rw [IntKind.wrap_i64];omega
 have hw3:IntKind.i64.wrap ((n:Int)+1-(i:Int))=(n:Int)+1-(i:Int):=by rw [IntKind.wrap_i64];omega
 have hb1:(0:Int)≤(i:Int)+1:=by omega
 have hin:i≤n:=by omega
 have htn:((i:Int)+1).toNat=i+1:=by omega
 have hb3:(i:Int)≤(n:Int):=by omega
 clear hkk hik hold hROW hG hRl htl hxs hxget htget hcell hcellv hfit hN hNf hOb hOv
 go_enter func80,ntmps80
 go_wp2_with (first
  |(at_builtin;refine Lib.wpList_append_run _ rfl _ _ _ _ rfl _ _ rfl rfl _ _ (hrz _) ?_)
  |(at_builtin;refine wpList_copy_runI _ rfl _ _ 26 26 rfl _ _ rfl rfl (hcpA _ hE1 hE2 _ _) ?_)
  |(at_builtin;refine wpList_copy_runI _ rfl _ _ 26 26 rfl _ _ rfl rfl (hcpB _ (fun _=>rfl) (fun _=>rfl) _ _ _) ?_))
 go_region_law_o (refine step_copy_runI rfl _ _ 26 26 rfl (.slice (some ⟨w.heap.size,(i+1)*4,none⟩) (n-i) (G-(i+1))) (.slice (some ⟨g,i*4,none⟩) (n-i) (n-i)) (by simp [Act.eval,Act.put]) (by simp [Act.eval,Act.put]) (hcpB _ hF1 hF2 3 (G-(i+1)) (n-i)) ?_)
 go_wp2
 go_ret
 exact hfin _ _ rfl rfl
set_option maxHeartbeats 4000000 in
set_option maxRecDepth 1000000 in
theorem q32(base va:Option Addr)(n cap vc:Nat)(w:World)(v':Value)(w':World)(hb:n=0∧cap=0∨∃q,base=some ⟨q,0,none⟩)(hn:n≤4294967296)(hnc:n≤cap)(hr:(Builtin.append_ #[26,26] 26 #[.slice base n cap,.slice va 1 vc]).run prog w= .ok v' w'):
  Calls prog 80 #[.slice base n cap,.int .i64 n,.slice va 1 vc] w fun en w''=>en= .returned v'∧w''=w':=by
 have mixed:prog.follows .mixedOrders=true:=envOK.mixed
 rcases hb with⟨rfl,rfl⟩|⟨q,rfl⟩
 all_goals
  go_enter func80,ntmps80
  go_wp2_with (at_builtin;refine Lib.wpList_append_run _ rfl _ _ _ _ rfl _ _ rfl rfl _ _ hr ?_)
  all_goals (go_ret;exact⟨rfl,rfl⟩)
abbrev qav:Ty:= .pair .str (.pair (.sl .str) (.pair (.sl .str) (.sl (.pair .str .str))))
theorem q9q(l:List (qav).den)(i:Nat)(x:(qav).den)(hi:i≤l.length)(hl:l.length≤4294967296):
  qh E 80 [.own qav 0 false,.int .i64 i,.own qav 1 true] [.arr qav l true,.arr qav [x] true] (fun r h'=>r= .ret (.own qav 2 false)∧h'=[.gone,.arr qav [x] true,.arr qav (l.take i++x::l.drop i) true]):=by
 have hen:AM.ka E.P 80:=⟨_,func80,rfl,rfl⟩
 obtain⟨_,_,i0,z,h1,h2,h3⟩:=envOK.ty 45 qav (by kernel_rfl)
 have hr:=h3 default (fun _ _=>False)
 obtain⟨i1,h10,h11,h12⟩:=envOK.info 45 (by kernel_rfl)
 have h13:some i0=some i1:=h1.symm.trans h10
 injection h13 with h13
 subst h13
 have hzs:z.cells.size=4:=by have:=hr.len;rw [Array.length_toList] at this;exact this
 rcases Nat.lt_or_ge i l.length with h|h
 ·exact qh.insert qav (by intro h;cases h) hen z.cells (by simpa using hr.len)
   (fun g n cap i vb vc us vs e e2 w a1 a2 a3 a4 a5 a6 a7 a8 a9 b1=>qv7 g n cap i vb vc us vs e e2 w a1 a2 a3 a4 a5 a6 a7 a8 a9 b1 _ _ rfl rfl)
   (fun g n i vb vc us vs e e2 w a1 a2 a4 a6 a7 a8 a9 b1=>qz8 g n i vb vc us vs e e2 w a1 a2 a4 a6 a7 a8 a9 b1 _ _ rfl rfl i0 h1 (h11.trans (by kernel_rfl)) (by rw [h12];exact of_decide_eq_true (by kernel_rfl)) z h2 hzs) l i x h hl
 ·obtain rfl : i = l.length := by omega
  rw [List.take_length,List.drop_length]
  exact qh.insertEnd envOK hen qav 26 45 (by kernel_rfl) (by kernel_rfl) (by kernel_rfl) (of_decide_eq_true (by kernel_rfl)) (fun base va n cap vc w v' w' a1 a2 a3 a4=>q32 base va n cap vc w v' w' a1 a2 a3 a4) l x hl
set_option maxHeartbeats 4000000 in
set_option maxRecDepth 1000000 in
theorem qv6(g n cap i vb vc:Nat)(us vs:Array Value)(e e2:TypeId)(w:World)(hg:w.heap[g]? =some (.cells us e (0,0)))(hv:w.heap[vb]? =some (.cells vs e2 (0,0)))(hne:vb≠g)(hi:i<n)(hroom:n+1≤cap)(hcap:cap*2≤us.size)(hvs:2≤vs.size)(hn:n≤4294967296)
  (hone: ∀k v,k<n*2→us[k]? =some v→v.oneCell'=true) (hone1: ∀k v,k<2→vs[k]? =some v→v.oneCell'=true) (tl xs:List Value) (htl:tl=(us.toList.drop (i*2)).take ((n-i)*2)) (hxs:xs=vs.toList.take 2):
  Calls prog 76 #[.slice (some ⟨g,0,none⟩) n cap,.int .i64 i,.slice (some ⟨vb,0,none⟩) 1 vc] w fun en w'=>en= .returned (.slice (some ⟨g,0,none⟩) (n+1) cap)∧w'=(w.drew.setCells g ((i+1)*2) tl).setCells g (i*2) xs:=by
 obtain⟨ie,hie,hsz,_⟩:=envOK.info 68 (by kernel_rfl)
 have hie:prog.info? 68=some ie:=hie
 have hsz:ie.size=2:=hsz.trans (by kernel_rfl)
 have hsz2:(prog.info? 68).map (·.size)=some 2:=by rw [hie];simp [hsz]
 have hof: ∀w,(Go.sizeOf 68).run prog w= .ok 2 w:=fun w=>by simp [Go.sizeOf,typeInfo,hie,hsz]
 have hcell: ∀(W:World) k,W.heap[g]? =w.heap[g]? →W.cell? ⟨g,k,none⟩=us[k]? :=fun W k hW=>by simp [World.cell?,hW,hg]
 have hcellv: ∀(W:World) k,W.heap[vb]? =w.heap[vb]? →W.cell? ⟨vb,k,none⟩=vs[k]? :=fun W k hW=>by simp [World.cell?,hW,hv]
 have hfrz: ∀(W:World) k,W.heap[g]? =w.heap[g]? →W.frozen? ⟨g,k,none⟩=false:=fun W k hW=>by simp [World.frozen?,hW,hg]
 have hfrv: ∀k,w.frozen? ⟨vb,k,none⟩=false:=fun k=>by simp [World.frozen?,hv]
 have hshv:w.shape? vb=some (e2,vs.size):=by simp [World.shape?,hv]
 have hshg:w.shape? g=some (e,us.size):=by simp [World.shape?,hg]
 have hus:us.size≠0:=by omega
 have hov: ∀o lb cb,(callFunc 132 #[.slice (some ⟨vb,0,none⟩) 1 vc,.slice (some ⟨g,o,none⟩) lb cb]).run prog w= .ok (.value (.bool false)) w:=fun o lb cb=>by
  rw [run_callFunc_extern func132 (by kernel_rfl) (by kernel_rfl) (by kernel_rfl) (e:=Extern.SlicesOverlaps.overlaps #[43,43] #[4]) (by kernel_rfl),
   Lib.run_overlaps_apart w 43 4 68 underlying43 2 hof ⟨vb,0,none⟩ ⟨g,o,none⟩ 1 vc lb cb hne e2 e vs.size us.size hshv hshg hus (hfrv 0) (hfrv _)]
  rfl
 have htlen:tl.length=(n-i)*2:=by rw [htl,List.length_take,List.length_drop];simp only [Array.length_toList];omega
 have hxlen:xs.length=1*2:=by rw [hxs,List.length_take];simp only [Array.length_toList];omega
 have htget: ∀j v,tl[j]? =some v→j<(n-i)*2∧us[i*2+j]? =some v:=fun j v hj=>by
  rw [htl,List.getElem?_take] at hj
  split at hj
  ·exact⟨by omega,by simpa using hj⟩
  ·cases hj
 have hxget: ∀j v,xs[j]? =some v→j<2∧vs[j]? =some v:=fun j v hj=>by
  rw [hxs,List.getElem?_take] at hj
  split at hj
  ·exact⟨by omega,by simpa using hj⟩
  ·cases hj
 have ht1: ∀v∈tl,v.oneCell'=true:=fun v hv=>by
  obtain⟨j,hj⟩:=List.getElem?_of_mem hv
  obtain⟨h1,h2⟩:=htget j v hj
  exact hone (i*2+j) v (by omega) h2
 have hx1: ∀v∈xs,v.oneCell'=true:=fun v hv=>by
  obtain⟨j,hj⟩:=List.getElem?_of_mem hv
  obtain⟨h1,h2⟩:=hxget j v hj
  exact hone1 j v h1 h2
 have hcp1: ∀ty dc sc,(Builtin.copy_ #[43,43] ty #[.slice (some ⟨g,(i+1)*2,none⟩) (n-i) dc,.slice (some ⟨g,i*2,none⟩) (n+1-i) sc]).run prog w.drew= .ok (goInt ((n-i:Nat):Int)) (w.drew.setCells g ((i+1)*2) tl):=fun ty dc sc=>
  jj w.drew _ _ ty 68 2 (n-i) g ((i+1)*2) (n-i) dc ⟨g,i*2,none⟩ (n+1-i) sc tl underlying43 hsz2 (by simp only [Nat.min_def];split <;>omega) htlen
   (fun j v hj=>by rw [Addr.add_lit,hcell w.drew _ rfl];exact(htget j v hj).2)
   (fun j hj=>by rw [hcell w.drew _ rfl,Array.getElem?_eq_getElem (by rw [htlen] at hj;omega)];rfl) (fun j hj=>hfrz w.drew _ rfl) ht1
 obtain⟨W1,hW1⟩: ∃W1,W1=w.drew.setCells g ((i+1)*2) tl:=⟨_,rfl⟩
 have hsp1: ∀k,k<(n+1)*2→(W1.cell? ⟨g,k,none⟩).isSome=true:=fun k hk=>by
  rw [hW1]
  refine isSome_setCells g _ _ _ (fun j hj=> ?_) _ ?_
  ·rw [hcell w.drew _ rfl,Array.getElem?_eq_getElem (by rw [htlen] at hj;omega)];rfl
  ·rw [hcell w.drew _ rfl,Array.getElem?_eq_getElem (by omega)];rfl
 have hcp2: ∀(W:World),(∀x,W.cell? x=W1.cell? x)→(∀x,W.frozen? x=W1.frozen? x)→∀ty dc,(Builtin.copy_ #[43,43] ty #[.slice (some ⟨g,i*2,none⟩) (n+1-i) dc,.slice (some ⟨vb,0,none⟩) 1 vc]).run prog W= .ok (goInt ((1:Nat):Int)) (W.setCells g (i*2) xs):=fun W hWc hWf ty dc=>
  jj W _ _ ty 68 2 1 g (i*2) (n+1-i) dc ⟨vb,0,none⟩ 1 vc xs underlying43 hsz2 (by simp only [Nat.min_def];split <;>omega) hxlen
   (fun j v hj => by
    rw [Addr.add_lit,hWc,hW1,World.cell?_setCells_out g _ _ _ _ (fun h _=>absurd h hne),Nat.zero_add,hcellv w.drew _ rfl]
    exact(hxget j v hj).2)
   (fun j hj=>by rw [hWc];exact hsp1 _ (by rw [hxlen] at hj;omega)) (fun j hj=>by rw [hWf,hW1,World.frozen?_setCells];exact hfrz w.drew _ rfl) hx1
 rw [←hW1] at hcp1
 have hz2: ¬((i:Int)=(n:Int)):=by omega
 have mixed:prog.follows .mixedOrders=true:=envOK.mixed
 have hin:i≤n:=by omega
 have hb2: ¬(cap=i+1):=by omega
 have hb4: ¬(cap=i):=by omega
 have hb3:(i:Int)≤(n:Int)+1:=by omega
 have htn:((i:Int)+1).toNat=i+1:=by omega
 have htm:((n:Int)+1).toNat=n+1:=by omega
 have hw1:IntKind.i64.wrap ((i:Int)+1)=(i:Int)+1:=by rw [IntKind.wrap_i64];omega
 have hw2:IntKind.i64.wrap ((n:Int)+1)=(n:Int)+1:=by rw [IntKind.wrap_i64];omega
 have hb1:(0:Int)≤(i:Int)+1:=by omega
 clear htl hxs hxget htget hcell hcellv hfrz hfrv
 go_enter func76,ntmps76
 go_wp2_with (simp only [hov])
 go_region_law_o (refine step_copy_runI rfl _ _ 43 43 rfl _ _ (by simp [Act.eval,Act.put]) (by simp [Act.eval,Act.put]) (hcp1 _ _ _) ?_)
 go_wp2_with (at_builtin;refine wpList_copy_runI _ rfl _ _ 43 43 rfl _ _ rfl rfl (hcp2 _ (fun _=>rfl) (fun _=>rfl) _ _) ?_)
 go_ret
 first|exact⟨rfl,rfl⟩|exact⟨rfl,by rw [hW1]⟩
set_option maxHeartbeats 4000000 in
set_option maxRecDepth 1000000 in
theorem qz7(g n i vb vc:Nat)(us vs:Array Value)(e e2:TypeId)(w:World)(hg:w.heap[g]? =some (.cells us e (0,0)))(hv:w.heap[vb]? =some (.cells vs e2 (0,0)))(hi:i<n)(hcap:n*2≤us.size)(hvs:2≤vs.size)(hn:n≤4294967296)
  (hone: ∀k v,k<n*2→us[k]? =some v→v.oneCell'=true) (hone1: ∀k v,k<2→vs[k]? =some v→v.oneCell'=true) (tl xs:List Value) (htl:tl=(us.toList.drop (i*2)).take ((n-i)*2)) (hxs:xs=vs.toList.take 2)
  (ie:TypeInfo) (hie:prog.info? 68=some ie) (hsz:ie.size=2) (hby:ie.bytes≤1024) (z:Value) (hz:ie.zero=some z) (hzs:z.cells.size=2):
  Calls prog 76 #[.slice (some ⟨g,0,none⟩) n n,.int .i64 i,.slice (some ⟨vb,0,none⟩) 1 vc] w fun en w'=> ∃G te,n+1≤G∧en= .returned (.slice (some ⟨w.heap.size,0,none⟩) (n+1) G)∧
   w'=(((w.alloc (.cells ((us.toList.take (i*2)).toArray++Builtin.zeroCells z.cells (n+1-i)++Builtin.zeroCells z.cells (G-(n+1))) te (0,0))).drew.setCells w.heap.size (i*2) xs).drew).setCells w.heap.size ((i+1)*2) tl:=by
 have hsz2:(prog.info? 68).map (·.size)=some 2:=by rw [hie];simp [hsz]
 have hof: ∀w,(Go.sizeOf 68).run prog w= .ok 2 w:=fun w=>by simp [Go.sizeOf,typeInfo,hie,hsz]
 have hcell: ∀k,w.cell? ⟨g,k,none⟩=us[k]? :=fun k=>by simp [World.cell?,hg]
 have hcellv: ∀k,w.cell? ⟨vb,k,none⟩=vs[k]? :=fun k=>by simp [World.cell?,hv]
 have hbw:g<w.heap.size:=(Array.getElem?_eq_some_iff.1 hg).1
 have hvw:vb<w.heap.size:=(Array.getElem?_eq_some_iff.1 hv).1
 have htlen:tl.length=(n-i)*2:=by rw [htl,List.length_take,List.length_drop];simp only [Array.length_toList];omega
 have hxlen:xs.length=1*2:=by rw [hxs,List.length_take];simp only [Array.length_toList];omega
 have htget: ∀j v,tl[j]? =some v→j<(n-i)*2∧us[i*2+j]? =some v:=fun j v hj=>by
  rw [htl,List.getElem?_take] at hj
  split at hj
  ·exact⟨by omega,by simpa using hj⟩
  ·cases hj
 have hxget: ∀j v,xs[j]? =some v→j<2∧vs[j]? =some v:=fun j v hj=>by
  rw [hxs,List.getElem?_take] at hj
  split at hj
  ·exact⟨by omega,by simpa using hj⟩
  ·cases hj
 have ht1: ∀v∈tl,v.oneCell'=true:=fun v hv=>by
  obtain⟨j,hj⟩:=List.getElem?_of_mem hv
  obtain⟨h1,h2⟩:=htget j v hj
  exact hone (i*2+j) v (by omega) h2
 have hx1: ∀v∈xs,v.oneCell'=true:=fun v hv=>by
  obtain⟨j,hj⟩:=List.getElem?_of_mem hv
  obtain⟨h1,h2⟩:=hxget j v hj
  exact hone1 j v h1 h2
 have hkk:(n:Int)+1-(i:Int)=((n+1-i:Nat):Int):=by omega
 have hik:i+(n+1-i)=n+1:=by omega
 have hfit:(n+1)*ie.bytes≤140737488355328:=Nat.le_trans (Nat.mul_le_mul (show n+1≤4294967297 by omega) hby) (by decide)
 have hold:(Builtin.firstCells ie.size i (.slice (some ⟨g,0,none⟩) i n)).run prog w.drew= .ok (us.toList.take (i*2)).toArray w.drew:=by
  rw [hsz]
  exact run_firstCells_some w.drew 2 i ⟨g,0,none⟩ i n (us.toList.take (i*2)) (by rw [List.length_take];simp only [Array.length_toList];omega) (fun j v hj=>by
   rw [Addr.add_lit,Nat.zero_add]
   show w.cell? _=_
   rw [hcell]
   rw [List.getElem?_take] at hj
   split at hj
   ·simpa using hj
   ·cases hj)
 have hrz: ∀ty,(Builtin.append_ #[43,3] ty #[.slice (some ⟨g,0,none⟩) i n,.int .i64 ((n:Int)+1-(i:Int))]).run prog w=
   .ok (.slice (some ⟨w.heap.size,0,none⟩) (n+1) (grownCap w (n+1) n 68)) (w.drew.alloc (.cells ((us.toList.take (i*2)).toArray++Builtin.zeroCells z.cells (n+1-i)++Builtin.zeroCells z.cells (grownCap w (n+1) n 68-(n+1))) 68)):=fun ty=>by
  have h:=Lib.run_append_grow_zeros w 43 3 ty 68 ie z .i64 .i64 underlying43 underlying3 hie hz (some ⟨g,0,none⟩) i n (us.toList.take (i*2)) hold (n+1-i) (by omega) (by omega) (by omega) (by omega)
   (Nat.le_trans (Nat.mul_le_mul (show n+1-i≤4294967297 by omega) hby) (by decide)) (by rw [hik];exact growslice_fits (by omega) hfit)
  rw [hik] at h
  rw [hkk]
  exact h
 obtain⟨G,hG⟩: ∃G,G=grownCap w (n+1) n 68:=⟨_,rfl⟩
 obtain⟨ROW,hROW⟩: ∃ROW:Array Value,ROW=(us.toList.take (i*2)).toArray++Builtin.zeroCells z.cells (n+1-i)++Builtin.zeroCells z.cells (G-(n+1)):=⟨_,rfl⟩
 have hGn:n+1≤G:=by rw [hG];exact grownCap_ge w _ _ _
 rw [←hG] at hrz
 rw [←hROW] at hrz
 have hfin: ∀(en:Ending) (w':World),en= .returned (.slice (some ⟨w.heap.size,0,none⟩) (n+1) G)→w'=((((w.alloc (.cells ROW 68 (0,0))).drew.setCells w.heap.size (i*2) xs).drew).setCells w.heap.size ((i+1)*2) tl)→
   ∃G te,n+1≤G∧en= .returned (.slice (some ⟨w.heap.size,0,none⟩) (n+1) G)∧
   w'=(((w.alloc (.cells ((us.toList.take (i*2)).toArray++Builtin.zeroCells z.cells (n+1-i)++Builtin.zeroCells z.cells (G-(n+1))) te (0,0))).drew.setCells w.heap.size (i*2) xs).drew).setCells w.heap.size ((i+1)*2) tl:=fun en w' h1 h2=>
  ⟨G,68,hGn,h1,by rw [←hROW];exact h2⟩
 have hRl:(n+1)*2≤ROW.size:=by
  rw [hROW]
  simp only [Array.size_append,List.size_toArray,size_zeroCells,hzs,List.length_take,Array.length_toList]
  omega
 obtain⟨W1,hW1⟩: ∃W1,W1=w.drew.alloc (.cells ROW 68):=⟨_,rfl⟩
 rw [←hW1] at hrz
 have hN: ∀j,j<(n+1)*2→(W1.cell? ⟨w.heap.size,j,none⟩).isSome=true:=fun j hj=>by
  rw [hW1,World.cell?_alloc_at (w:=w.drew) ROW _ w.heap.size j rfl,Array.getElem?_eq_getElem (by omega)];rfl
 have hNf: ∀j,W1.frozen? ⟨w.heap.size,j,none⟩=false:=fun j=>by rw [hW1];exact World.frozen?_alloc_at (w:=w.drew) ROW _ w.heap.size j rfl
 have hOb: ∀j v,us[j]? =some v→W1.cell? ⟨g,j,none⟩=some v:=fun j v h=>by rw [hW1,World.cell?_alloc_past (w:=w.drew) _ g j hbw];exact(hcell j).trans h
 have hOv: ∀j v,vs[j]? =some v→W1.cell? ⟨vb,j,none⟩=some v:=fun j v h=>by rw [hW1,World.cell?_alloc_past (w:=w.drew) _ vb j hvw];exact(hcellv j).trans h
 have hcpA: ∀(W:World),(∀x,W.cell? x=W1.cell? x)→(∀x,W.frozen? x=W1.frozen? x)→∀ty dc,(Builtin.copy_ #[43,43] ty #[.slice (some ⟨w.heap.size,i*2,none⟩) (n+1-i) dc,.slice (some ⟨vb,0,none⟩) 1 vc]).run prog W= .ok (goInt ((1:Nat):Int)) (W.setCells w.heap.size (i*2) xs):=fun W hWc hWf ty dc=>
  jj W _ _ ty 68 2 1 w.heap.size (i*2) (n+1-i) dc ⟨vb,0,none⟩ 1 vc xs underlying43 hsz2 (by simp only [Nat.min_def];split <;>omega) hxlen
   (fun j v hj=>by rw [Addr.add_lit,hWc,Nat.zero_add];exact hOv _ v (hxget j v hj).2)
   (fun j hj=>by rw [hWc];exact hN _ (by rw [hxlen] at hj;omega)) (fun j hj=>by rw [hWf];exact hNf _) hx1
 have hbN:g≠w.heap.size:=by omega
 have hcpB: ∀(W:World),(∀x,W.cell? x=(W1.setCells w.heap.size (i*2) xs).cell? x)→(∀x,W.frozen? x=(W1.setCells w.heap.size (i*2) xs).frozen? x)→∀ty dc sc,(Builtin.copy_ #[43,43] ty #[.slice (some ⟨w.heap.size,(i+1)*2,none⟩) (n-i) dc,.slice (some ⟨g,i*2,none⟩) (n-i) sc]).run prog W= .ok (goInt ((n-i:Nat):Int)) (W.setCells w.heap.size ((i+1)*2) tl):=fun W hWc hWf ty dc sc=>
  jj W _ _ ty 68 2 (n-i) w.heap.size ((i+1)*2) (n-i) dc ⟨g,i*2,none⟩ (n-i) sc tl underlying43 hsz2 (by simp only [Nat.min_def];split <;>omega) htlen
   (fun j v hj => by
    rw [Addr.add_lit,hWc,World.cell?_setCells_out _ _ _ _ _ (fun h _=>absurd h hbN)]
    exact hOb _ v (htget j v hj).2)
   (fun j hj=>by rw [hWc];exact isSome_setCells _ _ _ _ (fun t ht=>hN _ (by rw [hxlen] at ht;omega)) _ (hN _ (by rw [htlen] at hj;omega)))
   (fun j hj=>by rw [hWf,World.frozen?_setCells];exact hNf _) ht1
 have hG63:G≤9223372036854775807:=by
  have:=grownCap_le_maxLen w (n+1) n 68 (by unfold maxLen;omega)
  rw [←hG] at this
  unfold maxLen at this
  omega
 have hGi: ¬(G=i):=by omega
 have hGim: ¬(G=i+1):=by omega
 have hci: ¬(n=i):=by omega
 subst hW1
 have hE1: ∀x,((w.alloc (.cells ROW 68)).drew).cell? x=(w.drew.alloc (.cells ROW 68)).cell? x:=fun x=>rfl
 have hE2: ∀x,((w.alloc (.cells ROW 68)).drew).frozen? x=(w.drew.alloc (.cells ROW 68)).frozen? x:=fun x=>rfl
 have hF1: ∀x,(((w.alloc (.cells ROW 68)).drew.setCells w.heap.size (i*2) xs).drew).cell? x=((w.drew.alloc (.cells ROW 68)).setCells w.heap.size (i*2) xs).cell? x:=fun x=>rfl
 have hF2: ∀x,(((w.alloc (.cells ROW 68)).drew.setCells w.heap.size (i*2) xs).drew).frozen? x=((w.drew.alloc (.cells ROW 68)).setCells w.heap.size (i*2) xs).frozen? x:=fun x=>rfl
 have hz2: ¬((i:Int)=(n:Int)):=by omega
 have hz3:(n:Int)<(n:Int)+1:=by omega
 have mixed:prog.follows .mixedOrders=true:=envOK.mixed
 have hw1:IntKind.i64.wrap ((i:Int)+1)=(i:Int)+1:=by rw [IntKind.wrap_i64];omega
 have hw2:IntKind.i64.wrap ((n:Int)+1)=(n:Int)+1:=by rw [IntKind.wrap_i64];omega
 have hw3:IntKind.i64.wrap ((n:Int)+1-(i:Int))=(n:Int)+1-(i:Int):=by rw [IntKind.wrap_i64];omega
 have hb1:(0:Int)≤(i:Int)+1:=by omega
 have hin:i≤n:=by omega
 have htn:((i:Int)+1).toNat=i+1:=by omega
 have hb3:(i:Int)≤(n:Int):=by omega
 clear hkk hik hold hROW hG hRl htl hxs hxget htget hcell hcellv hfit hN hNf hOb hOv
 go_enter func76,ntmps76
 go_wp2_with (first
  |(at_builtin;refine Lib.wpList_append_run _ rfl _ _ _ _ rfl _ _ rfl rfl _ _ (hrz _) ?_)
  |(at_builtin;refine wpList_copy_runI _ rfl _ _ 43 43 rfl _ _ rfl rfl (hcpA _ hE1 hE2 _ _) ?_)
  |(at_builtin;refine wpList_copy_runI _ rfl _ _ 43 43 rfl _ _ rfl rfl (hcpB _ (fun _=>rfl) (fun _=>rfl) _ _ _) ?_))
 go_region_law_o (refine step_copy_runI rfl _ _ 43 43 rfl (.slice (some ⟨w.heap.size,(i+1)*2,none⟩) (n-i) (G-(i+1))) (.slice (some ⟨g,i*2,none⟩) (n-i) (n-i)) (by simp [Act.eval,Act.put]) (by simp [Act.eval,Act.put]) (hcpB _ hF1 hF2 3 (G-(i+1)) (n-i)) ?_)
 go_wp2
 go_ret
 exact hfin _ _ rfl rfl
set_option maxHeartbeats 4000000 in
set_option maxRecDepth 1000000 in
theorem q31(base va:Option Addr)(n cap vc:Nat)(w:World)(v':Value)(w':World)(hb:n=0∧cap=0∨∃q,base=some ⟨q,0,none⟩)(hn:n≤4294967296)(hnc:n≤cap)(hr:(Builtin.append_ #[43,43] 43 #[.slice base n cap,.slice va 1 vc]).run prog w= .ok v' w'):
  Calls prog 76 #[.slice base n cap,.int .i64 n,.slice va 1 vc] w fun en w''=>en= .returned v'∧w''=w':=by
 have mixed:prog.follows .mixedOrders=true:=envOK.mixed
 rcases hb with⟨rfl,rfl⟩|⟨q,rfl⟩
 all_goals
  go_enter func76,ntmps76
  go_wp2_with (at_builtin;refine Lib.wpList_append_run _ rfl _ _ _ _ rfl _ _ rfl rfl _ _ hr ?_)
  all_goals (go_ret;exact⟨rfl,rfl⟩)
abbrev uo:Ty:= .pair .str .str
theorem q9p(l:List (uo).den)(i:Nat)(x:(uo).den)(hi:i≤l.length)(hl:l.length≤4294967296):
  qh E 76 [.own uo 0 false,.int .i64 i,.own uo 1 true] [.arr uo l true,.arr uo [x] true] (fun r h'=>r= .ret (.own uo 2 false)∧h'=[.gone,.arr uo [x] true,.arr uo (l.take i++x::l.drop i) true]):=by
 have hen:AM.ka E.P 76:=⟨_,func76,rfl,rfl⟩
 obtain⟨_,_,i0,z,h1,h2,h3⟩:=envOK.ty 68 uo (by kernel_rfl)
 have hr:=h3 default (fun _ _=>False)
 obtain⟨i1,h10,h11,h12⟩:=envOK.info 68 (by kernel_rfl)
 have h13:some i0=some i1:=h1.symm.trans h10
 injection h13 with h13
 subst h13
 have hzs:z.cells.size=2:=by have:=hr.len;rw [Array.length_toList] at this;exact this
 rcases Nat.lt_or_ge i l.length with h|h
 ·exact qh.insert uo (by intro h;cases h) hen z.cells (by simpa using hr.len)
   (fun g n cap i vb vc us vs e e2 w a1 a2 a3 a4 a5 a6 a7 a8 a9 b1=>qv6 g n cap i vb vc us vs e e2 w a1 a2 a3 a4 a5 a6 a7 a8 a9 b1 _ _ rfl rfl)
   (fun g n i vb vc us vs e e2 w a1 a2 a4 a6 a7 a8 a9 b1=>qz7 g n i vb vc us vs e e2 w a1 a2 a4 a6 a7 a8 a9 b1 _ _ rfl rfl i0 h1 (h11.trans (by kernel_rfl)) (by rw [h12];exact of_decide_eq_true (by kernel_rfl)) z h2 hzs) l i x h hl
 ·obtain rfl : i = l.length := by omega
  rw [List.take_length,List.drop_length]
  exact qh.insertEnd envOK hen uo 43 68 (by kernel_rfl) (by kernel_rfl) (by kernel_rfl) (of_decide_eq_true (by kernel_rfl)) (fun base va n cap vc w v' w' a1 a2 a3 a4=>q31 base va n cap vc w v' w' a1 a2 a3 a4) l x hl
set_option maxHeartbeats 4000000 in
set_option maxRecDepth 1000000 in
theorem qzt(g n cap i j:Nat)(vs:Array Value)(e:TypeId)(w:World)(hga:js uo w g vs e)(hcap:n≤cap)(hroom:cap*2≤vs.size)(hij:i<j)(hj:j≤n)
  (hone: ∀k v,k<n*2→vs[k]? =some v→v.oneCell'=true) (zc:Array Value) (hz: ∃i z,prog.info? 68=some i∧i.size=2∧i.zero=some z∧z.cells=zc) (hzc:zc.size=2) (hzo: ∀v∈zc.toList,v.oneCell'=true) (news zs:List Value) (hnews:news=(vs.toList.drop (j*2)).take ((n-j)*2)) (hzs:zs=(Builtin.zeroCells zc (j-i)).toList):
  Calls prog 78 #[.slice (some ⟨g,0,none⟩) n cap,.int .i64 i,.int .i64 j] w fun e w'=>e= .returned (.slice (some ⟨g,0,none⟩) (n-(j-i)) cap)∧w'=(w.drew.setCells g (i*2) news).setCells g ((i+(n-j))*2) zs:=by
 obtain⟨⟨lo,hi⟩,hg,hfz⟩:=hga
 have hcell: ∀k,w.drew.cell? ⟨g,k,none⟩=vs[k]? :=by
  intro k
  show w.cell? _=_
  simp [World.cell?,hg]
 have hfrz: ∀k,k<vs.size→w.drew.frozen? ⟨g,k,none⟩=false:=by
  intro k hk
  show w.frozen? _=_
  unfold World.frozen?
  rw [hg]
  rcases hfz with hfz|hfz
  ·cases hfz
   simp
  ·have hfz : vs.size ≤ lo := hfz.2
   have: ¬lo≤k:=by omega
   simp only [this,decide_false,Bool.false_and]
 have hlen:news.length=(n-j)*2:=by
  rw [hnews,List.length_take,List.length_drop]
  simp only [Array.length_toList]
  omega
 obtain⟨A,hA,hsrc⟩: ∃A:Addr,(if cap=j then some (⟨g,0,none⟩:Addr) else some ⟨g,j*2,none⟩)=some A∧Hid (∀t u,news[t]? =some u→w.drew.cell? (A.add t)=some u):=by
  by_cases h:cap=j
  ·refine ⟨⟨g, 0, none⟩, by simp [h], fun t u hu => ?_⟩
   have h0:news.length=0:=by rw [hlen];omega
   rw [List.length_eq_zero_iff.1 h0] at hu
   simp at hu
  ·refine ⟨⟨g, j * 2, none⟩, by simp [h], fun t u hu => ?_⟩
   rw [hnews,List.getElem?_take] at hu
   split at hu
   ·rw [List.getElem?_drop] at hu
    rw [Addr.add_lit,hcell]
    simpa using hu
   ·cases hu
 have s1:Hid (news.length=(n-j)*2):=hlen
 have s2:Hid (∀u∈news,u.oneCell'=true):=by
  intro u hu
  obtain⟨t,ht⟩:=List.getElem?_of_mem hu
  rw [hnews,List.getElem?_take] at ht
  split at ht
  ·rw [List.getElem?_drop] at ht
   exact hone (j*2+t) u (by omega) (by simpa using ht)
  ·cases ht
 have s3:Hid (∀t,t<news.length→(w.drew.cell? ⟨g,0+i*2+t,none⟩).isSome=true∧w.drew.frozen? ⟨g,0+i*2+t,none⟩=false):=by
  intro t ht
  rw [hlen] at ht
  refine⟨?_,hfrz _ (by omega)⟩
  rw [hcell,Array.getElem?_eq_getElem (by omega)]
  rfl
 obtain⟨W1,hW1⟩: ∃W1,W1=w.drew.setCells g (0+i*2) news:=⟨_,rfl⟩
 have hcl: ∀ty,(Builtin.clear_ #[43] ty #[.slice (some ⟨g,(i+(n-j))*2,none⟩) (n-(i+(n-j))) (cap-(i+(n-j)))]).run prog W1= .ok (.tuple #[]) (W1.setCells g ((i+(n-j))*2) zs):=by
  intro ty
  have zl:zs.length=(j-i)*2:=by rw [hzs];simp [Builtin.zeroCells,hzc]
  have e1:n-(i+(n-j))=j-i:=by omega
  have hc1: ∀t,t<zs.length→(W1.cell? ⟨g,(i+(n-j))*2+t,none⟩).isSome=true:=by
   intro t ht
   rw [hW1,World.cell?_setCells_out _ _ _ _ _ (fun _ _=> .inr (by simp only [hlen];omega)),hcell,Array.getElem?_eq_getElem (by omega)]
   rfl
  have hf1: ∀t,t<zs.length→W1.frozen? ⟨g,(i+(n-j))*2+t,none⟩=false:=by
   intro t ht
   rw [hW1,World.frozen?_setCells]
   exact hfrz _ (by omega)
  rw [hzs] at hc1 hf1 ⊢
  rw [e1]
  obtain⟨i1,z,h1,h2,h3,h4⟩:=hz
  subst h4
  refine qwv W1 43 68 ty z underlying43 (fun w=>by simp [zeroValue,typeInfo,h1,h3]) g _ (j-i) _ (by omega) ?_ hc1 hf1
  intro v hv
  simp only [Builtin.zeroCells,Array.toList_map,Array.toList_range,List.mem_map,List.mem_range] at hv
  obtain⟨a,_,rfl⟩:=hv
  have hm:a%z.cells.size<z.cells.size:=Nat.mod_lt _ (by omega)
  rw [getElem!_pos z.cells _ hm]
  exact hzo _ (by simp)
 have hW:Hid (W1=w.drew.setCells g (0+i*2) news):=hW1
 clear hW1
 have hic:i≤cap:=by omega
 have hjc:j≤cap:=by omega
 clear hnews hlen
 obtain⟨i0,_,hi0,hz1,_,_⟩:=hz
 have mixed:prog.follows .mixedOrders=true:=envOK.mixed
 go_enter func78,ntmps78
 go_wp2_with fail
 go_region_law_o (refine step_append_room rfl (.tmp 22) (.tmp 25) 43 rfl 68 i0 2 underlying43 hi0 hz1 g 0 i cap (by simp [Act.eval,Act.put]) A (n-j) (cap-j) news (by simp [Act.eval,Act.put]) s1.out hsrc.out s2.out (by omega) s3.out ?_;rw [←hW.out])
 go_wp2
 go_ret
 refine⟨by rw [show n-(j-i)=i+(n-j) by omega];rfl, ?_⟩
 rw [hW.out,Nat.zero_add,hzs]
theorem q9o(l:List (uo).den)(i j:Nat)(full:Bool)(hij:i<j)(hj:j≤l.length):
  qh E 78 [.own uo 0 full,.int .i64 i,.int .i64 j] [.arr uo l true] (fun r h'=>r= .ret (.own uo 1 false)∧h'=[.gone,.arr uo (l.take i++l.drop j) true]):=by
 obtain⟨_,_,i0,z,h1,h2,h3⟩:=envOK.ty 68 uo (by kernel_rfl)
 have hr:=h3 default (fun _ _=>False)
 refine qh.delete uo z.cells ?_ (by simpa using hr.len) (fun g n cap i j vs e w h4 h5 h6 h7 h8 h9=> ?_) l i j full hij hj
 ·exact⟨_,func78,rfl,rfl⟩
 ·obtain ⟨i1, h10, h11, _⟩ := envOK.info 68 (by kernel_rfl)
  have h12:some i0=some i1:=h1.symm.trans h10
  injection h12 with h12
  subst h12
  exact qzt g n cap i j vs e w h4 h5 h6 h7 h8 h9 z.cells ⟨i0,z,h1,h11.trans (by kernel_rfl),h2,rfl⟩ (by have:=hr.len;rw [Array.length_toList] at this;exact this) hr.one _ _ rfl rfl
end Go.Proofs.Tryz
