import Derived.Test.YtjmmcdbogbpedaaGreatDoorRows
import Derived.Test.YtjmmcdbogbpedaaGreatDoorRGEnv
import Derived.Test.YtjmmcdbogbpedaaGreatDoorBMUpto
import Derived.ProofKit
namespace Go.Proofs.YtjmmcdbogbpedaaGreatDoor
open Go.ChangeShapes Go.WideShapes Go.ChangeAt Go.RowKit Go.AM
theorem Tryz.own:ownKnob Tryz.prog.godebug=none:=by kernel_rfl
theorem Tryz.laidOut:laidOutB Tryz.prog=true:=by kernel_rfl
theorem Tryz.layOf{W:World}{l:List (String×DataW Unit)}(m1:("internal/strconv.uint64pow10",Lib.tabData .u64 Lib.pow10Tab)∈l)(m2:("consignor/digest.keys",Lib.tabData .u32 Plain.ku)∈l)
  (hl:laidMetH Tryz.prog l W) (hpl:laidMetH Tryz.prog l W→laidMet Tryz.prog l W) (hs:W.ShapedOpen Tryz.prog):qnz W (Old W):=by
 obtain⟨ps,hp,_⟩:=hpl hl
 obtain⟨e1,f1,h1⟩:=qb7 (name:= "internal/strconv.uint64pow10") (g:=4) (t:=246) (e:=139) (k:= .u64) (zs:=Lib.pow10Tab) (n:=20) (by kernel_rfl) (by kernel_rfl) (by kernel_rfl) (by kernel_rfl) (by kernel_rfl) (by kernel_rfl) m1 hp
 obtain⟨e0,f0,h0⟩:=qb7 (name:= "consignor/digest.keys") (g:=0) (t:=197) (e:=143) (k:= .u32) (zs:=Plain.ku) (n:=64) (by kernel_rfl) (by kernel_rfl) (by kernel_rfl) (by kernel_rfl) (by kernel_rfl) (by kernel_rfl) m2 hp
 obtain⟨m,h2⟩:=Go.Proofs.cell_of_shapedOpen_int (g:=1) (t:=3) (zero:= #[.int .i64 0]) (k:= .i64) hs (of_decide_eq_true (by kernel_rfl)) (by kernel_rfl) (by kernel_rfl) (by kernel_rfl) (by kernel_rfl) (by kernel_rfl)
 refine⟨fun p hp=> ?_,fun g hg=> ?_⟩
 ·rcases List.mem_cons.1 hp with rfl | hp
  ·exact⟨⟨e1,f1,h1⟩,fun i _=>(Array.getElem?_eq_some_iff.1 h1).1⟩
  ·rw [List.mem_singleton.1 hp]
   exact⟨⟨e0,f0,h0⟩,fun i _=>(Array.getElem?_eq_some_iff.1 h0).1⟩
 ·rw [List.mem_singleton.1 hg]
  exact⟨m,h2,q6h h2⟩
theorem qcw{H:Type}{d:DataW H}: ∀{l:List (DataW H)},d∈l→Rows.uptoBulk d≤Rows.uptoBulkAll l
 |x::r,h=>by
  simp only [Rows.uptoBulkAll]
  rcases List.mem_cons.1 h with rfl|h
  ·omega
  ·have:=qcw h;omega
theorem qsw{H:Type}: ∀(l:List (DataW H)),l.length≤Rows.uptoBulkAll l
 |[]=>Nat.zero_le _
 | x :: r => by
  have h:=qsw r
  have h1:1≤Rows.uptoBulk x:=by
   cases x with
   |lit l=>cases l <;>simp [Rows.uptoBulk]
   |_=>simp [Rows.uptoBulk]
  simp only [Rows.uptoBulkAll,List.length_cons]
  omega
theorem q2d(H:Type):Clo (fun d:DataW H=>Rows.uptoBulk d≤1048576) 1048576 where
 str bytes h:=by simp only [Rows.uptoBulk] at h;omega
 sl es sp h:=by
  simp only [Rows.uptoBulk] at h
  have:=qsw es
  exact⟨by omega,fun e he=>by have:=qcw he;omega⟩
 agg ps h:=by
  simp only [Rows.uptoBulk] at h
  exact fun p hp=>by have:=qcw hp;omega
theorem q6g{H:Type}{ds gs:List (DataW H)}(h:Rows.uptoSmall H (ds++gs)=true): ∀d∈ds,Rows.uptoBulk d≤1048576:=fun d hd=>by
 have h:=of_decide_eq_true h
 have:=qcw (List.mem_append_left gs hd)
 omega
end Go.Proofs.YtjmmcdbogbpedaaGreatDoor
