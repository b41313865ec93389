import Derived.Test.YtjmmcdbogbpedaaGreatDoorRGShelf
import Derived.Test.YtjmmcdbogbpedaaGreatDoorProg
import Derived.WalkKit
import Derived.BigCall
import Derived.Test.YtjmmcdbogbpedaaGreatDoorBMLib
namespace Go.Proofs
open Go.RowKit Go.AM
def Tryz.lays167_ren:Go.Shelf.Ren:=⟨fun|167=>111|240=>151|276=>177|n=>n,fun|70=>151|0=>0|4=>4|9=>9|20=>20|72=>153|37=>138|164=>211|5=>5|75=>155|80=>157|n=>n,fun|n=>n⟩
theorem Tryz.lays167:Go.Proofs.Lays.n167 Tryz.prog Tryz.lays167_ren:={
 mixed:=by kernel_rfl
 f167:=Tryz.func111.trans (congrArg some (by kernel_rfl))
 f240:=Tryz.func151.trans (congrArg some (by kernel_rfl))
 f276:=Tryz.func177.trans (congrArg some (by kernel_rfl))
 t0:=Tryz.underlying0
 a0:=Tryz.isAgg0
 z0:=Tryz.sizeOf0
 v0:=Tryz.zeroValue0
 t4:=Tryz.underlying4
 a4:=Tryz.isAgg4
 z4:=Tryz.sizeOf4
 v4:=Tryz.zeroValue4
 t5:=Tryz.underlying5
 a5:=Tryz.isAgg5
 z5:=Tryz.sizeOf5
 v5:=Tryz.zeroValue5
 t9:=Tryz.underlying9
 a9:=Tryz.isAgg9
 z9:=Tryz.sizeOf9
 v9:=Tryz.zeroValue9
 t20:=Tryz.underlying20
 a20:=Tryz.isAgg20
 z20:=Tryz.sizeOf20
 v20:=Tryz.zeroValue20
 t37:=Tryz.underlying138
 a37:=Tryz.isAgg138
 z37:=Tryz.sizeOf138
 v37:=Tryz.zeroValue138
 t70:=Tryz.underlying151
 a70:=Tryz.isAgg151
 z70:=Tryz.sizeOf151
 v70:=Tryz.zeroValue151
 t72:=Tryz.underlying153
 a72:=Tryz.isAgg153
 z72:=Tryz.sizeOf153
 v72:=Tryz.zeroValue153
 t75:=Tryz.underlying155
 a75:=Tryz.isAgg155
 z75:=Tryz.sizeOf155
 v75:=Tryz.zeroValue155
 t164:=Tryz.underlying211
 a164:=Tryz.isAgg211
 z164:=Tryz.sizeOf211
 v164:=Tryz.zeroValue211 }
theorem Tryz.Builder_Extra_167:Builder.Extra Tryz.prog Tryz.lays167_ren:={
 sizeBuilder:=by kernel_rfl
 liesBuilder:=by kernel_rfl
 t5:=Tryz.underlying5
 a5:=Tryz.isAgg5
 z5:=Tryz.sizeOf5
 v5:=Tryz.zeroValue5
 infoByte:=by kernel_rfl
 cellsByte:=by kernel_rfl
 sizeByte:=by kernel_rfl
 neB5:=by decide }
theorem Tryz.Builder_WriteByte(B b:Nat)(bs:List Value)(c:Int)(w:World)(h:Lib.IsBuilder 153 5 B b bs w)(hlen:bs.length+1≤140737488355328)(hBw:B≤w.heap.size):
  Calls Tryz.prog 111 #[.pointer (some ⟨b,0,none⟩),.int .u8 c] w fun e w'=>e= .returned .nilIface∧(Lib.BuilderAt 153 5 B b (.pointer (some ⟨b,0,none⟩)) (bs++[.int .u8 c]) w'∧Below B w w'):=Any.Builder_WriteByte Tryz.lays167 Tryz.Builder_Extra_167 B b bs c w h hlen hBw
theorem q3i(n:Nat)(h:n<(⟨#[48,49,50,51,52,53,54,55,56,57,97,98,99,100,101,102]⟩:ByteArray).size):((⟨#[48,49,50,51,52,53,54,55,56,57,97,98,99,100,101,102]⟩:ByteArray)[n]'h)=qqy n:=by
 have h':n<16:=h
 rcases n with _|_|_|_|_|_|_|_|_|_|_|_|_|_|_|_|n
 all_goals first|rfl|omega
set_option maxHeartbeats 800000 in
theorem Tryz.octet_Hex(s:ByteArray)(w:World)(hs:s.size≤35184372088832):
  Calls Tryz.prog 63 #[.string s] w fun e w'=>e= .returned (.string ⟨(zr s.data.toList).toArray⟩)∧Below w.heap.size w w':=by
 have h0:Lib.IsBuilder 153 5 w.heap.size w.heap.size (Lib.byteCells (zr (s.data.toList.take 0))) (w.alloc (.cells #[.pointer none,.slice none 0 0] 153)):=Lib.fresh_isBuilder 153 5 w
 have b0:Below w.heap.size w (w.alloc (.cells #[.pointer none,.slice none 0 0] 153)):=(Below.refl _ w).alloc (Nat.le_refl _) _
 go_enter Tryz.func63,Tryz.ntmps63
 go_wp2
 go_loopw [7] (fun i wr=> ∃(k:Nat),k≤s.size∧i= .int .i64 k∧Lib.IsBuilder 153 5 w.heap.size w.heap.size (Lib.byteCells (zr (s.data.toList.take k))) wr∧Below w.heap.size w wr)
  (fun i _=>s.size-(intOf i).toNat)
 case atStart=>exact⟨0,Nat.zero_le _,rfl,h0,b0⟩
 case round=>
  obtain⟨k,hk,rfl,hb,hnx⟩:=hrel
  have hl0:(Lib.byteCells (zr (s.data.toList.take k))).length≤2*s.size:=by
   rw [Lib.byteCells_length,qkw,List.length_take]
   omega
  go_wp2_with (go_at_call 111;refine(Tryz.Builder_WriteByte w.heap.size w.heap.size _ _ _ hb (by omega) hnx.size).mono ?_)
  ·rintro e W1 ⟨rfl, h1, b1⟩
   have b1:=hnx.trans b1
   go_wp2_with (go_at_call 111;refine(Tryz.Builder_WriteByte w.heap.size w.heap.size _ _ _ (Or.inr h1) (by rw [List.length_append,List.length_singleton];omega) b1.size).mono ?_)
   ·rintro e W2 ⟨rfl, h2, b2⟩
    go_wp2
    go_roundw
    case rel=>
     refine⟨k+1,by omega,rfl,Or.inr ?_,b1.trans b2⟩
     have hkl:k<s.data.toList.length:=by simpa using ‹k<s.size›
     have hsk:s.data.toList[k]=s[k]:=rfl
     have hb2:=s[k].toNat_lt
     rw [qz5 hkl,hsk]
     rw [q3i,q3i] at h2
     have e16:s[k].toNat / 16%256=s[k].toNat / 16:=by omega
     rw [e16] at h2
     simpa [Lib.byteCells] using h2
    case measure=>
     simp only [intOf]
     omega
   all_goals exact absurd ‹¬_› (by omega)
  ·have hb2 := s[k].toNat_lt
   exfalso
   omega
  ·have hks : k = s.size := by omega
   have hb':Lib.IsBuilder 153 5 w.heap.size w.heap.size (Lib.byteCells (zr s.data.toList)) wr:=by
    rw [List.take_of_length_le (by rw [hks];simp)] at hb
    exact hb
   refine(Tryz.Builder_String_any w.heap.size w.heap.size (zr s.data.toList) wr hb' hnx.size).mono ?_
   rintro e W1 ⟨rfl,b1⟩
   go_wp2
   go_ret
   exact⟨rfl,hnx.trans b1⟩
end Go.Proofs
