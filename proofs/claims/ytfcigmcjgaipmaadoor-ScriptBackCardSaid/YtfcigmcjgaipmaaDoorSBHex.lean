/-
  octet.Hex, at this program: the builder's contracts of the shelf, and the walk.
-/
import Derived.Test.YtfcigmcjgaipmaaDoorSBShelf
import Derived.Test.YtfcigmcjgaipmaaDoorProg
import Derived.WalkKit
import Derived.BigCall
import Derived.Test.YtfcigmcjgaipmaaDoorBMLib
namespace Go.Proofs
open Go.RowKit Go.AM

def Tryd.lays167_ren : Go.Shelf.Ren := ⟨fun | 167 => 32 | 240 => 42 | 276 => 53 | n => n, fun | 70 => 99 | 0 => 0 | 4 => 4 | 9 => 9 | 20 => 20 | 72 => 101 | 37 => 98 | 164 => 124 | 5 => 5 | 75 => 103 | 80 => 105 | n => n, fun | n => n⟩
theorem Tryd.lays167 : Go.Proofs.Lays.n167 Tryd.prog Tryd.lays167_ren := {
  mixed := by kernel_rfl
  f167 := Tryd.func32.trans (congrArg some (by kernel_rfl))
  f240 := Tryd.func42.trans (congrArg some (by kernel_rfl))
  f276 := Tryd.func53.trans (congrArg some (by kernel_rfl))
  t0 := Tryd.underlying0
  a0 := Tryd.isAgg0
  z0 := Tryd.sizeOf0
  v0 := Tryd.zeroValue0
  t4 := Tryd.underlying4
  a4 := Tryd.isAgg4
  z4 := Tryd.sizeOf4
  v4 := Tryd.zeroValue4
  t5 := Tryd.underlying5
  a5 := Tryd.isAgg5
  z5 := Tryd.sizeOf5
  v5 := Tryd.zeroValue5
  t9 := Tryd.underlying9
  a9 := Tryd.isAgg9
  z9 := Tryd.sizeOf9
  v9 := Tryd.zeroValue9
  t20 := Tryd.underlying20
  a20 := Tryd.isAgg20
  z20 := Tryd.sizeOf20
  v20 := Tryd.zeroValue20
  t37 := Tryd.underlying98
  a37 := Tryd.isAgg98
  z37 := Tryd.sizeOf98
  v37 := Tryd.zeroValue98
  t70 := Tryd.underlying99
  a70 := Tryd.isAgg99
  z70 := Tryd.sizeOf99
  v70 := Tryd.zeroValue99
  t72 := Tryd.underlying101
  a72 := Tryd.isAgg101
  z72 := Tryd.sizeOf101
  v72 := Tryd.zeroValue101
  t75 := Tryd.underlying103
  a75 := Tryd.isAgg103
  z75 := Tryd.sizeOf103
  v75 := Tryd.zeroValue103
  t164 := Tryd.underlying124
  a164 := Tryd.isAgg124
  z164 := Tryd.sizeOf124
  v164 := Tryd.zeroValue124 }
theorem Tryd.Builder_Extra_167 : Builder.Extra Tryd.prog Tryd.lays167_ren := {
  sizeBuilder := by kernel_rfl
  liesBuilder := by kernel_rfl
  t5 := Tryd.underlying5
  a5 := Tryd.isAgg5
  z5 := Tryd.sizeOf5
  v5 := Tryd.zeroValue5
  infoByte := by kernel_rfl
  cellsByte := by kernel_rfl
  sizeByte := by kernel_rfl
  neB5 := by decide }
theorem Tryd.Builder_WriteByte (B b : Nat) (bs : List Value) (c : Int) (w : World) (h : Lib.IsBuilder 101 5 B b bs w) (hlen : bs.length + 1 ≤ 140737488355328) (hBw : B ≤ w.heap.size) :
    Calls Tryd.prog 32 #[.pointer (some ⟨b, 0, none⟩), .int .u8 c] w fun e w' => e = .returned .nilIface ∧ (Lib.BuilderAt 101 5 B b (.pointer (some ⟨b, 0, none⟩)) (bs ++ [.int .u8 c]) w' ∧ Below B w w') := Any.Builder_WriteByte Tryd.lays167 Tryd.Builder_Extra_167 B b bs c w h hlen hBw

theorem dig_at (n : Nat) (h : n < (⟨#[48, 49, 50, 51, 52, 53, 54, 55, 56, 57, 97, 98, 99, 100, 101, 102]⟩ : ByteArray).size) : ((⟨#[48, 49, 50, 51, 52, 53, 54, 55, 56, 57, 97, 98, 99, 100, 101, 102]⟩ : ByteArray)[n]'h) = hexD n := by
  have h' : n < 16 := h
  rcases n with _ | _ | _ | _ | _ | _ | _ | _ | _ | _ | _ | _ | _ | _ | _ | _ | n
  all_goals first | rfl | omega

set_option maxHeartbeats 800000 in
theorem Tryd.octet_Hex (s : ByteArray) (w : World) (hs : s.size ≤ 35184372088832) :
    Calls Tryd.prog 21 #[.string s] w fun e w' => e = .returned (.string ⟨(hexS s.data.toList).toArray⟩) ∧ Below w.heap.size w w' := by
  have h0 : Lib.IsBuilder 101 5 w.heap.size w.heap.size (Lib.byteCells (hexS (s.data.toList.take 0))) (w.alloc (.cells #[.pointer none, .slice none 0 0] 101)) := Lib.fresh_isBuilder 101 5 w
  have b0 : Below w.heap.size w (w.alloc (.cells #[.pointer none, .slice none 0 0] 101)) := (Below.refl _ w).alloc (Nat.le_refl _) _
  go_enter Tryd.func21, Tryd.ntmps21
  go_wp2
  go_loopw [7] (fun i wr => ∃ (k : Nat), k ≤ s.size ∧ i = .int .i64 k ∧ Lib.IsBuilder 101 5 w.heap.size w.heap.size (Lib.byteCells (hexS (s.data.toList.take k))) wr ∧ Below w.heap.size w wr)
    (fun i _ => s.size - (intOf i).toNat)
  case atStart => exact ⟨0, Nat.zero_le _, rfl, h0, b0⟩
  case round =>
    obtain ⟨k, hk, rfl, hb, hnx⟩ := hrel
    have hl0 : (Lib.byteCells (hexS (s.data.toList.take k))).length ≤ 2 * s.size := by
      rw [Lib.byteCells_length, hexS_len, List.length_take]
      omega
    go_wp2_with (go_at_call 32; refine (Tryd.Builder_WriteByte w.heap.size w.heap.size _ _ _ hb (by omega) hnx.size).mono ?_)
    · rintro e W1 ⟨rfl, h1, b1⟩
      have b1 := hnx.trans b1
      go_wp2_with (go_at_call 32; refine (Tryd.Builder_WriteByte w.heap.size w.heap.size _ _ _ (Or.inr h1) (by rw [List.length_append, List.length_singleton]; omega) b1.size).mono ?_)
      · rintro e W2 ⟨rfl, h2, b2⟩
        go_wp2
        go_roundw
        case rel =>
          refine ⟨k + 1, by omega, rfl, Or.inr ?_, b1.trans b2⟩
          have hkl : k < s.data.toList.length := by simpa using ‹k < s.size›
          have hsk : s.data.toList[k] = s[k] := rfl
          have hb2 := s[k].toNat_lt
          rw [hexS_take hkl, hsk]
          rw [dig_at, dig_at] at h2
          have e16 : s[k].toNat / 16 % 256 = s[k].toNat / 16 := by omega
          rw [e16] at h2
          simpa [Lib.byteCells] using h2
        case measure =>
          simp only [intOf]
          omega
      all_goals exact absurd ‹¬_› (by omega)
    · have hb2 := s[k].toNat_lt
      exfalso
      omega
    · have hks : k = s.size := by omega
      have hb' : Lib.IsBuilder 101 5 w.heap.size w.heap.size (Lib.byteCells (hexS s.data.toList)) wr := by
        rw [List.take_of_length_le (by rw [hks]; simp)] at hb
        exact hb
      refine (Tryd.Builder_String_any w.heap.size w.heap.size (hexS s.data.toList) wr hb' hnx.size).mono ?_
      rintro e W1 ⟨rfl, b1⟩
      go_wp2
      go_ret
      exact ⟨rfl, hnx.trans b1⟩
end Go.Proofs
