/-
  Bytes in digits.
-/
import Derived.Test.YtfcigmcjgaipmaaDoorBMDom
namespace Go.AM
/-- A half byte's digit. -/
def hexD (n : Nat) : UInt8 := if n < 10 then UInt8.ofNat (48 + n) else UInt8.ofNat (87 + n)
def hexS (s : List UInt8) : List UInt8 := s.flatMap fun b => [hexD (b.toNat / 16), hexD (b.toNat % 16)]
theorem hexS_take {s : List UInt8} {k : Nat} (h : k < s.length) : hexS (s.take (k + 1)) = hexS (s.take k) ++ [hexD (s[k].toNat / 16)] ++ [hexD (s[k].toNat % 16)] := by
  unfold hexS
  rw [List.take_succ_eq_append_getElem h, List.flatMap_append]
  simp only [List.flatMap_cons, List.flatMap_nil, List.append_nil, List.append_assoc, List.cons_append, List.nil_append]
theorem hexS_len (s : List UInt8) : (hexS s).length = 2 * s.length := by
  induction s with
  | nil => rfl
  | cons b r ih => simp [hexS] at ih ⊢; omega
end Go.AM
