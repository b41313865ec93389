/-
  Plain facts of the printed functions of layers 1, 2: a digest is told, and is one.
-/
import Derived.Test.YtfcigmcjgaipmaaDoorPrn
import Derived.Test.YtfcigmcjgaipmaaDoorFacts
namespace Go.Plain
open Go.AM

theorem bytesStr_len (l : List Int) : (bytesStr l).length = l.length := by simp [bytesStr]
/-! What a digest is. -/
def isHex (b : UInt8) : Bool := (decide (48 ≤ b.toNat) && decide (b.toNat ≤ 57)) || (decide (97 ≤ b.toNat) && decide (b.toNat ≤ 102))
theorem hexD_isHex : ∀ n, n < 16 → isHex (hexD n) = true := by
  intro n h
  rcases n with _ | _ | _ | _ | _ | _ | _ | _ | _ | _ | _ | _ | _ | _ | _ | _ | n
  all_goals first | rfl | omega
theorem hexS_isHex (s : Str) : (hexS s).all isHex = true := by
  rw [List.all_eq_true]
  intro b hb
  unfold hexS at hb
  obtain ⟨x, _, hx⟩ := List.mem_flatMap.1 hb
  have hx2 := x.toNat_lt
  simp at hx
  rcases hx with rfl | rfl
  · exact hexD_isHex _ (by omega)
  · exact hexD_isHex _ (by omega)
end Go.Plain

/-
  Plain facts of the printed functions of layers 1, 2: which texts are digests.
-/
namespace Go.Plain
open Go.AM

theorem half_is (b : UInt8) : ∃ h, ref01_half (b.toNat : Int) = some h ∧ decide (h > 15) = !isHex b := by
  have hb := b.toNat_lt
  unfold ref01_half
  by_cases c1 : 48 ≤ b.toNat
  · by_cases c2 : b.toNat ≤ 57
    · have e1 : IntKind.wrap .u8 ((b.toNat : Int) - 48) = (b.toNat : Int) - 48 := wr8 (by omega)
      have e2 : IntKind.wrap .i64 ((b.toNat : Int) - 48) = (b.toNat : Int) - 48 := wr64 (by omega)
      rw [if_pos (by rw [decide_eq_true_eq]; omega), if_pos (by rw [decide_eq_true_eq]; omega), e1, e2]
      refine ⟨_, rfl, ?_⟩
      have : isHex b = true := by simp [isHex, c1, c2]
      rw [this, decide_eq_false (by omega)]
      rfl
    · rw [if_pos (by rw [decide_eq_true_eq]; omega), if_neg (by rw [decide_eq_true_eq]; omega)]
      by_cases c3 : 97 ≤ b.toNat
      · by_cases c4 : b.toNat ≤ 102
        · have e1 : IntKind.wrap .u8 ((b.toNat : Int) - 97) = (b.toNat : Int) - 97 := wr8 (by omega)
          have e2 : IntKind.wrap .i64 ((b.toNat : Int) - 97) = (b.toNat : Int) - 97 := wr64 (by omega)
          have e3 : IntKind.wrap .i64 ((b.toNat : Int) - 97 + 10) = (b.toNat : Int) - 97 + 10 := wr64 (by omega)
          rw [if_pos (by rw [decide_eq_true_eq]; omega), if_pos (by rw [decide_eq_true_eq]; omega), e1, e2, e3]
          refine ⟨_, rfl, ?_⟩
          have : isHex b = true := by simp [isHex, c3, c4]
          rw [this, decide_eq_false (by omega)]
          rfl
        · rw [if_pos (by rw [decide_eq_true_eq]; omega), if_neg (by rw [decide_eq_true_eq]; omega)]
          refine ⟨_, rfl, ?_⟩
          have : isHex b = false := by simp [isHex, c2, c4]
          rw [this]
          rfl
      · rw [if_neg (by rw [decide_eq_true_eq]; omega)]
        refine ⟨_, rfl, ?_⟩
        have : isHex b = false := by simp [isHex, c2, c3]
        rw [this]
        rfl
  · have c3 : ¬ 97 ≤ b.toNat := by omega
    rw [if_neg (by rw [decide_eq_true_eq]; omega), if_neg (by rw [decide_eq_true_eq]; omega)]
    refine ⟨_, rfl, ?_⟩
    have : isHex b = false := by simp [isHex, c1, c3]
    rw [this]
    rfl
theorem ref01_l4_at {s : Str} (hs : s.length ≤ 1000000) : ∀ (n i : Nat) (c : List Int), i + 2 * n = s.length → c.length ≤ i →
    ∃ c', ref01_Bytes_l4 (((i : Int), s), c) = some (if (s.drop i).all isHex then .inr (s, c') else .inl ([], false)) := by
  intro n
  induction n with
  | zero =>
    intro i c hi hc
    have hw : IntKind.wrap .i64 ((i : Int) + 1) = (i : Int) + 1 := wr64 (by omega)
    rw [List.drop_of_length_le (by omega), ref01_Bytes_l4_eq]
    unfold ref01_Bytes_l4F
    dsimp only
    rw [hw, if_neg (by rw [decide_eq_true_eq]; omega)]
    exact ⟨c, rfl⟩
  | succ n ih =>
    intro i c hi hc
    have h1 : i < s.length := by omega
    have h2 : i + 1 < s.length := by omega
    have hw : IntKind.wrap .i64 ((i : Int) + 1) = ((i + 1 : Nat) : Int) := by rw [wr64 (by omega)]; omega
    have hw2 : IntKind.wrap .i64 ((i : Int) + 2) = ((i + 2 : Nat) : Int) := by rw [wr64 (by omega)]; omega
    obtain ⟨a, ha, ga⟩ := half_is s[i]
    obtain ⟨b, hb, gb⟩ := half_is s[i + 1]
    rw [drop_at h1, drop_at h2, List.all_cons, List.all_cons, ref01_Bytes_l4_eq]
    unfold ref01_Bytes_l4F
    dsimp only
    rw [hw, hw2, bt_at h1, bt_at h2, if_pos (by rw [decide_eq_true_eq]; omega), if_pos (by omega), if_pos (by omega), ha, sb, ga]
    cases hx : isHex s[i] with
    | false => exact ⟨[], by simp⟩
    | true =>
      rw [if_neg (by simp), if_pos (by omega), if_pos (by omega), hb, sb, gb]
      cases hy : isHex s[i + 1] with
      | false => exact ⟨[], by simp⟩
      | true =>
        have hsum : ∀ v : Int, sumOk (c.length + [v].length) 1 := fun v => by constructor <;> simp <;> omega
        rw [if_neg (by simp), if_pos (by omega), if_pos (by omega), sb, if_pos (by omega), if_pos (by omega), sb, if_pos (hsum _)]
        simp only [Bool.true_and]
        exact ih (i + 2) _ (by omega) (by rw [List.length_append, List.length_singleton]; omega)
/-! The program's. -/
def digs : Str := [48, 49, 50, 51, 52, 53, 54, 55, 56, 57, 97, 98, 99, 100, 101, 102]
theorem indexByte_is (b : UInt8) : ∃ k, lib_IndexByte (digs, (b.toNat : Int)) = some k ∧ decide (k < 0) = !isHex b := by
  unfold lib_IndexByte
  have e : ((b.toNat : Int)).toNat.toUInt8 = b := by simp
  dsimp only
  rw [e]
  refine ⟨_, rfl, ?_⟩
  have hm : ∀ b : UInt8, (b ∈ digs) ↔ isHex b = true := by
    intro b
    have hb : b = UInt8.ofNat b.toNat := by simp
    constructor
    · intro h
      simp only [digs, List.mem_cons, List.not_mem_nil, or_false] at h
      rcases h with rfl | rfl | rfl | rfl | rfl | rfl | rfl | rfl | rfl | rfl | rfl | rfl | rfl | rfl | rfl | rfl <;> rfl
    · intro h
      simp only [isHex, Bool.or_eq_true, Bool.and_eq_true, decide_eq_true_eq] at h
      have : b.toNat = 48 ∨ b.toNat = 49 ∨ b.toNat = 50 ∨ b.toNat = 51 ∨ b.toNat = 52 ∨ b.toNat = 53 ∨ b.toNat = 54 ∨ b.toNat = 55 ∨ b.toNat = 56 ∨ b.toNat = 57 ∨ b.toNat = 97 ∨ b.toNat = 98 ∨ b.toNat = 99 ∨ b.toNat = 100 ∨ b.toNat = 101 ∨ b.toNat = 102 := by omega
      rcases this with e | e | e | e | e | e | e | e | e | e | e | e | e | e | e | e <;> rw [hb, e] <;> decide
  have hi : ∀ (l : Str), (Lib.indexByte l b < 0) ↔ b ∉ l := by
    intro l
    induction l with
    | nil => simp [Lib.indexByte]
    | cons x l ih =>
      have hge := Lib.indexByte_ge l b
      unfold Lib.indexByte
      by_cases hx : x = b
      · simp [hx]
      · have hx' : ¬ b = x := fun h => hx h.symm
        simp only [hx, beq_iff_eq, if_false, List.mem_cons, hx', false_or]
        rw [← ih]
        split <;> omega
  cases hx : isHex b with
  | true =>
    have : ¬ Lib.indexByte digs b < 0 := fun h => ((hi digs).1 h) ((hm b).2 hx)
    rw [decide_eq_false this]
    rfl
  | false =>
    have : Lib.indexByte digs b < 0 := (hi digs).2 fun h => by rw [(hm b).1 h] at hx; cases hx
    rw [decide_eq_true this]
    rfl
theorem octet_l7_at {s : Str} (hs : s.length ≤ 1000000) : ∀ (n i : Nat) (c : List Int), 2 * (i + n) = s.length → c.length = i + n →
    ∃ c', octet_Bytes_l7 (((i : Int), (s, (c.length : Int))), c) = some (if (s.drop (2 * i)).all isHex then .inr c' else .inl ([], 4)) ∧ c'.length = c.length := by
  intro n
  induction n with
  | zero =>
    intro i c hi hc
    rw [List.drop_of_length_le (by omega), octet_Bytes_l7_eq]
    unfold octet_Bytes_l7F
    dsimp only
    rw [if_neg (by rw [decide_eq_true_eq]; omega)]
    exact ⟨c, rfl, rfl⟩
  | succ n ih =>
    intro i c hi hc
    have h1 : 2 * i < s.length := by omega
    have h2 : 2 * i + 1 < s.length := by omega
    have hw : IntKind.wrap .i64 ((i : Int) + 1) = ((i + 1 : Nat) : Int) := by rw [wr64 (by omega)]; omega
    have hw2 : IntKind.wrap .i64 ((2 : Int) * (i : Int)) = ((2 * i : Nat) : Int) := by rw [wr64 (by omega)]; omega
    have hw3 : IntKind.wrap .i64 (((2 * i : Nat) : Int) + 1) = ((2 * i + 1 : Nat) : Int) := by rw [wr64 (by omega)]; omega
    obtain ⟨a, ha, ga⟩ := indexByte_is s[2 * i]
    obtain ⟨b, hb, gb⟩ := indexByte_is s[2 * i + 1]
    have ha : lib_IndexByte (([48, 49, 50, 51, 52, 53, 54, 55, 56, 57, 97, 98, 99, 100, 101, 102] : Str), (s[2 * i].toNat : Int)) = some a := ha
    have hb : lib_IndexByte (([48, 49, 50, 51, 52, 53, 54, 55, 56, 57, 97, 98, 99, 100, 101, 102] : Str), (s[2 * i + 1].toNat : Int)) = some b := hb
    rw [drop_at h1, drop_at h2, List.all_cons, List.all_cons, octet_Bytes_l7_eq]
    unfold octet_Bytes_l7F
    dsimp only
    rw [hw, hw2, hw3, bt_at h1, bt_at h2, if_pos (by rw [decide_eq_true_eq]; omega), if_pos (by omega), if_pos (by omega), ha, sb, if_pos (by omega), if_pos (by omega), hb, sb, ga, gb]
    cases hx : isHex s[2 * i] with
    | false => exact ⟨c, by simp, rfl⟩
    | true =>
      cases hy : isHex s[2 * i + 1] with
      | false => exact ⟨c, by simp, rfl⟩
      | true =>
        rw [if_neg (by simp), if_neg (by simp), if_pos (by omega), if_pos (by omega)]
        simp only [Int.toNat_natCast, Bool.true_and]
        rw [if_pos (by omega)]
        obtain ⟨c', q1, q2⟩ := ih (i + 1) (c.set i (IntKind.wrap .u8 (IntKind.wrap .i64 ((IntKind.wrap .i64 (a * (16 : Int))) + b)))) (by omega) (by rw [List.length_set]; omega)
        rw [List.length_set] at q1 q2
        exact ⟨c', q1, q2⟩
theorem octet_Bytes_is {s : Str} (hs : s.length ≤ 1000000) : ∃ r : Str × Int, octet_Bytes s = some r ∧ (r.2 == 0) = (decide (s.length % 2 = 0) && s.all isHex) ∧ (r.2 = 0 → r.1.length = s.length / 2) := by
  unfold octet_Bytes
  have ht : Int.tmod (s.length : Int) 2 = ((s.length % 2 : Nat) : Int) := by rw [Int.tmod_eq_emod_of_nonneg (by omega)]; omega
  have hd : Int.tdiv (s.length : Int) 2 = ((s.length / 2 : Nat) : Int) := by rw [Int.tdiv_eq_ediv_of_nonneg (by omega)]; omega
  have hw : IntKind.wrap .i64 ((s.length / 2 : Nat) : Int) = ((s.length / 2 : Nat) : Int) := wr64 (by omega)
  rw [ht, hd, hw]
  by_cases c : s.length % 2 = 0
  · rw [if_neg (by simp; omega), if_pos rfl, if_pos (by omega)]
    simp only [Int.toNat_natCast]
    have hsum : sumOk (s.length / 2) 1 := ⟨by omega, by omega⟩
    rw [if_pos hsum]
    obtain ⟨c', q1, q2⟩ := octet_l7_at hs (s.length / 2) 0 (List.replicate (s.length / 2) (0 : Int)) (by omega) (by simp)
    have q1 : octet_Bytes_l7 (((0 : Int), (s, ((List.replicate (s.length / 2) (0 : Int)).length : Int))), List.replicate (s.length / 2) (0 : Int)) = _ := q1
    rw [q1, sb, Nat.mul_zero, List.drop_zero]
    cases hx : s.all isHex with
    | true =>
      refine ⟨_, rfl, ?_, fun _ => ?_⟩
      · simp [c]
      · show (bytesStr c').length = _
        rw [bytesStr_len, q2, List.length_replicate]
    | false => exact ⟨_, rfl, by simp, fun h => by simp at h⟩
  · rw [if_pos (by simp; omega)]
    exact ⟨_, rfl, by simp [c], fun h => by simp at h⟩
end Go.Plain

/-
  Plain facts of the printed functions of layer 5: which manifests may be.
-/
namespace Go.Plain
open Go.AM

theorem set_mid {α : Type} (a : List α) (x y : α) (b : List α) : (a ++ x :: b).set a.length y = (a ++ [y]) ++ b := by
  rw [List.set_append_right _ _ (Nat.le_refl _), Nat.sub_self]
  simp
/-! few -/
/-! which may be -/
end Go.Plain

/-
  06, plain, part A: what a sum of bytes is: words, rounds, blocks; and that the program's own sum is it.
-/
namespace Go.Plain
open Go.AM
set_option linter.unusedVariables false

/-! ### words -/
abbrev V8 : Type := Nat × Nat × Nat × Nat × Nat × Nat × Nat × Nat
/-! ### bounds -/
/-! ### the machine's numbers -/
/-! ### rows of words -/
def zs (l : List Nat) : List Int := l.map fun n : Nat => (n : Int)
end Go.Plain

/-
  06, plain, part B: the program's own sum of bytes is the sum of part A.
-/
namespace Go.Plain
open Go.AM
set_option linter.unusedVariables false

/-! ### rounds -/
def tup (v : V8) : Int × (Int × (Int × (Int × (Int × (Int × (Int × Int)))))) := ((v.1 : Int), ((v.2.1 : Int), ((v.2.2.1 : Int), ((v.2.2.2.1 : Int), ((v.2.2.2.2.1 : Int), ((v.2.2.2.2.2.1 : Int), ((v.2.2.2.2.2.2.1 : Int), (v.2.2.2.2.2.2.2 : Int))))))))
section
variable (a b c d e f g h : Int) (r : List Int)
end
/-! ### the whole -/
end Go.Plain

/-
  06, plain, part C: hex digits as bytes; what a digest tells; what fits it.
-/
namespace Go.Plain
open Go.AM
set_option linter.unusedVariables false

def hv (b : UInt8) : Nat := if b.toNat ≤ 57 then b.toNat - 48 else b.toNat - 87
def unh : Str → Str
  | a :: b :: r => UInt8.ofNat (16 * hv a + hv b) :: unh r
  | _ => []
theorem hv_lt {b : UInt8} (h : isHex b = true) : hv b < 16 := by
  simp only [isHex, Bool.or_eq_true, Bool.and_eq_true, decide_eq_true_eq] at h
  unfold hv
  split <;> omega
theorem half_val {b : UInt8} (h : isHex b = true) : ref01_half (b.toNat : Int) = some (hv b : Int) := by
  simp only [isHex, Bool.or_eq_true, Bool.and_eq_true, decide_eq_true_eq] at h
  unfold ref01_half hv
  by_cases c : b.toNat ≤ 57
  · have e1 : IntKind.wrap .u8 ((b.toNat : Int) - 48) = (b.toNat : Int) - 48 := wr8 (by omega)
    have e2 : IntKind.wrap .i64 ((b.toNat : Int) - 48) = (b.toNat : Int) - 48 := wr64 (by omega)
    rw [if_pos (by rw [decide_eq_true_eq]; omega), if_pos (by rw [decide_eq_true_eq]; omega), e1, e2, if_pos c]
    congr 1
    omega
  · have e1 : IntKind.wrap .u8 ((b.toNat : Int) - 97) = (b.toNat : Int) - 97 := wr8 (by omega)
    have e2 : IntKind.wrap .i64 ((b.toNat : Int) - 97) = (b.toNat : Int) - 97 := wr64 (by omega)
    have e3 : IntKind.wrap .i64 ((b.toNat : Int) - 97 + 10) = (b.toNat : Int) - 97 + 10 := wr64 (by omega)
    rw [if_pos (by rw [decide_eq_true_eq]; omega), if_neg (by rw [decide_eq_true_eq]; omega), if_pos (by rw [decide_eq_true_eq]; omega), if_pos (by rw [decide_eq_true_eq]; omega), e1, e2, e3, if_neg c]
    congr 1
    omega
theorem index_val {b : UInt8} (h : isHex b = true) : lib_IndexByte (digs, (b.toNat : Int)) = some (hv b : Int) := by
  have hb : b = UInt8.ofNat b.toNat := by simp
  simp only [isHex, Bool.or_eq_true, Bool.and_eq_true, decide_eq_true_eq] at h
  have : b.toNat = 48 ∨ b.toNat = 49 ∨ b.toNat = 50 ∨ b.toNat = 51 ∨ b.toNat = 52 ∨ b.toNat = 53 ∨ b.toNat = 54 ∨ b.toNat = 55 ∨ b.toNat = 56 ∨ b.toNat = 57 ∨ b.toNat = 97 ∨ b.toNat = 98 ∨ b.toNat = 99 ∨ b.toNat = 100 ∨ b.toNat = 101 ∨ b.toNat = 102 := by omega
  rcases this with e | e | e | e | e | e | e | e | e | e | e | e | e | e | e | e <;> rw [hb, e] <;> rfl
theorem bytesStr_back (s : Str) : bytesStr (strBytes s) = s := by
  unfold bytesStr strBytes
  rw [List.map_map]
  conv => rhs; rw [← List.map_id s]
  refine List.map_congr_left fun b _ => ?_
  show UInt8.ofNat (Int.toNat (b.toNat : Int)) = b
  rw [Int.toNat_natCast]
  simp
theorem pair_val {a b : Nat} (ha : a < 16) (hb : b < 16) : IntKind.wrap .u8 (IntKind.wrap .i64 ((IntKind.wrap .i64 ((a : Int) * (16 : Int))) + (b : Int))) = ((UInt8.ofNat (16 * a + b)).toNat : Int) := by
  have e1 : IntKind.wrap .i64 ((a : Int) * 16) = (a : Int) * 16 := wr64 (by omega)
  have e2 : IntKind.wrap .i64 ((a : Int) * 16 + (b : Int)) = (a : Int) * 16 + (b : Int) := wr64 (by omega)
  have e3 : IntKind.wrap .u8 ((a : Int) * 16 + (b : Int)) = (a : Int) * 16 + (b : Int) := wr8 (by omega)
  rw [e1, e2, e3, UInt8.toNat_ofNat']
  omega
theorem pair_val2 {a b : Nat} (ha : a < 16) (hb : b < 16) : IntKind.wrap .u8 (IntKind.wrap .i64 ((IntKind.wrap .i64 ((16 : Int) * (a : Int))) + (b : Int))) = ((UInt8.ofNat (16 * a + b)).toNat : Int) := by
  rw [Int.mul_comm]
  exact pair_val ha hb
theorem octet_l7_val {s : Str} (hs : s.length ≤ 1000000) : ∀ (n i : Nat) (p : List Int), 2 * (i + n) = s.length → p.length = i → (s.drop (2 * i)).all isHex = true →
    octet_Bytes_l7 (((i : Int), (s, ((i + n : Nat) : Int))), p ++ List.replicate n 0) = some (.inr (p ++ strBytes (unh (s.drop (2 * i))))) := by
  intro n
  induction n with
  | zero =>
    intro i p hi hp hx
    rw [List.drop_of_length_le (by omega), octet_Bytes_l7_eq]
    unfold octet_Bytes_l7F
    dsimp only
    rw [if_neg (by rw [decide_eq_true_eq]; omega)]
    rfl
  | succ n ih =>
    intro i p hi hp hx
    have h1 : 2 * i < s.length := by omega
    have h2 : 2 * i + 1 < s.length := by omega
    have hw : IntKind.wrap .i64 ((i : Int) + 1) = ((i + 1 : Nat) : Int) := by rw [wr64 (by omega)]; omega
    have hw2 : IntKind.wrap .i64 ((2 : Int) * (i : Int)) = ((2 * i : Nat) : Int) := by rw [wr64 (by omega)]; omega
    have hw3 : IntKind.wrap .i64 (((2 * i : Nat) : Int) + 1) = ((2 * i + 1 : Nat) : Int) := by rw [wr64 (by omega)]; omega
    rw [drop_at h1, drop_at h2, List.all_cons, List.all_cons, Bool.and_eq_true, Bool.and_eq_true] at hx
    obtain ⟨x1, x2, x3⟩ := hx
    have ha : lib_IndexByte (([48, 49, 50, 51, 52, 53, 54, 55, 56, 57, 97, 98, 99, 100, 101, 102] : Str), (s[2 * i].toNat : Int)) = _ := index_val x1
    have hb : lib_IndexByte (([48, 49, 50, 51, 52, 53, 54, 55, 56, 57, 97, 98, 99, 100, 101, 102] : Str), (s[2 * i + 1].toNat : Int)) = _ := index_val x2
    have hcl : (p ++ List.replicate (n + 1) (0 : Int)).length = i + (n + 1) := by rw [List.length_append, List.length_replicate]; omega
    rw [drop_at h1, drop_at h2, octet_Bytes_l7_eq]
    unfold octet_Bytes_l7F
    dsimp only
    rw [hw, hw2, hw3, bt_at h1, bt_at h2, if_pos (by rw [decide_eq_true_eq]; omega), if_pos (by omega), if_pos (by omega), ha, sb, if_pos (by omega), if_pos (by omega), hb, sb,
      if_neg (by rw [decide_eq_true_eq]; omega), if_neg (by rw [decide_eq_true_eq]; omega), if_pos (by omega), if_pos (by omega)]
    simp only [Int.toNat_natCast]
    rw [if_pos (by omega), pair_val (hv_lt x1) (hv_lt x2)]
    have e : (p ++ List.replicate (n + 1) (0 : Int)).set i ((UInt8.ofNat (16 * hv s[2 * i] + hv s[2 * i + 1])).toNat : Int) = (p ++ [((UInt8.ofNat (16 * hv s[2 * i] + hv s[2 * i + 1])).toNat : Int)]) ++ List.replicate n 0 := by
      have := set_mid p (0 : Int) ((UInt8.ofNat (16 * hv s[2 * i] + hv s[2 * i + 1])).toNat : Int) (List.replicate n 0)
      rw [hp] at this
      rw [List.replicate_succ, this]
    rw [e]
    have h := ih (i + 1) (p ++ [((UInt8.ofNat (16 * hv s[2 * i] + hv s[2 * i + 1])).toNat : Int)]) (by omega) (by simp [hp]) (by rw [show 2 * (i + 1) = 2 * i + 1 + 1 by omega]; exact x3)
    rw [show i + (n + 1) = i + 1 + n by omega, h, show 2 * (i + 1) = 2 * i + 1 + 1 by omega, List.append_assoc]
    rfl
theorem octet_Bytes_val {s : Str} (hs : s.length ≤ 1000000) (he : s.length % 2 = 0) (hx : s.all isHex = true) : octet_Bytes s = some (unh s, 0) := by
  unfold octet_Bytes
  have ht : Int.tmod (s.length : Int) 2 = ((s.length % 2 : Nat) : Int) := by rw [Int.tmod_eq_emod_of_nonneg (by omega)]; omega
  have hd : Int.tdiv (s.length : Int) 2 = ((s.length / 2 : Nat) : Int) := by rw [Int.tdiv_eq_ediv_of_nonneg (by omega)]; omega
  have hw : IntKind.wrap .i64 ((s.length / 2 : Nat) : Int) = ((s.length / 2 : Nat) : Int) := wr64 (by omega)
  have hsum : sumOk (s.length / 2) 1 := ⟨by omega, by omega⟩
  rw [ht, hd, hw, if_neg (by simp; omega), if_pos rfl, if_pos (by omega)]
  simp only [Int.toNat_natCast]
  rw [if_pos hsum]
  have h := octet_l7_val hs (s.length / 2) 0 [] (by omega) rfl (by rw [Nat.mul_zero, List.drop_zero]; exact hx)
  rw [Nat.mul_zero, List.drop_zero, Nat.zero_add] at h
  have h : octet_Bytes_l7 (((0 : Int), (s, ((s.length / 2 : Nat) : Int))), List.replicate (s.length / 2) 0) = _ := h
  rw [List.length_replicate, h, sb]
  show some (bytesStr ([] ++ strBytes (unh s)), (0 : Int)) = _
  rw [List.nil_append, bytesStr_back]
theorem ref01_l4_val {s : Str} (hs : s.length ≤ 1000000) : ∀ (n i : Nat) (c : List Int), i + 2 * n = s.length → c.length ≤ i → (s.drop i).all isHex = true →
    ref01_Bytes_l4 (((i : Int), s), c) = some (.inr (s, c ++ strBytes (unh (s.drop i)))) := by
  intro n
  induction n with
  | zero =>
    intro i c hi hc hx
    have hw : IntKind.wrap .i64 ((i : Int) + 1) = (i : Int) + 1 := wr64 (by omega)
    rw [List.drop_of_length_le (by omega), ref01_Bytes_l4_eq]
    unfold ref01_Bytes_l4F
    dsimp only
    rw [hw, if_neg (by rw [decide_eq_true_eq]; omega)]
    show some _ = some (Sum.inr (s, c ++ []))
    rw [List.append_nil]
  | succ n ih =>
    intro i c hi hc hx
    have h1 : i < s.length := by omega
    have h2 : i + 1 < s.length := by omega
    have hw : IntKind.wrap .i64 ((i : Int) + 1) = ((i + 1 : Nat) : Int) := by rw [wr64 (by omega)]; omega
    have hw2 : IntKind.wrap .i64 ((i : Int) + 2) = ((i + 2 : Nat) : Int) := by rw [wr64 (by omega)]; omega
    rw [drop_at h1, drop_at h2, List.all_cons, List.all_cons, Bool.and_eq_true, Bool.and_eq_true] at hx
    obtain ⟨x1, x2, x3⟩ := hx
    have l1 := hv_lt x1
    have l2 := hv_lt x2
    rw [drop_at h1, drop_at h2, ref01_Bytes_l4_eq]
    unfold ref01_Bytes_l4F
    dsimp only
    rw [hw, hw2, bt_at h1, bt_at h2, if_pos (by rw [decide_eq_true_eq]; omega), if_pos (by omega), if_pos (by omega), half_val x1, sb, if_neg (by rw [decide_eq_true_eq]; omega), if_pos (by omega), if_pos (by omega), half_val x2, sb,
      if_neg (by rw [decide_eq_true_eq]; omega), if_pos (by omega), if_pos (by omega), sb, if_pos (by omega), if_pos (by omega), sb, if_pos (by constructor <;> simp <;> omega), pair_val2 l1 l2,
      ih (i + 2) _ (by omega) (by simp; omega) x3, List.append_assoc]
    rfl
theorem ref01_Bytes_val {s : Str} (hs : s.length ≤ 1000000) (he : s.length % 2 = 0) (hx : s.all isHex = true) : ref01_Bytes s = some (unh s, true) := by
  unfold ref01_Bytes
  have h := ref01_l4_val hs (s.length / 2) 0 [] (by omega) (by simp) (by rw [List.drop_zero]; exact hx)
  have h : ref01_Bytes_l4 (((0 : Int), s), []) = _ := h
  have ht : Int.tmod (s.length : Int) 2 = ((s.length % 2 : Nat) : Int) := by rw [Int.tmod_eq_emod_of_nonneg (by omega)]; omega
  rw [h, sb, List.drop_zero]
  show some (bytesStr ([] ++ strBytes (unh s)), (Int.tmod (s.length : Int) 2 == 0)) = _
  rw [List.nil_append, bytesStr_back, ht, he]
  rfl
theorem hv_hexD : ∀ n, n < 16 → hv (hexD n) = n := by
  intro n h
  rcases n with _ | _ | _ | _ | _ | _ | _ | _ | _ | _ | _ | _ | _ | _ | _ | _ | n
  all_goals first | rfl | omega
theorem unh_hexS : ∀ r : Str, unh (hexS r) = r
  | [] => rfl
  | b :: r => by
    have hb := b.toNat_lt
    show UInt8.ofNat (16 * hv (hexD (b.toNat / 16)) + hv (hexD (b.toNat % 16))) :: unh (hexS r) = b :: r
    rw [unh_hexS r, hv_hexD _ (by omega), hv_hexD _ (by omega), Nat.div_add_mod]
    simp
end Go.Plain
