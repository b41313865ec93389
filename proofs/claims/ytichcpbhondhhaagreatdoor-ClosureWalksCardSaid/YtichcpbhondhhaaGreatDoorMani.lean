/-
 Plain facts of the printed functions of layers 1, 2: a digest is told, and is one.
-/
import Derived.Test.YtichcpbhondhhaaGreatDoorM5P
import Derived.Test.YtichcpbhondhhaaGreatDoorFacts
import Derived.Test.YtichcpbhondhhaaGreatDoorN5P
namespace Go.Plain
open Go.AM
theorem keys_len : keysTab.length = 64 := by decide
theorem bytesStr_len (l : List Int) : (bytesStr l).length = l.length := by simp [bytesStr]
/-! What a digest is. -/
def isHex (b : UInt8) : Bool := (decide (48 ≤ b.toNat) && decide (b.toNat ≤ 57)) || (decide (97 ≤ b.toNat) && decide (b.toNat ≤ 102))
def dpre : Str := [115, 104, 97, 50, 53, 54, 58]
def isD (s : Str) : Bool := decide (s.length = 71) && decide (s.take 7 = dpre) && (s.drop 7).all isHex
theorem hexD_isHex : ∀ n, n < 16 → isHex (hexD n) = true := by
 intro n h
 rcases n with _ | _ | _ | _ | _ | _ | _ | _ | _ | _ | _ | _ | _ | _ | _ | _ | n
 all_goals first | rfl | omega
theorem hexS_isHex (s : Str) : (hexS s).all isHex = true := by
 rw [List.all_eq_true]
 intro b hb
 unfold hexS at hb
 obtain ⟨x, _, hx⟩ := List.mem_flatMap.1 hb
 have hx2 := x.toNat_lt
 simp at hx
 rcases hx with rfl | rfl
 ·exact hexD_isHex _ (by omega)
 ·exact hexD_isHex _ (by omega)
end Go.Plain
/-
 Plain facts of the printed functions of layers 1, 2: which texts are digests.
-/
namespace Go.Plain
open Go.AM
theorem half_is (b : UInt8) : ∃ h, zz73 (b.toNat : Int) = some h ∧ decide (h > 15) = !isHex b := by
 have hb := b.toNat_lt
 unfold zz73
 by_cases c1 : 48 ≤ b.toNat
 ·by_cases c2 : b.toNat ≤ 57
  ·have e1 : IntKind.wrap .u8 ((b.toNat : Int) - 48) = (b.toNat : Int) - 48 := wr8 (by omega)
   have e2 : IntKind.wrap .i64 ((b.toNat : Int) - 48) = (b.toNat : Int) - 48 := wr64 (by omega)
   rw [if_pos (by rw [decide_eq_true_eq]; omega), if_pos (by rw [decide_eq_true_eq]; omega), e1, e2]
   refine ⟨_, rfl, ?_⟩
   have : isHex b = true := by simp [isHex, c1, c2]
   rw [this, decide_eq_false (by omega)]
   rfl
  ·rw [if_pos (by rw [decide_eq_true_eq]; omega), if_neg (by rw [decide_eq_true_eq]; omega)]
   by_cases c3 : 97 ≤ b.toNat
   ·by_cases c4 : b.toNat ≤ 102
    ·have e1 : IntKind.wrap .u8 ((b.toNat : Int) - 97) = (b.toNat : Int) - 97 := wr8 (by omega)
     have e2 : IntKind.wrap .i64 ((b.toNat : Int) - 97) = (b.toNat : Int) - 97 := wr64 (by omega)
     have e3 : IntKind.wrap .i64 ((b.toNat : Int) - 97 + 10) = (b.toNat : Int) - 97 + 10 := wr64 (by omega)
     rw [if_pos (by rw [decide_eq_true_eq]; omega), if_pos (by rw [decide_eq_true_eq]; omega), e1, e2, e3]
     refine ⟨_, rfl, ?_⟩
     have : isHex b = true := by simp [isHex, c3, c4]
     rw [this, decide_eq_false (by omega)]
     rfl
    ·rw [if_pos (by rw [decide_eq_true_eq]; omega), if_neg (by rw [decide_eq_true_eq]; omega)]
     refine ⟨_, rfl, ?_⟩
     have : isHex b = false := by simp [isHex, c2, c4]
     rw [this]
     rfl
   ·rw [if_neg (by rw [decide_eq_true_eq]; omega)]
    refine ⟨_, rfl, ?_⟩
    have : isHex b = false := by simp [isHex, c2, c3]
    rw [this]
    rfl
 ·have c3 : ¬ 97 ≤ b.toNat := by omega
  rw [if_neg (by rw [decide_eq_true_eq]; omega), if_neg (by rw [decide_eq_true_eq]; omega)]
  refine ⟨_, rfl, ?_⟩
  have : isHex b = false := by simp [isHex, c1, c3]
  rw [this]
  rfl
theorem ref01_l4_at {s : Str} (hs : s.length ≤ 1000000) : ∀ (n i : Nat) (c : List Int), i + 2 * n = s.length → c.length ≤ i →
  ∃ c', zz55_l4 (((i : Int), s), c) = some (if (s.drop i).all isHex then .inr (s, c') else .inl ([], false)) := by
 intro n
 induction n with
 | zero =>
  intro i c hi hc
  have hw : IntKind.wrap .i64 ((i : Int) + 1) = (i : Int) + 1 := wr64 (by omega)
  rw [List.drop_of_length_le (by omega), zz55_l4_eq]
  unfold zz55_l4F
  dsimp only
  rw [hw, if_neg (by rw [decide_eq_true_eq]; omega)]
  exact ⟨c, rfl⟩
 | succ n ih =>
  intro i c hi hc
  have h1 : i < s.length := by omega
  have h2 : i + 1 < s.length := by omega
  have hw : IntKind.wrap .i64 ((i : Int) + 1) = ((i + 1 : Nat) : Int) := by rw [wr64 (by omega)]; omega
  have hw2 : IntKind.wrap .i64 ((i : Int) + 2) = ((i + 2 : Nat) : Int) := by rw [wr64 (by omega)]; omega
  obtain ⟨a, ha, ga⟩ := half_is s[i]
  obtain ⟨b, hb, gb⟩ := half_is s[i + 1]
  rw [drop_at h1, drop_at h2, List.all_cons, List.all_cons, zz55_l4_eq]
  unfold zz55_l4F
  dsimp only
  rw [hw, hw2, bt_at h1, bt_at h2, if_pos (by rw [decide_eq_true_eq]; omega), if_pos (by omega), if_pos (by omega), ha, sb, ga]
  cases hx : isHex s[i] with
  | false => exact ⟨[], by simp⟩
  | true =>
   rw [if_neg (by simp), if_pos (by omega), if_pos (by omega), hb, sb, gb]
   cases hy : isHex s[i + 1] with
   | false => exact ⟨[], by simp⟩
   | true =>
    have hsum : ∀ v : Int, sumOk (c.length + [v].length) 1 := fun v => by constructor <;> simp <;> omega
    rw [if_neg (by simp), if_pos (by omega), if_pos (by omega), sb, if_pos (by omega), if_pos (by omega), sb, if_pos (hsum _)]
    simp only [Bool.true_and]
    exact ih (i + 2) _ (by omega) (by rw [List.length_append, List.length_singleton]; omega)
theorem ref02_is {s : Str} : ∃ p, zz58 s = some p ∧ p.2 = isD s := by
 unfold zz58 isD
 by_cases h : s.length = 71
 ·rw [if_neg (by simp [h]), if_pos (by omega)]
  by_cases g : s.take 7 = dpre
  ·have hd : (s.drop 7).length = 64 := by rw [List.length_drop]; omega
   obtain ⟨c, hc⟩ := ref01_l4_at (s := s.drop 7) (by omega) 32 0 [] (by omega) (by simp)
   have hc : zz55_l4 (((0 : Int), s.drop 7), []) = _ := hc
   rw [if_neg (by rw [g]; decide), if_pos (by omega), if_pos (by omega)]
   simp only [Int.toNat_natCast, List.take_length]
   unfold zz55
   rw [hc, sb, List.drop_zero]
   cases hx : (s.drop 7).all isHex with
   | true =>
    refine ⟨_, rfl, ?_⟩
    show (Int.tmod ((s.drop 7).length : Int) 2 == 0) = _
    rw [hd, g, h]
    rfl
   | false => exact ⟨_, rfl, by simp⟩
  ·have : (s.take 7 != ([115, 104, 97, 50, 53, 54, 58] : Str)) = true := bne_iff_ne.2 g
   rw [if_pos this]
   exact ⟨_, rfl, by simp [g]⟩
 ·rw [if_pos (by simp; omega)]
  exact ⟨_, rfl, by simp [h]⟩
theorem ref05_is_is {s : Str} : ref05_is s = some (isD s) := by
 unfold ref05_is
 obtain ⟨p, h1, h2⟩ := ref02_is (s := s)
 rw [h1, sb, h2]
/-! The program's. -/
def digs : Str := [48, 49, 50, 51, 52, 53, 54, 55, 56, 57, 97, 98, 99, 100, 101, 102]
theorem indexByte_is (b : UInt8) : ∃ k, lib_IndexByte (digs, (b.toNat : Int)) = some k ∧ decide (k < 0) = !isHex b := by
 unfold lib_IndexByte
 have e : ((b.toNat : Int)).toNat.toUInt8 = b := by simp
 dsimp only
 rw [e]
 refine ⟨_, rfl, ?_⟩
 have hm : ∀ b : UInt8, (b ∈ digs) ↔ isHex b = true := by
  intro b
  have hb : b = UInt8.ofNat b.toNat := by simp
  constructor
  ·intro h
   simp only [digs, List.mem_cons, List.not_mem_nil, or_false] at h
   rcases h with rfl | rfl | rfl | rfl | rfl | rfl | rfl | rfl | rfl | rfl | rfl | rfl | rfl | rfl | rfl | rfl <;> rfl
  ·intro h
   simp only [isHex, Bool.or_eq_true, Bool.and_eq_true, decide_eq_true_eq] at h
   have : b.toNat = 48 ∨ b.toNat = 49 ∨ b.toNat = 50 ∨ b.toNat = 51 ∨ b.toNat = 52 ∨ b.toNat = 53 ∨ b.toNat = 54 ∨ b.toNat = 55 ∨ b.toNat = 56 ∨ b.toNat = 57 ∨ b.toNat = 97 ∨ b.toNat = 98 ∨ b.toNat = 99 ∨ b.toNat = 100 ∨ b.toNat = 101 ∨ b.toNat = 102 := by omega
   rcases this with e | e | e | e | e | e | e | e | e | e | e | e | e | e | e | e <;> rw [hb, e] <;> decide
 have hi : ∀ (l : Str), (Lib.indexByte l b < 0) ↔ b ∉ l := by
  intro l
  induction l with
  | nil => simp [Lib.indexByte]
  | cons x l ih =>
   have hge := Lib.indexByte_ge l b
   unfold Lib.indexByte
   by_cases hx : x = b
   ·simp [hx]
   ·have hx' : ¬ b = x := fun h => hx h.symm
    simp only [hx, beq_iff_eq, if_false, List.mem_cons, hx', false_or]
    rw [← ih]
    split <;> omega
 cases hx : isHex b with
 | true =>
  have : ¬ Lib.indexByte digs b < 0 := fun h => ((hi digs).1 h) ((hm b).2 hx)
  rw [decide_eq_false this]
  rfl
 | false =>
  have : Lib.indexByte digs b < 0 := (hi digs).2 fun h => by rw [(hm b).1 h] at hx; cases hx
  rw [decide_eq_true this]
  rfl
theorem octet_l7_at {s : Str} (hs : s.length ≤ 1000000) : ∀ (n i : Nat) (c : List Int), 2 * (i + n) = s.length → c.length = i + n →
  ∃ c', zz54_l7 (((i : Int), (s, (c.length : Int))), c) = some (if (s.drop (2 * i)).all isHex then .inr c' else .inl ([], 4)) ∧ c'.length = c.length := by
 intro n
 induction n with
 | zero =>
  intro i c hi hc
  rw [List.drop_of_length_le (by omega), zz54_l7_eq]
  unfold zz54_l7F
  dsimp only
  rw [if_neg (by rw [decide_eq_true_eq]; omega)]
  exact ⟨c, rfl, rfl⟩
 | succ n ih =>
  intro i c hi hc
  have h1 : 2 * i < s.length := by omega
  have h2 : 2 * i + 1 < s.length := by omega
  have hw : IntKind.wrap .i64 ((i : Int) + 1) = ((i + 1 : Nat) : Int) := by rw [wr64 (by omega)]; omega
  have hw2 : IntKind.wrap .i64 ((2 : Int) * (i : Int)) = ((2 * i : Nat) : Int) := by rw [wr64 (by omega)]; omega
  have hw3 : IntKind.wrap .i64 (((2 * i : Nat) : Int) + 1) = ((2 * i + 1 : Nat) : Int) := by rw [wr64 (by omega)]; omega
  obtain ⟨a, ha, ga⟩ := indexByte_is s[2 * i]
  obtain ⟨b, hb, gb⟩ := indexByte_is s[2 * i + 1]
  have ha : lib_IndexByte (([48, 49, 50, 51, 52, 53, 54, 55, 56, 57, 97, 98, 99, 100, 101, 102] : Str), (s[2 * i].toNat : Int)) = some a := ha
  have hb : lib_IndexByte (([48, 49, 50, 51, 52, 53, 54, 55, 56, 57, 97, 98, 99, 100, 101, 102] : Str), (s[2 * i + 1].toNat : Int)) = some b := hb
  rw [drop_at h1, drop_at h2, List.all_cons, List.all_cons, zz54_l7_eq]
  unfold zz54_l7F
  dsimp only
  rw [hw, hw2, hw3, bt_at h1, bt_at h2, if_pos (by rw [decide_eq_true_eq]; omega), if_pos (by omega), if_pos (by omega), ha, sb, if_pos (by omega), if_pos (by omega), hb, sb, ga, gb]
  cases hx : isHex s[2 * i] with
  | false => exact ⟨c, by simp, rfl⟩
  | true =>
   cases hy : isHex s[2 * i + 1] with
   | false => exact ⟨c, by simp, rfl⟩
   | true =>
    rw [if_neg (by simp), if_neg (by simp), if_pos (by omega), if_pos (by omega)]
    simp only [Int.toNat_natCast, Bool.true_and]
    rw [if_pos (by omega)]
    obtain ⟨c', q1, q2⟩ := ih (i + 1) (c.set i (IntKind.wrap .u8 (IntKind.wrap .i64 ((IntKind.wrap .i64 (a * (16 : Int))) + b)))) (by omega) (by rw [List.length_set]; omega)
    rw [List.length_set] at q1 q2
    exact ⟨c', q1, q2⟩
theorem zz54_is {s : Str} (hs : s.length ≤ 1000000) : ∃ r : Str × Int, zz54 s = some r ∧ (r.2 == 0) = (decide (s.length % 2 = 0) && s.all isHex) ∧ (r.2 = 0 → r.1.length = s.length / 2) := by
 unfold zz54
 have ht : Int.tmod (s.length : Int) 2 = ((s.length % 2 : Nat) : Int) := by rw [Int.tmod_eq_emod_of_nonneg (by omega)]; omega
 have hd : Int.tdiv (s.length : Int) 2 = ((s.length / 2 : Nat) : Int) := by rw [Int.tdiv_eq_ediv_of_nonneg (by omega)]; omega
 have hw : IntKind.wrap .i64 ((s.length / 2 : Nat) : Int) = ((s.length / 2 : Nat) : Int) := wr64 (by omega)
 rw [ht, hd, hw]
 by_cases c : s.length % 2 = 0
 ·rw [if_neg (by simp; omega), if_pos rfl, if_pos (by omega)]
  simp only [Int.toNat_natCast]
  have hsum : sumOk (s.length / 2) 1 := ⟨by omega, by omega⟩
  rw [if_pos hsum]
  obtain ⟨c', q1, q2⟩ := octet_l7_at hs (s.length / 2) 0 (List.replicate (s.length / 2) (0 : Int)) (by omega) (by simp)
  have q1 : zz54_l7 (((0 : Int), (s, ((List.replicate (s.length / 2) (0 : Int)).length : Int))), List.replicate (s.length / 2) (0 : Int)) = _ := q1
  rw [q1, sb, Nat.mul_zero, List.drop_zero]
  cases hx : s.all isHex with
  | true =>
   refine ⟨_, rfl, ?_, fun _ => ?_⟩
   ·simp [c]
   ·show (bytesStr c').length = _
    rw [bytesStr_len, q2, List.length_replicate]
  | false => exact ⟨_, rfl, by simp, fun h => by simp at h⟩
 ·rw [if_pos (by simp; omega)]
  exact ⟨_, rfl, by simp [c], fun h => by simp at h⟩
theorem zz53_is {s : Str} (hs : s.length ≤ 1000000) : zz53 s = some (isD s) := by
 unfold zz53 zz45
 have hcut : strings_CutPrefix (s, ([115, 104, 97, 50, 53, 54, 58] : Str)) = some (if s.take 7 = dpre then (s.drop 7, true) else (s, false)) := by
  unfold strings_CutPrefix i_stringslite_CutPrefix i_stringslite_HasPrefix
  dsimp only
  have hl7 : (([115, 104, 97, 50, 53, 54, 58] : Str).length : Int) = 7 := rfl
  rw [hl7]
  by_cases g : 7 ≤ s.length
  ·rw [if_pos (by rw [decide_eq_true_eq]; omega), if_pos (by omega), sb]
   by_cases q : s.take 7 = dpre
   ·have : ((List.take (7 : Int).toNat s) == ([115, 104, 97, 50, 53, 54, 58] : Str)) = true := beq_iff_eq.2 q
    rw [if_neg (by rw [this]; decide), if_pos (by omega), if_pos (by omega), sb, if_pos q]
    simp
   ·have : ((List.take (7 : Int).toNat s) == ([115, 104, 97, 50, 53, 54, 58] : Str)) = false := by
     rw [beq_eq_false_iff_ne]
     exact q
    rw [if_pos (by rw [this]; decide), sb, if_neg q]
  ·have q : ¬ s.take 7 = dpre := by
    intro h
    have := congrArg List.length h
    rw [List.length_take] at this
    have e : dpre.length = 7 := rfl
    omega
   rw [if_neg (by rw [decide_eq_true_eq]; omega), sb, if_pos (by decide), sb, if_neg q]
 rw [hcut, sb]
 by_cases q : s.take 7 = dpre
 ·have hl : 7 ≤ s.length := by
   have := congrArg List.length q
   rw [List.length_take] at this
   have e : dpre.length = 7 := rfl
   omega
  rw [if_pos q]
  obtain ⟨r, h1, h2, h3⟩ := zz54_is (s := s.drop 7) (by rw [List.length_drop]; omega)
  have hld : (s.drop 7).length = s.length - 7 := List.length_drop
  rw [h1, sb, if_neg (show ¬ ((!true) = true) by decide)]
  by_cases c : r.2 = 0
  ·have h3 := h3 c
   rw [hld] at h3
   rw [c] at h2
   have h2 : (decide ((s.drop 7).length % 2 = 0) && (s.drop 7).all isHex) = true := by rw [← h2]; rfl
   simp only [Bool.and_eq_true, decide_eq_true_eq] at h2
   rw [hld] at h2
   rw [if_neg (by simp [c])]
   by_cases e : s.length = 71
   ·rw [if_neg (by rw [h3, e]; decide), sb]
    simp [isD, e, q, h2.2]
   ·rw [if_pos (by simp; omega), sb]
    simp [isD, e]
  ·have h2' : (decide ((s.drop 7).length % 2 = 0) && (s.drop 7).all isHex) = false := by rw [← h2]; simpa using c
   rw [if_pos (by simpa using c), sb]
   have : isD s = false := by
    unfold isD
    by_cases e : s.length = 71
    ·have e2 : (s.drop 7).length % 2 = 0 := by rw [hld]; omega
     rw [decide_eq_true e2, Bool.true_and] at h2'
     rw [h2']
     simp
    ·simp [e]
   rw [this]
   rfl
 ·rw [if_neg q]
  obtain ⟨r, h1, _, _⟩ := zz54_is (s := s) hs
  rw [h1, sb, if_pos (show ((!false) = true) by decide), sb]
  simp [isD, q]
end Go.Plain
/-
 Plain facts of the printed functions of layer 5: which manifests may be.
-/
namespace Go.Plain
open Go.AM
abbrev Man : Type := Bool × (Str × (List (Str × Int) × List Str))
def MB (m : Man) : Prop := m.2.1.length ≤ 5000 ∧ m.2.2.1.length ≤ 5000 ∧ (∀ l ∈ m.2.2.1, l.1.length ≤ 5000 ∧ -9223372036854775808 ≤ l.2 ∧ l.2 ≤ 9223372036854775807) ∧ m.2.2.2.length ≤ 5000 ∧ ∀ k ∈ m.2.2.2, k.length ≤ 5000
theorem elt_mid (t : Ty) (a : List t.den) (x : t.den) (b : List t.den) : elt t (a ++ x :: b) a.length = x := by
 unfold elt
 simp [List.getD_eq_getElem?_getD]
theorem set_mid {α : Type} (a : List α) (x y : α) (b : List α) : (a ++ x :: b).set a.length y = (a ++ [y]) ++ b := by
 rw [List.set_append_right _ _ (Nat.le_refl _), Nat.sub_self]
 simp
theorem mid_snoc {α : Type} (a : List α) (x : α) (b : List α) : a ++ x :: b = (a ++ [x]) ++ b := by simp
theorem snoc_len {α : Type} (a : List α) (x : α) : ((a ++ [x]).length : Int) = (a.length : Int) + 1 := by simp
theorem take_mid {α : Type} (a b : List α) : (a ++ b).take a.length = a := by simp
theorem minInt (a b : Nat) : min (a : Int) (b : Int) = ((min a b : Nat) : Int) := by omega
/-! few -/
/-! which may be -/
theorem has_is {l : List Str} (hl : l.length ≤ 1000000) (s : Str) : zz93 (l, s) = some (l.contains s) := by
 have key : ∀ (b a : List Str), (a ++ b).length ≤ 1000000 → zz93_l3 ((a.length : Int), (s, (a ++ b, ((a ++ b).length : Int)))) = some (if b.contains s then .inl true else .inr ()) := by
  intro b
  induction b with
  | nil =>
   intro a hl
   rw [zz93_l3_eq]
   unfold zz93_l3F
   dsimp only
   rw [if_neg (by simp)]
   rfl
  | cons x b ih =>
   intro a hl
   have hl2 : (a ++ x :: b).length = a.length + (b.length + 1) := by simp
   have hw : IntKind.wrap .i64 ((a.length : Int) + 1) = (a.length : Int) + 1 := wr64 (by omega)
   have h1 := ih (a ++ [x]) (by simp at hl ⊢; omega)
   rw [zz93_l3_eq]
   unfold zz93_l3F
   dsimp only
   rw [Int.toNat_natCast, elt_mid .str, if_pos (by rw [decide_eq_true_eq]; omega), if_pos (by omega), if_pos (by omega), hw]
   by_cases e : x = s
   ·rw [if_pos (beq_iff_eq.2 e)]
    simp [e]
   ·have e2 : ¬ s = x := fun h => e h.symm
    rw [snoc_len] at h1
    rw [if_neg (by simpa using e), mid_snoc, h1]
    simp [e2]
 have h := key l [] (by simpa using hl)
 have h : zz93_l3 ((0 : Int), (s, (l, (l.length : Int)))) = _ := h
 unfold zz93
 dsimp only
 rw [h, sb]
 cases l.contains s <;> rfl
theorem Contains_is {l : List Str} (hl : l.length ≤ 1000000) (s : Str) : zz14 (l, s) = some (l.contains s) := by
 obtain ⟨r, h1, h2⟩ := index_is (l := l) (by omega) s
 unfold zz14
 dsimp only
 rw [h1, sb]
 rcases h2 with ⟨e, h⟩ | ⟨j, e, h⟩
 ·have : l.contains s = false := by
   rw [← Bool.not_eq_true, List.contains_iff_mem]
   intro hm
   obtain ⟨j, hj⟩ := List.mem_iff_getElem?.1 hm
   exact h j hj
  rw [this, e]
  rfl
 ·have : l.contains s = true := List.contains_iff_mem.2 (List.mem_iff_getElem?.2 ⟨j, h⟩)
  rw [this, e, decide_eq_true (by omega)]
def kf : List Str → List Str → Bool
 | _, [] => true
 | a, k :: r => isD k && !a.contains k && kf (a ++ [k]) r
def lf (l : Str × Int) : Bool := isD l.1 && decide (0 ≤ l.2) && decide (l.2 ≤ 4096)
def okM (m : Man) : Bool := if m.1 then kf [] m.2.2.2 && decide (1 ≤ m.2.2.2.length) && decide (m.2.2.2.length ≤ 8) && decide (m.2.1 = []) && decide (m.2.2.1 = [])
 else isD m.2.1 && decide (m.2.2.2 = []) && decide (m.2.2.1.length ≤ 8) && m.2.2.1.all lf
theorem Right5_l5_at (c : Man) (hc : MB c) : ∀ (b a : List Str), a ++ b = c.2.2.2 → zz33_l5 (((a.length : Int), (c.2.2.2, (c.2.2.2.length : Int))), c) = some (if kf a b then .inr c else .inl false) := by
 intro b
 induction b with
 | nil =>
  intro a hl
  rw [List.append_nil] at hl
  rw [zz33_l5_eq]
  unfold zz33_l5F
  dsimp only
  rw [if_neg (by rw [hl]; simp)]
  rfl
 | cons x b ih =>
  intro a hl
  have hl2 : (c.2.2.2).length = a.length + (b.length + 1) := by rw [← hl]; simp
  have hb := hc.2.2.2.1
  have hx : x.length ≤ 5000 := hc.2.2.2.2 x (by rw [← hl]; simp)
  have hw : IntKind.wrap .i64 ((a.length : Int) + 1) = (a.length : Int) + 1 := wr64 (by omega)
  have h1 := ih (a ++ [x]) (by rw [← hl]; simp)
  rw [snoc_len] at h1
  have he : elt .str c.2.2.2 a.length = x := by rw [← hl]; exact elt_mid .str a x b
  have ht : List.take a.length c.2.2.2 = a := by rw [← hl]; exact take_mid a _
  rw [zz33_l5_eq]
  unfold zz33_l5F
  dsimp only
  rw [Int.toNat_natCast, he, ht, if_pos (by rw [decide_eq_true_eq]; omega), if_pos (by omega), if_pos (by omega), zz53_is (by omega), sb, Contains_is (by omega), hw, h1]
  cases q : isD x with
  | false => simp [kf, q]
  | true =>
   rw [if_neg (by decide), if_pos (by omega), if_pos (by omega), sb]
   cases p : a.contains x with
   | true => simp [kf, q]; rw [List.contains_iff_mem] at p; simp [p]
   | false =>
    rw [if_neg (by decide)]
    simp only [kf, q, p]
    rfl
theorem refRight_l3_at (c : Man) (hc : MB c) : ∀ (b a : List Str), a ++ b = c.2.2.2 → zz65_l3 (((a.length : Int), (c.2.2.2, (c.2.2.2.length : Int))), c) = some (if kf a b then .inr c else .inl false) := by
 intro b
 induction b with
 | nil =>
  intro a hl
  rw [List.append_nil] at hl
  rw [zz65_l3_eq]
  unfold zz65_l3F
  dsimp only
  rw [if_neg (by rw [hl]; simp)]
  rfl
 | cons x b ih =>
  intro a hl
  have hl2 : (c.2.2.2).length = a.length + (b.length + 1) := by rw [← hl]; simp
  have hb := hc.2.2.2.1
  have hx : x.length ≤ 5000 := hc.2.2.2.2 x (by rw [← hl]; simp)
  have hw : IntKind.wrap .i64 ((a.length : Int) + 1) = (a.length : Int) + 1 := wr64 (by omega)
  have h1 := ih (a ++ [x]) (by rw [← hl]; simp)
  rw [snoc_len] at h1
  have he : elt .str c.2.2.2 a.length = x := by rw [← hl]; exact elt_mid .str a x b
  have ht : List.take a.length c.2.2.2 = a := by rw [← hl]; exact take_mid a _
  rw [zz65_l3_eq]
  unfold zz65_l3F
  dsimp only
  rw [Int.toNat_natCast, he, ht, if_pos (by rw [decide_eq_true_eq]; omega), if_pos (by omega), if_pos (by omega), ref05_is_is, sb, has_is (by omega), hw, h1]
  cases q : isD x with
  | false => simp [kf, q]
  | true =>
   rw [if_neg (by decide), if_pos (by omega), if_pos (by omega), sb]
   cases p : a.contains x with
   | true => simp [kf, q]; rw [List.contains_iff_mem] at p; simp [p]
   | false =>
    rw [if_neg (by decide)]
    simp only [kf, q, p]
    rfl
theorem refRight_l12_at (c : Man) (hc : MB c) : ∀ (b a : List (Str × Int)), a ++ b = c.2.2.1 → zz65_l12 (((a.length : Int), (c.2.2.1, (c.2.2.1.length : Int))), c) = some (if b.all lf then .inr c else .inl false) := by
 intro b
 induction b with
 | nil =>
  intro a hl
  rw [List.append_nil] at hl
  rw [zz65_l12_eq]
  unfold zz65_l12F
  dsimp only
  rw [if_neg (by rw [hl]; simp)]
  rfl
 | cons x b ih =>
  intro a hl
  have hl2 : (c.2.2.1).length = a.length + (b.length + 1) := by rw [← hl]; simp
  have hb := hc.2.1
  have hw : IntKind.wrap .i64 ((a.length : Int) + 1) = (a.length : Int) + 1 := wr64 (by omega)
  have h1 := ih (a ++ [x]) (by rw [← hl]; simp)
  rw [snoc_len] at h1
  have he : elt (.pair .str (.int .i64)) c.2.2.1 a.length = x := by rw [← hl]; exact elt_mid (.pair .str (.int .i64)) a x b
  rw [zz65_l12_eq]
  unfold zz65_l12F
  dsimp only
  rw [Int.toNat_natCast, he, if_pos (by rw [decide_eq_true_eq]; omega), if_pos (by omega), if_pos (by omega), ref05_is_is, sb, hw, h1, List.all_cons]
  unfold lf
  cases q : isD x.1 with
  | false => rfl
  | true =>
   rw [if_neg (by decide)]
   by_cases c1 : x.2 < 0
   ·rw [if_pos (decide_eq_true c1), decide_eq_false (p := 0 ≤ x.2) (by omega)]
    rfl
   ·rw [if_neg (by simpa using c1), decide_eq_true (p := 0 ≤ x.2) (by omega)]
    by_cases c2 : x.2 > 4096
    ·rw [if_pos (decide_eq_true c2), decide_eq_false (p := x.2 ≤ 4096) (by omega)]
     rfl
    ·rw [if_neg (by simpa using c2), decide_eq_true (p := x.2 ≤ 4096) (by omega)]
     rfl
theorem Right_1_is {l : Str × Int} (h : l.1.length ≤ 1000000) : zz28 l = some (!lf l) := by
 unfold zz28 lf
 rw [zz53_is h, sb]
 cases isD l.1 with
 | false => rfl
 | true =>
  rw [if_neg (by decide)]
  by_cases c1 : l.2 < 0
  ·rw [if_pos (decide_eq_true c1), decide_eq_false (p := 0 ≤ l.2) (by omega)]
   rfl
  ·rw [if_neg (by simpa using c1), decide_eq_true (p := 0 ≤ l.2) (by omega)]
   by_cases c2 : l.2 > 4096
   ·rw [decide_eq_true c2, decide_eq_false (p := l.2 ≤ 4096) (by omega)]
    rfl
   ·rw [decide_eq_false c2, decide_eq_true (p := l.2 ≤ 4096) (by omega)]
    rfl
theorem yfr_is {l : List (Str × Int)} (hl : l.length ≤ 1000000) (hs : ∀ x ∈ l, x.1.length ≤ 1000000) : zz0 l = some (!l.all lf) := by
 have key : ∀ (b a : List (Str × Int)), (a ++ b).length ≤ 1000000 → (∀ x ∈ b, x.1.length ≤ 1000000) →
   ∃ r, zz3_l3 ((a.length : Int), (a ++ b, ((a ++ b).length : Int))) = some r ∧ ((b.all lf = true ∧ r = .inr ()) ∨ (b.all lf = false ∧ ∃ k, r = .inl k ∧ 0 ≤ k)) := by
  intro b
  induction b with
  | nil =>
   intro a hl _
   rw [zz3_l3_eq]
   unfold zz3_l3F
   dsimp only
   rw [if_neg (by simp)]
   exact ⟨_, rfl, .inl ⟨rfl, rfl⟩⟩
  | cons x b ih =>
   intro a hl hs
   have hl2 : (a ++ x :: b).length = a.length + (b.length + 1) := by simp
   have hw : IntKind.wrap .i64 ((a.length : Int) + 1) = (a.length : Int) + 1 := wr64 (by omega)
   obtain ⟨r, h1, h2⟩ := ih (a ++ [x]) (by simp at hl ⊢; omega) (fun y hy => hs y (by simp [hy]))
   rw [zz3_l3_eq]
   unfold zz3_l3F
   dsimp only
   rw [Int.toNat_natCast, elt_mid (.pair .str (.int .i64)), if_pos (by rw [decide_eq_true_eq]; omega), if_pos (by omega), if_pos (by omega), Right_1_is (hs x (by simp)), sb, hw, List.all_cons]
   cases q : lf x with
   | false =>
    rw [if_pos (by rfl)]
    exact ⟨_, rfl, .inr ⟨rfl, _, rfl, by omega⟩⟩
   | true =>
    rw [snoc_len, ← mid_snoc] at h1
    rw [if_neg (by decide), h1]
    exact ⟨r, rfl, h2⟩
 obtain ⟨r, h1, h2⟩ := key l [] (by simpa using hl) hs
 have h1 : zz3_l3 ((0 : Int), (l, (l.length : Int))) = some r := h1
 unfold zz0 zz3
 rw [h1, sb]
 rcases h2 with ⟨e, rfl⟩ | ⟨e, k, rfl, hk⟩
 ·rw [e]
  rfl
 ·rw [e]
  show some (decide (k ≥ 0)) = _
  rw [decide_eq_true hk]
  rfl
theorem len0 {α : Type} (l : List α) [DecidableEq α] : ((l.length : Int) == (0 : Int)) = decide (l = []) := by
 cases l with
 | nil => rfl
 | cons a l =>
  rw [decide_eq_false (by simp), beq_eq_false_iff_ne]
  simp
  omega
theorem zz33_is {m : Man} (hm : MB m) : zz33 m = some (okM m) := by
 unfold zz33 okM
 cases hi : m.1 with
 | true =>
  rw [if_pos rfl, if_pos rfl]
  have h := Right5_l5_at m hm m.2.2.2 [] rfl
  have h : zz33_l5 (((0 : Int), (m.2.2.2, (m.2.2.2.length : Int))), m) = _ := h
  rw [h, sb]
  cases hk : kf [] m.2.2.2 with
  | false => rfl
  | true =>
   rw [if_pos rfl]
   dsimp only [Sum.elim_inr]
   by_cases c1 : 1 ≤ m.2.2.2.length
   ·rw [if_pos (by rw [decide_eq_true_eq]; omega)]
    by_cases c2 : m.2.2.2.length ≤ 8
    ·rw [if_pos (by rw [decide_eq_true_eq]; omega)]
     by_cases c3 : m.2.1 = []
     ·rw [if_pos (by rw [c3]; rfl), len0]
      simp [c1, c2, c3]
     ·rw [if_neg (by simpa using c3)]
      simp [c3]
    ·rw [if_neg (by rw [decide_eq_true_eq]; omega)]
     simp [c2]
   ·rw [if_neg (by rw [decide_eq_true_eq]; omega)]
    simp [c1]
 | false =>
  rw [if_neg (show ¬ (false = true) by decide), if_neg (show ¬ (false = true) by decide), zz53_is (by have := hm.1; omega), sb]
  cases isD m.2.1 with
  | false => rfl
  | true =>
   rw [if_pos rfl, len0]
   by_cases c1 : m.2.2.2 = []
   ·rw [if_pos (decide_eq_true c1)]
    by_cases c2 : m.2.2.1.length ≤ 8
    ·rw [if_pos (by rw [decide_eq_true_eq]; omega), yfr_is (by omega) (fun x hx => by have := (hm.2.2.1 x hx).1; omega), sb]
     simp [c1, c2]
    ·rw [if_neg (by rw [decide_eq_true_eq]; omega)]
     simp [c2]
   ·rw [if_neg (by simpa using c1)]
    simp [c1]
theorem zz65_is {m : Man} (hm : MB m) : zz65 m = some (okM m) := by
 unfold zz65 okM
 have h := refRight_l3_at m hm m.2.2.2 [] rfl
 have h : zz65_l3 (((0 : Int), (m.2.2.2, (m.2.2.2.length : Int))), m) = _ := h
 have g := refRight_l12_at m hm m.2.2.1 [] rfl
 have g : zz65_l12 (((0 : Int), (m.2.2.1, (m.2.2.1.length : Int))), m) = _ := g
 rw [h, sb]
 have e0 : kf [] m.2.2.2 = false → m.2.2.2 ≠ [] := by
  intro q p
  rw [p] at q
  cases q
 have e1 : m.2.2.1.all lf = false → m.2.2.1 ≠ [] := by
  intro q p
  rw [p] at q
  cases q
 cases hk : kf [] m.2.2.2 with
 | false =>
  have := e0 hk
  cases m.1 <;> simp [this]
 | true =>
  rw [if_pos rfl]
  dsimp only [Sum.elim_inr]
  rw [g, sb]
  cases hl : m.2.2.1.all lf with
  | false =>
   have := e1 hl
   cases m.1 <;> simp [this]
  | true =>
   rw [if_pos rfl]
   dsimp only [Sum.elim_inr]
   by_cases c1 : m.2.2.2.length ≤ 8
   ·rw [if_neg (by rw [decide_eq_true_eq]; omega)]
    by_cases c2 : m.2.2.1.length ≤ 8
    ·rw [if_neg (by rw [decide_eq_true_eq]; omega)]
     cases hi : m.1 with
     | true =>
      rw [if_pos rfl, if_pos rfl]
      by_cases c3 : 1 ≤ m.2.2.2.length
      ·rw [if_pos (by rw [decide_eq_true_eq]; omega)]
       by_cases c4 : m.2.1 = []
       ·rw [if_pos (by rw [c4]; rfl), len0]
        simp [c1, c3, c4]
       ·rw [if_neg (by simpa using c4)]
        simp [c4]
      ·rw [if_neg (by rw [decide_eq_true_eq]; omega)]
       simp [c3]
     | false =>
      rw [if_neg (show ¬ (false = true) by decide), if_neg (show ¬ (false = true) by decide), ref05_is_is, sb, len0]
      cases isD m.2.1 with
      | false => rfl
      | true =>
       rw [if_pos rfl]
       simp [c2]
    ·rw [if_pos (by rw [decide_eq_true_eq]; omega)]
     have : m.2.2.1 ≠ [] := by intro q; rw [q] at c2; simp at c2
     cases m.1 <;> simp [c2, this]
   ·rw [if_pos (by rw [decide_eq_true_eq]; omega)]
    have : m.2.2.2 ≠ [] := by intro q; rw [q] at c1; simp at c1
    cases m.1 <;> simp [c1, this]
end Go.Plain
/-
 Plain facts of the printed functions of layer 5: a manifest's value, its text, its blobs.
-/
namespace Go.Plain
open Go.AM
def wordV (s : Str) : GVal := .mk 2 0 s [] []
def layerV (l : Str × Int) : GVal := .mk 4 0 [] [wordV l.1, .mk 1 l.2 [] [] []] [[100, 105, 103, 101, 115, 116], [115, 105, 122, 101]]
def val (m : Man) : GVal :=
 if m.1 then .mk 4 0 [] [.mk 3 0 [] (m.2.2.2.map wordV) [], wordV [105, 110, 100, 101, 120]] [[107, 105, 100, 115], [107, 105, 110, 100]]
 else .mk 4 0 [] [wordV m.2.1, wordV [105, 109, 97, 103, 101], .mk 3 0 [] (m.2.2.1.map layerV) []] [[99, 111, 110, 102, 105, 103], [107, 105, 110, 100], [108, 97, 121, 101, 114, 115]]
theorem row_l4_at (c : Int × (Int × (Str × List Str))) (c1 : GVal) : ∀ (b a : List Str) (d : List GVal), (a ++ b).length ≤ 5000 → d.length ≤ a.length →
  zz12_l4 (((a.length : Int), (a ++ b, ((a ++ b).length : Int))), (c, (c1, d))) = some (c1, (c, d ++ b.map wordV)) := by
 intro b
 induction b with
 | nil =>
  intro a d hl _
  rw [zz12_l4_eq]
  unfold zz12_l4F
  dsimp only
  rw [if_neg (by simp), re_is]
  simp
 | cons x b ih =>
  intro a d hl hd
  have hl2 : (a ++ x :: b).length = a.length + (b.length + 1) := by simp
  have hw : IntKind.wrap .i64 ((a.length : Int) + 1) = (a.length : Int) + 1 := wr64 (by omega)
  have h1 := ih (a ++ [x]) (d ++ [wordV x]) (by simp at hl ⊢; omega) (by simp; omega)
  rw [snoc_len, ← mid_snoc] at h1
  rw [zz12_l4_eq]
  unfold zz12_l4F
  dsimp only
  have hwd : zz43 x = some (wordV x) := rfl
  rw [Int.toNat_natCast, elt_mid .str, if_pos (by rw [decide_eq_true_eq]; omega), if_pos (by omega), if_pos (by omega), hwd, sb, re_is, if_pos (by constructor <;> (simp; omega)), re_is, hw, h1]
  simp
theorem rowl_l4_at (c : Int × (Int × (Str × List Str))) (c1 : GVal) : ∀ (b a : List (Str × Int)) (d : List GVal), (a ++ b).length ≤ 5000 → d.length ≤ a.length →
  zz7_l4 (((a.length : Int), (a ++ b, ((a ++ b).length : Int))), (c, (c1, d))) = some (c1, (c, d ++ b.map layerV)) := by
 intro b
 induction b with
 | nil =>
  intro a d hl _
  rw [zz7_l4_eq]
  unfold zz7_l4F
  dsimp only
  rw [if_neg (by simp), re_is]
  simp
 | cons x b ih =>
  intro a d hl hd
  have hl2 : (a ++ x :: b).length = a.length + (b.length + 1) := by simp
  have hw : IntKind.wrap .i64 ((a.length : Int) + 1) = (a.length : Int) + 1 := wr64 (by omega)
  have h1 := ih (a ++ [x]) (d ++ [layerV x]) (by simp at hl ⊢; omega) (by simp; omega)
  rw [snoc_len, ← mid_snoc] at h1
  rw [zz7_l4_eq]
  unfold zz7_l4F
  dsimp only
  have hwd : zz34 x = some (layerV x) := rfl
  rw [Int.toNat_natCast, elt_mid (.pair .str (.int .i64)), if_pos (by rw [decide_eq_true_eq]; omega), if_pos (by omega), if_pos (by omega), hwd, sb, re_is, if_pos (by constructor <;> (simp; omega)), re_is, hw, h1]
  simp
theorem value_is {m : Man} (hm : MB m) : zz35 m = some (val m) := by
 have h := row_l4_at ((3 : Int), ((0 : Int), ([], []))) (GVal.mk (0 : Int) (0 : Int) [] [] []) m.2.2.2 [] [] (by simpa using hm.2.2.2.1) (by simp)
 have g := rowl_l4_at ((3 : Int), ((0 : Int), ([], []))) (GVal.mk (0 : Int) (0 : Int) [] [] []) m.2.2.1 [] [] (by simpa using hm.2.1) (by simp)
 have h : zz12_l4 (((0 : Int), (m.2.2.2, (m.2.2.2.length : Int))), _) = _ := h
 have g : zz7_l4 (((0 : Int), (m.2.2.1, (m.2.2.1.length : Int))), _) = _ := g
 unfold zz35 zz12 zz7 val
 cases m.1 with
 | true =>
  rw [if_pos rfl, h]
  rfl
 | false =>
  rw [if_neg (show ¬ (false = true) by decide), g]
  rfl
/-! its text -/
theorem isHex_okC {b : UInt8} (h : isHex b = true) : okC b = true := by
 simp only [isHex, Bool.or_eq_true, Bool.and_eq_true, decide_eq_true_eq] at h
 simp only [okC, Bool.not_eq_true', Bool.or_eq_false_iff, decide_eq_false_iff_not]
 omega
theorem isD_len {s : Str} (h : isD s = true) : s.length = 71 := by
 simp only [isD, Bool.and_eq_true, decide_eq_true_eq] at h
 exact h.1.1
theorem isD_okW {s : Str} (h : isD s = true) : okW s = true := by
 have hl := isD_len h
 simp only [isD, Bool.and_eq_true, decide_eq_true_eq] at h
 have e : s = dpre ++ s.drop 7 := by
  rw [← h.1.2]
  exact (List.take_append_drop 7 s).symm
 unfold okW
 rw [decide_eq_true (by omega), Bool.and_true, e, List.all_append]
 have h2 : dpre.all okC = true := by decide
 rw [h2, Bool.true_and, List.all_eq_true]
 intro x hx
 exact isHex_okC (List.all_eq_true.1 h.2 x hx)
theorem okV_mk4 (d : Nat) (items : List GVal) (names : List Str) : okV (d + 1) (.mk 4 0 [] items names) = (decide (items.length ≤ 16) && (okN names && decide (names.length = items.length) && items.all (okV d))) := by
 simp [okV, GVal.items, GVal.kind, GVal.names, GVal.s, GVal.n]
 rfl
theorem okV_mk3 (d : Nat) (items : List GVal) : okV (d + 1) (.mk 3 0 [] items []) = (decide (items.length ≤ 16) && items.all (okV d)) := by
 simp [okV, GVal.items, GVal.kind, GVal.names, GVal.s, GVal.n]
 rfl
theorem okV_num (d : Nat) (n : Int) : okV (d + 1) (.mk 1 n [] [] []) = (decide (0 ≤ n) && decide (n ≤ 1099511627776)) := by
 simp [okV, GVal.items, GVal.kind, GVal.names, GVal.s, GVal.n]
 rfl
theorem kf_all : ∀ {l a : List Str}, kf a l = true → ∀ x ∈ l, isD x = true
 | [], _, _, x, hx => by cases hx
 | k :: r, a, h, x, hx => by
  simp only [kf, Bool.and_eq_true] at h
  rcases List.mem_cons.1 hx with rfl | hx
  ·exact h.1.1
  ·exact kf_all h.2 x hx
theorem lf_apart {l : Str × Int} (h : lf l = true) : isD l.1 = true ∧ 0 ≤ l.2 ∧ l.2 ≤ 4096 := by
 simp only [lf, Bool.and_eq_true, decide_eq_true_eq] at h
 exact ⟨h.1.1, h.1.2, h.2⟩
theorem okM_index {m : Man} (h : okM m = true) (hi : m.1 = true) : kf [] m.2.2.2 = true ∧ 1 ≤ m.2.2.2.length ∧ m.2.2.2.length ≤ 8 ∧ m.2.1 = [] ∧ m.2.2.1 = [] := by
 unfold okM at h
 rw [hi, if_pos rfl] at h
 simp only [Bool.and_eq_true, decide_eq_true_eq] at h
 exact ⟨h.1.1.1.1, h.1.1.1.2, h.1.1.2, h.1.2, h.2⟩
theorem okM_image {m : Man} (h : okM m = true) (hi : m.1 = false) : isD m.2.1 = true ∧ m.2.2.2 = [] ∧ m.2.2.1.length ≤ 8 ∧ ∀ l ∈ m.2.2.1, lf l = true := by
 unfold okM at h
 rw [hi, if_neg (show ¬ (false = true) by decide)] at h
 simp only [Bool.and_eq_true, decide_eq_true_eq, List.all_eq_true] at h
 exact ⟨h.1.1.1, h.1.1.2, h.1.2, h.2⟩
theorem names_layer : okN [[100, 105, 103, 101, 115, 116], [115, 105, 122, 101]] = true := by decide
theorem names_index : okN [[107, 105, 100, 115], [107, 105, 110, 100]] = true := by decide
theorem names_image : okN [[99, 111, 110, 102, 105, 103], [107, 105, 110, 100], [108, 97, 121, 101, 114, 115]] = true := by decide
theorem okV_layer (d : Nat) {l : Str × Int} (h : lf l = true) : okV (d + 2) (layerV l) = true := by
 obtain ⟨h1, h2, h3⟩ := lf_apart h
 unfold layerV wordV
 rw [okV_mk4, names_layer]
 simp only [List.all_cons, List.all_nil, okV_word, okV_num, isD_okW h1]
 simp
 omega
theorem okV_val {m : Man} (h : okM m = true) : okV 6 (val m) = true := by
 unfold val
 cases hi : m.1 with
 | true =>
  obtain ⟨h1, h2, h3, h4, h5⟩ := okM_index h hi
  rw [if_pos rfl, okV_mk4, names_index]
  simp only [List.all_cons, List.all_nil, okV_mk3, wordV, okV_word]
  have : (m.2.2.2.map fun s => GVal.mk 2 0 s [] []).all (okV 4) = true := by
   rw [List.all_map, List.all_eq_true]
   intro x hx
   show okV 4 (GVal.mk 2 0 x [] []) = true
   rw [okV_word, isD_okW (kf_all h1 x hx)]
  have this : (List.map wordV m.2.2.2).all (okV 4) = true := this
  rw [this, List.length_map]
  have : okW ([105, 110, 100, 101, 120] : Str) = true := by decide
  rw [this, decide_eq_true (p := m.2.2.2.length ≤ 16) (by omega)]
  rfl
 | false =>
  obtain ⟨h1, h2, h3, h4⟩ := okM_image h hi
  rw [if_neg (show ¬ (false = true) by decide), okV_mk4, names_image]
  simp only [List.all_cons, List.all_nil, okV_mk3, wordV, okV_word]
  have : (m.2.2.1.map layerV).all (okV 4) = true := by
   rw [List.all_map, List.all_eq_true]
   intro x hx
   exact okV_layer 2 (h4 x hx)
  rw [this, List.length_map, isD_okW h1]
  have : okW ([105, 109, 97, 103, 101] : Str) = true := by decide
  rw [this, decide_eq_true (p := m.2.2.1.length ≤ 16) (by omega)]
  rfl
noncomputable def layerT (l : Str × Int) : Str := [123, 34, 100, 105, 103, 101, 115, 116, 34, 58, 34] ++ l.1 ++ [34, 44, 34, 115, 105, 122, 101, 34, 58] ++ Lib.itoa l.2 ++ [125]
theorem txt_word (s : Str) : txt (wordV s) = quo s := by
 unfold wordV txt
 rw [if_neg (by decide), if_pos rfl]
theorem txt_layer (l : Str × Int) : txt (layerV l) = layerT l := by
 have h1 := txt_word l.1
 unfold wordV at h1
 unfold layerV layerT wordV
 rw [txt_row (by decide) (by decide)]
 have h2 : txt (.mk 1 l.2 [] [] []) = Lib.itoa l.2 := by unfold txt; rw [if_pos rfl]
 simp [parts, jr, memb, quo, h1, h2]
theorem txt_index {m : Man} (h : m.1 = true) : txt (val m) = [123, 34, 107, 105, 100, 115, 34, 58, 91] ++ jr true (m.2.2.2.map quo) ++ [93, 44, 34, 107, 105, 110, 100, 34, 58, 34, 105, 110, 100, 101, 120, 34, 125] := by
 unfold val
 rw [h, if_pos rfl, txt_row (by decide) (by decide)]
 have h1 : txt (.mk 3 0 [] (m.2.2.2.map wordV) []) = [91] ++ jr true (m.2.2.2.map quo) ++ [93] := by
  rw [txt_row (by decide) (by decide)]
  have : (m.2.2.2.map wordV).map txt = m.2.2.2.map quo := by
   rw [List.map_map]
   exact List.map_congr_left fun x _ => txt_word x
  simp [parts, this]
 simp [parts, jr, memb, quo, h1, txt_word]
theorem txt_image {m : Man} (h : m.1 = false) : txt (val m) = [123, 34, 99, 111, 110, 102, 105, 103, 34, 58, 34] ++ m.2.1 ++ [34, 44, 34, 107, 105, 110, 100, 34, 58, 34, 105, 109, 97, 103, 101, 34, 44, 34, 108, 97, 121, 101, 114, 115, 34, 58, 91] ++ jr true (m.2.2.1.map layerT) ++ [93, 125] := by
 unfold val
 rw [h, if_neg (show ¬ (false = true) by decide), txt_row (by decide) (by decide)]
 have h1 : txt (.mk 3 0 [] (m.2.2.1.map layerV) []) = [91] ++ jr true (m.2.2.1.map layerT) ++ [93] := by
  rw [txt_row (by decide) (by decide)]
  have : (m.2.2.1.map layerV).map txt = m.2.2.1.map layerT := by
   rw [List.map_map]
   exact List.map_congr_left fun x _ => txt_layer x
  simp [parts, this]
 simp [parts, jr, memb, quo, h1, txt_word]
theorem layerT_len {l : Str × Int} (h0 : 0 ≤ l.2) (h1 : l.2 ≤ 1099511627776) : (layerT l).length ≤ l.1.length + 45 := by
 have hl : (Lib.itoa l.2).length ≤ 21 := by
  have := Lib.itoa_length_le l.2 (by omega) (by omega)
  omega
 unfold layerT
 simp only [List.length_append, List.length_cons, List.length_nil]
 omega
end Go.Plain
/-
 Plain facts of the printed functions of layer 5: printing; what a manifest needs; 'ManifestPrints'.
-/
namespace Go.Plain
open Go.AM
theorem txt_val_len {m : Man} (h : okM m = true) : (txt (val m)).length ≤ 4096 := by
 cases hi : m.1 with
 | true =>
  obtain ⟨h1, h2, h3, h4, h5⟩ := okM_index h hi
  have hj := jr_len 73 (m.2.2.2.map quo) true (fun x hx => by
   obtain ⟨y, hy, rfl⟩ := List.mem_map.1 hx
   have := isD_len (kf_all h1 y hy)
   simp [quo]
   omega)
  rw [List.length_map] at hj
  rw [txt_index hi]
  simp only [List.length_append, List.length_cons, List.length_nil]
  omega
 | false =>
  obtain ⟨h1, h2, h3, h4⟩ := okM_image h hi
  have hj := jr_len 116 (m.2.2.1.map layerT) true (fun x hx => by
   obtain ⟨y, hy, rfl⟩ := List.mem_map.1 hx
   obtain ⟨q1, q2, q3⟩ := lf_apart (h4 y hy)
   have := isD_len q1
   have := layerT_len (l := y) q2 (by omega)
   omega)
  rw [List.length_map] at hj
  have := isD_len h1
  rw [txt_image hi]
  simp only [List.length_append, List.length_cons, List.length_nil]
  omega
theorem inV_word {s : Str} (h : s.length ≤ 5000) : inV (wordV s) := ⟨by decide, by decide, by omega, by decide, trivial, by decide, fun _ h => by cases h⟩
theorem inV_layer {l : Str × Int} (h : l.1.length ≤ 5000) (h2 : -9223372036854775808 ≤ l.2 ∧ l.2 ≤ 9223372036854775807) : inV (layerV l) :=
 ⟨by decide, by decide, by decide, by simp, ⟨inV_word h, ⟨by decide, h2, by decide, by decide, trivial, by decide, fun _ h => by cases h⟩, trivial⟩, by decide, fun x hx => by
  simp at hx
  rcases hx with rfl | rfl <;> simp⟩
theorem inV_val {m : Man} (hm : MB m) : inV (val m) := by
 obtain ⟨h1, h2, h3, h4, h5⟩ := hm
 unfold val
 cases m.1 with
 | true =>
  rw [if_pos rfl]
  refine ⟨by decide, by decide, by decide, by simp, ⟨⟨by decide, by decide, by decide, by rw [List.length_map]; omega, inVs_mk fun x hx => ?_, by decide, fun _ h => by cases h⟩, inV_word (by simp), trivial⟩, by decide, fun x hx => by
   simp at hx
   rcases hx with rfl | rfl <;> simp⟩
  obtain ⟨y, hy, rfl⟩ := List.mem_map.1 hx
  exact inV_word (h5 y hy)
 | false =>
  rw [if_neg (show ¬ (false = true) by decide)]
  refine ⟨by decide, by decide, by decide, by simp, ⟨inV_word h1, inV_word (by simp), ⟨by decide, by decide, by decide, by rw [List.length_map]; omega, inVs_mk fun x hx => ?_, by decide, fun _ h => by cases h⟩, trivial⟩, by decide, fun x hx => by
   simp at hx
   rcases hx with rfl | rfl | rfl <;> simp⟩
  obtain ⟨y, hy, rfl⟩ := List.mem_map.1 hx
  exact inV_layer (h3 y hy).1 (h3 y hy).2
theorem zz32_is {m : Man} (hm : MB m) : zz32 m = some (if okM m then (txt (val m), 0) else ([], 1)) := by
 unfold zz32
 rw [zz33_is hm, sb]
 cases h : okM m with
 | false => rfl
 | true =>
  rw [if_neg (by decide), value_is hm, sb, re_is, zz83_is (inV_val hm), sb, okV_val h, if_pos rfl, if_neg (by have := txt_val_len h; omega)]
  rfl
/-! the document's text -/
theorem refText_l6_at : ∀ (b a : List Str) (out : Str), (a ++ b).length ≤ 5000 → (∀ x ∈ b, x.length ≤ 5000) → out.length + b.length * 6000 ≤ 1000000000 →
  zz80_l6 ((a.length : Int), (out, (a ++ b, ((a ++ b).length : Int)))) = some (out ++ jr (decide (a.length = 0)) (b.map quo)) := by
 intro b
 induction b with
 | nil =>
  intro a out hl _ _
  rw [zz80_l6_eq]
  unfold zz80_l6F
  dsimp only
  rw [if_neg (by simp)]
  simp [jr]
 | cons x b ih =>
  intro a out hl hs hO
  have hl2 : (a ++ x :: b).length = a.length + (b.length + 1) := by simp
  have hx := hs x (by simp)
  have hw : IntKind.wrap .i64 ((a.length : Int) + 1) = (a.length : Int) + 1 := wr64 (by omega)
  rw [List.length_cons] at hO
  have ih := fun o => ih (a ++ [x]) o (by simp at hl ⊢; omega) (fun y hy => hs y (by simp [hy]))
  rw [snoc_len, ← mid_snoc] at ih
  rw [zz80_l6_eq]
  unfold zz80_l6F
  dsimp only
  rw [Int.toNat_natCast, elt_mid .str, if_pos (by rw [decide_eq_true_eq]; omega), if_pos (by omega), if_pos (by omega), hw]
  have e0 : decide ((a ++ [x]).length = 0) = false := by simp
  rw [e0] at ih
  by_cases c : a.length = 0
  ·rw [if_neg (by rw [decide_eq_true_eq]; omega), if_pos (by simp; omega), if_pos (by simp; omega), if_pos (by simp; omega), ih _ (by simp; omega)]
   simp [c, jr, quo]
  ·rw [if_pos (by rw [decide_eq_true_eq]; omega), if_pos (by simp; omega), if_pos (by simp; omega), if_pos (by simp; omega), if_pos (by simp; omega), ih _ (by simp; omega)]
   simp [c, jr, quo]
theorem refText_l16_at (c : Man) : ∀ (b a : List (Str × Int)) (out : Str), (a ++ b).length ≤ 5000 → (∀ x ∈ b, x.1.length ≤ 5000 ∧ 0 ≤ x.2 ∧ x.2 ≤ 4096) → out.length + b.length * 6000 ≤ 1000000000 →
  zz80_l16 (((a.length : Int), (out, (a ++ b, ((a ++ b).length : Int)))), c) = some (out ++ jr (decide (a.length = 0)) (b.map layerT), c) := by
 intro b
 induction b with
 | nil =>
  intro a out hl _ _
  rw [zz80_l16_eq]
  unfold zz80_l16F
  dsimp only
  rw [if_neg (by simp)]
  simp [jr]
 | cons x b ih =>
  intro a out hl hs hO
  have hl2 : (a ++ x :: b).length = a.length + (b.length + 1) := by simp
  obtain ⟨hx, hx1, hx2⟩ := hs x (by simp)
  have hw : IntKind.wrap .i64 ((a.length : Int) + 1) = (a.length : Int) + 1 := wr64 (by omega)
  have hi := Lib.itoa_length_le x.2 (by omega) (by omega)
  rw [List.length_cons] at hO
  have ih := fun o => ih (a ++ [x]) o (by simp at hl ⊢; omega) (fun y hy => hs y (by simp [hy]))
  rw [snoc_len, ← mid_snoc] at ih
  rw [zz80_l16_eq]
  unfold zz80_l16F
  dsimp only
  rw [Int.toNat_natCast, elt_mid (.pair .str (.int .i64)), if_pos (by rw [decide_eq_true_eq]; omega), if_pos (by omega), if_pos (by omega), hw, lib_Itoa_is (by omega) (by omega), sb, sb]
  have e0 : decide ((a ++ [x]).length = 0) = false := by simp
  rw [e0] at ih
  by_cases c : a.length = 0
  ·rw [if_neg (by rw [decide_eq_true_eq]; omega), if_pos (by simp; omega), if_pos (by simp; omega), if_pos (by simp; omega), if_pos (by simp; omega), if_pos (by simp; omega), ih _ (by simp; omega)]
   simp [c, jr, layerT]
  ·rw [if_pos (by rw [decide_eq_true_eq]; omega), if_pos (by simp; omega), if_pos (by simp; omega), if_pos (by simp; omega), if_pos (by simp; omega), if_pos (by simp; omega), if_pos (by simp; omega), ih _ (by simp; omega)]
   simp [c, jr, layerT]
theorem zz80_is {m : Man} (hm : MB m) (h : okM m = true) : zz80 m = some (txt (val m)) := by
 have hl := txt_val_len h
 unfold zz80
 cases hi : m.1 with
 | true =>
  have h1 := refText_l6_at m.2.2.2 [] [] (by simpa using hm.2.2.2.1) hm.2.2.2.2 (by have := hm.2.2.2.1; simp; omega)
  have h1 : zz80_l6 ((0 : Int), ([], (m.2.2.2, (m.2.2.2.length : Int)))) = some (jr true (m.2.2.2.map quo)) := h1
  rw [txt_index hi] at hl ⊢
  simp only [List.length_append] at hl
  rw [if_pos rfl, h1, sb, if_pos (by omega), if_pos (by simp only [List.length_append]; omega)]
 | false =>
  obtain ⟨_, _, _, h4⟩ := okM_image h hi
  have h1 := refText_l16_at m m.2.2.1 [] [] (by simpa using hm.2.1) (fun x hx => ⟨(hm.2.2.1 x hx).1, (lf_apart (h4 x hx)).2⟩) (by have := hm.2.1; simp; omega)
  have h1 : zz80_l16 (((0 : Int), ([], (m.2.2.1, (m.2.2.1.length : Int)))), m) = some (jr true (m.2.2.1.map layerT), m) := h1
  rw [txt_image hi] at hl ⊢
  simp only [List.length_append] at hl
  rw [if_neg (show ¬ (false = true) by decide), h1, sb]
  dsimp only
  rw [if_pos (by omega), if_pos (by simp only [List.length_append]; omega), if_pos (by simp only [List.length_append]; omega), if_pos (by simp only [List.length_append]; omega)]
/-! what it needs -/
def need (c : List Str) (l : List (Str × Int)) : List Str := l.foldl (fun c x => if c.contains x.1 then c else c ++ [x.1]) c
theorem need_cons (c : List Str) (x : Str × Int) (l : List (Str × Int)) : need c (x :: l) = need (if c.contains x.1 then c else c ++ [x.1]) l := rfl
theorem Blobs_l7_at : ∀ (b a : List (Str × Int)) (c : List Str), (a ++ b).length ≤ 5000 → c.length ≤ a.length + 1 →
  zz30_l7 (((a.length : Int), (a ++ b, ((a ++ b).length : Int))), c) = some (need c b) := by
 intro b
 induction b with
 | nil =>
  intro a c hl _
  rw [zz30_l7_eq]
  unfold zz30_l7F
  dsimp only
  rw [if_neg (by simp)]
  rfl
 | cons x b ih =>
  intro a c hl hc
  have hl2 : (a ++ x :: b).length = a.length + (b.length + 1) := by simp
  have hw : IntKind.wrap .i64 ((a.length : Int) + 1) = (a.length : Int) + 1 := wr64 (by omega)
  have ih := fun o => ih (a ++ [x]) o (by simp at hl ⊢; omega)
  rw [snoc_len, ← mid_snoc] at ih
  rw [zz30_l7_eq, need_cons]
  unfold zz30_l7F
  dsimp only
  rw [Int.toNat_natCast, elt_mid (.pair .str (.int .i64)), if_pos (by rw [decide_eq_true_eq]; omega), if_pos (by omega), if_pos (by omega), hw, Contains_is (by omega), sb]
  cases c.contains x.1 with
  | true =>
   rw [if_neg (by decide), ih _ (by simp; omega)]
   rfl
  | false =>
   rw [if_pos (show (!false) = true by rfl), if_pos (by constructor <;> (simp; omega)), ih _ (by simp; omega)]
   rfl
theorem refBlobs_l8_at : ∀ (b a : List (Str × Int)) (c : List Str), (a ++ b).length ≤ 5000 → c.length ≤ a.length + 1 →
  zz63_l8 (((a.length : Int), (a ++ b, ((a ++ b).length : Int))), c) = some (need c b) := by
 intro b
 induction b with
 | nil =>
  intro a c hl _
  rw [zz63_l8_eq]
  unfold zz63_l8F
  dsimp only
  rw [if_neg (by simp)]
  rfl
 | cons x b ih =>
  intro a c hl hc
  have hl2 : (a ++ x :: b).length = a.length + (b.length + 1) := by simp
  have hw : IntKind.wrap .i64 ((a.length : Int) + 1) = (a.length : Int) + 1 := wr64 (by omega)
  have ih := fun o => ih (a ++ [x]) o (by simp at hl ⊢; omega)
  rw [snoc_len, ← mid_snoc] at ih
  rw [zz63_l8_eq, need_cons]
  unfold zz63_l8F
  dsimp only
  rw [Int.toNat_natCast, elt_mid (.pair .str (.int .i64)), if_pos (by rw [decide_eq_true_eq]; omega), if_pos (by omega), if_pos (by omega), hw, has_is (by omega), sb]
  cases c.contains x.1 with
  | true =>
   rw [if_neg (by decide), ih _ (by simp; omega)]
   rfl
  | false =>
   rw [if_pos (show (!false) = true by rfl), if_pos (by constructor <;> (simp; omega)), ih _ (by simp; omega)]
   rfl
def blobsM (m : Man) : List Str := if m.1 then [] else if okM m then need [m.2.1] m.2.2.1 else []
theorem zz30_is {m : Man} (hm : MB m) : zz30 m = some (blobsM m) := by
 unfold zz30 blobsM
 cases m.1 with
 | true => rfl
 | false =>
  have h := Blobs_l7_at m.2.2.1 [] [m.2.1] (by simpa using hm.2.1) (by simp)
  have h : zz30_l7 (((0 : Int), (m.2.2.1, (m.2.2.1.length : Int))), [m.2.1]) = _ := h
  rw [if_neg (show ¬ (false = true) by decide), zz33_is hm, sb, h, sb]
  cases okM m <;> rfl
theorem zz63_is {m : Man} (hm : MB m) : zz63 m = some (blobsM m) := by
 unfold zz63 blobsM
 cases m.1 with
 | true => rfl
 | false =>
  have h := refBlobs_l8_at m.2.2.1 [] [m.2.1] (by simpa using hm.2.1) (by simp)
  have h : zz63_l8 (((0 : Int), (m.2.2.1, (m.2.2.1.length : Int))), [m.2.1]) = _ := h
  rw [if_neg (show ¬ (false = true) by decide), zz65_is hm, sb, h, sb]
  cases okM m <;> rfl
theorem need_len : ∀ (l : List (Str × Int)) (c : List Str), (need c l).length ≤ c.length + l.length := by
 intro l
 induction l with
 | nil => intro c; exact Nat.le_refl _
 | cons x l ih =>
  intro c
  rw [need_cons]
  refine Nat.le_trans (ih _) ?_
  split <;> (simp; try omega)
theorem blobsM_len (m : Man) : (blobsM m).length ≤ m.2.2.1.length + 1 := by
 unfold blobsM
 split
 ·simp
 split
 ·have := need_len m.2.2.1 [m.2.1]
  simp at this
  omega
 ·simp
theorem Same_refl {l : List Str} (hl : l.length ≤ 1000000) : zz72 (l, l) = some true := by
 have key : ∀ (b a : List Str), (a ++ b).length ≤ 1000000 → zz72_l6 ((a.length : Int), (a ++ b, (a ++ b, ((a ++ b).length : Int)))) = some (.inr ()) := by
  intro b
  induction b with
  | nil =>
   intro a hl
   rw [zz72_l6_eq]
   unfold zz72_l6F
   dsimp only
   rw [if_neg (by simp)]
  | cons x b ih =>
   intro a hl
   have hl2 : (a ++ x :: b).length = a.length + (b.length + 1) := by simp
   have hw : IntKind.wrap .i64 ((a.length : Int) + 1) = (a.length : Int) + 1 := wr64 (by omega)
   have h1 := ih (a ++ [x]) (by simp at hl ⊢; omega)
   rw [snoc_len, ← mid_snoc] at h1
   rw [zz72_l6_eq]
   unfold zz72_l6F
   dsimp only
   rw [Int.toNat_natCast, if_pos (by rw [decide_eq_true_eq]; omega), if_pos (by omega), if_pos (by omega), if_pos (by omega), if_pos (by omega), if_neg (by simp), hw, h1]
 have h := key l [] (by simpa using hl)
 have h : zz72_l6 ((0 : Int), (l, (l, (l.length : Int)))) = _ := h
 unfold zz72
 dsimp only
 rw [if_neg (by simp), h]
 rfl
end Go.Plain
/-
 Plain facts of the printed functions of layer 5: 'ManifestNeeds'.
-/
namespace Go.Plain
open Go.AM
end Go.Plain
/-
 Plain facts of the printed functions of layer 5: parsing; what is the same; 'ManifestBack', 'ManifestApart'.
-/
namespace Go.Plain
open Go.AM
abbrev sDigest : Str := [100, 105, 103, 101, 115, 116]
abbrev sSize : Str := [115, 105, 122, 101]
theorem okV_inb {d : Nat} {v : GVal} (h : okV (d + 1) v = true) : v.s.length ≤ 200 ∧ v.items.length ≤ 16 ∧ (∀ x ∈ v.items, okV d x = true) ∧ (v.kind = 4 → v.names.length = v.items.length ∧ okN v.names = true) := by
 obtain ⟨h1, h2⟩ := okV_apart h
 rcases h2 with ⟨k, i, n, s, _⟩ | ⟨k, i, n, _, w⟩ | ⟨k, n, _, s, a⟩ | ⟨k, o, n, _, s, a⟩
 ·rw [s, i]
  exact ⟨by simp, by simp, (fun x hx => by cases hx), fun q => by rw [k] at q; cases q⟩
 ·rw [i]
  exact ⟨okW_len w, by simp, (fun x hx => by cases hx), fun q => by rw [k] at q; cases q⟩
 ·rw [s]
  exact ⟨by simp, h1, a, fun q => by rw [k] at q; cases q⟩
 ·rw [s]
  exact ⟨by simp, h1, a, fun _ => ⟨n, o⟩⟩
theorem inV_n {v : GVal} (h : inV v) : -9223372036854775808 ≤ v.n ∧ v.n ≤ 9223372036854775807 := by cases v; exact h.2.1
theorem Get_inb {d : Nat} {v : GVal} (hv : inV v) (h : okV (d + 1) v = true) (nm : Str) (kind : Int) : ∃ x f, text_Get (v, (nm, kind)) = some (x, f) ∧ inV x ∧ x.s.length ≤ 200 ∧ x.items.length ≤ 16 ∧
  (∀ y ∈ x.items, inV y) ∧ (∀ e, d = e + 1 → ∀ y ∈ x.items, okV e y = true) := by
 obtain ⟨_, _, h3, h4⟩ := okV_inb h
 obtain ⟨x, f, h1, h2⟩ := Get_is hv (fun k => (h4 k).1) nm kind
 refine ⟨x, f, h1, ?_⟩
 rcases h2 with ⟨_, rfl, _⟩ | ⟨_, _, j, _, hj, _⟩
 ·exact ⟨⟨by decide, by decide, by decide, by decide, trivial, by decide, fun _ h => by cases h⟩, by decide, by decide, (fun y hy => by cases hy), fun _ _ y hy => by cases hy⟩
 ·have hm := List.mem_of_getElem? hj
  have hx := inVs_get (inV_apart hv).2.2.1 x hm
  have ho := h3 x hm
  match d, ho with
  | e + 1, ho =>
   obtain ⟨q1, q2, q3, _⟩ := okV_inb ho
   exact ⟨hx, q1, q2, inVs_get (inV_apart hx).2.2.1, fun e' he => by
    injection he with he
    rw [← he]
    exact q3⟩
theorem Get_none {v : GVal} (hv : inV v) (h4 : v.kind = 4 → v.names.length = v.items.length) {nm : Str} {kind : Int} (hn : nm ∉ v.names) : text_Get (v, (nm, kind)) = some (.mk 0 0 [] [] [], 8) := by
 obtain ⟨x, f, h1, h2⟩ := Get_is hv h4 nm kind
 rcases h2 with ⟨rfl, rfl, _⟩ | ⟨_, _, j, hj, _⟩
 ·exact h1
 ·exact absurd (List.mem_of_getElem? hj) hn
theorem Get_of {v y : GVal} (hv : inV v) (k : v.kind = 4) (hl : v.names.length = v.items.length) (ho : okN v.names = true) {nm : Str} (j : Nat) (hj : v.names[j]? = some nm) (hy : v.items[j]? = some y) :
  text_Get (v, (nm, y.kind)) = some (y, 0) := by
 obtain ⟨x, f, h1, h2⟩ := Get_is hv (fun _ => hl) nm y.kind
 rcases h2 with ⟨_, _, h⟩ | ⟨rfl, _, j', hj', hx, _⟩
 ·exact absurd rfl (h k ho j y hj hy)
 ·have := okNs_inj ho j j' nm hj hj'
  subst this
  rw [hy] at hx
  injection hx with hx
  rw [h1, hx]
/-! reading -/
noncomputable def rdL (x : GVal) : Str × Int := match text_Get (x, (sDigest, 2)), text_Get (x, (sSize, 1)) with
 | some g, some g1 => (g.1.s, g1.1.n)
 | _, _ => ([], 0)
theorem read_l8_at (c c1 : Bool × Str) (c2 : GVal) : ∀ (b a : List GVal) (r : List (Str × Int)), (a ++ b).length ≤ 5000 → r.length ≤ a.length → (∀ x ∈ b, (∃ g, text_Get (x, (sDigest, 2)) = some g) ∧ ∃ g, text_Get (x, (sSize, 1)) = some g) →
  zz42_l8 (((a.length : Int), (a ++ b, ((a ++ b).length : Int))), (c, (c1, (c2, r)))) = some (c, (c1, (c2, r ++ b.map rdL))) := by
 intro b
 induction b with
 | nil =>
  intro a r hl _ _
  rw [zz42_l8_eq]
  unfold zz42_l8F
  dsimp only
  rw [if_neg (by simp), re_is]
  simp
 | cons x b ih =>
  intro a r hl hr hx
  have hl2 : (a ++ x :: b).length = a.length + (b.length + 1) := by simp
  have hw : IntKind.wrap .i64 ((a.length : Int) + 1) = (a.length : Int) + 1 := wr64 (by omega)
  obtain ⟨⟨g, h1⟩, g1, h2⟩ := hx x (by simp)
  have ih := ih (a ++ [x]) (r ++ [(g.1.s, g1.1.n)]) (by simp at hl ⊢; omega) (by simp; omega) (fun y hy => hx y (by simp [hy]))
  rw [snoc_len, ← mid_snoc] at ih
  have e : rdL x = (g.1.s, g1.1.n) := by unfold rdL; rw [h1, h2]
  rw [zz42_l8_eq]
  unfold zz42_l8F
  dsimp only
  rw [Int.toNat_natCast, elt_mid .val, re_is, re_is, if_pos (by rw [decide_eq_true_eq]; omega), if_pos (by omega), if_pos (by omega), h1, sb, h2, sb, if_pos (by constructor <;> (simp; omega)), hw, ih]
  simp [e]
theorem read_l17_at (c c1 : Bool × Str) (c2 : List (Str × Int)) : ∀ (b a : List GVal) (r : List Str), (a ++ b).length ≤ 5000 → r.length ≤ a.length →
  zz42_l17 (((a.length : Int), (a ++ b, ((a ++ b).length : Int))), (c, (c1, (c2, r)))) = some (c1, (c, (c2, r ++ b.map GVal.s))) := by
 intro b
 induction b with
 | nil =>
  intro a r hl _
  rw [zz42_l17_eq]
  unfold zz42_l17F
  dsimp only
  rw [if_neg (by simp)]
  simp
 | cons x b ih =>
  intro a r hl hr
  have hl2 : (a ++ x :: b).length = a.length + (b.length + 1) := by simp
  have hw : IntKind.wrap .i64 ((a.length : Int) + 1) = (a.length : Int) + 1 := wr64 (by omega)
  have ih := ih (a ++ [x]) (r ++ [x.s]) (by simp at hl ⊢; omega) (by simp; omega)
  rw [snoc_len, ← mid_snoc] at ih
  rw [zz42_l17_eq]
  unfold zz42_l17F
  dsimp only
  rw [Int.toNat_natCast, elt_mid .val, if_pos (by rw [decide_eq_true_eq]; omega), if_pos (by omega), if_pos (by omega), if_pos (by constructor <;> (simp; omega)), hw, ih]
  simp
abbrev sKind : Str := [107, 105, 110, 100]
abbrev sConfig : Str := [99, 111, 110, 102, 105, 103]
abbrev sLayers : Str := [108, 97, 121, 101, 114, 115]
abbrev sKids : Str := [107, 105, 100, 115]
abbrev sIndex : Str := [105, 110, 100, 101, 120]
theorem read_is {v : GVal} {g g1 g2 g3 : GVal × Int} (h0 : text_Get (v, (sKind, 2)) = some g) (h1 : text_Get (v, (sConfig, 2)) = some g1) (h2 : text_Get (v, (sLayers, 3)) = some g2) (h3 : text_Get (v, (sKids, 3)) = some g3)
  (l2 : g2.1.items.length ≤ 5000) (l3 : g3.1.items.length ≤ 5000) (hl : ∀ x ∈ g2.1.items, (∃ g, text_Get (x, (sDigest, 2)) = some g) ∧ ∃ g, text_Get (x, (sSize, 1)) = some g) :
  zz42 v = some (g.1.s == sIndex, (g1.1.s, (g2.1.items.map rdL, g3.1.items.map GVal.s))) := by
 have q1 := read_l8_at (g.1.s == sIndex, g1.1.s) (false, []) g3.1 g2.1.items [] [] (by simpa using l2) (by simp) hl
 have q1 : zz42_l8 (((0 : Int), (g2.1.items, (g2.1.items.length : Int))), _) = _ := q1
 have q2 := read_l17_at (g.1.s == sIndex, g1.1.s) (false, []) (g2.1.items.map rdL) g3.1.items [] [] (by simpa using l3) (by simp)
 have q2 : zz42_l17 (((0 : Int), (g3.1.items, (g3.1.items.length : Int))), _) = _ := q2
 unfold zz42
 rw [re_is, h0, sb, h1, sb, h2, sb, h3, sb, re_is, q1, sb]
 dsimp only
 rw [List.nil_append, q2, sb]
 rfl
theorem read_told {v : GVal} (hv : inV v) (h : okV 6 v = true) : ∃ m, zz42 v = some m ∧ MB m := by
 obtain ⟨x0, f0, a0, b0, c0, _⟩ := Get_inb hv h sKind 2
 obtain ⟨x1, f1, a1, b1, c1, _⟩ := Get_inb hv h sConfig 2
 obtain ⟨x2, f2, a2, b2, _, d2, e2, o2⟩ := Get_inb hv h sLayers 3
 obtain ⟨x3, f3, a3, b3, _, d3, e3, o3⟩ := Get_inb hv h sKids 3
 have hg : ∀ x ∈ x2.items, ∃ g f g1 f1, text_Get (x, (sDigest, 2)) = some (g, f) ∧ text_Get (x, (sSize, 1)) = some (g1, f1) ∧ g.s.length ≤ 200 ∧ inV g1 := fun x hx => by
  obtain ⟨g, f, p1, _, p2, _⟩ := Get_inb (d := 3) (e2 x hx) (o2 4 rfl x hx) sDigest 2
  obtain ⟨g1, f1, q1, q2, _⟩ := Get_inb (d := 3) (e2 x hx) (o2 4 rfl x hx) sSize 1
  exact ⟨g, f, g1, f1, p1, q1, p2, q2⟩
 refine ⟨_, read_is a0 a1 a2 a3 (by show x2.items.length ≤ _; omega) (by show x3.items.length ≤ _; omega) (fun x hx => ?_), ?_, ?_, fun l hl => ?_, ?_, fun k hk => ?_⟩
 ·obtain ⟨g, f, g1, f1, p1, p2, _⟩ := hg x hx
  exact ⟨⟨_, p1⟩, _, p2⟩
 ·show x1.s.length ≤ _
  omega
 ·show (x2.items.map rdL).length ≤ _
  rw [List.length_map]
  omega
 ·obtain ⟨x, hx, rfl⟩ := List.mem_map.1 hl
  obtain ⟨g, f, g1, f1, p1, p2, p3, p4⟩ := hg x hx
  have e : rdL x = (g.s, g1.n) := by unfold rdL; rw [p1, p2]
  rw [e]
  exact ⟨by show g.s.length ≤ _; omega, inV_n p4⟩
 ·show (x3.items.map GVal.s).length ≤ _
  rw [List.length_map]
  omega
 ·obtain ⟨x, hx, rfl⟩ := List.mem_map.1 hk
  have := (okV_inb (d := 3) (o3 4 rfl x hx)).1
  omega
theorem rdL_layer {l : Str × Int} (h : l.1.length ≤ 5000) (h2 : -9223372036854775808 ≤ l.2 ∧ l.2 ≤ 9223372036854775807) : text_Get (layerV l, (sDigest, 2)) = some (wordV l.1, 0) ∧ text_Get (layerV l, (sSize, 1)) = some (.mk 1 l.2 [] [] [], 0) ∧ rdL (layerV l) = l := by
 have hv := inV_layer h h2
 have g1 : text_Get (layerV l, (sDigest, 2)) = some (wordV l.1, 0) := Get_of (y := wordV l.1) hv rfl rfl names_layer 0 rfl rfl
 have g2 : text_Get (layerV l, (sSize, 1)) = some (.mk 1 l.2 [] [] [], 0) := Get_of (y := .mk 1 l.2 [] [] []) hv rfl rfl names_layer 1 rfl rfl
 refine ⟨g1, g2, ?_⟩
 unfold rdL
 rw [g1, g2]
 rfl
theorem readM_back {m : Man} (hm : MB m) (h : okM m = true) : zz42 (val m) = some m := by
 have hv := inV_val hm
 obtain ⟨b1, b2, b3, b4, b5⟩ := hm
 obtain ⟨ix, cf, ls, ks⟩ := m
 cases ix with
 | true =>
  obtain ⟨h1, h2, h3, h4, h5⟩ := okM_index h rfl
  have h4 : cf = [] := h4
  have h5 : ls = [] := h5
  subst h4 h5
  have e : val (true, ([], ([], ks))) = .mk 4 0 [] [.mk 3 0 [] (ks.map wordV) [], wordV sIndex] [sKids, sKind] := rfl
  rw [e] at hv ⊢
  have g0 : text_Get (GVal.mk 4 0 [] [.mk 3 0 [] (ks.map wordV) [], wordV sIndex] [sKids, sKind], (sKind, 2)) = some (wordV sIndex, 0) := Get_of (y := wordV sIndex) hv rfl rfl names_index 1 rfl rfl
  have g3 : text_Get (GVal.mk 4 0 [] [.mk 3 0 [] (ks.map wordV) [], wordV sIndex] [sKids, sKind], (sKids, 3)) = some (.mk 3 0 [] (ks.map wordV) [], 0) := Get_of (y := .mk 3 0 [] (ks.map wordV) []) hv rfl rfl names_index 0 rfl rfl
  have g1 : text_Get (GVal.mk 4 0 [] [.mk 3 0 [] (ks.map wordV) [], wordV sIndex] [sKids, sKind], (sConfig, 2)) = some (.mk 0 0 [] [] [], 8) := Get_none hv (fun _ => rfl) (show sConfig ∉ ([sKids, sKind] : List Str) by decide)
  have g2 : text_Get (GVal.mk 4 0 [] [.mk 3 0 [] (ks.map wordV) [], wordV sIndex] [sKids, sKind], (sLayers, 3)) = some (.mk 0 0 [] [] [], 8) := Get_none hv (fun _ => rfl) (show sLayers ∉ ([sKids, sKind] : List Str) by decide)
  rw [read_is g0 g1 g2 g3 (by decide) (by show (ks.map wordV).length ≤ _; rw [List.length_map]; exact b4) (fun x hx => by cases hx)]
  have e2 : (ks.map wordV).map GVal.s = ks := by
   rw [List.map_map]
   exact List.map_id'' (fun _ => rfl) ks
  show some (true, (([] : Str), (([] : List (Str × Int)), (ks.map wordV).map GVal.s))) = _
  rw [e2]
 | false =>
  obtain ⟨h1, h2, h3, h4⟩ := okM_image h rfl
  have h2 : ks = [] := h2
  subst h2
  have e : val (false, (cf, (ls, []))) = .mk 4 0 [] [wordV cf, wordV [105, 109, 97, 103, 101], .mk 3 0 [] (ls.map layerV) []] [sConfig, sKind, sLayers] := rfl
  rw [e] at hv ⊢
  have g0 : text_Get (GVal.mk 4 0 [] [wordV cf, wordV [105, 109, 97, 103, 101], .mk 3 0 [] (ls.map layerV) []] [sConfig, sKind, sLayers], (sKind, 2)) = some (wordV [105, 109, 97, 103, 101], 0) := Get_of (y := wordV [105, 109, 97, 103, 101]) hv rfl rfl names_image 1 rfl rfl
  have g1 : text_Get (GVal.mk 4 0 [] [wordV cf, wordV [105, 109, 97, 103, 101], .mk 3 0 [] (ls.map layerV) []] [sConfig, sKind, sLayers], (sConfig, 2)) = some (wordV cf, 0) := Get_of (y := wordV cf) hv rfl rfl names_image 0 rfl rfl
  have g2 : text_Get (GVal.mk 4 0 [] [wordV cf, wordV [105, 109, 97, 103, 101], .mk 3 0 [] (ls.map layerV) []] [sConfig, sKind, sLayers], (sLayers, 3)) = some (.mk 3 0 [] (ls.map layerV) [], 0) := Get_of (y := .mk 3 0 [] (ls.map layerV) []) hv rfl rfl names_image 2 rfl rfl
  have g3 : text_Get (GVal.mk 4 0 [] [wordV cf, wordV [105, 109, 97, 103, 101], .mk 3 0 [] (ls.map layerV) []] [sConfig, sKind, sLayers], (sKids, 3)) = some (.mk 0 0 [] [] [], 8) := Get_none hv (fun _ => rfl) (show sKids ∉ ([sConfig, sKind, sLayers] : List Str) by decide)
  rw [read_is g0 g1 g2 g3 (by show (ls.map layerV).length ≤ _; rw [List.length_map]; exact b2) (by decide) (fun x hx => by
   obtain ⟨l, hl, rfl⟩ := List.mem_map.1 hx
   obtain ⟨q1, q2, _⟩ := rdL_layer (b3 l hl).1 (b3 l hl).2
   exact ⟨⟨_, q1⟩, _, q2⟩)]
  have e2 : (ls.map layerV).map rdL = ls := by
   rw [List.map_map]
   have : ∀ l ∈ ls, (rdL ∘ layerV) l = id l := fun l hl => (rdL_layer (b3 l hl).1 (b3 l hl).2).2.2
   rw [List.map_congr_left this, List.map_id]
  show some (false, (cf, ((ls.map layerV).map rdL, ([] : List Str)))) = _
  rw [e2]
theorem val_inj {m w : Man} (hm : MB m) (hw : MB w) (h : okM m = true) (g : okM w = true) (e : txt (val m) = txt (val w)) : m = w := by
 have h1 := txt_inj (okV_val h) (okV_val g) (txt_val_len h) e
 have h2 := readM_back hm h
 have h3 := readM_back hw g
 rw [h1, h3] at h2
 injection h2 with h2
 exact h2.symm
theorem zz31_is (s : Str) : ∃ r, zz31 s = some r ∧ ((r.2 = 0 ∧ MB r.1 ∧ okM r.1 = true ∧ txt (val r.1) = s) ∨
  ((∀ m, MB m → okM m = true → txt (val m) ≠ s) ∧ r.1 = (false, ([], ([], []))) ∧ ((s.length > 4096 ∧ r.2 = 2) ∨ (s.length ≤ 4096 ∧ (∀ v, ¬ isTxt s v) ∧ r.2 = 6) ∨ (s.length ≤ 4096 ∧ (∃ v, isTxt s v) ∧ r.2 = 8)))) := by
 obtain ⟨p, h1, h2⟩ := zz82_is (s := s)
 unfold zz31
 rw [h1, sb]
 by_cases hl : s.length > 4096
 ·rw [if_pos hl] at h2
  subst h2
  rw [if_pos (by rfl)]
  refine ⟨_, rfl, .inr ⟨fun m hm ho e => ?_, rfl, .inl ⟨hl, rfl⟩⟩⟩
  have := txt_val_len ho
  rw [e] at this
  omega
 ·rw [if_neg hl] at h2
  rcases h2 with ⟨q1, q2, q3⟩ | ⟨q1, rfl⟩
  ·obtain ⟨m, p1, p2⟩ := read_told q2 q1.1
   have hno : ∀ w, MB w → okM w = true → txt (val w) = s → w = m := fun w hw ho e => by
    have e2 := txt_inj (okV_val ho) q1.1 (txt_val_len ho) (e.trans q1.2.symm)
    have e3 := readM_back hw ho
    rw [e2, p1] at e3
    injection e3 with e3
    exact e3.symm
   rw [if_neg (by rw [q3]; decide), re_is, p1, sb, zz32_is p2, sb]
   cases ho : okM m with
   | false =>
    rw [if_neg (show ¬ (false = true) by decide), if_pos (by rfl)]
    refine ⟨_, rfl, .inr ⟨fun w hw hk e => ?_, rfl, .inr (.inr ⟨by omega, ⟨_, q1⟩, rfl⟩)⟩⟩
    rw [hno w hw hk e, ho] at hk
    cases hk
   | true =>
    rw [if_pos rfl, if_neg (by simp)]
    by_cases e : txt (val m) = s
    ·rw [if_neg (by simp [e])]
     exact ⟨_, rfl, .inl ⟨rfl, p2, ho, e⟩⟩
    ·rw [if_pos (by simpa using e)]
     refine ⟨_, rfl, .inr ⟨fun w hw hk e2 => ?_, rfl, .inr (.inr ⟨by omega, ⟨_, q1⟩, rfl⟩)⟩⟩
     rw [hno w hw hk e2] at e2
     exact e e2
  ·rw [if_pos (by rfl)]
   refine ⟨_, rfl, .inr ⟨fun w hw hk e => q1 (val w) ⟨okV_val hk, e⟩, rfl, .inr (.inl ⟨by omega, q1, rfl⟩)⟩⟩
theorem Parse_back {m : Man} (hm : MB m) (h : okM m = true) : zz31 (txt (val m)) = some (m, 0) := by
 obtain ⟨r, h1, h2⟩ := zz31_is (txt (val m))
 rcases h2 with ⟨q1, q2, q3, q4⟩ | ⟨q, _⟩
 ·have := val_inj q2 hm q3 h q4
  obtain ⟨a, b⟩ := r
  have q1 : b = 0 := q1
  have this : a = m := this
  rw [h1, q1, this]
 ·exact absurd rfl (q m hm h)
/-! what is the same -/
end Go.Plain
/-
 The plain laws of layer 5: 'ManifestBack', 'ManifestApart'.
-/
namespace Go.Plain
open Go.AM
end Go.Plain
/-
 The plain law of layer 5: 'ManifestParses'.
-/
namespace Go.Plain
open Go.AM
theorem get_l3_at {v : GVal} (hn : v.names.length ≤ v.items.length) (hl : v.names.length ≤ 9223372036854775807) (nm : Str) (c : GVal) : ∀ (b a : List Str), v.names = a ++ b →
  ∃ r, zz92_l3 (((a.length : Int), (nm, (v.names, (v.names.length : Int)))), (c, v)) = some r ∧ ((nm ∉ b ∧ r = .inr c) ∨ ∃ (j : Nat) (x : GVal), v.names[j]? = some nm ∧ v.items[j]? = some x ∧ r = .inl x) := by
 intro b
 induction b with
 | nil =>
  intro a e
  rw [List.append_nil] at e
  rw [zz92_l3_eq]
  unfold zz92_l3F
  dsimp only
  rw [if_neg (by rw [e]; simp), re_is]
  exact ⟨_, rfl, .inl ⟨by simp, rfl⟩⟩
 | cons x b ih =>
  intro a e
  have hl2 : v.names.length = a.length + (b.length + 1) := by rw [e]; simp
  have hw : IntKind.wrap .i64 ((a.length : Int) + 1) = (a.length : Int) + 1 := wr64 (by omega)
  have he : elt .str v.names a.length = x := by rw [e]; exact elt_mid .str a x b
  have hj : v.names[a.length]? = some x := by rw [e]; simp
  have hi : a.length < v.items.length := by omega
  obtain ⟨r, q1, q2⟩ := ih (a ++ [x]) (by rw [e]; simp)
  rw [snoc_len] at q1
  rw [zz92_l3_eq]
  unfold zz92_l3F
  dsimp only
  rw [Int.toNat_natCast, he, if_pos (by rw [decide_eq_true_eq]; omega), if_pos (by omega), if_pos (by omega)]
  by_cases h : x = nm
  ·rw [if_pos (beq_iff_eq.2 h), if_pos (by rw [decide_eq_true_eq]; omega), if_pos (by omega), if_pos (by omega), re_is, elt_val hi]
   exact ⟨_, rfl, .inr ⟨a.length, v.items[a.length], by rw [hj, h], by rw [List.getElem?_eq_getElem hi], rfl⟩⟩
  ·rw [if_neg (by simpa using h), hw, re_is, re_is, q1]
   refine ⟨r, rfl, ?_⟩
   rcases q2 with ⟨q2, q3⟩ | q2
   ·exact .inl ⟨fun hm => by
     rcases List.mem_cons.1 hm with g | g
     ·exact h g.symm
     ·exact q2 g, q3⟩
   ·exact .inr q2
theorem get_is {v : GVal} (hn : v.names.length ≤ v.items.length) (hl : v.names.length ≤ 9223372036854775807) (nm : Str) : ∃ x, zz92 (v, nm) = some x ∧
  ((nm ∉ v.names ∧ x = .mk 0 0 [] [] []) ∨ ∃ j : Nat, v.names[j]? = some nm ∧ v.items[j]? = some x) := by
 obtain ⟨r, h1, h2⟩ := get_l3_at hn hl nm (.mk 0 0 [] [] []) v.names [] rfl
 have h1 : zz92_l3 (((0 : Int), (nm, (v.names, (v.names.length : Int)))), ((GVal.mk (0 : Int) (0 : Int) [] [] []), v)) = _ := h1
 unfold zz92
 dsimp only
 rw [re_is, h1, sb]
 rcases h2 with ⟨q, rfl⟩ | ⟨j, x, q1, q2, rfl⟩
 ·exact ⟨_, rfl, .inl ⟨q, rfl⟩⟩
 ·exact ⟨x, by rw [Sum.elim_inl, re_is], .inr ⟨j, q1, q2⟩⟩
theorem okV_names {d : Nat} {v : GVal} (h : okV (d + 1) v = true) : v.names.length ≤ v.items.length := by
 obtain ⟨h1, h2⟩ := okV_apart h
 rcases h2 with ⟨_, _, n, _⟩ | ⟨_, _, n, _⟩ | ⟨_, n, _⟩ | ⟨_, _, n, _⟩
 ·rw [n]; simp
 ·rw [n]; simp
 ·rw [n]; simp
 ·omega
theorem get_inb {d : Nat} {v : GVal} (hv : inV v) (h : okV (d + 1) v = true) (nm : Str) : ∃ x, zz92 (v, nm) = some x ∧ inV x ∧ x.s.length ≤ 200 ∧ x.items.length ≤ 16 ∧
  (∀ y ∈ x.items, inV y) ∧ (∀ e, d = e + 1 → ∀ y ∈ x.items, okV e y = true) := by
 obtain ⟨_, _, h3, h4⟩ := okV_inb h
 obtain ⟨x, h1, h2⟩ := get_is (okV_names h) (inV_apart hv).2.2.2 nm
 refine ⟨x, h1, ?_⟩
 rcases h2 with ⟨_, rfl⟩ | ⟨j, _, hj⟩
 ·exact ⟨⟨by decide, by decide, by decide, by decide, trivial, by decide, fun _ h => by cases h⟩, by decide, by decide, (fun y hy => by cases hy), fun _ _ y hy => by cases hy⟩
 ·have hm := List.mem_of_getElem? hj
  have hx := inVs_get (inV_apart hv).2.2.1 x hm
  have ho := h3 x hm
  match d, ho with
  | e + 1, ho =>
   obtain ⟨q1, q2, q3, _⟩ := okV_inb ho
   exact ⟨hx, q1, q2, inVs_get (inV_apart hx).2.2.1, fun e' he => by
    injection he with he
    rw [← he]
    exact q3⟩
theorem get_of {v y : GVal} (hv : inV v) (hl : v.names.length = v.items.length) (ho : okN v.names = true) {nm : Str} (j : Nat) (hj : v.names[j]? = some nm) (hy : v.items[j]? = some y) : zz92 (v, nm) = some y := by
 obtain ⟨x, h1, h2⟩ := get_is (by omega) (inV_apart hv).2.2.2 nm
 rcases h2 with ⟨h, _⟩ | ⟨j', hj', hx⟩
 ·exact absurd (List.mem_of_getElem? hj) h
 ·have := okNs_inj ho j j' nm hj hj'
  subst this
  rw [hy] at hx
  injection hx with hx
  rw [h1, hx]
theorem get_none {v : GVal} (hv : inV v) (hl : v.names.length = v.items.length) {nm : Str} (hn : nm ∉ v.names) : zz92 (v, nm) = some (.mk 0 0 [] [] []) := by
 obtain ⟨x, h1, h2⟩ := get_is (by omega) (inV_apart hv).2.2.2 nm
 rcases h2 with ⟨_, rfl⟩ | ⟨j', hj', _⟩
 ·exact h1
 ·exact absurd (List.mem_of_getElem? hj') hn
noncomputable def rdR (x : GVal) : Str × Int := match zz92 (x, sDigest), zz92 (x, sSize) with
 | some g, some g1 => (g.s, g1.n)
 | _, _ => ([], 0)
theorem refP_l11_at (s : Str) (c c1 : Bool × Str) (c2 : GVal) : ∀ (b a : List GVal) (r : List (Str × Int)), (a ++ b).length ≤ 5000 → r.length ≤ a.length → (∀ x ∈ b, (∃ g, zz92 (x, sDigest) = some g) ∧ ∃ g, zz92 (x, sSize) = some g) →
  zz64_l11 (((a.length : Int), (a ++ b, (s, ((a ++ b).length : Int)))), (c, (c1, (c2, r)))) = some (s, (c, (c1, (c2, r ++ b.map rdR)))) := by
 intro b
 induction b with
 | nil =>
  intro a r hl _ _
  rw [zz64_l11_eq]
  unfold zz64_l11F
  dsimp only
  rw [if_neg (by simp), re_is]
  simp
 | cons x b ih =>
  intro a r hl hr hx
  have hl2 : (a ++ x :: b).length = a.length + (b.length + 1) := by simp
  have hw : IntKind.wrap .i64 ((a.length : Int) + 1) = (a.length : Int) + 1 := wr64 (by omega)
  obtain ⟨⟨g, h1⟩, g1, h2⟩ := hx x (by simp)
  have ih := ih (a ++ [x]) (r ++ [(g.s, g1.n)]) (by simp at hl ⊢; omega) (by simp; omega) (fun y hy => hx y (by simp [hy]))
  rw [snoc_len, ← mid_snoc] at ih
  have e : rdR x = (g.s, g1.n) := by unfold rdR; rw [h1, h2]
  rw [zz64_l11_eq]
  unfold zz64_l11F
  dsimp only
  rw [Int.toNat_natCast, elt_mid .val, re_is, re_is, if_pos (by rw [decide_eq_true_eq]; omega), if_pos (by omega), if_pos (by omega), h1, sb, h2, sb, if_pos (by constructor <;> (simp; omega)), hw, ih]
  simp [e]
theorem refP_l18_at (s : Str) (c c1 : Bool × Str) (c2 : List (Str × Int)) : ∀ (b a : List GVal) (r : List Str), (a ++ b).length ≤ 5000 → r.length ≤ a.length →
  zz64_l18 (((a.length : Int), (a ++ b, (s, ((a ++ b).length : Int)))), (c, (c1, (c2, r)))) = some (s, (c1, (c, (c2, r ++ b.map GVal.s)))) := by
 intro b
 induction b with
 | nil =>
  intro a r hl _
  rw [zz64_l18_eq]
  unfold zz64_l18F
  dsimp only
  rw [if_neg (by simp)]
  simp
 | cons x b ih =>
  intro a r hl hr
  have hl2 : (a ++ x :: b).length = a.length + (b.length + 1) := by simp
  have hw : IntKind.wrap .i64 ((a.length : Int) + 1) = (a.length : Int) + 1 := wr64 (by omega)
  have ih := ih (a ++ [x]) (r ++ [x.s]) (by simp at hl ⊢; omega) (by simp; omega)
  rw [snoc_len, ← mid_snoc] at ih
  rw [zz64_l18_eq]
  unfold zz64_l18F
  dsimp only
  rw [Int.toNat_natCast, elt_mid .val, if_pos (by rw [decide_eq_true_eq]; omega), if_pos (by omega), if_pos (by omega), if_pos (by constructor <;> (simp; omega)), hw, ih]
  simp
def RdR (v : GVal) (m : Man) : Prop := ∃ g g1 g2 g3, zz92 (v, sKind) = some g ∧ zz92 (v, sConfig) = some g1 ∧ zz92 (v, sLayers) = some g2 ∧ zz92 (v, sKids) = some g3 ∧
 g2.items.length ≤ 5000 ∧ g3.items.length ≤ 5000 ∧ (∀ x ∈ g2.items, (∃ g, zz92 (x, sDigest) = some g) ∧ ∃ g, zz92 (x, sSize) = some g) ∧ m = (g.s == sIndex, (g1.s, (g2.items.map rdR, g3.items.map GVal.s)))
theorem RdR_det {v : GVal} {m w : Man} (h : RdR v m) (g : RdR v w) : m = w := by
 obtain ⟨a0, a1, a2, a3, p0, p1, p2, p3, _, _, _, e⟩ := h
 obtain ⟨b0, b1, b2, b3, q0, q1, q2, q3, _, _, _, f⟩ := g
 rw [p0] at q0; rw [p1] at q1; rw [p2] at q2; rw [p3] at q3
 injection q0 with q0; injection q1 with q1; injection q2 with q2; injection q3 with q3
 rw [e, f, q0, q1, q2, q3]
theorem readR_told {v : GVal} (hv : inV v) (h : okV 6 v = true) : ∃ m, RdR v m ∧ MB m := by
 obtain ⟨x0, a0, b0, c0, _⟩ := get_inb hv h sKind
 obtain ⟨x1, a1, b1, c1, _⟩ := get_inb hv h sConfig
 obtain ⟨x2, a2, b2, _, d2, e2, o2⟩ := get_inb hv h sLayers
 obtain ⟨x3, a3, b3, _, d3, e3, o3⟩ := get_inb hv h sKids
 have hg : ∀ x ∈ x2.items, ∃ g g1, zz92 (x, sDigest) = some g ∧ zz92 (x, sSize) = some g1 ∧ g.s.length ≤ 200 ∧ inV g1 := fun x hx => by
  obtain ⟨g, p1, _, p2, _⟩ := get_inb (d := 3) (e2 x hx) (o2 4 rfl x hx) sDigest
  obtain ⟨g1, q1, q2, _⟩ := get_inb (d := 3) (e2 x hx) (o2 4 rfl x hx) sSize
  exact ⟨g, g1, p1, q1, p2, q2⟩
 refine ⟨_, ⟨x0, x1, x2, x3, a0, a1, a2, a3, by omega, by omega, fun x hx => ?_, rfl⟩, ?_, ?_, fun l hl => ?_, ?_, fun k hk => ?_⟩
 ·obtain ⟨g, g1, p1, p2, _⟩ := hg x hx
  exact ⟨⟨_, p1⟩, _, p2⟩
 ·show x1.s.length ≤ _
  omega
 ·show (x2.items.map rdR).length ≤ _
  rw [List.length_map]
  omega
 ·obtain ⟨x, hx, rfl⟩ := List.mem_map.1 hl
  obtain ⟨g, g1, p1, p2, p3, p4⟩ := hg x hx
  have e : rdR x = (g.s, g1.n) := by unfold rdR; rw [p1, p2]
  rw [e]
  exact ⟨by show g.s.length ≤ _; omega, inV_n p4⟩
 ·show (x3.items.map GVal.s).length ≤ _
  rw [List.length_map]
  omega
 ·obtain ⟨x, hx, rfl⟩ := List.mem_map.1 hk
  have := (okV_inb (d := 3) (o3 4 rfl x hx)).1
  omega
theorem rdR_layer {l : Str × Int} (h : l.1.length ≤ 5000) (h2 : -9223372036854775808 ≤ l.2 ∧ l.2 ≤ 9223372036854775807) : zz92 (layerV l, sDigest) = some (wordV l.1) ∧ zz92 (layerV l, sSize) = some (.mk 1 l.2 [] [] []) ∧ rdR (layerV l) = l := by
 have hv := inV_layer h h2
 have g1 : zz92 (layerV l, sDigest) = some (wordV l.1) := get_of hv rfl names_layer 0 rfl rfl
 have g2 : zz92 (layerV l, sSize) = some (.mk 1 l.2 [] [] []) := get_of hv rfl names_layer 1 rfl rfl
 refine ⟨g1, g2, ?_⟩
 unfold rdR
 rw [g1, g2]
 rfl
theorem readR_back {m : Man} (hm : MB m) (h : okM m = true) : RdR (val m) m := by
 have hv := inV_val hm
 obtain ⟨b1, b2, b3, b4, b5⟩ := hm
 obtain ⟨ix, cf, ls, ks⟩ := m
 cases ix with
 | true =>
  obtain ⟨h1, h2, h3, h4, h5⟩ := okM_index h rfl
  have h4 : cf = [] := h4
  have h5 : ls = [] := h5
  subst h4 h5
  have e : val (true, ([], ([], ks))) = .mk 4 0 [] [.mk 3 0 [] (ks.map wordV) [], wordV sIndex] [sKids, sKind] := rfl
  rw [e] at hv ⊢
  refine ⟨wordV sIndex, .mk 0 0 [] [] [], .mk 0 0 [] [] [], .mk 3 0 [] (ks.map wordV) [], get_of hv rfl names_index 1 rfl rfl, get_none hv rfl (show sConfig ∉ ([sKids, sKind] : List Str) by decide), get_none hv rfl (show sLayers ∉ ([sKids, sKind] : List Str) by decide), get_of hv rfl names_index 0 rfl rfl,
   by decide, by show (ks.map wordV).length ≤ _; rw [List.length_map]; exact b4, (fun x hx => by cases hx), ?_⟩
  have e2 : (ks.map wordV).map GVal.s = ks := by
   rw [List.map_map]
   exact List.map_id'' (fun _ => rfl) ks
  show _ = (true, (([] : Str), (([] : List (Str × Int)), (ks.map wordV).map GVal.s)))
  rw [e2]
 | false =>
  obtain ⟨h1, h2, h3, h4⟩ := okM_image h rfl
  have h2 : ks = [] := h2
  subst h2
  have e : val (false, (cf, (ls, []))) = .mk 4 0 [] [wordV cf, wordV [105, 109, 97, 103, 101], .mk 3 0 [] (ls.map layerV) []] [sConfig, sKind, sLayers] := rfl
  rw [e] at hv ⊢
  refine ⟨wordV [105, 109, 97, 103, 101], wordV cf, .mk 3 0 [] (ls.map layerV) [], .mk 0 0 [] [] [], get_of hv rfl names_image 1 rfl rfl, get_of hv rfl names_image 0 rfl rfl, get_of hv rfl names_image 2 rfl rfl, get_none hv rfl (show sKids ∉ ([sConfig, sKind, sLayers] : List Str) by decide),
   by show (ls.map layerV).length ≤ _; rw [List.length_map]; exact b2, by decide, (fun x hx => by
    obtain ⟨l, hl, rfl⟩ := List.mem_map.1 hx
    obtain ⟨q1, q2, _⟩ := rdR_layer (b3 l hl).1 (b3 l hl).2
    exact ⟨⟨_, q1⟩, _, q2⟩), ?_⟩
  have e2 : (ls.map layerV).map rdR = ls := by
   rw [List.map_map]
   have : ∀ l ∈ ls, (rdR ∘ layerV) l = id l := fun l hl => (rdR_layer (b3 l hl).1 (b3 l hl).2).2.2
   rw [List.map_congr_left this, List.map_id]
  show _ = (false, (cf, ((ls.map layerV).map rdR, ([] : List Str))))
  rw [e2]
theorem zz64_is (s : Str) : ∃ r, zz64 s = some r ∧ ((r.2 = 0 ∧ MB r.1 ∧ okM r.1 = true ∧ txt (val r.1) = s) ∨
  ((∀ m, MB m → okM m = true → txt (val m) ≠ s) ∧ r.1 = (false, ([], ([], []))) ∧ ((s.length > 4096 ∧ r.2 = 2) ∨ (s.length ≤ 4096 ∧ (∀ v, ¬ isTxt s v) ∧ r.2 = 6) ∨ (s.length ≤ 4096 ∧ (∃ v, isTxt s v) ∧ r.2 = 8)))) := by
 unfold zz64
 by_cases hl : s.length > 4096
 ·rw [if_pos (by rw [decide_eq_true_eq]; omega)]
  refine ⟨_, rfl, .inr ⟨fun m hm ho e => ?_, rfl, .inl ⟨hl, rfl⟩⟩⟩
  have := txt_val_len ho
  rw [e] at this
  omega
 ·obtain ⟨p, h1, h2⟩ := zz60_is (s := s) (by omega)
  rw [if_neg (by rw [decide_eq_true_eq]; omega), h1, sb]
  rcases h2 with ⟨q1, q2, q3⟩ | ⟨q1, q3⟩
  ·obtain ⟨m, p1, p2⟩ := readR_told q2 q1.1
   have hno : ∀ w, MB w → okM w = true → txt (val w) = s → w = m := fun w hw ho e => by
    have e2 := txt_inj (okV_val ho) q1.1 (txt_val_len ho) (e.trans q1.2.symm)
    have e3 := readR_back hw ho
    rw [e2] at e3
    exact RdR_det e3 p1
   obtain ⟨g, g1, g2, g3, a0, a1, a2, a3, l2, l3, hx, rfl⟩ := p1
   have r1 := refP_l11_at s (g.s == sIndex, g1.s) (false, []) p.1 g2.items [] [] (by simpa using l2) (by simp) hx
   have r1 : zz64_l11 (((0 : Int), (g2.items, (s, (g2.items.length : Int)))), _) = _ := r1
   have r2 := refP_l18_at s (g.s == sIndex, g1.s) (false, []) (g2.items.map rdR) g3.items [] [] (by simpa using l3) (by simp)
   have r2 : zz64_l18 (((0 : Int), (g3.items, (s, (g3.items.length : Int)))), _) = _ := r2
   rw [if_neg (by rw [q3]; decide), re_is, a0, sb, a1, sb, a2, sb, r1, sb]
   dsimp only
   rw [re_is, a3, sb, List.nil_append, r2, sb]
   dsimp only
   rw [List.nil_append, zz65_is p2, sb]
   cases ho : okM (g.s == sIndex, (g1.s, (g2.items.map rdR, g3.items.map GVal.s))) with
   | false =>
    rw [if_pos (by rfl)]
    refine ⟨_, rfl, .inr ⟨fun w hw hk e => ?_, rfl, .inr (.inr ⟨by omega, ⟨_, q1⟩, rfl⟩)⟩⟩
    rw [hno w hw hk e, ho] at hk
    cases hk
   | true =>
    rw [if_neg (by decide), zz80_is p2 ho, sb]
    by_cases e : txt (val (g.s == sIndex, (g1.s, (g2.items.map rdR, g3.items.map GVal.s)))) = s
    ·rw [if_neg (by simp [e])]
     exact ⟨_, rfl, .inl ⟨rfl, p2, ho, e⟩⟩
    ·rw [if_pos (by simpa using e)]
     refine ⟨_, rfl, .inr ⟨fun w hw hk e2 => ?_, rfl, .inr (.inr ⟨by omega, ⟨_, q1⟩, rfl⟩)⟩⟩
     rw [hno w hw hk e2] at e2
     exact e e2
  ·rw [if_pos (by rw [q3]; rfl)]
   refine ⟨_, rfl, .inr ⟨fun w hw hk e => q1 (val w) ⟨okV_val hk, e⟩, rfl, .inr (.inl ⟨by omega, q1, rfl⟩)⟩⟩
end Go.Plain
