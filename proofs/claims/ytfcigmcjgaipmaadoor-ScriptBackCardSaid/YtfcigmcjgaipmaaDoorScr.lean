/-
  20, plain, part A: what a line is; digits, hex digits, lines.
-/
import Derived.Test.YtfcigmcjgaipmaaDoorS7P
import Derived.Test.YtfcigmcjgaipmaaDoorFacts
import Derived.Lib.ItoaMem
import Derived.Lib.ItoaLen
import Derived.Laws.Bits64
import Derived.Test.YtfcigmcjgaipmaaDoorMani
import Derived.Test.YtfcigmcjgaipmaaDoorSBP
namespace Go.Plain
open Go.AM
set_option linter.unusedVariables false

abbrev Deed : Type := Int × (List Int × List Str)
abbrev PlanD : Type := Int × (Int × List Deed)
abbrev tDeed : Ty := .pair (.int .i64) (.pair (.sl (.int .i64)) (.sl .str))
theorem eltS_mid (t : Ty) (a : List t.den) (x : t.den) (b : List t.den) : elt t (a ++ x :: b) a.length = x := by
  unfold elt
  simp [List.getD_eq_getElem?_getD]
theorem midS {α : Type} (a : List α) (x : α) (b : List α) : a ++ x :: b = (a ++ [x]) ++ b := by simp
theorem snocS_len {α : Type} (a : List α) (x : α) : ((a ++ [x]).length : Int) = (a.length : Int) + 1 := by simp
/-- Is one of a row so? -/
theorem any_gen (t : Ty) (L : Int × (List t.den × Int) → Option (Int ⊕ Unit)) (f : t.den → Option Bool) (g : t.den → Bool)
    (hL : ∀ i s n, L (i, (s, n)) = if decide (i < n) then (if (0 : Int) ≤ i then (if i < (s.length : Int) then (f (elt t s i.toNat) >>= fun r => if r then some (.inl i) else L (IntKind.wrap .i64 (i + 1), (s, n))) else none) else none) else some (.inr ()))
    {s : List t.den} (hs : s.length ≤ 9223372036854775807) (hf : ∀ x ∈ s, f x = some (g x)) :
    ((L ((0 : Int), (s, (s.length : Int))) >>= fun r => Sum.elim (fun r1 => some r1) (fun _ => some (-1 : Int)) r) >>= fun a => some (decide (a ≥ (0 : Int)))) = some (s.any g) := by
  have key : ∀ (b a : List t.den), s = a ++ b → ∃ r, L ((a.length : Int), (s, (s.length : Int))) = some r ∧ ((b.any g = false ∧ r = .inr ()) ∨ (b.any g = true ∧ ∃ k, r = .inl k ∧ 0 ≤ k)) := by
    intro b
    induction b with
    | nil =>
      intro a e
      rw [List.append_nil] at e
      rw [hL, if_neg (by rw [e]; simp)]
      exact ⟨_, rfl, .inl ⟨rfl, rfl⟩⟩
    | cons x b ih =>
      intro a e
      have hl2 : s.length = a.length + (b.length + 1) := by rw [e]; simp
      have hw : IntKind.wrap .i64 ((a.length : Int) + 1) = (a.length : Int) + 1 := wr64 (by omega)
      have he : elt t s a.length = x := by rw [e]; exact eltS_mid t a x b
      obtain ⟨r, h1, h2⟩ := ih (a ++ [x]) (by rw [e]; simp)
      rw [snocS_len] at h1
      rw [hL, Int.toNat_natCast, he, if_pos (by rw [decide_eq_true_eq]; omega), if_pos (by omega), if_pos (by omega), hf x (by rw [e]; simp), sb, hw, List.any_cons]
      cases q : g x with
      | true => exact ⟨_, rfl, .inr ⟨rfl, _, rfl, by omega⟩⟩
      | false =>
        rw [if_neg (by decide), h1]
        exact ⟨r, rfl, h2⟩
  obtain ⟨r, h1, h2⟩ := key s [] rfl
  have h1 : L ((0 : Int), (s, (s.length : Int))) = some r := h1
  rw [h1, sb]
  rcases h2 with ⟨e, rfl⟩ | ⟨e, k, rfl, hk⟩
  · rw [e]; rfl
  · rw [e]
    show some (decide (k ≥ 0)) = _
    rw [decide_eq_true hk]

theorem digit_byte {m : Nat} (h : m < 10) : bytesStr [IntKind.wrap .u8 (IntKind.wrap .i64 (48 + (m : Int)))] = [UInt8.ofNat (48 + m)] := by
  have e1 : IntKind.wrap .i64 (48 + (m : Int)) = ((48 + m : Nat) : Int) := by rw [wr64 (by omega)]; omega
  have e2 : IntKind.wrap .u8 (((48 + m : Nat) : Int)) = ((48 + m : Nat) : Int) := by rw [IntKind.wrap_u8]; omega
  rw [e1, e2]
  rfl
theorem digits_dec : ∀ n : Nat, n ≤ 9223372036854775807 → script_digits (n : Int) = some (Lib.decDigits n) := by
  intro n
  induction n using Nat.strongRecOn with
  | _ n ih =>
    intro hn
    have hm : Int.tmod (n : Int) 10 = ((n % 10 : Nat) : Int) := by rw [Int.tmod_eq_emod_of_nonneg (by omega)]; omega
    have hd : Int.tdiv (n : Int) 10 = ((n / 10 : Nat) : Int) := by rw [Int.tdiv_eq_ediv_of_nonneg (by omega)]; omega
    have hw : IntKind.wrap .i64 ((n / 10 : Nat) : Int) = ((n / 10 : Nat) : Int) := wr64 (by omega)
    rw [script_digits_eq]
    unfold script_digitsF
    skip
    rw [hm, hd, hw, digit_byte (Nat.mod_lt _ (by omega)), Lib.decDigits]
    by_cases c : n < 10
    · rw [if_pos (by rw [decide_eq_true_eq]; omega), dif_pos c, Nat.mod_eq_of_lt c]
    · have hl : (Lib.decDigits (n / 10)).length ≤ 21 := by
        have := Lib.itoa_length_le ((n / 10 : Nat) : Int) (by omega) (by omega)
        rwa [Lib.itoa_nonneg] at this
      rw [if_neg (by rw [decide_eq_true_eq]; omega), dif_neg c, ih (n / 10) (by omega) (by omega), sb]
      rw [if_pos (by simp; omega)]
theorem digitsS_is {n : Int} (h0 : 0 ≤ n) (h1 : n ≤ 9223372036854775807) : script_digits n = some (Lib.itoa n) := by
  obtain ⟨k, rfl⟩ := Int.eq_ofNat_of_zero_le h0
  rw [Lib.itoa_nonneg]
  exact digits_dec k (by omega)

/-- A line. -/
def numS (l : List Int) : Str := l.flatMap fun n => (32 : UInt8) :: Lib.itoa n
def txtS (l : List Str) : Str := l.flatMap fun s => (32 : UInt8) :: 120 :: hexS s
def lineS (w : Str) (nums : List Int) (texts : List Str) : Str := w ++ (numS nums ++ txtS texts)
def okNum (n : Int) : Bool := decide (0 ≤ n) && decide (n ≤ 1099511627776)
theorem okNum_iff {n : Int} : okNum n = true ↔ 0 ≤ n ∧ n ≤ 1099511627776 := by simp [okNum]
theorem line_l3_is (nums : List Int) (texts : List Str) (hn : ∀ n ∈ nums, okNum n = true) (hl : nums.length ≤ 1000000) : ∀ (b a : List Int) (w : Str), nums = a ++ b → (w ++ numS b).length ≤ 1000000000 →
    script_line_l3 ((a.length : Int), (w, (nums, (texts, (nums.length : Int))))) = some (w ++ numS b, texts) := by
  intro b
  induction b with
  | nil =>
    intro a w e _
    rw [List.append_nil] at e
    rw [script_line_l3_eq]
    unfold script_line_l3F
    dsimp only
    rw [if_neg (by rw [e]; simp)]
    simp [numS]
  | cons x b ih =>
    intro a w e hw
    have hl2 : nums.length = a.length + (b.length + 1) := by rw [e]; simp
    have hwr : IntKind.wrap .i64 ((a.length : Int) + 1) = (a.length : Int) + 1 := wr64 (by omega)
    have he : elt (.int .i64) nums a.length = x := by rw [e]; exact eltS_mid (.int .i64) a x b
    have hx := okNum_iff.1 (hn x (by rw [e]; simp))
    have es : numS (x :: b) = ([32] ++ Lib.itoa x) ++ numS b := by simp [numS]
    rw [es] at hw ⊢
    have q := ih (a ++ [x]) (w ++ ([32] ++ Lib.itoa x)) (by rw [e]; simp) (by rw [List.append_assoc]; exact hw)
    rw [snocS_len] at q
    have hlen : (w ++ (([32] ++ Lib.itoa x) ++ numS b)).length = w.length + (1 + (Lib.itoa x).length + (numS b).length) := by simp; omega
    rw [script_line_l3_eq]
    unfold script_line_l3F
    dsimp only
    rw [Int.toNat_natCast, he, if_pos (by rw [decide_eq_true_eq]; omega), if_pos (by omega), if_pos (by omega), digitsS_is hx.1 (by omega), sb, if_pos (by simp; omega), if_pos (by simp; omega), hwr, q, List.append_assoc]
theorem line_l10_is (texts : List Str) (hl : texts.length ≤ 1000000) : ∀ (b a : List Str) (w : Str), texts = a ++ b → (w ++ txtS b).length ≤ 1000000000 →
    script_line_l10 ((a.length : Int), (w, (texts, (texts.length : Int)))) = some (w ++ txtS b) := by
  intro b
  induction b with
  | nil =>
    intro a w e _
    rw [List.append_nil] at e
    rw [script_line_l10_eq]
    unfold script_line_l10F
    dsimp only
    rw [if_neg (by rw [e]; simp)]
    simp [txtS]
  | cons x b ih =>
    intro a w e hw
    have hl2 : texts.length = a.length + (b.length + 1) := by rw [e]; simp
    have hwr : IntKind.wrap .i64 ((a.length : Int) + 1) = (a.length : Int) + 1 := wr64 (by omega)
    have he : elt .str texts a.length = x := by rw [e]; exact eltS_mid .str a x b
    have es : txtS (x :: b) = ([32, 120] ++ hexS x) ++ txtS b := by simp [txtS]
    rw [es] at hw ⊢
    have q := ih (a ++ [x]) (w ++ ([32, 120] ++ hexS x)) (by rw [e]; simp) (by rw [List.append_assoc]; exact hw)
    rw [snocS_len] at q
    have hlen : (w ++ (([32, 120] ++ hexS x) ++ txtS b)).length = w.length + (2 + (hexS x).length + (txtS b).length) := by simp; omega
    have hxl := hexS_len x
    have hh : lib_Hex x = some (hexS x) := if_pos (by omega)
    rw [script_line_l10_eq]
    unfold script_line_l10F
    dsimp only
    rw [Int.toNat_natCast, he, if_pos (by rw [decide_eq_true_eq]; omega), if_pos (by omega), if_pos (by omega), hh, sb, if_pos (by simp; omega), if_pos (by simp; omega), hwr, q, List.append_assoc]
theorem line_is {w : Str} {nums : List Int} {texts : List Str} (hn : ∀ n ∈ nums, okNum n = true) (h1 : nums.length ≤ 1000000) (h2 : texts.length ≤ 1000000) (hl : (lineS w nums texts).length ≤ 999999999) :
    script_line (w, (nums, texts)) = some (lineS w nums texts ++ [10]) := by
  have hl2 : (lineS w nums texts).length = w.length + ((numS nums).length + (txtS texts).length) := by simp [lineS]
  have q1 := line_l3_is nums texts hn h1 nums [] w rfl (by simp; omega)
  have q2 := line_l10_is texts h2 texts [] (w ++ numS nums) rfl (by simp; omega)
  have q1 : script_line_l3 ((0 : Int), (w, (nums, (texts, (nums.length : Int))))) = _ := q1
  have q2 : script_line_l10 ((0 : Int), (w ++ numS nums, (texts, (texts.length : Int)))) = _ := q2
  unfold script_line
  dsimp only
  rw [q1, sb]
  dsimp only
  rw [q2, sb, List.append_assoc]
  change (if ((lineS w nums texts).length + [(10 : UInt8)].length) ≤ 9223372036854775807 then some (lineS w nums texts ++ [10]) else none) = _
  rw [if_pos (by simp; omega)]

/-! the reference's hex digits -/
end Go.Plain

/-
  20, plain, part B: which worlds begin.
-/
namespace Go.Plain
open Go.AM
set_option linter.unusedVariables false

abbrev Z128 : Str := Lib.repeatL [0] 128
theorem Z128_len : Z128.length = 128 := by rw [Lib.repeatL_length]; rfl
abbrev Head1 : Str := (([108, 101, 100] ++ [1, 0, 0, 0, 0, 0]) ++ [0, 0, 0]) ++ Lib.repeatL [0] 116
set_option maxRecDepth 100000 in
theorem wide_one : octet_Wide (1, 6) = some ([1, 0, 0, 0, 0, 0], 0) := by
  have s0 : octet_Wide_l9 (((0 : Int), ((1 : Int), (6 : Int))), [0, 0, 0, 0, 0, 0]) = octet_Wide_l9 (((1 : Int), ((1 : Int), (6 : Int))), [1, 0, 0, 0, 0, 0]) := (octet_Wide_l9_eq _).trans rfl
  have s1 : octet_Wide_l9 (((1 : Int), ((1 : Int), (6 : Int))), [1, 0, 0, 0, 0, 0]) = octet_Wide_l9 (((2 : Int), ((1 : Int), (6 : Int))), [1, 0, 0, 0, 0, 0]) := (octet_Wide_l9_eq _).trans rfl
  have s2 : octet_Wide_l9 (((2 : Int), ((1 : Int), (6 : Int))), [1, 0, 0, 0, 0, 0]) = octet_Wide_l9 (((3 : Int), ((1 : Int), (6 : Int))), [1, 0, 0, 0, 0, 0]) := (octet_Wide_l9_eq _).trans rfl
  have s3 : octet_Wide_l9 (((3 : Int), ((1 : Int), (6 : Int))), [1, 0, 0, 0, 0, 0]) = octet_Wide_l9 (((4 : Int), ((1 : Int), (6 : Int))), [1, 0, 0, 0, 0, 0]) := (octet_Wide_l9_eq _).trans rfl
  have s4 : octet_Wide_l9 (((4 : Int), ((1 : Int), (6 : Int))), [1, 0, 0, 0, 0, 0]) = octet_Wide_l9 (((5 : Int), ((1 : Int), (6 : Int))), [1, 0, 0, 0, 0, 0]) := (octet_Wide_l9_eq _).trans rfl
  have s5 : octet_Wide_l9 (((5 : Int), ((1 : Int), (6 : Int))), [1, 0, 0, 0, 0, 0]) = octet_Wide_l9 (((6 : Int), ((1 : Int), (6 : Int))), [1, 0, 0, 0, 0, 0]) := (octet_Wide_l9_eq _).trans rfl
  have s6 : octet_Wide_l9 (((6 : Int), ((1 : Int), (6 : Int))), [1, 0, 0, 0, 0, 0]) = some [1, 0, 0, 0, 0, 0] := (octet_Wide_l9_eq _).trans rfl
  have s := s0.trans (s1.trans (s2.trans (s3.trans (s4.trans (s5.trans s6)))))
  have h : octet_Wide (1, 6) = (octet_Wide_l9 (((0 : Int), ((1 : Int), (6 : Int))), [0, 0, 0, 0, 0, 0]) >>= fun r => some (bytesStr r, 0)) := rfl
  rw [h, s]
  rfl
theorem wide_none : octet_Wide (0, 3) = some ([0, 0, 0], 0) := by
  have s0 : octet_Wide_l9 (((0 : Int), ((0 : Int), (3 : Int))), [0, 0, 0]) = octet_Wide_l9 (((1 : Int), ((0 : Int), (3 : Int))), [0, 0, 0]) := (octet_Wide_l9_eq _).trans rfl
  have s1 : octet_Wide_l9 (((1 : Int), ((0 : Int), (3 : Int))), [0, 0, 0]) = octet_Wide_l9 (((2 : Int), ((0 : Int), (3 : Int))), [0, 0, 0]) := (octet_Wide_l9_eq _).trans rfl
  have s2 : octet_Wide_l9 (((2 : Int), ((0 : Int), (3 : Int))), [0, 0, 0]) = octet_Wide_l9 (((3 : Int), ((0 : Int), (3 : Int))), [0, 0, 0]) := (octet_Wide_l9_eq _).trans rfl
  have s3 : octet_Wide_l9 (((3 : Int), ((0 : Int), (3 : Int))), [0, 0, 0]) = some [0, 0, 0] := (octet_Wide_l9_eq _).trans rfl
  have s := s0.trans (s1.trans (s2.trans s3))
  have h : octet_Wide (0, 3) = (octet_Wide_l9 (((0 : Int), ((0 : Int), (3 : Int))), [0, 0, 0]) >>= fun r => some (bytesStr r, 0)) := rfl
  rw [h, s]
  rfl
theorem whole_one : octet_Whole [1, 0, 0, 0, 0, 0] = some (1, 0) := by
  have s0 : octet_Whole_l7 ((0 : Int), (([1, 0, 0, 0, 0, 0] : Str), ((0 : Int), (6 : Int)))) = octet_Whole_l7 ((1 : Int), (([1, 0, 0, 0, 0, 0] : Str), ((1 : Int), (6 : Int)))) := (octet_Whole_l7_eq _).trans rfl
  have s1 : octet_Whole_l7 ((1 : Int), (([1, 0, 0, 0, 0, 0] : Str), ((1 : Int), (6 : Int)))) = octet_Whole_l7 ((2 : Int), (([1, 0, 0, 0, 0, 0] : Str), ((1 : Int), (6 : Int)))) := (octet_Whole_l7_eq _).trans rfl
  have s2 : octet_Whole_l7 ((2 : Int), (([1, 0, 0, 0, 0, 0] : Str), ((1 : Int), (6 : Int)))) = octet_Whole_l7 ((3 : Int), (([1, 0, 0, 0, 0, 0] : Str), ((1 : Int), (6 : Int)))) := (octet_Whole_l7_eq _).trans rfl
  have s3 : octet_Whole_l7 ((3 : Int), (([1, 0, 0, 0, 0, 0] : Str), ((1 : Int), (6 : Int)))) = octet_Whole_l7 ((4 : Int), (([1, 0, 0, 0, 0, 0] : Str), ((1 : Int), (6 : Int)))) := (octet_Whole_l7_eq _).trans rfl
  have s4 : octet_Whole_l7 ((4 : Int), (([1, 0, 0, 0, 0, 0] : Str), ((1 : Int), (6 : Int)))) = octet_Whole_l7 ((5 : Int), (([1, 0, 0, 0, 0, 0] : Str), ((1 : Int), (6 : Int)))) := (octet_Whole_l7_eq _).trans rfl
  have s5 : octet_Whole_l7 ((5 : Int), (([1, 0, 0, 0, 0, 0] : Str), ((1 : Int), (6 : Int)))) = octet_Whole_l7 ((6 : Int), (([1, 0, 0, 0, 0, 0] : Str), ((1 : Int), (6 : Int)))) := (octet_Whole_l7_eq _).trans rfl
  have s6 : octet_Whole_l7 ((6 : Int), (([1, 0, 0, 0, 0, 0] : Str), ((1 : Int), (6 : Int)))) = some 1 := (octet_Whole_l7_eq _).trans rfl
  have s := s0.trans (s1.trans (s2.trans (s3.trans (s4.trans (s5.trans s6)))))
  have h : octet_Whole [1, 0, 0, 0, 0, 0] = (octet_Whole_l7 ((0 : Int), (([1, 0, 0, 0, 0, 0] : Str), ((0 : Int), (6 : Int)))) >>= fun r => some (r, 0)) := rfl
  rw [h, s]
  rfl
theorem whole_zero (n : Nat) (hn : n ≤ 8) : octet_Whole (List.replicate n 0) = some (0, 0) := by
  have key : ∀ (k i : Nat), i + k = n → octet_Whole_l7 ((i : Int), (List.replicate n 0, ((0 : Int), (n : Int)))) = some 0 := by
    intro k
    induction k with
    | zero =>
      intro i hi
      rw [octet_Whole_l7_eq]
      unfold octet_Whole_l7F
      dsimp only
      rw [if_neg (by rw [decide_eq_true_eq]; omega)]
    | succ k ih =>
      intro i hi
      have hw : IntKind.wrap .i64 ((i : Int) + 1) = ((i + 1 : Nat) : Int) := by rw [wr64 (by omega)]; omega
      have hw2 : IntKind.wrap .i64 ((8 : Int) * (i : Int)) = ((8 * i : Nat) : Int) := by rw [wr64 (by omega)]; omega
      have hl : (List.replicate n (0 : UInt8)).length = n := List.length_replicate
      have hb : bt (List.replicate n (0 : UInt8)) (i : Int) = 0 := by
        rw [bt_at (by rw [hl]; omega), List.getElem_replicate]
        rfl
      have hz : ior .u64 0 (ishl .u64 (IntKind.wrap .u64 0) ((8 * i : Nat) : Int)) = 0 := by
        have : ishl .u64 (IntKind.wrap .u64 0) ((8 * i : Nat) : Int) = 0 := by
          show IntKind.wrap .u64 ((IntKind.wrap .u64 0) * 2 ^ _) = 0
          rw [show IntKind.wrap .u64 0 = 0 from rfl, Int.zero_mul]
          rfl
        rw [this]
        rfl
      rw [octet_Whole_l7_eq]
      unfold octet_Whole_l7F
      dsimp only
      rw [hb, hw, hw2, hz, if_pos (by rw [decide_eq_true_eq]; omega), if_pos (by omega), if_pos (by rw [hl]; omega), if_pos (by omega)]
      exact ih (i + 1) (by omega)
  have q := key n 0 (by omega)
  unfold octet_Whole
  rw [List.length_replicate, if_neg (by rw [decide_eq_true_eq]; omega)]
  have q : octet_Whole_l7 ((0 : Int), (List.replicate n 0, ((0 : Int), (n : Int)))) = some 0 := q
  rw [q, sb]
theorem lib_Repeat_is {n : Nat} (h : n ≤ 1000000) : lib_Repeat (([0] : Str), (n : Int)) = some (Lib.repeatL [0] n) := by
  unfold lib_Repeat
  dsimp only
  rw [Int.toNat_natCast, if_pos (by refine ⟨by omega, by omega, ?_⟩; simp; omega)]
theorem head_one : ledger_head (1, 0) = some Head1 := by
  unfold ledger_head
  dsimp only
  rw [show IntKind.wrap .u64 1 = 1 from rfl, show IntKind.wrap .u64 0 = 0 from rfl, wide_one, sb, wide_none, sb]
  dsimp only
  rw [if_pos (by decide), if_pos (by decide)]
  have e : IntKind.wrap .i64 ((128 : Int) - (((([108, 101, 100] : Str) ++ [1, 0, 0, 0, 0, 0]) ++ [0, 0, 0]).length : Int)) = ((116 : Nat) : Int) := rfl
  rw [e, lib_Repeat_is (by omega), sb, if_pos (by rw [Lib.repeatL_length]; decide)]
theorem Head1_len : Head1.length = 128 := by
  unfold Head1
  rw [List.length_append, Lib.repeatL_length]
  rfl

/-- A disk that is new, but for its head. -/
def dsk (n : Nat) : List Str := Head1 :: List.replicate (n - 1) Z128
theorem dsk_len {n : Nat} (h : 1 ≤ n) : (dsk n).length = n := by simp [dsk]; omega
theorem dsk_all (n : Nat) : ∀ s ∈ dsk n, s.length = 128 := by
  intro s hs
  rcases List.mem_cons.1 hs with rfl | hs
  · exact Head1_len
  · rw [List.eq_of_mem_replicate hs]; exact Z128_len
theorem join_flat (l : List Str) : Lib.join l [] = l.flatten := by
  cases l with
  | nil => rfl
  | cons x r =>
    rw [Lib.join_cons]
    unfold Lib.joinTail
    simp
theorem flat_len {l : List Str} (h : ∀ s ∈ l, s.length = 128) : l.flatten.length = 128 * l.length := by
  induction l with
  | nil => rfl
  | cons x r ih =>
    rw [List.flatten_cons, List.length_append, h x List.mem_cons_self, ih fun s hs => h s (List.mem_cons_of_mem _ hs), List.length_cons]
    omega
theorem room_is {n : Nat} (h4 : 4 ≤ n) (h64 : n ≤ 64) {half : Nat} (hh : half < 2) : ∃ all : Str, ledger_room ((dsk n, []), (half : Int)) = some (((half * (n / 2) : Nat) : Int), all) := by
  have hl := dsk_len (n := n) (by omega)
  have hd : Int.tdiv (n : Int) 2 = ((n / 2 : Nat) : Int) := by rw [Int.tdiv_eq_ediv_of_nonneg (by omega)]; omega
  obtain ⟨h, hhe⟩ : ∃ h, h = n / 2 := ⟨_, rfl⟩
  have hp : half * h ≤ h := by
    have : half = 0 ∨ half = 1 := by omega
    rcases this with rfl | rfl <;> omega
  have e1 : IntKind.wrap .i64 (h : Int) = (h : Int) := wr64 (by omega)
  have e2 : IntKind.wrap .i64 ((half : Int) * (h : Int)) = ((half * h : Nat) : Int) := by rw [wr64 (by constructor <;> (rw [← Int.natCast_mul]; omega))]; omega
  have e3 : IntKind.wrap .i64 (((half * h : Nat) : Int) + 1) = ((half * h + 1 : Nat) : Int) := by rw [wr64 (by omega)]; omega
  have e4 : IntKind.wrap .i64 ((half : Int) + 1) = ((half + 1 : Nat) : Int) := by rw [wr64 (by omega)]; omega
  have hp2 : (half + 1) * h = half * h + h := by rw [Nat.add_mul, Nat.one_mul]
  have e5 : IntKind.wrap .i64 (((half + 1 : Nat) : Int) * (h : Int)) = (((half + 1) * h : Nat) : Int) := by rw [wr64 (by constructor <;> (rw [← Int.natCast_mul]; omega))]; omega
  unfold ledger_room
  dsimp only
  rw [hl, hd, ← hhe, e1, e2, e3, e4, e5, if_pos (by omega), if_pos (by omega), if_pos (by omega)]
  obtain ⟨l, hle⟩ : ∃ l, l = List.drop ((half * h + 1 : Nat) : Int).toNat (List.take (((half + 1) * h : Nat) : Int).toNat (dsk n)) := ⟨_, rfl⟩
  rw [← hle]
  have hla : ∀ s ∈ l, s.length = 128 := fun s hs => dsk_all n s (List.mem_of_mem_take (List.mem_of_mem_drop (hle ▸ hs)))
  have hll : l.length ≤ 64 := by rw [hle]; simp [hl]; omega
  have hf := flat_len hla
  have hj : lib_Join (l, []) = some (Lib.join l []) := by
    unfold lib_Join
    dsimp only
    rw [if_pos ⟨by omega, by rw [join_flat]; omega⟩]
  rw [hj, sb]
  exact ⟨_, rfl⟩
theorem tells_first {n : Nat} (h4 : 4 ≤ n) (h64 : n ≤ 64) : ledger_tells ((dsk n, []), 0) = some (1, 0) := by
  have hl := dsk_len (n := n) (by omega)
  obtain ⟨all, hr⟩ := room_is h4 h64 (half := 0) (by omega)
  have hr : ledger_room ((dsk n, []), (0 : Int)) = some ((0 : Int), all) := by
    rw [Nat.zero_mul] at hr
    exact hr
  have he : elt .str (dsk n) (0 : Int).toNat = Head1 := by unfold elt; rfl
  unfold ledger_tells
  dsimp only
  rw [hr, sb]
  dsimp only
  rw [hl, he, Head1_len, if_pos (by omega), if_pos (by omega), if_pos (by decide)]
  have t1 : List.drop 3 (List.take 9 Head1) = [1, 0, 0, 0, 0, 0] := rfl
  have t2 : List.drop 9 (List.take 12 Head1) = List.replicate 3 0 := rfl
  rw [t1, t2, whole_one, sb, if_pos (by decide), whole_zero 3 (by omega), sb, if_neg (by decide), if_neg (by decide)]
  have hu : ¬ ((0 : Int) > IntKind.wrap .u64 (all.length : Int)) := by rw [IntKind.wrap_u64]; omega
  rw [if_neg (by rw [decide_eq_true_eq]; exact hu)]
  have hh : ledger_head (IntKind.wrap .i64 1, IntKind.wrap .i64 0) = some Head1 := head_one
  rw [hh, sb, if_neg (by simp)]
  rfl
theorem tells_second {n : Nat} (h4 : 4 ≤ n) (h64 : n ≤ 64) : ledger_tells ((dsk n, []), 1) = some (0, 0) := by
  have hl := dsk_len (n := n) (by omega)
  obtain ⟨all, hr⟩ := room_is h4 h64 (half := 1) (by omega)
  have hr : ledger_room ((dsk n, []), (1 : Int)) = some (((n / 2 : Nat) : Int), all) := by
    rw [Nat.one_mul] at hr
    exact hr
  have he : elt .str (dsk n) (n / 2) = Z128 := by
    obtain ⟨k, hk⟩ : ∃ k, n / 2 = k + 1 := ⟨n / 2 - 1, by omega⟩
    rw [hk]
    unfold elt dsk
    rw [List.getD_eq_getElem?_getD, List.getElem?_cons_succ, List.getElem?_replicate, if_pos (by omega)]
    rfl
  unfold ledger_tells
  dsimp only
  rw [hr, sb]
  dsimp only
  rw [hl, Int.toNat_natCast, he, Z128_len, if_pos (by omega), if_pos (by omega), if_pos (by decide)]
  have t1 : List.drop 3 (List.take 9 Z128) = List.replicate 6 0 := rfl
  have t2 : List.drop 9 (List.take 12 Z128) = List.replicate 3 0 := rfl
  rw [t1, t2, whole_zero 6 (by omega), sb, if_pos (by decide), whole_zero 3 (by omega), sb, if_pos (by decide)]
theorem disk_Right_is {n : Nat} (h4 : 4 ≤ n) (h64 : n ≤ 64) : disk_Right (dsk n, []) = some true := by
  have hl := dsk_len (n := n) (by omega)
  have h1 : slices_ContainsFunc_string_ako (dsk n) = some false := by
    have := any_gen .str slices_IndexFunc_string_ako_l3 disk_Right_1 (fun s => (s.length : Int) != 128) (fun i s n => (slices_IndexFunc_string_ako_l3_eq _).trans rfl) (s := dsk n) (by rw [hl]; omega) (fun x _ => rfl)
    have e : (dsk n).any (fun s => (s.length : Int) != 128) = false := by
      rw [List.any_eq_false]
      intro s hs
      rw [dsk_all n s hs]
      decide
    rw [e] at this
    exact this
  have h2 : disk_well ([], (n : Int)) = some true := by
    have q : slices_IndexFunc_api_Write_ox0_l3 (((0 : Int), (([] : List (Int × Str)), (([] : List (Int × Str)).length : Int))), (n : Int)) = some (.inr (n : Int)) := (slices_IndexFunc_api_Write_ox0_l3_eq _).trans rfl
    unfold disk_well slices_ContainsFunc_api_Write_ox0 slices_IndexFunc_api_Write_ox0
    dsimp only
    rw [q]
    rfl
  unfold disk_Right
  dsimp only
  rw [hl, if_pos (by rw [decide_eq_true_eq]; omega), if_pos (by rw [decide_eq_true_eq]; omega), if_pos (by simp), h1, sb, if_pos (by decide), h2]
  rfl
theorem Open_is {n : Nat} (h4 : 4 ≤ n) (h64 : n ≤ 64) : ∃ r, ledger_Open (dsk n, []) = some r ∧ r.2 = 0 := by
  obtain ⟨all, hr⟩ := room_is h4 h64 (half := 0) (by omega)
  rw [Nat.zero_mul] at hr
  have hr : ledger_room ((dsk n, []), (0 : Int)) = some ((0 : Int), all) := hr
  have hE : ledger_entries [] = some ([], true) := by
    have q : ledger_entries_l3 (([] : Str), ([] : List Str)) = some (.inr []) := (ledger_entries_l3_eq _).trans rfl
    unfold ledger_entries
    rw [q]
    rfl
  obtain ⟨d, hd⟩ : ∃ d : List Str × List (Int × Str), d = (dsk n, []) := ⟨_, rfl⟩
  have t1 := tells_first h4 h64
  have t2 := tells_second h4 h64
  have hR := disk_Right_is h4 h64
  have hd2 : d.2 = [] := by rw [hd]
  rw [← hd] at hr t1 t2 hR ⊢
  obtain ⟨x, hx⟩ : ∃ x : (List Str × List (Int × Str)) × (Int × (Int × (Int × List Str))), x = (([], []), ((0 : Int), ((0 : Int), ((0 : Int), [])))) := ⟨_, rfl⟩
  have w0 : IntKind.wrap .i64 ((0 : Int) + 1) = 1 := rfl
  have w1 : IntKind.wrap .i64 ((1 : Int) + 1) = 2 := rfl
  have l2 : ledger_Open_l7 ((2 : Int), ((d, ((0 : Int), ((1 : Int), ((0 : Int), [])))), (d, x))) = some (x, ((d, ((0 : Int), ((1 : Int), ((0 : Int), [])))), d)) := by
    rw [ledger_Open_l7_eq]
    unfold ledger_Open_l7F
    dsimp only
    rw [if_neg (by decide)]
  have l1 : ledger_Open_l7 ((1 : Int), ((d, ((0 : Int), ((1 : Int), ((0 : Int), [])))), (d, x))) = some (x, ((d, ((0 : Int), ((1 : Int), ((0 : Int), [])))), d)) := by
    rw [ledger_Open_l7_eq]
    unfold ledger_Open_l7F
    dsimp only
    rw [if_pos (by decide), t2, sb, if_neg (by simp), w1, l2]
  have l0 : ledger_Open_l7 ((0 : Int), ((d, ((0 : Int), ((0 : Int), ((0 : Int), [])))), (d, x))) = some (x, ((d, ((0 : Int), ((1 : Int), ((0 : Int), [])))), d)) := by
    rw [ledger_Open_l7_eq]
    unfold ledger_Open_l7F
    dsimp only
    rw [if_pos (by decide), t1, sb, if_pos (by simp), w0]
    exact l1
  unfold ledger_Open
  rw [hR, sb, if_neg (by decide), hd2, if_neg (by decide), ← hx, l0, sb]
  dsimp only
  rw [hr, sb]
  dsimp only
  rw [if_pos (by decide), if_pos (by omega)]
  have e : List.take (0 : Int).toNat all = [] := rfl
  rw [e, hE, sb, if_neg (by decide), if_neg (by decide)]
  exact ⟨_, rfl, rfl⟩
theorem Format_is {n : Int} : ∃ r, ledger_Format n = some r ∧ (r.2 == 0) = decide (4 ≤ n ∧ n ≤ 64) := by
  by_cases h : 4 ≤ n ∧ n ≤ 64
  · obtain ⟨k, rfl⟩ := Int.eq_ofNat_of_zero_le (show 0 ≤ n by omega)
    obtain ⟨r, q1, q2⟩ := Open_is (n := k) (by omega) (by omega)
    have h1 : disk_New (k : Int) = some (0, List.replicate k Z128) := by
      unfold disk_New lib_RepeatS
      rw [if_neg (by rw [decide_eq_true_eq]; omega), if_neg (by rw [decide_eq_true_eq]; omega), show (128 : Int) = ((128 : Nat) : Int) from rfl, lib_Repeat_is (by omega), sb]
      dsimp only
      rw [if_pos ⟨by rfl, by omega, by omega⟩, sb, Int.toNat_natCast]
      have : elt .str [Lib.repeatL [0] 128] 0 = Z128 := by unfold elt; rfl
      rw [this]
    have h2 : List.set (List.replicate k Z128) 0 Head1 = dsk k := by
      obtain ⟨j, rfl⟩ : ∃ j, k = j + 1 := ⟨k - 1, by omega⟩
      rw [List.replicate_succ]
      rfl
    refine ⟨r, ?_, by rw [q2, decide_eq_true h]; rfl⟩
    unfold ledger_Format
    rw [h1, sb]
    dsimp only
    rw [if_neg (by decide), head_one, sb, List.length_replicate, if_pos (by omega), if_pos (by omega), h2, q1, sb]
  · have h1 : disk_New n = some (1, []) := by
      unfold disk_New
      by_cases c : n < 4
      · rw [if_pos (decide_eq_true c)]
      · rw [if_neg (by rw [decide_eq_true_eq]; exact c), if_pos (by rw [decide_eq_true_eq]; omega)]
    refine ⟨((([], []), ((0 : Int), ((0 : Int), ((0 : Int), [])))), 1), ?_, by rw [decide_eq_false h]; rfl⟩
    unfold ledger_Format
    rw [h1, sb]
    rfl
theorem New_is (q n : Int) : ∃ r, control_New (q, n) = some r ∧ (r.2 == 0) = (decide (0 ≤ q ∧ q ≤ 1048576) && decide (4 ≤ n ∧ n ≤ 64)) := by
  obtain ⟨f, f1, f2⟩ := Format_is (n := n)
  have v1 : vault_Format n = some ((f.1, ([], ((0 : Int), (0 : Int)))), f.2) := by
    unfold vault_Format
    rw [f1, sb]
  by_cases h : 0 ≤ q ∧ q ≤ 1048576
  · have hb : blob_New q = some (([], (q, ([], (0 : Int)))), 0) := by
      unfold blob_New
      rw [if_neg (by rw [decide_eq_true_eq]; omega), if_neg (by rw [decide_eq_true_eq]; omega)]
    unfold control_New
    dsimp only
    rw [hb, sb]
    dsimp only
    rw [if_neg (by decide), v1, sb, decide_eq_true h]
    dsimp only
    by_cases c : (f.2 != 0) = true
    · rw [if_pos c]
      refine ⟨_, rfl, ?_⟩
      dsimp only
      rw [f2, Bool.true_and]
    · rw [if_neg c]
      refine ⟨_, rfl, ?_⟩
      dsimp only
      rw [← f2]
      simpa using c
  · have hb : blob_New q = some (([], ((0 : Int), ([], (0 : Int)))), 1) := by
      unfold blob_New
      by_cases c : q < 0
      · rw [if_pos (decide_eq_true c)]
      · rw [if_neg (by rw [decide_eq_true_eq]; exact c), if_pos (by rw [decide_eq_true_eq]; omega)]
    unfold control_New
    dsimp only
    rw [hb, sb]
    dsimp only
    rw [if_pos (by decide), decide_eq_false h]
    exact ⟨_, rfl, rfl⟩
def beginsB (q n : Int) : Bool := decide (0 ≤ q ∧ q ≤ 1048576) && decide (4 ≤ n ∧ n ≤ 64)
theorem begins_is (p : PlanD) : script_begins p = some (beginsB p.1 p.2.1) := by
  obtain ⟨r, h1, h2⟩ := New_is p.1 p.2.1
  unfold script_begins beginsB
  rw [h1, sb, ← h2]
  by_cases c : 0 ≤ p.1 ∧ p.1 ≤ 1048576
  · by_cases d : 0 ≤ p.2.1 ∧ p.2.1 ≤ 1048576
    · rw [if_pos (decide_eq_true c.1), if_pos (decide_eq_true c.2), if_pos (decide_eq_true d.1), if_pos (decide_eq_true d.2)]
    · have hf : (r.2 == 0) = false := by
        rw [h2, decide_eq_true c, decide_eq_false (by omega)]
        rfl
      rw [if_pos (decide_eq_true c.1), if_pos (decide_eq_true c.2), hf]
      split
      · split
        · rfl
        · rfl
      · rfl
  · have hf : (r.2 == 0) = false := by
      rw [h2, decide_eq_false c]
      rfl
    rw [hf]
    split
    · split
      · split
        · split <;> rfl
        · rfl
      · rfl
    · rfl
theorem ref20_Begins_is (p : PlanD) : ref20_Begins p = some (beginsB p.1 p.2.1) := by
  unfold ref20_Begins beginsB
  by_cases a : 0 ≤ p.1
  · by_cases b : p.1 ≤ 1048576
    · by_cases c : 4 ≤ p.2.1
      · rw [if_pos (decide_eq_true a), if_pos (decide_eq_true b), if_pos (decide_eq_true c), decide_eq_true (p := 0 ≤ p.1 ∧ p.1 ≤ 1048576) ⟨a, b⟩]
        simp [c]
      · rw [if_pos (decide_eq_true a), if_pos (decide_eq_true b), if_neg (by rw [decide_eq_true_eq]; exact c), decide_eq_false (p := 4 ≤ p.2.1 ∧ p.2.1 ≤ 64) (by omega), Bool.and_false]
    · rw [if_pos (decide_eq_true a), if_neg (by rw [decide_eq_true_eq]; exact b), decide_eq_false (p := 0 ≤ p.1 ∧ p.1 ≤ 1048576) (by omega), Bool.false_and]
  · rw [if_neg (by rw [decide_eq_true_eq]; exact a), decide_eq_false (p := 0 ≤ p.1 ∧ p.1 ≤ 1048576) (by omega), Bool.false_and]
end Go.Plain

/-
  20, plain, part D: which plans may be; what is printed; plans that are cut.
-/
namespace Go.Plain
open Go.AM
set_option linter.unusedVariables false

abbrev tShp : Ty := .pair .str (.pair (.int .i64) (.int .i64))
/-- A kind's word, how many numbers, how many texts. -/
def shpOf (k : Int) : Str × (Int × Int) := mget (.int .i64) tShp k shapesL
theorem kinds {k : Int} (h : 1 ≤ k ∧ k ≤ 12) : k = 1 ∨ k = 2 ∨ k = 3 ∨ k = 4 ∨ k = 5 ∨ k = 6 ∨ k = 7 ∨ k = 8 ∨ k = 9 ∨ k = 10 ∨ k = 11 ∨ k = 12 := by omega
theorem mhas_is (k : Int) : mhas (.int .i64) tShp k shapesL = decide (1 ≤ k ∧ k ≤ 12) := by
  by_cases h : 1 ≤ k ∧ k ≤ 12
  · rw [decide_eq_true h]
    rcases kinds h with e | e | e | e | e | e | e | e | e | e | e | e <;> subst e <;> rfl
  · rw [decide_eq_false h]
    have key : ∀ l : List (Int × (Str × (Int × Int))), (∀ p ∈ l, k ≠ p.1) → mhas (.int .i64) tShp k l = false := by
      intro l
      induction l with
      | nil => intro _; rfl
      | cons p r ih =>
        intro hp
        show (match keyB (.int .i64) k p.1 with | true => true | false => mhas (.int .i64) tShp k r) = false
        rw [show keyB (.int .i64) k p.1 = false from decide_eq_false (hp p List.mem_cons_self)]
        exact ih fun q hq => hp q (List.mem_cons_of_mem _ hq)
    refine key _ fun p hp => ?_
    simp only [shapesL, List.mem_cons, List.not_mem_nil, or_false] at hp
    rcases hp with e | e | e | e | e | e | e | e | e | e | e | e <;> subst e <;> (dsimp only; omega)
theorem ref20_nums_is {k : Int} (h : 1 ≤ k ∧ k ≤ 12) : ref20_nums k = some (shpOf k).2.1 := by
  rcases kinds h with e | e | e | e | e | e | e | e | e | e | e | e <;> subst e <;> (unfold ref20_nums elt; rfl)
theorem ref20_texts_is {k : Int} (h : 1 ≤ k ∧ k ≤ 12) : ref20_texts k = some (shpOf k).2.2 := by
  rcases kinds h with e | e | e | e | e | e | e | e | e | e | e | e <;> subst e <;> (unfold ref20_texts elt; rfl)
theorem ref20_word_is {k : Int} (h : 1 ≤ k ∧ k ≤ 12) : ref20_word k = some (shpOf k).1 := by
  rcases kinds h with e | e | e | e | e | e | e | e | e | e | e | e <;> subst e <;> (unfold ref20_word elt; rfl)
theorem shp_small {k : Int} (h : 1 ≤ k ∧ k ≤ 12) : (shpOf k).1.length ≤ 6 ∧ 0 ≤ (shpOf k).2.1 ∧ (shpOf k).2.1 ≤ 7 ∧ 0 ≤ (shpOf k).2.2 ∧ (shpOf k).2.2 ≤ 4 := by
  rcases kinds h with e | e | e | e | e | e | e | e | e | e | e | e <;> subst e <;> decide

def okTxt (s : Str) : Bool := decide (s.length ≤ 1000)
def isDeed (d : Deed) : Bool := decide (1 ≤ d.1 ∧ d.1 ≤ 12) && (decide ((d.2.1.length : Int) = (shpOf d.1).2.1) && (decide ((d.2.2.length : Int) = (shpOf d.1).2.2) && (d.2.1.all okNum && d.2.2.all okTxt)))
theorem right_1_is (n : Int) : script_right_1 n = some (!okNum n) := by
  unfold script_right_1 okNum
  by_cases a : n < 0
  · rw [if_pos (decide_eq_true a), decide_eq_false (p := 0 ≤ n) (by omega)]; rfl
  · rw [if_neg (by rw [decide_eq_true_eq]; exact a), decide_eq_true (p := 0 ≤ n) (by omega)]
    by_cases b : n > 1099511627776
    · rw [decide_eq_true b, decide_eq_false (p := n ≤ 1099511627776) (by omega)]; rfl
    · rw [decide_eq_false b, decide_eq_true (p := n ≤ 1099511627776) (by omega)]; rfl
theorem right_2_is (s : Str) : script_right_2 s = some (!okTxt s) := by
  unfold script_right_2 okTxt
  by_cases b : s.length ≤ 1000
  · rw [decide_eq_true b, decide_eq_false (by omega)]; rfl
  · rw [decide_eq_false b, decide_eq_true (by omega)]; rfl
theorem nums_right {l : List Int} (h : l.length ≤ 9223372036854775807) : slices_ContainsFunc_int_dl5 l = some (!l.all okNum) := by
  have := any_gen (.int .i64) slices_IndexFunc_int_dl5_l3 script_right_1 (fun n => !okNum n) (fun i s n => (slices_IndexFunc_int_dl5_l3_eq _).trans rfl) (s := l) h (fun x _ => right_1_is x)
  rw [← List.not_all_eq_any_not] at this
  exact this
theorem texts_right {l : List Str} (h : l.length ≤ 9223372036854775807) : slices_ContainsFunc_string_2rt l = some (!l.all okTxt) := by
  have := any_gen .str slices_IndexFunc_string_2rt_l3 script_right_2 (fun n => !okTxt n) (fun i s n => (slices_IndexFunc_string_2rt_l3_eq _).trans rfl) (s := l) h (fun x _ => right_2_is x)
  rw [← List.not_all_eq_any_not] at this
  exact this
theorem right_is {d : Deed} (h1 : d.2.1.length ≤ 9223372036854775807) (h2 : d.2.2.length ≤ 9223372036854775807) : script_right d = some (isDeed d) := by
  unfold script_right isDeed
  rw [show lib_shapes () = some shapesL from rfl, sb, mhas_is, show mget (.int .i64) (.pair .str (.pair (.int .i64) (.int .i64))) d.1 shapesL = shpOf d.1 from rfl, nums_right h1, sb, texts_right h2, sb]
  by_cases a : 1 ≤ d.1 ∧ d.1 ≤ 12
  · rw [decide_eq_true a, if_pos rfl]
    by_cases b : (d.2.1.length : Int) = (shpOf d.1).2.1
    · rw [if_pos (beq_iff_eq.2 b), decide_eq_true b]
      by_cases c : (d.2.2.length : Int) = (shpOf d.1).2.2
      · rw [if_pos (beq_iff_eq.2 c), decide_eq_true c]
        cases d.2.1.all okNum
        · rfl
        · simp
      · rw [if_neg (by rw [beq_iff_eq]; exact c), decide_eq_false c]
        rfl
    · rw [if_neg (by rw [beq_iff_eq]; exact b), decide_eq_false b]
      rfl
  · rw [decide_eq_false a, if_neg (by decide)]
    rfl
theorem IsDeed_l6_is (c : Deed) (l : List Int) (hl : l.length ≤ 9223372036854775807) : ∀ (b a : List Int), l = a ++ b → ref20_IsDeed_l6 (((a.length : Int), (l, (l.length : Int))), c) = some (if b.all okNum then .inr c else .inl false) := by
  intro b
  induction b with
  | nil =>
    intro a e
    rw [List.append_nil] at e
    rw [ref20_IsDeed_l6_eq]
    unfold ref20_IsDeed_l6F
    dsimp only
    rw [if_neg (by rw [e]; simp)]
    rfl
  | cons x b ih =>
    intro a e
    have hl2 : l.length = a.length + (b.length + 1) := by rw [e]; simp
    have hw : IntKind.wrap .i64 ((a.length : Int) + 1) = (a.length : Int) + 1 := wr64 (by omega)
    have he : elt (.int .i64) l a.length = x := by rw [e]; exact eltS_mid (.int .i64) a x b
    have q := ih (a ++ [x]) (by rw [e]; simp)
    rw [snocS_len] at q
    rw [ref20_IsDeed_l6_eq]
    unfold ref20_IsDeed_l6F
    dsimp only
    rw [Int.toNat_natCast, he, hw, if_pos (by rw [decide_eq_true_eq]; omega), if_pos (by omega), if_pos (by omega), List.all_cons]
    by_cases g : x < 0
    · have : okNum x = false := by unfold okNum; rw [decide_eq_false (p := 0 ≤ x) (by omega)]; rfl
      rw [if_pos (decide_eq_true g), this]
      rfl
    · rw [if_neg (by rw [decide_eq_true_eq]; exact g)]
      by_cases h : x > 1099511627776
      · have : okNum x = false := by unfold okNum; rw [decide_eq_false (p := x ≤ 1099511627776) (by omega), Bool.and_false]
        rw [if_pos (decide_eq_true h), this]
        rfl
      · have : okNum x = true := okNum_iff.2 (by omega)
        rw [if_neg (by rw [decide_eq_true_eq]; exact h), this, Bool.true_and]
        exact q
theorem IsDeed_l15_is (l : List Str) (hl : l.length ≤ 9223372036854775807) : ∀ (b a : List Str), l = a ++ b → ref20_IsDeed_l15 ((a.length : Int), (l, (l.length : Int))) = some (if b.all okTxt then .inr () else .inl false) := by
  intro b
  induction b with
  | nil =>
    intro a e
    rw [List.append_nil] at e
    rw [ref20_IsDeed_l15_eq]
    unfold ref20_IsDeed_l15F
    dsimp only
    rw [if_neg (by rw [e]; simp)]
    rfl
  | cons x b ih =>
    intro a e
    have hl2 : l.length = a.length + (b.length + 1) := by rw [e]; simp
    have hw : IntKind.wrap .i64 ((a.length : Int) + 1) = (a.length : Int) + 1 := wr64 (by omega)
    have he : elt .str l a.length = x := by rw [e]; exact eltS_mid .str a x b
    have q := ih (a ++ [x]) (by rw [e]; simp)
    rw [snocS_len] at q
    rw [ref20_IsDeed_l15_eq]
    unfold ref20_IsDeed_l15F
    dsimp only
    rw [Int.toNat_natCast, he, hw, if_pos (by rw [decide_eq_true_eq]; omega), if_pos (by omega), if_pos (by omega), List.all_cons]
    by_cases g : x.length ≤ 1000
    · have : okTxt x = true := decide_eq_true g
      rw [if_neg (by rw [decide_eq_true_eq]; omega), this, Bool.true_and]
      exact q
    · have : okTxt x = false := decide_eq_false g
      rw [if_pos (by rw [decide_eq_true_eq]; omega), this]
      rfl
theorem IsDeed_is {d : Deed} (h1 : d.2.1.length ≤ 9223372036854775807) (h2 : d.2.2.length ≤ 9223372036854775807) : ref20_IsDeed d = some (isDeed d) := by
  have q1 := IsDeed_l6_is d d.2.1 h1 d.2.1 [] rfl
  have q1 : ref20_IsDeed_l6 (((0 : Int), (d.2.1, (d.2.1.length : Int))), d) = _ := q1
  have q2 := IsDeed_l15_is d.2.2 h2 d.2.2 [] rfl
  have q2 : ref20_IsDeed_l15 ((0 : Int), (d.2.2, (d.2.2.length : Int))) = _ := q2
  unfold ref20_IsDeed isDeed
  by_cases a : 1 ≤ d.1 ∧ d.1 ≤ 12
  · rw [if_neg (by rw [decide_eq_true_eq]; omega), if_neg (by rw [decide_eq_true_eq]; omega), ref20_nums_is a, sb, decide_eq_true a]
    by_cases b : (d.2.1.length : Int) = (shpOf d.1).2.1
    · rw [if_neg (by simpa using b), ref20_texts_is a, sb, decide_eq_true b]
      by_cases c : (d.2.2.length : Int) = (shpOf d.1).2.2
      · rw [if_neg (by simpa using c), q1, sb, decide_eq_true c]
        cases e : d.2.1.all okNum with
        | false => rfl
        | true =>
          show (ref20_IsDeed_l15 ((0 : Int), (d.2.2, (d.2.2.length : Int))) >>= fun r2 => Sum.elim (fun r3 => some r3) (fun r3 => some true) r2) = _
          rw [q2, sb]
          cases d.2.2.all okTxt <;> rfl
      · rw [if_pos (by simpa using c), decide_eq_false c]
        rfl
    · rw [if_pos (by simpa using b), decide_eq_false b]
      rfl
  · rw [decide_eq_false a]
    by_cases c : d.1 < 1
    · rw [if_pos (decide_eq_true c)]; rfl
    · rw [if_neg (by rw [decide_eq_true_eq]; exact c), if_pos (by rw [decide_eq_true_eq]; omega)]; rfl

/-- A plan whose rows are short. -/
structure Small (p : PlanD) : Prop where
  len : p.2.2.length ≤ 1000
  nums : ∀ d ∈ p.2.2, d.2.1.length ≤ 1000
  texts : ∀ d ∈ p.2.2, d.2.2.length ≤ 1000
def rightP (p : PlanD) : Bool := beginsB p.1 p.2.1 && (decide (p.2.2.length ≤ 200) && p.2.2.all isDeed)
theorem Right_is {p : PlanD} (h : Small p) : script_Right p = some (rightP p) := by
  have q : slices_ContainsFunc_api_Deed_jfo p.2.2 = some (!p.2.2.all isDeed) := by
    have := any_gen tDeed slices_IndexFunc_api_Deed_jfo_l3 script_Right_1 (fun d => !isDeed d) (fun i s n => (slices_IndexFunc_api_Deed_jfo_l3_eq _).trans rfl) (s := p.2.2) (by have := h.len; omega) (fun x hx => by
      have h1 := h.nums x hx
      have h2 := h.texts x hx
      unfold script_Right_1
      rw [right_is (by omega) (by omega), sb])
    rw [← List.not_all_eq_any_not] at this
    exact this
  unfold script_Right rightP
  rw [begins_is, sb]
  cases beginsB p.1 p.2.1 with
  | false => rfl
  | true =>
    rw [if_pos rfl]
    by_cases c : p.2.2.length ≤ 200
    · rw [if_pos (by rw [decide_eq_true_eq]; omega), q, sb, decide_eq_true c]
      simp
    · rw [if_neg (by rw [decide_eq_true_eq]; omega), decide_eq_false c]
      rfl
/-! what is printed -/
def lineD (d : Deed) : Str := lineS (shpOf d.1).1 d.2.1 d.2.2
def linesP (l : List Deed) : Str := l.flatMap fun d => lineD d ++ [10]
def headP (q n : Int) : Str := lineS [119, 111, 114, 108, 100] [q, n] [] ++ [10]
def planT (p : PlanD) : Str := headP p.1 p.2.1 ++ linesP p.2.2
theorem numS_len {l : List Int} (h : ∀ n ∈ l, okNum n = true) : (numS l).length ≤ 22 * l.length := by
  induction l with
  | nil => simp [numS]
  | cons x r ih =>
    have e : numS (x :: r) = (32 :: Lib.itoa x) ++ numS r := by simp [numS]
    have hx := okNum_iff.1 (h x List.mem_cons_self)
    have := Lib.itoa_length_le x (by omega) (by omega)
    have ih := ih fun n hn => h n (List.mem_cons_of_mem _ hn)
    rw [e, List.length_append, List.length_cons, List.length_cons]
    omega
theorem txtS_len {l : List Str} (h : ∀ s ∈ l, okTxt s = true) : (txtS l).length ≤ 2002 * l.length := by
  induction l with
  | nil => simp [txtS]
  | cons x r ih =>
    have e : txtS (x :: r) = (32 :: 120 :: hexS x) ++ txtS r := by simp [txtS]
    have hx : x.length ≤ 1000 := of_decide_eq_true (h x List.mem_cons_self)
    have := hexS_len x
    have ih := ih fun n hn => h n (List.mem_cons_of_mem _ hn)
    rw [e, List.length_append, List.length_cons, List.length_cons, List.length_cons]
    omega
structure DeedOk (d : Deed) : Prop where
  kind : 1 ≤ d.1 ∧ d.1 ≤ 12
  nlen : (d.2.1.length : Int) = (shpOf d.1).2.1
  tlen : (d.2.2.length : Int) = (shpOf d.1).2.2
  nums : ∀ n ∈ d.2.1, okNum n = true
  texts : ∀ s ∈ d.2.2, okTxt s = true
theorem isDeed_iff {d : Deed} : isDeed d = true ↔ DeedOk d := by
  unfold isDeed
  simp only [Bool.and_eq_true, decide_eq_true_eq, List.all_eq_true]
  exact ⟨fun ⟨a, b, c, e, f⟩ => ⟨a, b, c, e, f⟩, fun ⟨a, b, c, e, f⟩ => ⟨a, b, c, e, f⟩⟩
theorem lineD_len {d : Deed} (h : DeedOk d) : (lineD d).length ≤ 8200 := by
  obtain ⟨s1, s2, s3, s4, s5⟩ := shp_small h.kind
  have h1 := numS_len h.nums
  have h2 := txtS_len h.texts
  have h3 := h.nlen
  have h4 := h.tlen
  have e : (lineD d).length = (shpOf d.1).1.length + ((numS d.2.1).length + (txtS d.2.2).length) := by simp [lineD, lineS]
  omega
theorem linesP_len {l : List Deed} (h : ∀ d ∈ l, DeedOk d) : (linesP l).length ≤ 8201 * l.length := by
  induction l with
  | nil => simp [linesP]
  | cons x r ih =>
    have e : linesP (x :: r) = (lineD x ++ [10]) ++ linesP r := by simp [linesP]
    have := lineD_len (h x List.mem_cons_self)
    have ih := ih fun n hn => h n (List.mem_cons_of_mem _ hn)
    rw [e, List.length_append, List.length_append, List.length_cons, List.length_cons, List.length_nil]
    omega
theorem line_deed {d : Deed} (h : DeedOk d) : script_line ((shpOf d.1).1, d.2) = some (lineD d ++ [10]) := by
  obtain ⟨s1, s2, s3, s4, s5⟩ := shp_small h.kind
  have h3 := h.nlen
  have h4 := h.tlen
  have := lineD_len h
  exact line_is (w := (shpOf d.1).1) (nums := d.2.1) (texts := d.2.2) h.nums (by omega) (by omega) (by unfold lineD at this; omega)
theorem headP_len {q n : Int} (h : beginsB q n = true) : (headP q n).length ≤ 60 := by
  unfold beginsB at h
  simp only [Bool.and_eq_true, decide_eq_true_eq] at h
  have h1 := numS_len (l := [q, n]) (fun x hx => by
    simp only [List.mem_cons, List.not_mem_nil, or_false] at hx
    rcases hx with rfl | rfl <;> exact okNum_iff.2 (by omega))
  have e : (headP q n).length = 5 + (numS [q, n]).length + 1 := by simp [headP, lineS, txtS]; omega
  rw [e]
  simp only [List.length_cons, List.length_nil] at h1
  omega
theorem Print_l7_is {l : List Deed} (hl : l.length ≤ 1000) (hd : ∀ d ∈ l, DeedOk d) : ∀ (b a : List Deed) (out : Str), l = a ++ b → (out ++ linesP b).length ≤ 1000000000 →
    script_Print_l7 ((a.length : Int), (out, (l, (l.length : Int)))) = some (out ++ linesP b) := by
  intro b
  induction b with
  | nil =>
    intro a out e _
    rw [List.append_nil] at e
    rw [script_Print_l7_eq]
    unfold script_Print_l7F
    dsimp only
    rw [if_neg (by rw [e]; simp)]
    simp [linesP]
  | cons x b ih =>
    intro a out e hw
    have hl2 : l.length = a.length + (b.length + 1) := by rw [e]; simp
    have hwr : IntKind.wrap .i64 ((a.length : Int) + 1) = (a.length : Int) + 1 := wr64 (by omega)
    have he : elt tDeed l a.length = x := by rw [e]; exact eltS_mid tDeed a x b
    have hx := hd x (by rw [e]; simp)
    have es : linesP (x :: b) = (lineD x ++ [10]) ++ linesP b := by simp [linesP]
    rw [es] at hw ⊢
    have q := ih (a ++ [x]) (out ++ (lineD x ++ [10])) (by rw [e]; simp) (by rw [List.append_assoc]; exact hw)
    rw [snocS_len] at q
    have hlen : (out ++ ((lineD x ++ [10]) ++ linesP b)).length = out.length + ((lineD x ++ [10]).length + (linesP b).length) := by simp only [List.length_append]
    have hld : script_line ((mget (.int .i64) (.pair .str (.pair (.int .i64) (.int .i64))) x.1 shapesL).1, x.2) = some (lineD x ++ [10]) := line_deed hx
    rw [script_Print_l7_eq]
    unfold script_Print_l7F
    dsimp only
    rw [Int.toNat_natCast, he, hwr, if_pos (by rw [decide_eq_true_eq]; omega), if_pos (by omega), if_pos (by omega), show lib_shapes () = some shapesL from rfl, sb, hld, sb, if_pos (by omega), q, List.append_assoc]
theorem rightP_parts {p : PlanD} (h : rightP p = true) : beginsB p.1 p.2.1 = true ∧ p.2.2.length ≤ 200 ∧ ∀ d ∈ p.2.2, DeedOk d := by
  unfold rightP at h
  simp only [Bool.and_eq_true, decide_eq_true_eq, List.all_eq_true] at h
  exact ⟨h.1, h.2.1, fun d hd => isDeed_iff.1 (h.2.2 d hd)⟩
theorem begins_num {q n : Int} (h : beginsB q n = true) : okNum q = true ∧ okNum n = true := by
  unfold beginsB at h
  simp only [Bool.and_eq_true, decide_eq_true_eq] at h
  exact ⟨okNum_iff.2 (by omega), okNum_iff.2 (by omega)⟩
theorem Print_is {p : PlanD} (h : Small p) : script_Print p = some (if rightP p then (planT p, 0) else ([], 1)) := by
  unfold script_Print
  rw [Right_is h, sb]
  cases c : rightP p with
  | false => rfl
  | true =>
    obtain ⟨h1, h2, h3⟩ := rightP_parts c
    obtain ⟨n1, n2⟩ := begins_num h1
    have hh := headP_len h1
    have hll := linesP_len h3
    have q1 : script_line (([119, 111, 114, 108, 100] : Str), ([p.1, p.2.1], [])) = some (headP p.1 p.2.1) := line_is (fun x hx => by
      simp only [List.mem_cons, List.not_mem_nil, or_false] at hx
      rcases hx with rfl | rfl
      · exact n1
      · exact n2) (by simp) (by simp) (by unfold headP at hh; rw [List.length_append] at hh; omega)
    have q2 := Print_l7_is h.len h3 p.2.2 [] (headP p.1 p.2.1) rfl (by rw [List.length_append]; omega)
    have q2 : script_Print_l7 ((0 : Int), (headP p.1 p.2.1, (p.2.2, (p.2.2.length : Int)))) = _ := q2
    rw [if_neg (by decide), q1, sb, q2, sb]
    rfl
theorem itoaR_is {n : Int} (h : okNum n = true) : lib_Itoa n = some (Lib.itoa n) := by
  have := okNum_iff.1 h
  exact if_pos ⟨by omega, by omega⟩
end Go.Plain

/-
  20, plain, part E: plans that are cut; the plan without deeds; the laws 'ScriptPrints' and 'ScriptLines'.
-/
namespace Go.Plain
open Go.AM
set_option linter.unusedVariables false

def cutS (s : Str) : Str := s.take (min s.length 1002)
def cutD (d : Deed) : Deed := (d.1, (d.2.1.take (min d.2.1.length 9), (d.2.2.take (min d.2.2.length 6)).map cutS))
def cutP (p : PlanD) (m : Nat) : PlanD := (p.1, (p.2.1, (p.2.2.take (min p.2.2.length m)).map cutD))
theorem minI (n : Nat) (m : Nat) : min (n : Int) (m : Int) = ((min n m : Nat) : Int) := by omega
theorem sumSm {n B : Nat} (h : n ≤ 2000) (hB : B ≤ 200) : sumOk n B := by
  unfold sumOk
  have := Nat.mul_le_mul h hB
  constructor <;> omega
theorem one_len {α : Type} (x : α) : [x].length = 1 := rfl
theorem few_l12_is (ns : List Int) (hl : ns.length ≤ 9) (x25 : List Deed) (x26 x27 k : Int) (c1 c2 : Int × Int) (e : Deed) (ds : List Deed) : ∀ (b a c4 : List Int), ns = a ++ b → c4.length = a.length →
    law20_few_l12 (((a.length : Int), (ns, (x25, (x26, (x27, (ns.length : Int)))))), (k, (c1, (c2, (e, (c4, ds)))))) = some ((x25, (x26, x27)), (k, (c1, (c2, (e, (c4 ++ b, ds)))))) := by
  intro b
  induction b with
  | nil =>
    intro a c4 q _
    rw [List.append_nil] at q
    rw [law20_few_l12_eq]
    unfold law20_few_l12F
    dsimp only
    rw [if_neg (by rw [q]; simp), List.append_nil]
  | cons x b ih =>
    intro a c4 q hc
    have hl2 : ns.length = a.length + (b.length + 1) := by rw [q]; simp
    have hw : IntKind.wrap .i64 ((a.length : Int) + 1) = (a.length : Int) + 1 := wr64 (by omega)
    have he : elt (.int .i64) ns a.length = x := by rw [q]; exact eltS_mid (.int .i64) a x b
    have r := ih (a ++ [x]) (c4 ++ [x]) (by rw [q]; simp) (by simp [hc])
    rw [snocS_len] at r
    rw [law20_few_l12_eq]
    unfold law20_few_l12F
    dsimp only
    rw [Int.toNat_natCast, he, hw, if_pos (by rw [decide_eq_true_eq]; omega), if_pos (by omega), if_pos (by omega), if_pos (sumSm (by rw [one_len]; omega) (by omega)), r, List.append_assoc]
    rfl
theorem few_l19_is (ts : List Str) (hl : ts.length ≤ 6) (x25 : List Deed) (x26 x27 k : Int) (c1 c2 : Int × Int) (ns : List Int) (ds : List Deed) : ∀ (b a c4 : List Str), ts = a ++ b → c4.length = a.length →
    law20_few_l19 (((a.length : Int), (ts, (x25, (x26, (x27, (ts.length : Int)))))), (k, (c1, (c2, (ns, (c4, ds)))))) = some ((x25, (x26, x27)), (c1, (c2, (k, (ds, (ns, c4 ++ b.map cutS)))))) := by
  intro b
  induction b with
  | nil =>
    intro a c4 q _
    rw [List.append_nil] at q
    rw [law20_few_l19_eq]
    unfold law20_few_l19F
    dsimp only
    rw [if_neg (by rw [q]; simp), List.map_nil, List.append_nil]
  | cons x b ih =>
    intro a c4 q hc
    have hl2 : ts.length = a.length + (b.length + 1) := by rw [q]; simp
    have hw : IntKind.wrap .i64 ((a.length : Int) + 1) = (a.length : Int) + 1 := wr64 (by omega)
    have he : elt .str ts a.length = x := by rw [q]; exact eltS_mid .str a x b
    have r := ih (a ++ [x]) (c4 ++ [cutS x]) (by rw [q]; simp) (by simp [hc])
    rw [snocS_len] at r
    have hm : min (x.length : Int) (1002 : Int) = ((min x.length 1002 : Nat) : Int) := minI _ 1002
    rw [law20_few_l19_eq]
    unfold law20_few_l19F
    dsimp only
    rw [Int.toNat_natCast, he, hw, hm, Int.toNat_natCast, if_pos (by rw [decide_eq_true_eq]; omega), if_pos (by omega), if_pos (by omega), if_pos (by omega), if_pos (by omega), if_pos (sumSm (by rw [one_len]; omega) (by omega))]
    change law20_few_l19 ((_, _), (k, (c1, (c2, (ns, (c4 ++ [cutS x], ds)))))) = _
    rw [r, List.append_assoc]
    rfl
theorem few_l4_is (l : List Deed) (hl : l.length ≤ 1000) (c c1 : Int × Int) : ∀ (b a ds : List Deed), l = a ++ b → ds.length = a.length →
    law20_few_l4 (((a.length : Int), (l, (l.length : Int))), (c, (c1, ds))) = some (c1, (c, ds ++ b.map cutD)) := by
  intro b
  induction b with
  | nil =>
    intro a ds q _
    rw [List.append_nil] at q
    rw [law20_few_l4_eq]
    unfold law20_few_l4F
    dsimp only
    rw [if_neg (by rw [q]; simp), List.map_nil, List.append_nil]
  | cons x b ih =>
    intro a ds q hc
    have hl2 : l.length = a.length + (b.length + 1) := by rw [q]; simp
    have hw : IntKind.wrap .i64 ((a.length : Int) + 1) = (a.length : Int) + 1 := wr64 (by omega)
    have he : elt tDeed l a.length = x := by rw [q]; exact eltS_mid tDeed a x b
    have r := ih (a ++ [x]) (ds ++ [cutD x]) (by rw [q]; simp) (by simp [hc])
    rw [snocS_len] at r
    have hm : min (x.2.1.length : Int) (9 : Int) = ((min x.2.1.length 9 : Nat) : Int) := minI _ 9
    have hm2 : min (x.2.2.length : Int) (6 : Int) = ((min x.2.2.length 6 : Nat) : Int) := minI _ 6
    have q1 := few_l12_is (x.2.1.take (min x.2.1.length 9)) (by rw [List.length_take]; omega) l (l.length : Int) (a.length : Int) x.1 c c1 x ds (x.2.1.take (min x.2.1.length 9)) [] [] rfl rfl
    have q1 : law20_few_l12 (((0 : Int), (x.2.1.take (min x.2.1.length 9), (l, ((l.length : Int), ((a.length : Int), ((x.2.1.take (min x.2.1.length 9)).length : Int)))))), (x.1, (c, (c1, (x, ([], ds)))))) = _ := q1
    have q2 := few_l19_is (x.2.2.take (min x.2.2.length 6)) (by rw [List.length_take]; omega) l (l.length : Int) (a.length : Int) x.1 c c1 (x.2.1.take (min x.2.1.length 9)) ds (x.2.2.take (min x.2.2.length 6)) [] [] rfl rfl
    have q2 : law20_few_l19 (((0 : Int), (x.2.2.take (min x.2.2.length 6), (l, ((l.length : Int), ((a.length : Int), ((x.2.2.take (min x.2.2.length 6)).length : Int)))))), (x.1, (c, (c1, (x.2.1.take (min x.2.1.length 9), ([], ds)))))) = _ := q2
    rw [law20_few_l4_eq]
    unfold law20_few_l4F
    dsimp only
    rw [Int.toNat_natCast, he, hm, Int.toNat_natCast, if_pos (by rw [decide_eq_true_eq]; omega), if_pos (by omega), if_pos (by omega), if_pos (by omega), if_pos (by omega), q1, sb]
    dsimp only
    rw [hm2, Int.toNat_natCast, if_pos (by omega), if_pos (by omega), List.nil_append, q2, sb]
    dsimp only
    rw [hw, List.nil_append, if_pos (sumSm (by rw [one_len]; omega) (by omega))]
    change law20_few_l4 ((_, _), (c, (c1, ds ++ [cutD x]))) = _
    rw [r, List.append_assoc]
    rfl
theorem few_is (p : PlanD) {m : Nat} (hm : m ≤ 1000) : law20_few (p, (m : Int)) = some (cutP p m) := by
  have q := few_l4_is (p.2.2.take (min p.2.2.length m)) (by rw [List.length_take]; omega) (p.1, p.2.1) ((0 : Int), (0 : Int)) (p.2.2.take (min p.2.2.length m)) [] [] rfl rfl
  have q : law20_few_l4 (((0 : Int), (p.2.2.take (min p.2.2.length m), ((p.2.2.take (min p.2.2.length m)).length : Int))), ((p.1, p.2.1), (((0 : Int), (0 : Int)), []))) = _ := q
  unfold law20_few
  dsimp only
  rw [minI, Int.toNat_natCast, if_pos (by omega), if_pos (by omega), q, sb]
  rfl
theorem cutD_nums (d : Deed) : (cutD d).2.1.length ≤ 9 := by show (d.2.1.take _).length ≤ 9; rw [List.length_take]; omega
theorem cutD_texts (d : Deed) : (cutD d).2.2.length ≤ 6 := by show ((d.2.2.take _).map cutS).length ≤ 6; rw [List.length_map, List.length_take]; omega
theorem cut_small (p : PlanD) {m : Nat} (hm : m ≤ 1000) : Small (cutP p m) := by
  refine ⟨?_, fun d hd => ?_, fun d hd => ?_⟩
  · show ((p.2.2.take _).map cutD).length ≤ 1000
    rw [List.length_map, List.length_take]
    omega
  · obtain ⟨x, _, rfl⟩ := List.mem_map.1 hd
    have := cutD_nums x
    omega
  · obtain ⟨x, _, rfl⟩ := List.mem_map.1 hd
    have := cutD_texts x
    omega

/-! the plan without deeds -/
abbrev aliveT : Str := [119, 111, 114, 108, 100, 32, 57, 32, 56, 10]
theorem head98 : headP 9 8 = aliveT := by
  have e9 : Lib.itoa 9 = [57] := by
    rw [show (9 : Int) = ((9 : Nat) : Int) from rfl, Lib.itoa_nonneg, Lib.decDigits]; rfl
  have e8 : Lib.itoa 8 = [56] := by
    rw [show (8 : Int) = ((8 : Nat) : Int) from rfl, Lib.itoa_nonneg, Lib.decDigits]; rfl
  unfold headP lineS numS txtS
  simp only [List.flatMap_cons, List.flatMap_nil, e9, e8]
  rfl
theorem right98 : rightP (9, (8, [])) = true := by decide
theorem small98 : Small (9, (8, [])) := ⟨by simp, fun d hd => (by cases hd), fun d hd => (by cases hd)⟩
theorem print98 : script_Print ((9 : Int), ((8 : Int), [])) = some (aliveT, 0) := by
  have := Print_is small98
  rw [right98] at this
  rw [this, if_pos rfl]
  show some (headP 9 8 ++ linesP [], (0 : Int)) = _
  rw [head98]
  rfl
theorem numbers98 : script_numbers [[57], [56]] = some [9, 8] := by
  have a0 : ∀ c : List Int, script_numbers_l12 (((0 : Int), (([57] : Str), ((0 : Int), (([[57], [56]] : List Str), ((2 : Int), ((0 : Int), (1 : Int))))))), c) = script_numbers_l12 (((1 : Int), (([57] : Str), ((9 : Int), (([[57], [56]] : List Str), ((2 : Int), ((0 : Int), (1 : Int))))))), c) := fun c => (script_numbers_l12_eq _).trans rfl
  have a1 : ∀ c : List Int, script_numbers_l12 (((1 : Int), (([57] : Str), ((9 : Int), (([[57], [56]] : List Str), ((2 : Int), ((0 : Int), (1 : Int))))))), c) = some ((([[57], [56]] : List Str), ((2 : Int), ((0 : Int), (9 : Int)))), c) := fun c => (script_numbers_l12_eq _).trans rfl
  have b0 : ∀ c : List Int, script_numbers_l12 (((0 : Int), (([56] : Str), ((0 : Int), (([[57], [56]] : List Str), ((2 : Int), ((1 : Int), (1 : Int))))))), c) = script_numbers_l12 (((1 : Int), (([56] : Str), ((8 : Int), (([[57], [56]] : List Str), ((2 : Int), ((1 : Int), (1 : Int))))))), c) := fun c => (script_numbers_l12_eq _).trans rfl
  have b1 : ∀ c : List Int, script_numbers_l12 (((1 : Int), (([56] : Str), ((8 : Int), (([[57], [56]] : List Str), ((2 : Int), ((1 : Int), (1 : Int))))))), c) = some ((([[57], [56]] : List Str), ((2 : Int), ((1 : Int), (8 : Int)))), c) := fun c => (script_numbers_l12_eq _).trans rfl
  have l2 : script_numbers_l4 (((2 : Int), (([[57], [56]] : List Str), (2 : Int))), [9, 8]) = some [9, 8] := (script_numbers_l4_eq _).trans rfl
  have l1 : script_numbers_l4 (((1 : Int), (([[57], [56]] : List Str), (2 : Int))), [9]) = some [9, 8] := by
    rw [script_numbers_l4_eq]
    unfold script_numbers_l4F
    dsimp only
    have e : elt .str ([[57], [56]] : List Str) (1 : Int).toNat = [56] := by unfold elt; rfl
    rw [if_pos (by decide), if_pos (by decide), if_pos (by decide), e]
    have := (b0 [9]).trans (b1 [9])
    have : script_numbers_l12 (((0 : Int), (([56] : Str), ((0 : Int), (([[57], [56]] : List Str), ((2 : Int), ((1 : Int), min (([56] : Str).length : Int) (14 : Int))))))), [9]) = _ := this
    rw [this, sb]
    dsimp only
    rw [if_pos (sumSm (by decide) (by omega))]
    exact l2
  have l0 : script_numbers_l4 (((0 : Int), (([[57], [56]] : List Str), (2 : Int))), []) = some [9, 8] := by
    rw [script_numbers_l4_eq]
    unfold script_numbers_l4F
    dsimp only
    have e : elt .str ([[57], [56]] : List Str) (0 : Int).toNat = [57] := by unfold elt; rfl
    rw [if_pos (by decide), if_pos (by decide), if_pos (by decide), e]
    have := (a0 []).trans (a1 [])
    have : script_numbers_l12 (((0 : Int), (([57] : Str), ((0 : Int), (([[57], [56]] : List Str), ((2 : Int), ((0 : Int), min (([57] : Str).length : Int) (14 : Int))))))), []) = _ := this
    rw [this, sb]
    dsimp only
    rw [if_pos (sumSm (by decide) (by omega))]
    exact l1
  unfold script_numbers
  have : script_numbers_l4 (((0 : Int), (([[57], [56]] : List Str), (([[57], [56]] : List Str).length : Int))), []) = _ := l0
  rw [this, sb]
set_option maxRecDepth 100000 in
theorem begin98 : script_begin [119, 111, 114, 108, 100, 32, 57, 32, 56] = some ((9, 8), true) := by
  have hs : lib_Split (([119, 111, 114, 108, 100, 32, 57, 32, 56] : Str), ([32] : Str)) = some [[119, 111, 114, 108, 100], [57], [56]] := by
    unfold lib_Split
    dsimp only
    rw [if_pos (by decide)]
    have : Lib.split [119, 111, 114, 108, 100, 32, 57, 32, 56] [32] = [[119, 111, 114, 108, 100], [57], [56]] := by decide +kernel
    rw [this]
  have e0 : elt .str ([[119, 111, 114, 108, 100], [57], [56]] : List Str) 0 = [119, 111, 114, 108, 100] := by unfold elt; rfl
  have n0 : elt (.int .i64) ([9, 8] : List Int) 0 = 9 := by unfold elt; rfl
  have n1 : elt (.int .i64) ([9, 8] : List Int) 1 = 8 := by unfold elt; rfl
  have hn : script_numbers (List.drop 1 (List.take ((([[119, 111, 114, 108, 100], [57], [56]] : List Str).length : Int)).toNat ([[119, 111, 114, 108, 100], [57], [56]] : List Str))) = some [9, 8] := numbers98
  have hb : script_begins ((9 : Int), ((8 : Int), [])) = some true := begins_is (9, (8, []))
  have h98 := head98
  have hl : script_line (([119, 111, 114, 108, 100] : Str), ([9, 8], [])) = some (headP 9 8) := line_is (w := [119, 111, 114, 108, 100]) (nums := [9, 8]) (texts := []) (fun x hx => by
      simp only [List.mem_cons, List.not_mem_nil, or_false] at hx
      rcases hx with rfl | rfl <;> rfl) (by simp) (by simp) (by
      have : (headP 9 8).length = 10 := by rw [head98]; rfl
      unfold headP at this
      rw [List.length_append] at this
      omega)
  unfold script_begin
  rw [hs, sb, if_neg (by decide), if_pos (by decide), e0, if_neg (by decide), if_pos (by decide), if_pos (by decide), hn, sb, if_pos (by decide), if_pos (by decide), n0, n1, hb, sb, if_pos rfl, if_pos (by decide), hl, sb, if_pos (by decide), head98]
  rfl
theorem parse98 : script_Parse aliveT = some (((9 : Int), ((8 : Int), [])), ((0 : Int), (0 : Int))) := by
  have hc : lib_Cut (aliveT, ([10] : Str)) = some ([119, 111, 114, 108, 100, 32, 57, 32, 56], [], true) := by
    unfold lib_Cut
    dsimp only
    rw [if_pos (by decide)]
    have : Lib.cut aliveT [10] = ([119, 111, 114, 108, 100, 32, 57, 32, 56], [], true) := by decide +kernel
    rw [this]
  have hl : script_Parse_l8 (((2 : Int), ([] : Str)), (((0 : Int), (0 : Int)), (((9 : Int), (8 : Int)), []))) = some (.inr (((0 : Int), (0 : Int)), (((9 : Int), (8 : Int)), []))) := (script_Parse_l8_eq _).trans rfl
  unfold script_Parse
  rw [hc, sb]
  dsimp only
  rw [begin98, sb, if_neg (by decide), if_neg (by decide)]
  dsimp only
  rw [hl, sb]
  rfl
theorem alive20 : law20_alive () = some true := by
  unfold law20_alive
  rw [print98, sb]
  dsimp only
  rw [parse98, sb, if_pos (by decide), if_pos (by decide), if_pos (by decide), if_pos (by decide)]
  dsimp only
  rw [Right_is small98, right98]
  rfl

/-! how many lines -/
theorem dec_bytes : ∀ u : Nat, ∀ b ∈ Lib.decDigits u, b ≠ 10 := by
  intro u
  induction u using Nat.strongRecOn with
  | _ u ih =>
    intro b hb
    have one : ∀ m, m < 10 → UInt8.ofNat (48 + m) ≠ 10 := by
      intro m hm
      have : m = 0 ∨ m = 1 ∨ m = 2 ∨ m = 3 ∨ m = 4 ∨ m = 5 ∨ m = 6 ∨ m = 7 ∨ m = 8 ∨ m = 9 := by omega
      rcases this with e | e | e | e | e | e | e | e | e | e <;> subst e <;> decide
    rw [Lib.decDigits] at hb
    split at hb
    · rename_i h
      rw [List.mem_singleton.1 hb]
      exact one u h
    · rcases List.mem_append.1 hb with hb | hb
      · exact ih (u / 10) (by omega) b hb
      · rw [List.mem_singleton.1 hb]
        exact one _ (Nat.mod_lt _ (by omega))
theorem numS_bytes {l : List Int} (h : ∀ n ∈ l, okNum n = true) : (10 : UInt8) ∉ numS l := by
  intro hb
  obtain ⟨n, hn, hb⟩ := List.mem_flatMap.1 hb
  rcases List.mem_cons.1 hb with e | hb
  · exact absurd e (by decide)
  · obtain ⟨k, rfl⟩ := Int.eq_ofNat_of_zero_le (okNum_iff.1 (h n hn)).1
    rw [Lib.itoa_nonneg] at hb
    exact dec_bytes k _ hb rfl
theorem hexD_not {m : Nat} (h : m < 16) : hexD m ≠ 10 := by
  have : m = 0 ∨ m = 1 ∨ m = 2 ∨ m = 3 ∨ m = 4 ∨ m = 5 ∨ m = 6 ∨ m = 7 ∨ m = 8 ∨ m = 9 ∨ m = 10 ∨ m = 11 ∨ m = 12 ∨ m = 13 ∨ m = 14 ∨ m = 15 := by omega
  rcases this with e | e | e | e | e | e | e | e | e | e | e | e | e | e | e | e <;> subst e <;> decide
theorem txtS_bytes (l : List Str) : (10 : UInt8) ∉ txtS l := by
  intro hb
  obtain ⟨s, _, hb⟩ := List.mem_flatMap.1 hb
  rcases List.mem_cons.1 hb with e | hb
  · exact absurd e (by decide)
  rcases List.mem_cons.1 hb with e | hb
  · exact absurd e (by decide)
  obtain ⟨b, _, hb⟩ := List.mem_flatMap.1 hb
  have := b.toNat_lt
  simp only [List.mem_cons, List.not_mem_nil, or_false] at hb
  rcases hb with e | e
  · exact hexD_not (by omega) e.symm
  · exact hexD_not (by omega) e.symm
theorem lineS_bytes {w : Str} (hw : (10 : UInt8) ∉ w) {l : List Int} (h : ∀ n ∈ l, okNum n = true) (t : List Str) : (10 : UInt8) ∉ lineS w l t := by
  intro hb
  rcases List.mem_append.1 hb with hb | hb
  · exact hw hb
  · rcases List.mem_append.1 hb with hb | hb
    · exact numS_bytes h hb
    · exact txtS_bytes t hb
theorem word_bytes {k : Int} (h : 1 ≤ k ∧ k ≤ 12) : (10 : UInt8) ∉ (shpOf k).1 := by
  rcases kinds h with e | e | e | e | e | e | e | e | e | e | e | e <;> subst e <;> decide
theorem lineD_bytes {d : Deed} (h : DeedOk d) : (10 : UInt8) ∉ lineD d := lineS_bytes (word_bytes h.kind) h.nums _
end Go.Plain

/-
  20, plain, part F: words; numbers and texts of words; the first line.
-/
namespace Go.Plain
open Go.AM
set_option linter.unusedVariables false

/-- The words of a text, parted by a byte. -/
def words (c : UInt8) : Str → List Str
  | [] => [[]]
  | b :: r => if b = c then [] :: words c r else match words c r with
    | w :: ws => (b :: w) :: ws
    | [] => [[b]]
def glue (c : UInt8) (l : List Str) : Str := l.flatMap fun w => c :: w
theorem words_ne (c : UInt8) : ∀ s : Str, words c s ≠ []
  | [] => by simp [words]
  | b :: r => by
    unfold words
    split
    · simp
    · split <;> simp
theorem words_none {c : UInt8} : ∀ {w : Str}, c ∉ w → words c w = [w]
  | [], _ => rfl
  | b :: r, h => by
    have h1 : b ≠ c := fun e => h (by simp [e])
    have h2 := words_none (c := c) (w := r) fun e => h (by simp [e])
    unfold words
    rw [if_neg h1, h2]
theorem words_app {c : UInt8} (r : Str) : ∀ {w : Str}, c ∉ w → words c (w ++ c :: r) = w :: words c r
  | [], _ => by simp [words]
  | b :: w, h => by
    have h1 : b ≠ c := fun e => h (by simp [e])
    have h2 := words_app (c := c) r (w := w) fun e => h (by simp [e])
    rw [List.cons_append]
    conv => lhs; rw [words, if_neg h1, h2]
theorem words_glue {c : UInt8} : ∀ (l : List Str) {w : Str}, c ∉ w → (∀ x ∈ l, c ∉ x) → words c (w ++ glue c l) = w :: l
  | [], w, h, _ => by simp [glue, words_none h]
  | x :: l, w, h, hl => by
    have e : w ++ glue c (x :: l) = w ++ c :: (x ++ glue c l) := by simp [glue]
    rw [e, words_app _ h, words_glue l (hl x List.mem_cons_self) fun y hy => hl y (List.mem_cons_of_mem _ hy)]
theorem words_join (c : UInt8) : ∀ s : Str, ∃ w l, words c s = w :: l ∧ s = w ++ glue c l
  | [] => ⟨[], [], rfl, rfl⟩
  | b :: r => by
    obtain ⟨w, l, h1, h2⟩ := words_join c r
    unfold words
    by_cases e : b = c
    · rw [if_pos e, h1]
      refine ⟨[], w :: l, rfl, ?_⟩
      rw [e, List.nil_append]
      conv => lhs; rw [h2]
      simp [glue]
    · rw [if_neg e, h1]
      exact ⟨b :: w, l, rfl, by rw [List.cons_append, ← h2]⟩
theorem words_len (c : UInt8) : ∀ s : Str, (words c s).length ≤ s.length + 1
  | [] => by simp [words]
  | b :: r => by
    have ih := words_len c r
    unfold words
    split
    · simp; omega
    · split
      · rename_i w ws e
        rw [e] at ih
        simp at ih ⊢
        omega
      · simp
theorem glue_len (c : UInt8) : ∀ (l : List Str) (x : Str), x ∈ l → x.length ≤ (glue c l).length
  | y :: l, x, h => by
    have e : glue c (y :: l) = (c :: y) ++ glue c l := by simp [glue]
    rw [e, List.length_append, List.length_cons]
    rcases List.mem_cons.1 h with rfl | h
    · omega
    · have := glue_len c l x h
      omega
theorem words_mem_len {c : UInt8} {s x : Str} (h : x ∈ words c s) : x.length ≤ s.length := by
  obtain ⟨w, l, h1, h2⟩ := words_join c s
  rw [h1] at h
  have e : s.length = w.length + (glue c l).length := by rw [← List.length_append, ← h2]
  rcases List.mem_cons.1 h with rfl | h
  · omega
  · have := glue_len c l x h
    omega
theorem index_none {c : UInt8} : ∀ {s : Str}, c ∉ s → Lib.index s [c] = -1
  | [], _ => by simp [Lib.index]
  | b :: l, h => by
    have h1 : b ≠ c := fun e => h (by simp [e])
    have hp : ([c] : List UInt8).isPrefixOf (b :: l) = false := by simp [List.isPrefixOf, Ne.symm h1]
    rw [Lib.index, hp]
    have := index_none (c := c) (s := l) fun e => h (by simp [e])
    simp [this]
theorem index_at {c : UInt8} (r : Str) : ∀ {w : Str}, c ∉ w → Lib.index (w ++ c :: r) [c] = (w.length : Int)
  | [], _ => by rw [List.nil_append, Lib.index]; simp [List.isPrefixOf]
  | b :: w, h => by
    have h1 : b ≠ c := fun e => h (by simp [e])
    have hp : ([c] : List UInt8).isPrefixOf (b :: (w ++ c :: r)) = false := by simp [List.isPrefixOf, Ne.symm h1]
    rw [List.cons_append, Lib.index, hp]
    have := index_at r (c := c) (w := w) fun e => h (by simp [e])
    rw [this]
    rw [if_neg (by decide), if_neg (by rw [beq_iff_eq]; omega)]
    simp
theorem cut_none {c : UInt8} {s : Str} (h : c ∉ s) : Lib.cut s [c] = (s, [], false) := by
  unfold Lib.cut
  rw [index_none h, if_neg (by decide)]
theorem cut_at {c : UInt8} {w : Str} (r : Str) (h : c ∉ w) : Lib.cut (w ++ c :: r) [c] = (w, r, true) := by
  unfold Lib.cut
  rw [index_at r h, if_pos (by omega), Int.toNat_natCast, List.take_left' rfl]
  have : List.drop (w.length + ([c] : List UInt8).length) (w ++ c :: r) = r := by
    rw [midS]
    exact List.drop_left' (by simp)
  rw [this]
theorem first_or {c : UInt8} (s : Str) : c ∉ s ∨ ∃ w r, s = w ++ c :: r ∧ c ∉ w := by
  by_cases h : c ∈ s
  · exact .inr (List.eq_append_cons_of_mem h)
  · exact .inl h
theorem split_words (c : UInt8) : ∀ (n : Nat) (s : Str), s.length ≤ n → Lib.splitK [c] 0 (s.count c) s = words c s := by
  intro n
  induction n with
  | zero =>
    intro s h
    have : s = [] := List.eq_nil_of_length_eq_zero (by omega)
    subst this
    rfl
  | succ n ih =>
    intro s h
    rcases first_or (c := c) s with h1 | ⟨w, r, e, h1⟩
    · rw [List.count_eq_zero_of_not_mem h1, words_none h1]
      rfl
    · have hc : s.count c = r.count c + 1 := by
        rw [e, List.count_append, List.count_eq_zero_of_not_mem h1, List.count_cons_self]
        omega
      have hl : s.length = w.length + (r.length + 1) := by rw [e]; simp
      have hi : Lib.index s [c] = (w.length : Int) := by rw [e]; exact index_at r h1
      rw [hc, Lib.splitK, hi, if_neg (by rw [beq_iff_eq]; omega), Int.toNat_natCast, Nat.add_zero]
      have e1 : s.take w.length = w := by rw [e]; exact List.take_left' rfl
      have e2 : List.drop (w.length + ([c] : List UInt8).length) s = r := by
        rw [e, midS]
        exact List.drop_left' (by simp)
      rw [e1, e2, ih r (by omega), e, words_app r h1]
theorem lib_Split_is {s : Str} (h : s.length ≤ 1000000) (c : UInt8) : lib_Split (s, [c]) = some (words c s) := by
  unfold lib_Split
  dsimp only
  rw [if_pos ⟨by omega, by simp⟩]
  unfold Lib.split
  rw [Lib.count_one, split_words c s.length s (Nat.le_refl _)]

/-! the reference's words -/
theorem snocS_take {s : Str} {a b : Str} {x : UInt8} (e : s = a ++ x :: b) : List.drop a.length (List.take (a.length + 1) s) = [x] := by
  rw [e, midS]
  have : List.take (a.length + 1) ((a ++ [x]) ++ b) = a ++ [x] := List.take_left' (by simp)
  rw [this]
  exact List.drop_left' rfl
theorem bt_mid {s : Str} {a b : Str} {x : UInt8} (e : s = a ++ x :: b) : bt s (a.length : Int) = (x.toNat : Int) := by
  have hl : a.length < s.length := by rw [e]; simp
  rw [bt_at hl]
  simp [e]
theorem sumS16 {n : Nat} (h : n ≤ 30000) : sumOk n 16 := by
  unfold sumOk
  constructor <;> omega
theorem Split_l5_is {s : Str} (hs : s.length ≤ 20000) (k : UInt8) : ∀ (b a now : Str) (c : List Str), s = a ++ b → c.length ≤ a.length → now.length ≤ a.length →
    ∃ now' c', ref03_Split_l5 (((a.length : Int), (now, (s, (k.toNat : Int)))), c) = some (now', c') ∧ c'.length ≤ s.length ∧ ∃ w ws, words k b = w :: ws ∧ c' ++ [now'] = c ++ (now ++ w) :: ws := by
  intro b
  induction b with
  | nil =>
    intro a now c e hc hn
    rw [List.append_nil] at e
    rw [ref03_Split_l5_eq]
    unfold ref03_Split_l5F
    dsimp only
    rw [if_neg (by rw [e]; simp)]
    exact ⟨now, c, rfl, by rw [e]; exact hc, [], [], rfl, by simp⟩
  | cons x b ih =>
    intro a now c e hc hn
    have hl2 : s.length = a.length + (b.length + 1) := by rw [e]; simp
    have hw : IntKind.wrap .i64 ((a.length : Int) + 1) = (a.length : Int) + 1 := wr64 (by omega)
    have hb := bt_mid e
    have e4 : ((a.length : Int) + 1).toNat = a.length + 1 := by omega
    rw [ref03_Split_l5_eq]
    unfold ref03_Split_l5F
    dsimp only
    rw [hb, hw, if_pos (by rw [decide_eq_true_eq]; omega), if_pos (by omega), if_pos (by omega)]
    have xk : (((x.toNat : Int) == (k.toNat : Int)) = true) ↔ x = k := by
      rw [beq_iff_eq]
      constructor
      · intro h
        exact UInt8.toNat_inj.1 (by omega)
      · intro h; rw [h]
    by_cases g : x = k
    · obtain ⟨now', c', q1, q0, w, ws, q2, q3⟩ := ih (a ++ [x]) [] (c ++ [now]) (by rw [e]; simp) (by simp; omega) (by simp)
      rw [snocS_len] at q1
      rw [if_pos (xk.2 g), if_pos (sumS16 (by rw [one_len]; omega))]
      refine ⟨now', c', q1, q0, [], words k b, by rw [words, if_pos g], ?_⟩
      rw [q3, q2]
      simp
    · obtain ⟨now', c', q1, q0, w, ws, q2, q3⟩ := ih (a ++ [x]) (now ++ [x]) c (by rw [e]; simp) (by simp; omega) (by simp; omega)
      rw [snocS_len] at q1
      rw [if_neg (fun h => g (xk.1 h)), if_pos (by omega), if_pos (by omega), if_pos (by omega), Int.toNat_natCast, e4, snocS_take e, if_pos (by rw [one_len]; omega)]
      refine ⟨now', c', q1, q0, x :: w, ws, by rw [words, if_neg g, q2], ?_⟩
      rw [q3]
      simp
theorem ref03_Split_is {s : Str} (hs : s.length ≤ 20000) (k : UInt8) : ref03_Split (s, (k.toNat : Int)) = some (words k s) := by
  obtain ⟨now', c', q1, q0, w, ws, q2, q3⟩ := Split_l5_is hs k s [] [] [] rfl (by simp) (by simp)
  have q1 : ref03_Split_l5 (((0 : Int), ([], (s, (k.toNat : Int)))), []) = _ := q1
  unfold ref03_Split
  dsimp only
  rw [q1, sb]
  dsimp only
  rw [if_pos (sumS16 (by rw [one_len]; omega)), q3, q2]
  rfl

/-! numbers of words -/
def numStep (n : Int) (b : UInt8) : Int := IntKind.wrap .i64 (IntKind.wrap .i64 (10 * n) + max (IntKind.wrap .i64 (IntKind.wrap .i64 (b.toNat : Int) - 48)) 0)
def numV (s : Str) : Int := (s.take 14).foldl numStep 0
theorem numbers_l12_is {s : Str} (x8 : List Str) (x9 x10 : Int) (c : List Int) : ∀ (b a : Str) (n : Int), s.take 14 = a ++ b →
    script_numbers_l12 (((a.length : Int), (s, (n, (x8, (x9, (x10, ((s.take 14).length : Int))))))), c) = some ((x8, (x9, (x10, b.foldl numStep n))), c) := by
  intro b
  induction b with
  | nil =>
    intro a n e
    rw [List.append_nil] at e
    rw [script_numbers_l12_eq]
    unfold script_numbers_l12F
    dsimp only
    rw [if_neg (by rw [e]; simp)]
    rfl
  | cons x b ih =>
    intro a n e
    have hl2 : (s.take 14).length = a.length + (b.length + 1) := by rw [e]; simp
    have hl3 : (s.take 14).length = min 14 s.length := List.length_take
    have hw : IntKind.wrap .i64 ((a.length : Int) + 1) = (a.length : Int) + 1 := wr64 (by omega)
    have hb : bt s (a.length : Int) = (x.toNat : Int) := bt_mid (s := s) (a := a) (b := b ++ s.drop 14) (by
      conv => lhs; rw [← List.take_append_drop 14 s, e]
      simp)
    have q := ih (a ++ [x]) (numStep n x) (by rw [e]; simp)
    rw [snocS_len] at q
    rw [script_numbers_l12_eq]
    unfold script_numbers_l12F
    dsimp only
    rw [hb, hw, if_pos (by rw [decide_eq_true_eq]; omega), if_pos (by omega), if_pos (by omega)]
    exact q
theorem numbers_l4_is {l : List Str} (hl : l.length ≤ 20000) : ∀ (b a : List Str) (c : List Int), l = a ++ b → c.length = a.length →
    script_numbers_l4 (((a.length : Int), (l, (l.length : Int))), c) = some (c ++ b.map numV) := by
  intro b
  induction b with
  | nil =>
    intro a c e _
    rw [List.append_nil] at e
    rw [script_numbers_l4_eq]
    unfold script_numbers_l4F
    dsimp only
    rw [if_neg (by rw [e]; simp), List.map_nil, List.append_nil]
  | cons x b ih =>
    intro a c e hc
    have hl2 : l.length = a.length + (b.length + 1) := by rw [e]; simp
    have hw : IntKind.wrap .i64 ((a.length : Int) + 1) = (a.length : Int) + 1 := wr64 (by omega)
    have he : elt .str l a.length = x := by rw [e]; exact eltS_mid .str a x b
    have q := ih (a ++ [x]) (c ++ [numV x]) (by rw [e]; simp) (by simp [hc])
    rw [snocS_len] at q
    have hm : min (x.length : Int) (14 : Int) = ((x.take 14).length : Int) := by rw [List.length_take]; omega
    have q1 := numbers_l12_is (s := x) l (l.length : Int) (a.length : Int) c (x.take 14) [] 0 rfl
    have q1 : script_numbers_l12 (((0 : Int), (x, ((0 : Int), (l, ((l.length : Int), ((a.length : Int), ((x.take 14).length : Int))))))), c) = some ((l, ((l.length : Int), ((a.length : Int), numV x))), c) := q1
    rw [script_numbers_l4_eq]
    unfold script_numbers_l4F
    dsimp only
    rw [Int.toNat_natCast, he, hm, if_pos (by rw [decide_eq_true_eq]; omega), if_pos (by omega), if_pos (by omega), q1, sb]
    dsimp only
    have hsum : sumOk (c.length + [numV x].length) 8 := by
      rw [one_len]
      unfold sumOk
      constructor <;> omega
    rw [if_pos hsum, hw, q, List.append_assoc]
    rfl
theorem numbers_is {l : List Str} (hl : l.length ≤ 20000) : script_numbers l = some (l.map numV) := by
  have q := numbers_l4_is hl l [] [] rfl rfl
  have q : script_numbers_l4 (((0 : Int), (l, (l.length : Int))), []) = _ := q
  unfold script_numbers
  rw [q, sb, List.nil_append]
theorem dec_len : ∀ (k u : Nat), u < 10 ^ (k + 1) → (Lib.decDigits u).length ≤ k + 1 := by
  intro k
  induction k with
  | zero =>
    intro u h
    rw [Lib.decDigits, dif_pos (by simpa using h)]
    simp
  | succ k ih =>
    intro u h
    rw [Lib.decDigits]
    split
    · simp
    · have : u / 10 < 10 ^ (k + 1) := by
        rw [Nat.div_lt_iff_lt_mul (by omega)]
        rw [Nat.pow_succ] at h
        exact h
      have := ih (u / 10) this
      rw [List.length_append, one_len]
      omega
theorem digit_nat {m : Nat} (h : m < 10) : (UInt8.ofNat (48 + m)).toNat = 48 + m := by
  rw [UInt8.toNat_ofNat']
  omega
theorem numStep_digit {u m : Nat} (h : m < 10) (hu : u ≤ 1099511627776) : numStep (u : Int) (UInt8.ofNat (48 + m)) = ((10 * u + m : Nat) : Int) := by
  unfold numStep
  rw [digit_nat h]
  have e1 : IntKind.wrap .i64 ((10 : Int) * (u : Int)) = ((10 * u : Nat) : Int) := by rw [wr64 (by omega)]; omega
  have e2 : IntKind.wrap .i64 ((48 + m : Nat) : Int) = ((48 + m : Nat) : Int) := wr64 (by omega)
  have e3 : IntKind.wrap .i64 (((48 + m : Nat) : Int) - 48) = (m : Int) := by rw [wr64 (by omega)]; omega
  rw [e1, e2, e3, wr64 (by omega)]
  omega
theorem fold_dec : ∀ u : Nat, u ≤ 1099511627776 → (Lib.decDigits u).foldl numStep 0 = (u : Int) := by
  intro u
  induction u using Nat.strongRecOn with
  | _ u ih =>
    intro h
    rw [Lib.decDigits]
    split
    · rename_i c
      show numStep ((0 : Nat) : Int) (UInt8.ofNat (48 + u)) = _
      rw [numStep_digit c (by omega)]
      omega
    · rw [List.foldl_append, ih (u / 10) (by omega) (by omega)]
      show numStep ((u / 10 : Nat) : Int) (UInt8.ofNat (48 + u % 10)) = _
      rw [numStep_digit (Nat.mod_lt _ (by omega)) (by omega)]
      omega
theorem itoa_len {k : Int} (h : okNum k = true) : (Lib.itoa k).length ≤ 13 := by
  obtain ⟨h0, h1⟩ := okNum_iff.1 h
  obtain ⟨u, rfl⟩ := Int.eq_ofNat_of_zero_le h0
  rw [Lib.itoa_nonneg]
  exact dec_len 12 u (by omega)
theorem numV_itoa {k : Int} (h : okNum k = true) : numV (Lib.itoa k) = k := by
  have hl := itoa_len h
  obtain ⟨h0, h1⟩ := okNum_iff.1 h
  obtain ⟨u, rfl⟩ := Int.eq_ofNat_of_zero_le h0
  unfold numV
  rw [List.take_of_length_le (by omega)]
  rw [Lib.itoa_nonneg]
  exact fold_dec u (by omega)
theorem dec_bytes2 (c : UInt8) (hc : c.toNat < 48 ∨ 57 < c.toNat) : ∀ u : Nat, c ∉ Lib.decDigits u := by
  intro u
  induction u using Nat.strongRecOn with
  | _ u ih =>
    intro hb
    have one : ∀ m, m < 10 → c ≠ UInt8.ofNat (48 + m) := by
      intro m hm e
      have := digit_nat hm
      rw [← e] at this
      omega
    rw [Lib.decDigits] at hb
    split at hb
    · rename_i h
      exact one u h (List.mem_singleton.1 hb)
    · rcases List.mem_append.1 hb with hb | hb
      · exact ih (u / 10) (by omega) hb
      · exact one _ (Nat.mod_lt _ (by omega)) (List.mem_singleton.1 hb)
theorem itoa_no32 {k : Int} (h : okNum k = true) : (32 : UInt8) ∉ Lib.itoa k := by
  obtain ⟨u, rfl⟩ := Int.eq_ofNat_of_zero_le (okNum_iff.1 h).1
  rw [Lib.itoa_nonneg]
  exact dec_bytes2 32 (by decide) u
theorem hexS_no {c : UInt8} (h : ∀ m, m < 16 → c ≠ hexD m) (s : Str) : c ∉ hexS s := by
  intro hb
  obtain ⟨b, _, hb⟩ := List.mem_flatMap.1 hb
  have := b.toNat_lt
  simp only [List.mem_cons, List.not_mem_nil, or_false] at hb
  rcases hb with e | e
  · exact h _ (by omega) e
  · exact h _ (by omega) e
theorem hexD_32 : ∀ m, m < 16 → (32 : UInt8) ≠ hexD m := by
  intro m h
  have : m = 0 ∨ m = 1 ∨ m = 2 ∨ m = 3 ∨ m = 4 ∨ m = 5 ∨ m = 6 ∨ m = 7 ∨ m = 8 ∨ m = 9 ∨ m = 10 ∨ m = 11 ∨ m = 12 ∨ m = 13 ∨ m = 14 ∨ m = 15 := by omega
  rcases this with e | e | e | e | e | e | e | e | e | e | e | e | e | e | e | e <;> subst e <;> decide
theorem lineS_glue (w : Str) (nums : List Int) (texts : List Str) : lineS w nums texts = w ++ glue 32 (nums.map Lib.itoa ++ texts.map fun s => 120 :: hexS s) := by
  unfold lineS glue numS txtS
  rw [List.flatMap_append, List.flatMap_map, List.flatMap_map]
theorem words_line {w : Str} (hw : (32 : UInt8) ∉ w) {nums : List Int} (hn : ∀ n ∈ nums, okNum n = true) (texts : List Str) :
    words 32 (lineS w nums texts) = w :: (nums.map Lib.itoa ++ texts.map fun s => 120 :: hexS s) := by
  rw [lineS_glue]
  refine words_glue _ hw fun x hx => ?_
  rcases List.mem_append.1 hx with hx | hx
  · obtain ⟨n, h1, rfl⟩ := List.mem_map.1 hx
    exact itoa_no32 (hn n h1)
  · obtain ⟨s, h1, rfl⟩ := List.mem_map.1 hx
    intro hb
    rcases List.mem_cons.1 hb with e | hb
    · exact absurd e (by decide)
    · exact hexS_no hexD_32 s hb

/-! the first line -/
abbrev worldW : Str := [119, 111, 114, 108, 100]
theorem begin_is {row : Str} (hr : row.length ≤ 12000) : ∃ v b, script_begin row = some (v, b) ∧ (b = true → beginsB v.1 v.2 = true ∧ row = lineS worldW [v.1, v.2] []) := by
  have hwl := words_len 32 row
  have hml : ∀ x ∈ words 32 row, x.length ≤ row.length := fun x hx => words_mem_len hx
  unfold script_begin
  rw [lib_Split_is (by omega) 32, sb]
  by_cases c3 : (words 32 row).length = 3
  · obtain ⟨a, b, c, e⟩ : ∃ a b c, words 32 row = [a, b, c] := by
      match words 32 row, c3 with
      | [a, b, c], _ => exact ⟨a, b, c, rfl⟩
    rw [e]
    have e0 : elt .str [a, b, c] 0 = a := by unfold elt; rfl
    have d1 : List.drop 1 (List.take (([a, b, c] : List Str).length : Int).toNat [a, b, c]) = [b, c] := rfl
    rw [if_neg (by simp), if_pos (by simp), e0, d1]
    by_cases cw : a = worldW
    · rw [if_neg (by simp [cw]), if_pos (by simp), if_pos (by simp), numbers_is (by simp), sb]
      have n0 : elt (.int .i64) (List.map numV [b, c]) 0 = numV b := by unfold elt; rfl
      have n1 : elt (.int .i64) (List.map numV [b, c]) 1 = numV c := by unfold elt; rfl
      rw [if_pos (by simp), if_pos (by simp), n0, n1, begins_is, sb]
      dsimp only
      cases hb : beginsB (numV b) (numV c) with
      | false =>
        rw [if_neg (by decide)]
        exact ⟨_, _, rfl, fun h => by cases h⟩
      | true =>
        obtain ⟨g1, g2⟩ := begins_num hb
        have hln : (lineS worldW [numV b, numV c] []).length ≤ 100 := by
          have := headP_len hb
          unfold headP at this
          rw [List.length_append] at this
          change (lineS [119, 111, 114, 108, 100] [numV b, numV c] []).length ≤ 100
          omega
        have hl : script_line (a, (List.map numV [b, c], [])) = some (lineS worldW [numV b, numV c] [] ++ [10]) := by
          rw [cw]
          exact line_is (w := worldW) (nums := [numV b, numV c]) (texts := []) (fun x hx => by
            simp only [List.mem_cons, List.not_mem_nil, or_false] at hx
            rcases hx with rfl | rfl
            · exact g1
            · exact g2) (by simp) (by simp) (by omega)
        rw [if_pos rfl, if_pos (by simp), hl, sb, if_pos (by rw [one_len]; omega)]
        refine ⟨_, _, rfl, fun h => ⟨hb, ?_⟩⟩
        rw [beq_iff_eq] at h
        exact (List.append_cancel_right h).symm
    · rw [if_pos (by simpa using cw)]
      exact ⟨_, _, rfl, fun h => by cases h⟩
  · rw [if_pos (by simp; omega)]
    exact ⟨_, _, rfl, fun h => by cases h⟩
theorem begin_full {q n : Int} (h : beginsB q n = true) : script_begin (lineS worldW [q, n] []) = some ((q, n), true) := by
  obtain ⟨g1, g2⟩ := begins_num h
  have hn : ∀ x ∈ [q, n], okNum x = true := fun x hx => by
    simp only [List.mem_cons, List.not_mem_nil, or_false] at hx
    rcases hx with rfl | rfl
    · exact g1
    · exact g2
  have hw := words_line (w := worldW) (by decide) (nums := [q, n]) hn []
  have hw : words 32 (lineS worldW [q, n] []) = [worldW, Lib.itoa q, Lib.itoa n] := hw
  have hln : (lineS worldW [q, n] []).length ≤ 100 := by
    have := headP_len h
    unfold headP at this
    rw [List.length_append] at this
    change (lineS [119, 111, 114, 108, 100] [q, n] []).length ≤ 100
    omega
  have e0 : elt .str [worldW, Lib.itoa q, Lib.itoa n] 0 = worldW := by unfold elt; rfl
  have d1 : List.drop 1 (List.take (([worldW, Lib.itoa q, Lib.itoa n] : List Str).length : Int).toNat [worldW, Lib.itoa q, Lib.itoa n]) = [Lib.itoa q, Lib.itoa n] := rfl
  have m1 : List.map numV [Lib.itoa q, Lib.itoa n] = [q, n] := by simp [numV_itoa g1, numV_itoa g2]
  have n0 : elt (.int .i64) [q, n] 0 = q := by unfold elt; rfl
  have n1 : elt (.int .i64) [q, n] 1 = n := by unfold elt; rfl
  have hl : script_line (worldW, ([q, n], [])) = some (lineS worldW [q, n] [] ++ [10]) := line_is (w := worldW) (nums := [q, n]) (texts := []) hn (by simp) (by simp) (by omega)
  unfold script_begin
  rw [lib_Split_is (by omega) 32, sb, hw, if_neg (by simp), if_pos (by simp), e0, if_neg (by simp), if_pos (by simp), if_pos (by simp), d1, numbers_is (by simp), m1, sb, if_pos (by simp), if_pos (by simp), n0, n1, begins_is, sb]
  dsimp only
  rw [h, if_pos rfl, if_pos (by simp), hl, sb, if_pos (by rw [one_len]; omega)]
  simp
end Go.Plain

/-
  20, plain, part G: a deed's line, read.
-/
namespace Go.Plain
open Go.AM
set_option linter.unusedVariables false

/-- A text of a word. -/
noncomputable def txtV (w : Str) : Str := ((octet_Bytes (Lib.trimPrefix w [120])).getD ([], 0)).1
theorem trim_len (w : Str) : (Lib.trimPrefix w [120]).length ≤ w.length := by
  unfold Lib.trimPrefix
  split
  · rw [List.length_drop]; omega
  · exact Nat.le_refl _
theorem texts_l4_is {l : List Str} (hl : l.length ≤ 20000) (hx : ∀ x ∈ l, x.length ≤ 1000000) : ∀ (b a : List Str) (c : List Str), l = a ++ b → c.length = a.length →
    script_texts_l4 (((a.length : Int), (l, (l.length : Int))), c) = some (c ++ b.map txtV) := by
  intro b
  induction b with
  | nil =>
    intro a c e _
    rw [List.append_nil] at e
    rw [script_texts_l4_eq]
    unfold script_texts_l4F
    dsimp only
    rw [if_neg (by rw [e]; simp), List.map_nil, List.append_nil]
  | cons x b ih =>
    intro a c e hc
    have hl2 : l.length = a.length + (b.length + 1) := by rw [e]; simp
    have hw : IntKind.wrap .i64 ((a.length : Int) + 1) = (a.length : Int) + 1 := wr64 (by omega)
    have he : elt .str l a.length = x := by rw [e]; exact eltS_mid .str a x b
    have q := ih (a ++ [x]) (c ++ [txtV x]) (by rw [e]; simp) (by simp [hc])
    rw [snocS_len] at q
    have hxl := hx x (by rw [e]; simp)
    have htl := trim_len x
    obtain ⟨r, h1, _⟩ := octet_Bytes_is (s := Lib.trimPrefix x [120]) (by omega)
    have ht : r.1 = txtV x := by unfold txtV; rw [h1]; rfl
    have hcp : lib_CutPrefix (x, ([120] : Str)) = some (Lib.trimPrefix x [120], Lib.hasPrefix x [120]) := rfl
    rw [script_texts_l4_eq]
    unfold script_texts_l4F
    dsimp only
    rw [Int.toNat_natCast, he, hw, if_pos (by rw [decide_eq_true_eq]; omega), if_pos (by omega), if_pos (by omega), hcp, sb]
    dsimp only
    rw [h1, sb, ht, if_pos (sumS16 (by rw [one_len]; omega)), q, List.append_assoc]
    rfl
theorem texts_is {l : List Str} (hl : l.length ≤ 20000) (hx : ∀ x ∈ l, x.length ≤ 1000000) : script_texts l = some (l.map txtV) := by
  have q := texts_l4_is hl hx l [] [] rfl rfl
  have q : script_texts_l4 (((0 : Int), (l, (l.length : Int))), []) = _ := q
  unfold script_texts
  rw [q, sb, List.nil_append]
theorem txtV_hex {s : Str} (h : s.length ≤ 1000) : txtV (120 :: hexS s) = s := by
  have hl := hexS_len s
  have e : Lib.trimPrefix (120 :: hexS s) [120] = hexS s := by simp [Lib.trimPrefix, Lib.hasPrefix, List.isPrefixOf]
  unfold txtV
  rw [e, octet_Bytes_val (by omega) (by omega) (hexS_isHex s)]
  exact unh_hexS s

/-! the words of the kinds -/
theorem shapes_words : ∀ p ∈ shapesL, ∀ q ∈ shapesL, p.2.1 = q.2.1 → p = q := by decide
theorem shapes_of {p : Int × (Str × (Int × Int))} (h : p ∈ shapesL) : (1 ≤ p.1 ∧ p.1 ≤ 12) ∧ shpOf p.1 = p.2 := by
  simp only [shapesL, List.mem_cons, List.not_mem_nil, or_false] at h
  rcases h with e | e | e | e | e | e | e | e | e | e | e | e <;> subst e <;> exact ⟨by decide, rfl⟩
theorem shapes_at {k : Int} (h : 1 ≤ k ∧ k ≤ 12) : (k, shpOf k) ∈ shapesL := by
  rcases kinds h with e | e | e | e | e | e | e | e | e | e | e | e <;> subst e <;> decide
/-- Is it a line of that kind? -/
def hitK (l : List Str) (p : Int × (Str × (Int × Int))) : Bool := decide (l.head? = some p.2.1) && decide ((l.length : Int) = 1 + p.2.2.1 + p.2.2.2)
theorem hit_one {l : List Str} {p q : Int × (Str × (Int × Int))} (hp : p ∈ shapesL) (hq : q ∈ shapesL) (h1 : hitK l p = true) (h2 : hitK l q = true) : p = q := by
  unfold hitK at h1 h2
  simp only [Bool.and_eq_true, decide_eq_true_eq] at h1 h2
  exact shapes_words p hp q hq (Option.some.inj (h1.1.symm.trans h2.1))
/-- What is read at a kind. -/
noncomputable def dAt (l : List Str) (p : Int × (Str × (Int × Int))) : Deed := (p.1, ((l.drop 1).take p.2.2.1.toNat |>.map numV, (l.drop (1 + p.2.2.1.toNat)).map txtV))
noncomputable def okAt (row : Str) (l : List Str) (p : Int × (Str × (Int × Int))) : Bool := isDeed (dAt l p) && decide (row = lineS p.2.1 (dAt l p).2.1 (dAt l p).2.2)
abbrev EntK : Type := (Bool × Int) × (Str × (Int × Int))
def entOf (e : EntK) : Int × (Str × (Int × Int)) := (e.1.2, e.2)
theorem deed_l4_is {row : Str} (hr : row.length ≤ 12000) (l : List Str) (hl : l = words 32 row) (c : Deed) (R : Deed ⊕ (Bool × Deed)) : ∀ (n : Nat) (rest : List EntK) (hd : EntK), rest.length = n → (∀ e ∈ rest, entOf e ∈ shapesL) →
    (∀ e ∈ rest, hitK l (entOf e) = true → R = .inr (okAt row l (entOf e), dAt l (entOf e))) → ((∀ e ∈ rest, hitK l (entOf e) = false) → R = .inl c) →
    script_deed_l4 ((row, l), (c, hd :: rest)) = some R := by
  have hwl := words_len 32 row
  have hml : ∀ x ∈ l, x.length ≤ row.length := fun x hx => words_mem_len (hl ▸ hx)
  have hpos : 0 < l.length := by
    rw [hl]
    exact List.length_pos_iff.2 (words_ne 32 row)
  have h0 : l.head? = some (elt .str l 0) := by
    obtain ⟨w, ws, h1, _⟩ := words_join 32 row
    rw [hl, h1]
    unfold elt
    rfl
  intro n
  induction n with
  | zero =>
    intro rest hd hn _ _ h4
    have : rest = [] := List.eq_nil_of_length_eq_zero hn
    subst this
    rw [script_deed_l4_eq]
    unfold script_deed_l4F
    dsimp only
    rw [if_pos (by simp), h4 (fun e he => by cases he)]
  | succ n ih =>
    intro rest hd hn h2 h3 h4
    rw [script_deed_l4_eq]
    unfold script_deed_l4F
    dsimp only
    have hne : ¬ (List.isEmpty (List.tail (hd :: rest)) = true) := by
      rw [List.isEmpty_iff]
      intro e
      have e : rest = [] := e
      rw [e] at hn
      cases hn
    rw [if_neg hne]
    refine agree_is (by show 0 < rest.length; omega) fun j hj => ?_
    have hj : j < rest.length := hj
    have eg : itGet (.int .i64) (.pair .str (.pair (.int .i64) (.int .i64))) (hd :: rest) j = rest[j] := by
      unfold itGet
      rw [List.tail_cons, List.getElem?_eq_getElem hj]
      rfl
    have hmem : rest[j] ∈ rest := List.getElem_mem hj
    obtain ⟨kk, hsp⟩ := shapes_of (h2 _ hmem)
    obtain ⟨s1, s2, s3, s4, s5⟩ := shp_small kk
    rw [hsp] at s1 s2 s3 s4 s5
    have more : hitK l (entOf rest[j]) = false → script_deed_l4 ((row, l), (c, itPut (.int .i64) (.pair .str (.pair (.int .i64) (.int .i64))) (hd :: rest) j)) = some R := fun hf => by
      refine ih (rest.eraseIdx j) _ (by rw [List.length_eraseIdx_of_lt hj]; omega) (fun e he => h2 e (List.mem_of_mem_eraseIdx he)) (fun e he => h3 e (List.mem_of_mem_eraseIdx he)) (fun hall => h4 fun e he => ?_)
      obtain ⟨i, hi, rfl⟩ := List.getElem_of_mem he
      by_cases hij : i = j
      · subst hij; exact hf
      · refine hall _ ?_
        rw [List.mem_eraseIdx_iff_getElem]
        exact ⟨i, hi, hij, rfl⟩
    rw [eg]
    obtain ⟨p, hp⟩ : ∃ p, p = entOf rest[j] := ⟨_, rfl⟩
    have e1 : (rest[j]).2.1 = p.2.1 := by rw [hp]; rfl
    have e2 : (rest[j]).2.2.1 = p.2.2.1 := by rw [hp]; rfl
    have e3 : (rest[j]).2.2.2 = p.2.2.2 := by rw [hp]; rfl
    have e4 : (rest[j]).1.2 = p.1 := by rw [hp]; rfl
    rw [e1, e2, e3, e4]
    rw [← hp] at more s1 s2 s3 s4 s5 hsp kk
    rw [if_pos (by omega)]
    by_cases hw : elt .str l 0 = p.2.1
    · rw [if_neg (by simp [hw])]
      have w1 : IntKind.wrap .i64 ((1 : Int) + p.2.2.1) = 1 + p.2.2.1 := wr64 (by omega)
      have w2 : IntKind.wrap .i64 ((1 : Int) + p.2.2.1 + p.2.2.2) = 1 + p.2.2.1 + p.2.2.2 := wr64 (by omega)
      rw [w1, w2]
      by_cases hlen : (l.length : Int) = 1 + p.2.2.1 + p.2.2.2
      · have hit : hitK l p = true := by
          unfold hitK
          rw [h0, hw, decide_eq_true rfl, decide_eq_true hlen]
          rfl
        have hR := h3 rest[j] hmem (hp ▸ hit)
        rw [← hp] at hR
        obtain ⟨a, ha⟩ := Int.eq_ofNat_of_zero_le s2
        obtain ⟨t, ht⟩ := Int.eq_ofNat_of_zero_le s4
        have eD : dAt l p = (p.1, (((l.drop 1).take a).map numV, (l.drop (1 + a)).map txtV)) := by
          unfold dAt
          rw [ha, Int.toNat_natCast]
        have ek : ((1 : Int) + (a : Int)).toNat = 1 + a := by omega
        have et : List.drop 1 (List.take (1 + a) l) = (l.drop 1).take a := by
          rw [List.drop_take]
          congr 1
          omega
        rw [if_neg (by simpa using hlen), ha, if_pos (by omega), if_pos (by omega), ek, et, numbers_is (by rw [List.length_take, List.length_drop]; omega), sb, if_pos (by omega), if_pos (by omega), if_pos (by omega),
          Int.toNat_natCast, List.take_length, texts_is (by rw [List.length_drop]; omega) (fun x hx => by have := hml x (List.mem_of_mem_drop hx); omega), sb,
          right_is (by dsimp only; rw [List.length_map, List.length_take, List.length_drop]; omega) (by dsimp only; rw [List.length_map, List.length_drop]; omega), sb, ← eD]
        cases hok : isDeed (dAt l p) with
        | false =>
          rw [if_neg (by decide), hR]
          unfold okAt
          rw [hok, eD]
          rfl
        | true =>
          have hd := isDeed_iff.1 hok
          have hll := lineD_len hd
          have hkk : (dAt l p).1 = p.1 := rfl
          have hlw : (lineS p.2.1 (dAt l p).2.1 (dAt l p).2.2) = lineD (dAt l p) := by
            unfold lineD
            rw [hkk, hsp]
          have hline : script_line (p.2.1, (((l.drop 1).take a).map numV, (l.drop (1 + a)).map txtV)) = some (lineD (dAt l p) ++ [10]) := by
            have := line_deed hd
            rw [hkk, hsp, eD] at this
            rw [eD]
            exact this
          rw [if_pos rfl, hline, sb, if_pos (by rw [one_len]; omega), hR]
          unfold okAt
          rw [hok, Bool.true_and, hlw]
          have : (lineD (dAt l p) ++ [10] == row ++ [10]) = decide (row = lineD (dAt l p)) := by
            by_cases g : row = lineD (dAt l p)
            · rw [decide_eq_true g, ← g]
              simp
            · rw [decide_eq_false g, beq_eq_false_iff_ne]
              exact fun q => g (List.append_cancel_right q).symm
          rw [this, eD]
      · rw [if_pos (by simpa using hlen)]
        refine more ?_
        unfold hitK
        rw [decide_eq_false hlen, Bool.and_false]
    · rw [if_pos (by simpa using fun e => hw e.symm)]
      refine more ?_
      unfold hitK
      rw [h0, decide_eq_false (fun e => hw (Option.some.inj e)), Bool.false_and]
theorem deed_is {row : Str} (hr : row.length ≤ 12000) : ∃ d b, script_deed row = some (d, b) ∧ (b = true → DeedOk d ∧ row = lineD d) := by
  obtain ⟨l, hl⟩ : ∃ l, l = words 32 row := ⟨_, rfl⟩
  have hsh : ∀ e ∈ (itNew (.int .i64) tShp shapesL).tail, entOf e ∈ shapesL := fun e he => by
    have he : e ∈ shapesL.map fun x => ((false, x.1), x.2) := he
    obtain ⟨x, hx, rfl⟩ := List.mem_map.1 he
    exact hx
  by_cases h : ∃ p ∈ shapesL, hitK l p = true
  · obtain ⟨p, hp, hit⟩ := h
    have q := deed_l4_is hr l hl ((0 : Int), ([], [])) (.inr (okAt row l p, dAt l p)) _ _ ((false, (0 : Int)), (([] : Str), ((0 : Int), (0 : Int)))) rfl hsh (fun e he h2 => by rw [hit_one (hsh e he) hp h2 hit]) (fun hall => by
      have := hall ((false, p.1), p.2) (List.mem_map.2 ⟨p, hp, rfl⟩)
      have : hitK l p = false := this
      rw [hit] at this
      cases this)
    have q : script_deed_l4 ((row, l), (((0 : Int), ([], [])), itNew (.int .i64) (.pair .str (.pair (.int .i64) (.int .i64))) shapesL)) = _ := q
    unfold script_deed
    rw [lib_Split_is (by omega) 32, sb, show lib_shapes () = some shapesL from rfl, sb, ← hl, q, sb]
    refine ⟨_, _, rfl, fun hb => ?_⟩
    have hb : okAt row l p = true := hb
    unfold okAt at hb
    simp only [Bool.and_eq_true, decide_eq_true_eq] at hb
    refine ⟨isDeed_iff.1 hb.1, ?_⟩
    show row = lineD (dAt l p)
    unfold lineD
    rw [show (dAt l p).1 = p.1 from rfl, (shapes_of hp).2]
    exact hb.2
  · have q := deed_l4_is hr l hl ((0 : Int), ([], [])) (.inl ((0 : Int), ([], []))) _ _ ((false, (0 : Int)), (([] : Str), ((0 : Int), (0 : Int)))) rfl hsh (fun e he h2 => absurd ⟨_, hsh e he, h2⟩ h) (fun _ => rfl)
    have q : script_deed_l4 ((row, l), (((0 : Int), ([], [])), itNew (.int .i64) (.pair .str (.pair (.int .i64) (.int .i64))) shapesL)) = _ := q
    unfold script_deed
    rw [lib_Split_is (by omega) 32, sb, show lib_shapes () = some shapesL from rfl, sb, ← hl, q, sb]
    exact ⟨_, _, rfl, fun hb => by cases hb⟩
theorem word_no32 {k : Int} (h : 1 ≤ k ∧ k ≤ 12) : (32 : UInt8) ∉ (shpOf k).1 := by
  rcases kinds h with e | e | e | e | e | e | e | e | e | e | e | e <;> subst e <;> decide
theorem words_lineD {d : Deed} (h : DeedOk d) : words 32 (lineD d) = (shpOf d.1).1 :: (d.2.1.map Lib.itoa ++ d.2.2.map fun s => 120 :: hexS s) := words_line (word_no32 h.kind) h.nums _
theorem deed_full {d : Deed} (h : DeedOk d) : script_deed (lineD d) = some (d, true) := by
  have hll := lineD_len h
  obtain ⟨l, hl⟩ : ∃ l, l = words 32 (lineD d) := ⟨_, rfl⟩
  have hw : l = (shpOf d.1).1 :: (d.2.1.map Lib.itoa ++ d.2.2.map fun s => 120 :: hexS s) := hl.trans (words_lineD h)
  have hp := shapes_at h.kind
  have h3 := h.nlen
  have h4 := h.tlen
  have hit : hitK l (d.1, shpOf d.1) = true := by
    unfold hitK
    rw [hw]
    simp only [List.head?_cons, decide_true, Bool.true_and, decide_eq_true_eq, List.length_cons, List.length_append, List.length_map]
    omega
  have hnn : (shpOf d.1).2.1.toNat = d.2.1.length := by omega
  have hd : dAt l (d.1, shpOf d.1) = d := by
    unfold dAt
    dsimp only
    rw [hnn, hw]
    have a1 : List.take d.2.1.length (List.drop 1 ((shpOf d.1).1 :: (d.2.1.map Lib.itoa ++ d.2.2.map fun s => 120 :: hexS s))) = d.2.1.map Lib.itoa := by
      rw [List.drop_one, List.tail_cons]
      exact List.take_left' (by simp)
    have a2 : List.drop (1 + d.2.1.length) ((shpOf d.1).1 :: (d.2.1.map Lib.itoa ++ d.2.2.map fun s => 120 :: hexS s)) = d.2.2.map fun s => 120 :: hexS s := by
      rw [Nat.add_comm, List.drop_succ_cons]
      exact List.drop_left' (by simp)
    rw [a1, a2, List.map_map, List.map_map]
    have b1 : List.map (numV ∘ Lib.itoa) d.2.1 = d.2.1 := by
      conv => rhs; rw [← List.map_id d.2.1]
      exact List.map_congr_left fun n hn => numV_itoa (h.nums n hn)
    have b2 : List.map (txtV ∘ fun s => 120 :: hexS s) d.2.2 = d.2.2 := by
      conv => rhs; rw [← List.map_id d.2.2]
      exact List.map_congr_left fun s hs => txtV_hex (of_decide_eq_true (h.texts s hs))
    rw [b1, b2]
  obtain ⟨d', b, q1, q2⟩ := deed_is (row := lineD d) (by omega)
  have hsh : ∀ e ∈ (itNew (.int .i64) tShp shapesL).tail, entOf e ∈ shapesL := fun e he => by
    have he : e ∈ shapesL.map fun x => ((false, x.1), x.2) := he
    obtain ⟨x, hx, rfl⟩ := List.mem_map.1 he
    exact hx
  have q := deed_l4_is (row := lineD d) (by omega) l hl ((0 : Int), ([], [])) (.inr (okAt (lineD d) l (d.1, shpOf d.1), dAt l (d.1, shpOf d.1))) _ _ ((false, (0 : Int)), (([] : Str), ((0 : Int), (0 : Int)))) rfl hsh (fun e he h2 => by rw [hit_one (hsh e he) hp h2 hit]) (fun hall => by
    have := hall ((false, d.1), shpOf d.1) (List.mem_map.2 ⟨_, hp, rfl⟩)
    have : hitK l (d.1, shpOf d.1) = false := this
    rw [hit] at this
    cases this)
  have q : script_deed_l4 ((lineD d, l), (((0 : Int), ([], [])), itNew (.int .i64) (.pair .str (.pair (.int .i64) (.int .i64))) shapesL)) = _ := q
  have hok : okAt (lineD d) l (d.1, shpOf d.1) = true := by
    unfold okAt
    rw [hd, isDeed_iff.2 h, Bool.true_and, decide_eq_true_eq]
    rfl
  unfold script_deed
  rw [lib_Split_is (by omega) 32, sb, show lib_shapes () = some shapesL from rfl, sb, ← hl, q, sb, hok, hd]
  rfl
end Go.Plain

/-
  20, plain, part H: what the reference reads.
-/
namespace Go.Plain
open Go.AM
set_option linter.unusedVariables false

/-! hex digits -/
theorem hexD_hv {b : UInt8} (h : isHex b = true) : hexD (hv b) = b := by
  have hb : b = UInt8.ofNat b.toNat := by simp
  simp only [isHex, Bool.or_eq_true, Bool.and_eq_true, decide_eq_true_eq] at h
  have : b.toNat = 48 ∨ b.toNat = 49 ∨ b.toNat = 50 ∨ b.toNat = 51 ∨ b.toNat = 52 ∨ b.toNat = 53 ∨ b.toNat = 54 ∨ b.toNat = 55 ∨ b.toNat = 56 ∨ b.toNat = 57 ∨ b.toNat = 97 ∨ b.toNat = 98 ∨ b.toNat = 99 ∨ b.toNat = 100 ∨ b.toNat = 101 ∨ b.toNat = 102 := by omega
  rcases this with e | e | e | e | e | e | e | e | e | e | e | e | e | e | e | e <;> rw [hb, e] <;> rfl
theorem hexS_unh : ∀ (n : Nat) (s : Str), s.length = 2 * n → s.all isHex = true → hexS (unh s) = s := by
  intro n
  induction n with
  | zero =>
    intro s h _
    have : s = [] := List.eq_nil_of_length_eq_zero (by omega)
    subst this
    rfl
  | succ n ih =>
    intro s h hx
    match s, h, hx with
    | a :: b :: r, h, hx =>
      simp only [List.all_cons, Bool.and_eq_true] at hx
      have h1 := hv_lt hx.1
      have h2 := hv_lt hx.2.1
      have ih := ih r (by simp at h; omega) hx.2.2
      have e : (UInt8.ofNat (16 * hv a + hv b)).toNat = 16 * hv a + hv b := by rw [UInt8.toNat_ofNat']; omega
      show [hexD ((UInt8.ofNat (16 * hv a + hv b)).toNat / 16), hexD ((UInt8.ofNat (16 * hv a + hv b)).toNat % 16)] ++ hexS (unh r) = _
      rw [ih, e, show (16 * hv a + hv b) / 16 = hv a by omega, show (16 * hv a + hv b) % 16 = hv b by omega, hexD_hv hx.1, hexD_hv hx.2.1]
      rfl
    | [a], h, hx => simp at h; omega
    | [], h, hx => simp at h
theorem ref01_l4_odd {s : Str} (hs : s.length ≤ 1000000) : ∀ (n i : Nat) (c : List Int), i + 2 * n + 1 = s.length → c.length ≤ i →
    ∃ r, ref01_Bytes_l4 (((i : Int), s), c) = some r ∧ (r = .inl ([], false) ∨ ∃ c', r = .inr (s, c')) := by
  intro n
  induction n with
  | zero =>
    intro i c hi hc
    have hw : IntKind.wrap .i64 ((i : Int) + 1) = (i : Int) + 1 := wr64 (by omega)
    rw [ref01_Bytes_l4_eq]
    unfold ref01_Bytes_l4F
    dsimp only
    rw [hw, if_neg (by rw [decide_eq_true_eq]; omega)]
    exact ⟨_, rfl, .inr ⟨c, rfl⟩⟩
  | succ n ih =>
    intro i c hi hc
    have h1 : i < s.length := by omega
    have h2 : i + 1 < s.length := by omega
    have hw : IntKind.wrap .i64 ((i : Int) + 1) = ((i + 1 : Nat) : Int) := by rw [wr64 (by omega)]; omega
    have hw2 : IntKind.wrap .i64 ((i : Int) + 2) = ((i + 2 : Nat) : Int) := by rw [wr64 (by omega)]; omega
    obtain ⟨a, ha, ga⟩ := half_is s[i]
    obtain ⟨b, hb, gb⟩ := half_is s[i + 1]
    rw [ref01_Bytes_l4_eq]
    unfold ref01_Bytes_l4F
    dsimp only
    rw [hw, hw2, bt_at h1, bt_at h2, if_pos (by rw [decide_eq_true_eq]; omega), if_pos (by omega), if_pos (by omega), ha, sb, ga]
    cases hx : isHex s[i] with
    | false => exact ⟨_, by simp, .inl rfl⟩
    | true =>
      rw [if_neg (by simp), if_pos (by omega), if_pos (by omega), hb, sb, gb]
      cases hy : isHex s[i + 1] with
      | false => exact ⟨_, by simp, .inl rfl⟩
      | true =>
        have hsum : ∀ v : Int, sumOk (c.length + [v].length) 1 := fun v => by constructor <;> simp <;> omega
        rw [if_neg (by simp), if_pos (by omega), if_pos (by omega), sb, if_pos (by omega), if_pos (by omega), sb, if_pos (hsum _)]
        exact ih (i + 2) _ (by omega) (by rw [List.length_append, one_len]; omega)
theorem bytes_sound {y : Str} (h : y.length ≤ 1000000) : ∃ r, ref01_Bytes y = some r ∧ (r.2 = true → y = hexS r.1) := by
  by_cases he : y.length % 2 = 0
  · by_cases hx : y.all isHex = true
    · rw [ref01_Bytes_val h he hx]
      exact ⟨_, rfl, fun _ => (hexS_unh (y.length / 2) y (by omega) hx).symm⟩
    · obtain ⟨c', q⟩ := ref01_l4_at h (y.length / 2) 0 [] (by omega) (by simp)
      rw [List.drop_zero, if_neg hx] at q
      have q : ref01_Bytes_l4 (((0 : Int), y), []) = _ := q
      unfold ref01_Bytes
      rw [q, sb]
      exact ⟨_, rfl, fun h => by cases h⟩
  · obtain ⟨r, q, hr⟩ := ref01_l4_odd h ((y.length - 1) / 2) 0 [] (by omega) (by simp)
    have q : ref01_Bytes_l4 (((0 : Int), y), []) = _ := q
    unfold ref01_Bytes
    rw [q, sb]
    rcases hr with rfl | ⟨c', rfl⟩
    · exact ⟨_, rfl, fun h => by cases h⟩
    · refine ⟨_, rfl, fun h => ?_⟩
      have h : (Int.tmod (y.length : Int) 2 == 0) = true := h
      rw [beq_iff_eq, Int.tmod_eq_emod_of_nonneg (by omega)] at h
      omega
theorem bytes_full {t : Str} (h : t.length ≤ 1000) : ref01_Bytes (hexS t) = some (t, true) := by
  have hl := hexS_len t
  rw [ref01_Bytes_val (by omega) (by omega) (hexS_isHex t), unh_hexS]

/-! numbers -/
theorem number_step {s : Str} {i : Nat} (hi : i < s.length) (hs : s.length ≤ 1000000) {m : Nat} (hm : m < 10) (hb : bt s (i : Int) = ((48 + m : Nat) : Int)) {n : Int} (h0 : 0 ≤ n) (h1 : n ≤ 1099511627776) :
    ref20_number_l4 ((i : Int), (s, n)) = ref20_number_l4 (((i + 1 : Nat) : Int), (s, 10 * n + (m : Int))) := by
  have hw : IntKind.wrap .i64 ((i : Int) + 1) = ((i + 1 : Nat) : Int) := by rw [wr64 (by omega)]; omega
  have e1 : IntKind.wrap .u8 (((48 + m : Nat) : Int) - 48) = (m : Int) := by rw [IntKind.wrap_u8]; omega
  have e2 : IntKind.wrap .i64 (m : Int) = (m : Int) := wr64 (by omega)
  have e3 : IntKind.wrap .i64 (10 * n) = 10 * n := wr64 (by omega)
  have e4 : IntKind.wrap .i64 (10 * n + (m : Int)) = 10 * n + (m : Int) := wr64 (by omega)
  conv => lhs; rw [ref20_number_l4_eq]
  unfold ref20_number_l4F
  dsimp only
  rw [hb, hw, e1, e2, e3, e4, if_pos (by rw [decide_eq_true_eq]; omega), if_pos (by omega), if_pos (by omega), if_neg (by rw [decide_eq_true_eq]; omega), if_pos (by omega), if_pos (by omega), if_neg (by rw [decide_eq_true_eq]; omega), if_neg (by rw [decide_eq_true_eq]; omega), if_pos (by omega), if_pos (by omega)]
theorem number_end {s : Str} (n : Int) : ref20_number_l4 ((s.length : Int), (s, n)) = some (.inr (n, s)) := by
  rw [ref20_number_l4_eq]
  unfold ref20_number_l4F
  dsimp only
  rw [if_neg (by simp)]
theorem number_dec : ∀ u : Nat, u ≤ 1099511627776 → ∀ t : Str, (Lib.decDigits u ++ t).length ≤ 1000000 → ref20_number_l4 ((0 : Int), (Lib.decDigits u ++ t, (0 : Int))) = ref20_number_l4 (((Lib.decDigits u).length : Int), (Lib.decDigits u ++ t, (u : Int))) := by
  intro u
  induction u using Nat.strongRecOn with
  | _ u ih =>
    intro h t hl
    by_cases c : u < 10
    · have e : Lib.decDigits u = [UInt8.ofNat (48 + u)] := by rw [Lib.decDigits, dif_pos c]
      rw [e] at hl ⊢
      have hb : bt ([UInt8.ofNat (48 + u)] ++ t) ((0 : Nat) : Int) = ((48 + u : Nat) : Int) := by
        rw [bt_at (by simp)]
        show ((UInt8.ofNat (48 + u)).toNat : Int) = _
        rw [digit_nat c]
      have q := number_step (s := [UInt8.ofNat (48 + u)] ++ t) (i := 0) (by simp) hl c hb (n := 0) (by omega) (by omega)
      have q : ref20_number_l4 ((0 : Int), ([UInt8.ofNat (48 + u)] ++ t, (0 : Int))) = _ := q
      rw [q]
      simp
    · have e : Lib.decDigits u = Lib.decDigits (u / 10) ++ [UInt8.ofNat (48 + u % 10)] := by rw [Lib.decDigits, dif_neg c]
      have e2 : Lib.decDigits u ++ t = Lib.decDigits (u / 10) ++ ([UInt8.ofNat (48 + u % 10)] ++ t) := by rw [e, List.append_assoc]
      have el : (Lib.decDigits u).length = (Lib.decDigits (u / 10)).length + 1 := by rw [e, List.length_append, one_len]
      rw [e2] at hl
      have q := ih (u / 10) (by omega) (by omega) ([UInt8.ofNat (48 + u % 10)] ++ t) hl
      have hb : bt (Lib.decDigits (u / 10) ++ ([UInt8.ofNat (48 + u % 10)] ++ t)) ((Lib.decDigits (u / 10)).length : Int) = ((48 + u % 10 : Nat) : Int) := by
        show bt (Lib.decDigits (u / 10) ++ UInt8.ofNat (48 + u % 10) :: t) _ = _
        rw [bt_mid (a := Lib.decDigits (u / 10)) (b := t) (x := UInt8.ofNat (48 + u % 10)) rfl, digit_nat (Nat.mod_lt _ (by omega))]
      have q2 := number_step (s := Lib.decDigits (u / 10) ++ ([UInt8.ofNat (48 + u % 10)] ++ t)) (i := (Lib.decDigits (u / 10)).length) (by simp) hl (Nat.mod_lt u (by omega)) hb (n := ((u / 10 : Nat) : Int)) (by omega) (by omega)
      rw [e2, q, q2, el]
      have : (10 : Int) * ((u / 10 : Nat) : Int) + ((u % 10 : Nat) : Int) = (u : Int) := by omega
      rw [this]
theorem number_full {k : Int} (h : okNum k = true) : ref20_number (Lib.itoa k) = some k := by
  have hl := itoa_len h
  have hi := itoaR_is h
  obtain ⟨h0, h1⟩ := okNum_iff.1 h
  obtain ⟨u, rfl⟩ := Int.eq_ofNat_of_zero_le h0
  have hu : Lib.itoa (u : Int) = Lib.decDigits u := Lib.itoa_nonneg u
  have q := number_dec u (by omega) [] (by rw [List.append_nil, ← hu]; omega)
  rw [List.append_nil] at q
  unfold ref20_number
  rw [hu] at hi ⊢
  rw [q, number_end, sb]
  show (lib_Itoa (u : Int) >>= fun i => if (i != Lib.decDigits u) then some (-1 : Int) else some (u : Int)) = _
  rw [hi, sb, if_neg (by simp)]
theorem numS_l4_any {s : Str} (hs : s.length ≤ 1000000) : ∀ (b a : Str) (n : Int), s = a ++ b → 0 ≤ n → n ≤ 10995116277769 →
    ∃ r, ref20_number_l4 ((a.length : Int), (s, n)) = some r ∧ (r = .inl (-1) ∨ ∃ n', r = .inr (n', s) ∧ 0 ≤ n' ∧ n' ≤ 10995116277769) := by
  intro b
  induction b with
  | nil =>
    intro a n e h0 h1
    rw [List.append_nil] at e
    rw [← e, number_end]
    exact ⟨_, rfl, .inr ⟨n, rfl, h0, h1⟩⟩
  | cons x b ih =>
    intro a n e h0 h1
    have hl2 : s.length = a.length + (b.length + 1) := by rw [e]; simp
    have hb := bt_mid e
    by_cases c1 : x.toNat < 48
    · rw [ref20_number_l4_eq]
      unfold ref20_number_l4F
      dsimp only
      rw [hb, if_pos (by rw [decide_eq_true_eq]; omega), if_pos (by omega), if_pos (by omega), if_pos (by rw [decide_eq_true_eq]; omega)]
      exact ⟨_, rfl, .inl rfl⟩
    · by_cases c2 : 57 < x.toNat
      · rw [ref20_number_l4_eq]
        unfold ref20_number_l4F
        dsimp only
        rw [hb, if_pos (by rw [decide_eq_true_eq]; omega), if_pos (by omega), if_pos (by omega), if_neg (by rw [decide_eq_true_eq]; omega), if_pos (by omega), if_pos (by omega), if_pos (by rw [decide_eq_true_eq]; omega)]
        exact ⟨_, rfl, .inl rfl⟩
      · by_cases c3 : n > 1099511627776
        · rw [ref20_number_l4_eq]
          unfold ref20_number_l4F
          dsimp only
          rw [hb, if_pos (by rw [decide_eq_true_eq]; omega), if_pos (by omega), if_pos (by omega), if_neg (by rw [decide_eq_true_eq]; omega), if_pos (by omega), if_pos (by omega), if_neg (by rw [decide_eq_true_eq]; omega), if_pos (by rw [decide_eq_true_eq]; omega)]
          exact ⟨_, rfl, .inl rfl⟩
        · obtain ⟨m, hm⟩ : ∃ m, x.toNat = 48 + m := ⟨x.toNat - 48, by omega⟩
          rw [hm] at hb
          rw [number_step (by omega) hs (by omega) hb h0 (by omega)]
          have q := ih (a ++ [x]) (10 * n + (m : Int)) (by rw [e]; simp) (by omega) (by omega)
          have el : ((a ++ [x]).length : Nat) = a.length + 1 := by simp
          rw [el] at q
          exact q
theorem numS_any {s : Str} (hs : s.length ≤ 1000000) : ∃ k, ref20_number s = some k ∧ (0 ≤ k → s = Lib.itoa k) := by
  obtain ⟨r, q, hr⟩ := numS_l4_any hs s [] 0 rfl (by omega) (by omega)
  have q : ref20_number_l4 ((0 : Int), (s, (0 : Int))) = _ := q
  unfold ref20_number
  rw [q, sb]
  rcases hr with rfl | ⟨n, rfl, h0, h1⟩
  · exact ⟨-1, rfl, fun h => absurd h (by decide)⟩
  · show ∃ k, (lib_Itoa n >>= fun i => if (i != s) then some (-1 : Int) else some n) = some k ∧ _
    have hi : lib_Itoa n = some (Lib.itoa n) := if_pos ⟨by omega, by omega⟩
    rw [hi, sb]
    by_cases e : Lib.itoa n = s
    · rw [if_neg (by simpa using e)]
      exact ⟨n, rfl, fun _ => e.symm⟩
    · rw [if_pos (by simpa using e)]
      exact ⟨-1, rfl, fun h => absurd h (by decide)⟩

/-! the first line -/
theorem refbegin_is {row : Str} (hr : row.length ≤ 12000) : ∃ v, ref20_begin row = some v ∧ (beginsB v.1 v.2 = true → row = lineS worldW [v.1, v.2] []) := by
  have hml : ∀ x ∈ words 32 row, x.length ≤ row.length := fun x hx => words_mem_len hx
  have hj := words_join 32 row
  have hsp : ref03_Split (row, (32 : Int)) = some (words 32 row) := ref03_Split_is (by omega) 32
  unfold ref20_begin
  rw [hsp, sb]
  by_cases c3 : (words 32 row).length = 3
  · obtain ⟨a, b, c, e⟩ : ∃ a b c, words 32 row = [a, b, c] := by
      match words 32 row, c3 with
      | [a, b, c], _ => exact ⟨a, b, c, rfl⟩
    rw [e] at hj hml ⊢
    have e0 : elt .str [a, b, c] 0 = a := by unfold elt; rfl
    have e1 : elt .str [a, b, c] 1 = b := by unfold elt; rfl
    have e2 : elt .str [a, b, c] 2 = c := by unfold elt; rfl
    rw [if_neg (by simp), if_pos (by simp), e0]
    by_cases cw : a = worldW
    · have hb := hml b (by simp)
      have hc := hml c (by simp)
      obtain ⟨n1, q1, r1⟩ := numS_any (s := b) (by omega)
      obtain ⟨n2, q2, r2⟩ := numS_any (s := c) (by omega)
      rw [if_neg (by simp [cw]), if_pos (by simp), e1, q1, sb, if_pos (by simp), e2, q2, sb]
      refine ⟨_, rfl, fun hbg => ?_⟩
      obtain ⟨g1, g2⟩ := begins_num hbg
      have g1 := r1 (okNum_iff.1 g1).1
      have g2 := r2 (okNum_iff.1 g2).1
      obtain ⟨w, l, h1, h2⟩ := hj
      injection h1 with h1 h3
      rw [h2, ← h1, ← h3, lineS_glue, cw, g1, g2]
      rfl
    · rw [if_pos (by simpa using cw)]
      exact ⟨_, rfl, fun h => by cases h⟩
  · rw [if_pos (by simp; omega)]
    exact ⟨_, rfl, fun h => by cases h⟩
theorem refbegin_full {q n : Int} (h : beginsB q n = true) : ref20_begin (lineS worldW [q, n] []) = some (q, n) := by
  obtain ⟨g1, g2⟩ := begins_num h
  have hn : ∀ x ∈ [q, n], okNum x = true := fun x hx => by
    simp only [List.mem_cons, List.not_mem_nil, or_false] at hx
    rcases hx with rfl | rfl
    · exact g1
    · exact g2
  have hw := words_line (w := worldW) (by decide) (nums := [q, n]) hn []
  have hw : words 32 (lineS worldW [q, n] []) = [worldW, Lib.itoa q, Lib.itoa n] := hw
  have hln : (lineS worldW [q, n] []).length ≤ 100 := by
    have := headP_len h
    unfold headP at this
    rw [List.length_append] at this
    change (lineS [119, 111, 114, 108, 100] [q, n] []).length ≤ 100
    omega
  have hsp : ref03_Split (lineS worldW [q, n] [], (32 : Int)) = some (words 32 (lineS worldW [q, n] [])) := ref03_Split_is (by omega) 32
  have e0 : elt .str [worldW, Lib.itoa q, Lib.itoa n] 0 = worldW := by unfold elt; rfl
  have e1 : elt .str [worldW, Lib.itoa q, Lib.itoa n] 1 = Lib.itoa q := by unfold elt; rfl
  have e2 : elt .str [worldW, Lib.itoa q, Lib.itoa n] 2 = Lib.itoa n := by unfold elt; rfl
  unfold ref20_begin
  rw [hsp, sb, hw, if_neg (by simp), if_pos (by simp), e0, if_neg (by simp), if_pos (by simp), e1, number_full g1, sb, if_pos (by simp), e2, number_full g2, sb]

/-! deeds -/
abbrev hexW (s : Str) : Str := 120 :: hexS s
theorem sumS8 {n : Nat} (h : n ≤ 30000) : sumOk n 8 := by
  unfold sumOk
  constructor <;> omega
theorem deed_l13_any {k : Int} (hk : 1 ≤ k ∧ k ≤ 12) (L : List Str) (hL : L.length ≤ 20000) (hm : ∀ x ∈ L, x.length ≤ 12000) (c1 : Int) : ∀ (b a : List Str) (c2 : List Int) (c3 : List Str), L = a ++ b →
    ((a.length : Int) ≤ (shpOf k).2.1 → c3 = []) → c2.length + c3.length = a.length → ((∀ n ∈ c2, 0 ≤ n) → a = c2.map Lib.itoa ++ c3.map hexW) →
    ∃ r, ref20_deed_l13 (((a.length : Int), (k, (L, (L.length : Int)))), (k, (c1, (c2, c3)))) = some r ∧ (r = .inl 0 ∨ ∃ ns ts, r = .inr (c1, (k, (ns, ts))) ∧ ns.length + ts.length = L.length ∧ ((∀ n ∈ ns, 0 ≤ n) → L = ns.map Lib.itoa ++ ts.map hexW)) := by
  intro b
  induction b with
  | nil =>
    intro a c2 c3 e h1 h2 h3
    rw [List.append_nil] at e
    rw [ref20_deed_l13_eq]
    unfold ref20_deed_l13F
    dsimp only
    rw [if_neg (by rw [e]; simp)]
    exact ⟨_, rfl, .inr ⟨c2, c3, rfl, by rw [e]; exact h2, fun h => by rw [e]; exact h3 h⟩⟩
  | cons x b ih =>
    intro a c2 c3 e h1 h2 h3
    have hl2 : L.length = a.length + (b.length + 1) := by rw [e]; simp
    have hw : IntKind.wrap .i64 ((a.length : Int) + 1) = (a.length : Int) + 1 := wr64 (by omega)
    have he : elt .str L a.length = x := by rw [e]; exact eltS_mid .str a x b
    have hxl := hm x (by rw [e]; simp)
    have es : (a ++ [x]).length = a.length + 1 := by simp
    rw [ref20_deed_l13_eq]
    unfold ref20_deed_l13F
    dsimp only
    rw [Int.toNat_natCast, he, hw, if_pos (by rw [decide_eq_true_eq]; omega), if_pos (by omega), if_pos (by omega), ref20_nums_is hk, sb]
    by_cases c : (a.length : Int) < (shpOf k).2.1
    · obtain ⟨v, q, hv⟩ := numS_any (s := x) (by omega)
      have h0 := h1 (by omega)
      subst h0
      have q2 := ih (a ++ [x]) (c2 ++ [v]) [] (by rw [e]; simp) (fun _ => rfl) (by simp at h2 ⊢; omega) (fun hn => by
        rw [h3 fun n hn' => hn n (by simp [hn']), hv (hn v (by simp))]
        simp)
      rw [snocS_len] at q2
      rw [if_pos (by rw [decide_eq_true_eq]; omega), q, sb, if_pos (sumS8 (by rw [one_len]; simp at h2; omega))]
      exact q2
    · rw [if_neg (by rw [decide_eq_true_eq]; omega)]
      cases x with
      | nil =>
        rw [if_pos (by simp)]
        exact ⟨_, rfl, .inl rfl⟩
      | cons b0 y =>
        have hb0 : bt (b0 :: y) 0 = (b0.toNat : Int) := bt_mid (s := b0 :: y) (a := []) (b := y) rfl
        rw [if_neg (by rw [beq_iff_eq, List.length_cons]; omega), if_pos (by rw [List.length_cons]; omega), hb0]
        by_cases g : b0 = 120
        · subst g
          rw [if_neg (by decide), if_pos (by rw [List.length_cons]; omega), if_pos (by omega), Int.toNat_natCast, List.take_length, List.drop_one, List.tail_cons]
          rw [List.length_cons] at hxl
          obtain ⟨r, q, hr⟩ := bytes_sound (y := y) (by omega)
          rw [q, sb]
          cases hr2 : r.2 with
          | false =>
            rw [if_pos (by decide)]
            exact ⟨_, rfl, .inl rfl⟩
          | true =>
            have hy := hr hr2
            have q2 := ih (a ++ [120 :: y]) c2 (c3 ++ [r.1]) (by rw [e]; simp) (fun hh => by rw [es] at hh; omega) (by rw [List.length_append, one_len, es]; omega) (fun hn => by
              have := h3 hn
              rw [List.map_append, ← List.append_assoc, ← this, hy]
              rfl)
            rw [snocS_len] at q2
            rw [if_neg (by decide), if_pos (sumS16 (by rw [one_len]; omega))]
            exact q2
        · rw [if_pos (by
            rw [bne_iff_ne]
            intro h
            exact g (UInt8.toNat_inj.1 (by have : ((120 : UInt8).toNat : Int) = 120 := rfl; omega)))]
          exact ⟨_, rfl, .inl rfl⟩
theorem deed_l13_full {k : Int} (hk : 1 ≤ k ∧ k ≤ 12) (ns : List Int) (ts : List Str) (hn : ∀ n ∈ ns, okNum n = true) (ht : ∀ s ∈ ts, okTxt s = true) (h1 : (ns.length : Int) = (shpOf k).2.1) (h2 : ts.length ≤ 100) (c1 : Int) (L : List Str) (hL : L = ns.map Lib.itoa ++ ts.map hexW) :
    ref20_deed_l13 (((0 : Int), (k, (L, (L.length : Int)))), (k, (c1, ([], [])))) = some (.inr (c1, (k, (ns, ts)))) := by
  obtain ⟨s1, s2, s3, s4, s5⟩ := shp_small hk
  have hLl : L.length = ns.length + ts.length := by rw [hL]; simp
  have B : ∀ (b a : List Str), ts = a ++ b → ref20_deed_l13 ((((ns.length + a.length : Nat) : Int), (k, (L, (L.length : Int)))), (k, (c1, (ns, a)))) = some (.inr (c1, (k, (ns, ts)))) := by
    intro b
    induction b with
    | nil =>
      intro a e
      rw [List.append_nil] at e
      rw [ref20_deed_l13_eq]
      unfold ref20_deed_l13F
      dsimp only
      rw [if_neg (by rw [decide_eq_true_eq, hLl, e]; omega), e]
    | cons x b ih =>
      intro a e
      have hl2 : ts.length = a.length + (b.length + 1) := by rw [e]; simp
      have hw : IntKind.wrap .i64 (((ns.length + a.length : Nat) : Int) + 1) = ((ns.length + (a ++ [x]).length : Nat) : Int) := by rw [wr64 (by omega)]; simp; omega
      have he : elt .str L (ns.length + a.length) = hexW x := by
        have : L = (ns.map Lib.itoa ++ a.map hexW) ++ hexW x :: b.map hexW := by rw [hL, e]; simp
        have hlen : ns.length + a.length = (ns.map Lib.itoa ++ a.map hexW).length := by simp
        rw [this, hlen]
        exact eltS_mid .str _ _ _
      have hxl : x.length ≤ 1000 := of_decide_eq_true (ht x (by rw [e]; simp))
      have hb0 : bt (hexW x) 0 = 120 := bt_mid (s := hexW x) (a := []) (b := hexS x) rfl
      have q := ih (a ++ [x]) (by rw [e]; simp)
      rw [ref20_deed_l13_eq]
      unfold ref20_deed_l13F
      dsimp only
      rw [Int.toNat_natCast, he, hw, if_pos (by rw [decide_eq_true_eq]; omega), if_pos (by omega), if_pos (by omega), ref20_nums_is hk, sb, if_neg (by rw [decide_eq_true_eq]; omega), if_neg (by rw [beq_iff_eq, List.length_cons]; omega), if_pos (by rw [List.length_cons]; omega), hb0, if_neg (by decide), if_pos (by rw [List.length_cons]; omega), if_pos (by omega), Int.toNat_natCast, List.take_length]
      rw [List.drop_one, List.tail_cons, bytes_full hxl, sb, if_neg (by simp), if_pos (sumS16 (by rw [one_len]; omega))]
      exact q
  have A : ∀ (b a : List Int), ns = a ++ b → ref20_deed_l13 (((a.length : Int), (k, (L, (L.length : Int)))), (k, (c1, (a, [])))) = some (.inr (c1, (k, (ns, ts)))) := by
    intro b
    induction b with
    | nil =>
      intro a e
      rw [List.append_nil] at e
      have := B ts [] rfl
      rw [List.length_nil, Nat.add_zero, e] at this
      rw [e]
      exact this
    | cons x b ih =>
      intro a e
      have hl2 : ns.length = a.length + (b.length + 1) := by rw [e]; simp
      have hw : IntKind.wrap .i64 ((a.length : Int) + 1) = (a.length : Int) + 1 := wr64 (by omega)
      have he : elt .str L a.length = Lib.itoa x := by
        have : L = a.map Lib.itoa ++ Lib.itoa x :: (b.map Lib.itoa ++ ts.map hexW) := by rw [hL, e]; simp
        have hlen : a.length = (a.map Lib.itoa).length := by simp
        rw [this, hlen]
        exact eltS_mid .str _ _ _
      have q := ih (a ++ [x]) (by rw [e]; simp)
      rw [snocS_len] at q
      rw [ref20_deed_l13_eq]
      unfold ref20_deed_l13F
      dsimp only
      rw [Int.toNat_natCast, he, hw, if_pos (by rw [decide_eq_true_eq]; omega), if_pos (by omega), if_pos (by omega), ref20_nums_is hk, sb, if_pos (by rw [decide_eq_true_eq]; omega), number_full (hn x (by rw [e]; simp)), sb, if_pos (sumS8 (by rw [one_len]; omega))]
      exact q
  exact A ns [] rfl
theorem refdeed_l4_is {l : List Str} {w : Str} {tl : List Str} (hl : l = w :: tl) (hlen : l.length ≤ 20000) (c : Int) (R : Deed ⊕ Int) : ∀ (m : Nat) (k : Int), k + (m : Int) = 13 → 1 ≤ k →
    (∀ j, k ≤ j → j ≤ 12 → hitK l (j, shpOf j) = true → (ref20_deed_l13 (((0 : Int), (j, (tl, (tl.length : Int)))), (j, (c, ([], [])))) >>= fun r => Sum.elim (fun r1 => some (Sum.inl (r1, (([] : List Int), ([] : List Str))))) (fun r1 => some (Sum.inl r1.2)) r) = some R) →
    ((∀ j, k ≤ j → j ≤ 12 → hitK l (j, shpOf j) = false) → R = .inr c) → ref20_deed_l4 ((k, l), c) = some R := by
  have h0 : elt .str l 0 = w := by rw [hl]; unfold elt; rfl
  have hh : l.head? = some w := by rw [hl]; rfl
  have hpos : 0 < l.length := by rw [hl]; simp
  intro m
  induction m with
  | zero =>
    intro k hk h1 h2 h3
    rw [ref20_deed_l4_eq]
    unfold ref20_deed_l4F
    dsimp only
    rw [if_neg (by rw [decide_eq_true_eq]; omega), h3 fun j a b => by omega]
  | succ m ih =>
    intro k hk h1 h2 h3
    have kk : 1 ≤ k ∧ k ≤ 12 := by omega
    obtain ⟨s1, s2, s3, s4, s5⟩ := shp_small kk
    have hw : IntKind.wrap .i64 (k + 1) = k + 1 := wr64 (by omega)
    have w1 : IntKind.wrap .i64 ((1 : Int) + (shpOf k).2.1) = 1 + (shpOf k).2.1 := wr64 (by omega)
    have w2 : IntKind.wrap .i64 ((1 : Int) + (shpOf k).2.1 + (shpOf k).2.2) = 1 + (shpOf k).2.1 + (shpOf k).2.2 := wr64 (by omega)
    have more : hitK l (k, shpOf k) = false → ref20_deed_l4 ((k + 1, l), c) = some R := fun hf =>
      ih (k + 1) (by omega) (by omega) (fun j a b => h2 j (by omega) b) (fun hall => h3 fun j a b => by
        by_cases e : j = k
        · rw [e]; exact hf
        · exact hall j (by omega) b)
    rw [ref20_deed_l4_eq]
    unfold ref20_deed_l4F
    dsimp only
    rw [if_pos (by rw [decide_eq_true_eq]; omega), if_pos (by omega), ref20_word_is kk, sb, h0, hw]
    by_cases c1 : w = (shpOf k).1
    · rw [if_neg (by simp [c1]), ref20_nums_is kk, sb, ref20_texts_is kk, sb, w1, w2]
      by_cases c2 : (l.length : Int) = 1 + (shpOf k).2.1 + (shpOf k).2.2
      · have hit : hitK l (k, shpOf k) = true := by
          unfold hitK
          rw [hh, c1, decide_eq_true rfl, decide_eq_true c2]
          rfl
        have q := h2 k (Int.le_refl _) kk.2 hit
        have et : List.drop 1 (List.take (l.length : Int).toNat l) = tl := by
          rw [Int.toNat_natCast, List.take_length, hl]
          rfl
        rw [if_neg (by simpa using c2), if_pos (by omega), if_pos (by omega), et]
        exact q
      · rw [if_pos (by simpa using c2)]
        refine more ?_
        unfold hitK
        rw [decide_eq_false c2, Bool.and_false]
    · rw [if_pos (by simpa using c1)]
      refine more ?_
      unfold hitK
      rw [hh, decide_eq_false (fun e => c1 (Option.some.inj e)), Bool.false_and]
theorem refdeed_is {row : Str} (hr : row.length ≤ 12000) : ∃ d, ref20_deed row = some d ∧ d.2.1.length ≤ 20000 ∧ d.2.2.length ≤ 20000 ∧ (isDeed d = true → row = lineD d) := by
  obtain ⟨w, tl, h1, h2⟩ := words_join 32 row
  have hwl := words_len 32 row
  have hml : ∀ x ∈ words 32 row, x.length ≤ row.length := fun x hx => words_mem_len hx
  have hsp : ref03_Split (row, (32 : Int)) = some (words 32 row) := ref03_Split_is (by omega) 32
  obtain ⟨l, hl⟩ : ∃ l, l = words 32 row := ⟨_, rfl⟩
  rw [← hl] at hsp h1 hwl hml
  have htl : l.length = tl.length + 1 := by rw [h1]; simp
  unfold ref20_deed
  rw [hsp, sb]
  by_cases h : ∃ p ∈ shapesL, hitK l p = true
  · obtain ⟨p, hp, hit⟩ := h
    obtain ⟨kk, hs⟩ := shapes_of hp
    obtain ⟨r, q, hr2⟩ := deed_l13_any kk tl (by omega) (fun x hx => by have := hml x (by rw [h1]; simp [hx]); omega) 0 tl [] [] [] rfl (fun _ => rfl) rfl (fun _ => rfl)
    have q : ref20_deed_l13 (((0 : Int), (p.1, (tl, (tl.length : Int)))), (p.1, ((0 : Int), ([], [])))) = some r := q
    obtain ⟨R, hR⟩ : ∃ R : Deed, (ref20_deed_l13 (((0 : Int), (p.1, (tl, (tl.length : Int)))), (p.1, ((0 : Int), ([], [])))) >>= fun r => Sum.elim (fun r1 => some (Sum.inl (r1, (([] : List Int), ([] : List Str))))) (fun r1 => some (Sum.inl r1.2)) r) = some (Sum.inl (β := Int) R) ∧ (isDeed R = true → row = lineD R) ∧ R.2.1.length ≤ 20000 ∧ R.2.2.length ≤ 20000 := by
      rw [q, sb]
      rcases hr2 with rfl | ⟨ns, ts, rfl, hlen, himp⟩
      · exact ⟨_, rfl, fun h => (by cases h), (by simp), (by simp)⟩
      · refine ⟨(p.1, (ns, ts)), rfl, fun h => ?_, ?_, ?_⟩
        · have hd := isDeed_iff.1 h
          have ht := himp fun n hn => (okNum_iff.1 (hd.nums n hn)).1
          unfold hitK at hit
          simp only [Bool.and_eq_true, decide_eq_true_eq] at hit
          have hw : w = p.2.1 := by
            have := hit.1
            rw [h1] at this
            exact Option.some.inj this
          unfold lineD
          rw [lineS_glue, h2, ht, hw]
          show _ = (shpOf p.1).1 ++ _
          rw [hs]
        · show ns.length ≤ 20000
          omega
        · show ts.length ≤ 20000
          omega
    obtain ⟨hR, hR2, hR3, hR4⟩ := hR
    have q4 := refdeed_l4_is h1 (by omega) 0 (.inl R) 12 1 (by omega) (by omega) (fun j a b hj => by
      have := hit_one (shapes_at (by omega)) hp hj hit
      have e : j = p.1 := by rw [← this]
      rw [e]
      exact hR) (fun hall => by
      have := hall p.1 kk.1 kk.2
      rw [hs] at this
      have : hitK l p = false := this
      rw [hit] at this
      cases this)
    rw [q4, sb]
    exact ⟨_, rfl, hR3, hR4, hR2⟩
  · have q4 := refdeed_l4_is h1 (by omega) 0 (.inr 0) 12 1 (by omega) (by omega) (fun j a b hj => absurd ⟨_, shapes_at (by omega), hj⟩ h) (fun _ => rfl)
    rw [q4, sb]
    exact ⟨_, rfl, (by simp), (by simp), fun h => (by cases h)⟩
theorem refdeed_full {d : Deed} (h : DeedOk d) : ref20_deed (lineD d) = some d := by
  have hll := lineD_len h
  have hw := words_lineD h
  have h3 := h.nlen
  have h4 := h.tlen
  obtain ⟨s1, s2, s3, s4, s5⟩ := shp_small h.kind
  have hp := shapes_at h.kind
  have hsp : ref03_Split (lineD d, (32 : Int)) = some (words 32 (lineD d)) := ref03_Split_is (by omega) 32
  rw [hw] at hsp
  obtain ⟨tl, htl⟩ : ∃ tl, tl = d.2.1.map Lib.itoa ++ d.2.2.map hexW := ⟨_, rfl⟩
  have hit : hitK ((shpOf d.1).1 :: tl) (d.1, shpOf d.1) = true := by
    unfold hitK
    rw [htl]
    simp only [List.head?_cons, decide_true, Bool.true_and, decide_eq_true_eq, List.length_cons, List.length_append, List.length_map]
    omega
  have hlt : tl.length = d.2.1.length + d.2.2.length := by rw [htl]; simp
  have q := deed_l13_full h.kind d.2.1 d.2.2 h.nums h.texts h3 (by omega) 0 tl htl
  have q4 := refdeed_l4_is (l := (shpOf d.1).1 :: tl) rfl (by rw [List.length_cons]; omega) 0 (.inl d) 12 1 (by omega) (by omega) (fun j a b hj => by
    have := hit_one (shapes_at (by omega)) hp hj hit
    have e : j = d.1 := congrArg Prod.fst this
    rw [e, q, sb]
    rfl) (fun hall => by
    have := hall d.1 h.kind.1 h.kind.2
    rw [hit] at this
    cases this)
  have hsp : ref03_Split (lineD d, (32 : Int)) = some ((shpOf d.1).1 :: tl) := by rw [htl]; exact hsp
  unfold ref20_deed
  rw [hsp, sb, q4, sb]
  rfl
end Go.Plain

/-
  20, plain, part L: what a text is read as; the law 'ScriptReads'.
-/
namespace Go.Plain
open Go.AM
set_option linter.unusedVariables false

/-! like itself -/
theorem SameS_refl {l : List Str} (hl : l.length ≤ 1000000) : ref01_Same (l, l) = some true := by
  have key : ∀ (b a : List Str), (a ++ b).length ≤ 1000000 → ref01_Same_l6 ((a.length : Int), (a ++ b, (a ++ b, ((a ++ b).length : Int)))) = some (.inr ()) := by
    intro b
    induction b with
    | nil =>
      intro a hl
      rw [ref01_Same_l6_eq]
      unfold ref01_Same_l6F
      dsimp only
      rw [if_neg (by simp)]
    | cons x b ih =>
      intro a hl
      have hl2 : (a ++ x :: b).length = a.length + (b.length + 1) := by simp
      have hw : IntKind.wrap .i64 ((a.length : Int) + 1) = (a.length : Int) + 1 := wr64 (by omega)
      have h1 := ih (a ++ [x]) (by simp at hl ⊢; omega)
      rw [snocS_len, ← midS] at h1
      rw [ref01_Same_l6_eq]
      unfold ref01_Same_l6F
      dsimp only
      rw [if_pos (by rw [decide_eq_true_eq]; omega), if_pos (by omega), if_pos (by omega), if_pos (by omega), if_pos (by omega), if_neg (by simp), hw]
      exact h1
  have h := key l [] (by simpa using hl)
  have h : ref01_Same_l6 ((0 : Int), (l, (l, (l.length : Int)))) = _ := h
  unfold ref01_Same
  dsimp only
  rw [if_neg (by simp), h, sb]
  rfl
theorem Like_l17_refl (d : Deed) (hd : d.2.1.length ≤ 1000) (p : PlanD) (x32 x33 : Int) : ∀ (b a : List Int), d.2.1 = a ++ b → ref20_Like_l17 (((a.length : Int), (x32, (x33, (d.2.1.length : Int)))), (d, (d, (p, p)))) = some (.inr ((x32, x33), (p, p))) := by
  intro b
  induction b with
  | nil =>
    intro a e
    rw [List.append_nil] at e
    rw [ref20_Like_l17_eq]
    unfold ref20_Like_l17F
    dsimp only
    rw [if_neg (by rw [e]; simp)]
  | cons x b ih =>
    intro a e
    have hl2 : d.2.1.length = a.length + (b.length + 1) := by rw [e]; simp
    have hw : IntKind.wrap .i64 ((a.length : Int) + 1) = (a.length : Int) + 1 := wr64 (by omega)
    have q := ih (a ++ [x]) (by rw [e]; simp)
    rw [snocS_len] at q
    rw [ref20_Like_l17_eq]
    unfold ref20_Like_l17F
    dsimp only
    rw [hw, if_pos (by rw [decide_eq_true_eq]; omega), if_pos (by omega), if_pos (by omega), if_pos (by omega), if_pos (by omega), if_neg (by simp)]
    exact q
theorem Like_l6_refl (p : PlanD) (h : Small p) : ∀ (b a : List Deed), p.2.2 = a ++ b → ref20_Like_l6 (((a.length : Int), (p.2.2.length : Int)), (p, p)) = some (.inr ()) := by
  intro b
  induction b with
  | nil =>
    intro a e
    rw [List.append_nil] at e
    rw [ref20_Like_l6_eq]
    unfold ref20_Like_l6F
    dsimp only
    rw [if_neg (by rw [e]; simp)]
  | cons x b ih =>
    intro a e
    have hlen := h.len
    have hl2 : p.2.2.length = a.length + (b.length + 1) := by rw [e]; simp
    have hw : IntKind.wrap .i64 ((a.length : Int) + 1) = (a.length : Int) + 1 := wr64 (by omega)
    have he : elt tDeed p.2.2 a.length = x := by rw [e]; exact eltS_mid tDeed a x b
    have hx : x ∈ p.2.2 := by rw [e]; simp
    have h1 := h.nums x hx
    have h2 := h.texts x hx
    have q := ih (a ++ [x]) (by rw [e]; simp)
    rw [snocS_len] at q
    have q17 := Like_l17_refl x h1 p (p.2.2.length : Int) (a.length : Int) x.2.1 [] rfl
    have q17 : ref20_Like_l17 (((0 : Int), ((p.2.2.length : Int), ((a.length : Int), (x.2.1.length : Int)))), (x, (x, (p, p)))) = _ := q17
    rw [ref20_Like_l6_eq]
    unfold ref20_Like_l6F
    dsimp only
    rw [Int.toNat_natCast, he, if_pos (by rw [decide_eq_true_eq]; omega), if_pos (by omega), if_pos (by omega), if_pos (by omega), if_pos (by omega), if_neg (by simp), if_neg (by simp), SameS_refl (by omega), sb, if_neg (by decide), q17, sb]
    dsimp only [Sum.elim_inr]
    rw [hw]
    exact q
theorem Like_refl {p : PlanD} (h : Small p) : ref20_Like (p, p) = some true := by
  have q := Like_l6_refl p h p.2.2 [] rfl
  have q : ref20_Like_l6 (((0 : Int), (p.2.2.length : Int)), (p, p)) = _ := q
  unfold ref20_Like
  dsimp only
  rw [if_neg (by simp), if_neg (by simp), if_neg (by simp), q, sb]
  rfl

/-! one text, read twice -/
theorem scan {s : Str} (hs : s.length ≤ 20000) (no fr : Int) (C : (Int × Int) × ((Int × Int) × List Deed)) : ∀ (w a r : Str), s = a ++ (w ++ r) → (10 : UInt8) ∉ w →
    ref20_Parse_l6 (((a.length : Int), (no, (fr, s))), C) = ref20_Parse_l6 ((((a ++ w).length : Int), (no, (fr, s))), C) := by
  intro w
  induction w with
  | nil =>
    intro a r _ _
    rw [List.append_nil]
  | cons x w ih =>
    intro a r e h
    have hl2 : s.length = a.length + (w.length + 1 + r.length) := by rw [e]; simp; omega
    have hw : IntKind.wrap .i64 ((a.length : Int) + 1) = (a.length : Int) + 1 := wr64 (by omega)
    have hb : bt s (a.length : Int) = (x.toNat : Int) := bt_mid (a := a) (b := w ++ r) (by rw [e]; rfl)
    have hx : x ≠ 10 := fun q => h (by simp [q])
    have q := ih (a ++ [x]) r (by rw [e]; simp) (fun q => h (by simp [q]))
    rw [snocS_len] at q
    have e2 : (a ++ [x]) ++ w = a ++ x :: w := by simp
    rw [e2] at q
    rw [← q]
    conv => lhs; rw [ref20_Parse_l6_eq]
    unfold ref20_Parse_l6F
    obtain ⟨c, c1, c2⟩ := C
    dsimp only
    rw [hb, hw, if_pos (by rw [decide_eq_true_eq]; omega), if_pos (by omega), if_pos (by omega), if_pos (by
      rw [bne_iff_ne]
      intro q
      exact hx (UInt8.toNat_inj.1 (by have : ((10 : UInt8).toNat : Int) = 10 := rfl; omega)))]
theorem parse_end {s : Str} (no fr : Int) (c : Int × Int) (c1 : Int × Int) (c2 : List Deed) : ref20_Parse_l6 (((s.length : Int), (no, (fr, s))), (c, (c1, c2))) = some (.inr ((no, (s, fr)), (c, (c1, c2)))) := by
  rw [ref20_Parse_l6_eq]
  unfold ref20_Parse_l6F
  dsimp only
  rw [if_neg (by simp)]
theorem lib_Cut_none {s : Str} (hs : s.length ≤ 1000000000) (h : (10 : UInt8) ∉ s) : lib_Cut (s, ([10] : Str)) = some (s, [], false) := by
  unfold lib_Cut
  dsimp only
  rw [if_pos (by omega), cut_none h]
theorem lib_Cut_at {w r : Str} (hs : (w ++ 10 :: r).length ≤ 1000000000) (h : (10 : UInt8) ∉ w) : lib_Cut (w ++ 10 :: r, ([10] : Str)) = some (w, r, true) := by
  unfold lib_Cut
  dsimp only
  rw [if_pos (by omega), cut_at r h]
theorem sumS56 {n : Nat} (h : n ≤ 30000) : sumOk n 56 := by
  unfold sumOk
  constructor <;> omega
theorem read_row {s a row r : Str} (e : s = a ++ (row ++ 10 :: r)) : List.drop (a.length : Int).toNat (List.take ((a ++ row).length : Int).toNat s) = row := by
  rw [Int.toNat_natCast, Int.toNat_natCast, e, ← List.append_assoc]
  have : List.take (a ++ row).length ((a ++ row) ++ 10 :: r) = a ++ row := List.take_left' rfl
  rw [this]
  exact List.drop_left' rfl
theorem deeds_is {s : Str} (hs : s.length ≤ 12000) (c c' v : Int × Int) : ∀ (n : Nat) (rest a : Str) (no : Int) (ds : List Deed), rest.length ≤ n → s = a ++ rest → 2 ≤ no → no ≤ (a.length : Int) + 2 → ds.length ≤ 200 → (∀ d ∈ ds, DeedOk d) →
    ∃ X Y, script_Parse_l8 ((no, rest), (c, (v, ds))) = some X ∧ ref20_Parse_l6 (((a.length : Int), (no, ((a.length : Int), s))), (c', (v, ds))) = some Y ∧
      ((∃ no', X = .inl ((250, no'), (0, 0)) ∧ 0 < no' ∧ (Y = .inl (no', (0, 0)) ∨ ∃ fr C, Y = .inr ((no', (s, fr)), C) ∧ fr < (s.length : Int))) ∨
       (∃ no' ds', X = .inr (c, (v, ds ++ ds')) ∧ Y = .inr ((no', (s, (s.length : Int))), (c', (v, ds ++ ds'))) ∧ 2 ≤ no' ∧ rest = linesP ds' ∧ (ds ++ ds').length ≤ 200 ∧ ∀ d ∈ ds ++ ds', DeedOk d)) := by
  intro n
  induction n with
  | zero =>
    intro rest a no ds hn e h1 h2 h3 h4
    have hr : rest = [] := List.eq_nil_of_length_eq_zero (by omega)
    subst hr
    rw [List.append_nil] at e
    have x1 : script_Parse_l8 ((no, ([] : Str)), (c, (v, ds))) = some (.inr (c, (v, ds))) := by
      rw [script_Parse_l8_eq]
      unfold script_Parse_l8F
      dsimp only
      rw [if_neg (by simp)]
    have y1 := parse_end (s := s) no (s.length : Int) c' v ds
    rw [← e, x1, y1]
    exact ⟨_, _, rfl, rfl, .inr ⟨no, [], by simp, by simp, h1, rfl, by simpa using h3, by simpa using h4⟩⟩
  | succ n ih =>
    intro rest a no ds hn e h1 h2 h3 h4
    have hl : s.length = a.length + rest.length := by rw [e]; simp
    by_cases hr : rest = []
    · subst hr
      rw [List.append_nil] at e
      have x1 : script_Parse_l8 ((no, ([] : Str)), (c, (v, ds))) = some (.inr (c, (v, ds))) := by
        rw [script_Parse_l8_eq]
        unfold script_Parse_l8F
        dsimp only
        rw [if_neg (by simp)]
      have y1 := parse_end (s := s) no (s.length : Int) c' v ds
      rw [← e, x1, y1]
      exact ⟨_, _, rfl, rfl, .inr ⟨no, [], by simp, by simp, h1, rfl, by simpa using h3, by simpa using h4⟩⟩
    · have hpos : 0 < rest.length := List.length_pos_iff.2 hr
      rcases first_or (c := 10) rest with hno | ⟨row, r, er, hrow⟩
      · obtain ⟨d, b, q, _⟩ := deed_is (row := rest) (by omega)
        have x1 : script_Parse_l8 ((no, rest), (c, (v, ds))) = some (.inl ((250, no), (0, 0))) := by
          rw [script_Parse_l8_eq]
          unfold script_Parse_l8F
          dsimp only
          rw [if_pos (by simpa using hr), lib_Cut_none (by omega) hno, sb]
          dsimp only
          rw [q, sb, if_pos (by decide)]
        have y1 := scan (s := s) (by omega) no (a.length : Int) (c', (v, ds)) rest a [] (by rw [List.append_nil]; exact e) hno
        rw [← e, parse_end] at y1
        exact ⟨_, _, x1, y1, .inl ⟨no, rfl, by omega, .inr ⟨_, _, rfl, by omega⟩⟩⟩
      · have hl2 : rest.length = row.length + (r.length + 1) := by rw [er]; simp
        have e2 : s = a ++ (row ++ 10 :: r) := by rw [e, er]
        obtain ⟨d, b, q, hq⟩ := deed_is (row := row) (by omega)
        obtain ⟨d', q', l1, l2, hq'⟩ := refdeed_is (row := row) (by omega)
        have w1 : IntKind.wrap .i64 (no + 1) = no + 1 := wr64 (by omega)
        have hal : (a ++ row).length = a.length + row.length := List.length_append
        have w2 : IntKind.wrap .i64 (((a ++ row).length : Int) + 1) = (((a ++ row) ++ [10]).length : Int) := by rw [wr64 (by omega), snocS_len]
        have hbt : bt s ((a ++ row).length : Int) = 10 := bt_mid (a := a ++ row) (b := r) (x := 10) (by rw [e2, List.append_assoc])
        have y1 := scan (s := s) (by omega) no (a.length : Int) (c', (v, ds)) row a (10 :: r) e2 hrow
        have hrr := read_row e2
        have hne : ¬ ((rest != []) = true) → False := fun q => q (by simpa using hr)
        have x1 : script_Parse_l8 ((no, rest), (c, (v, ds))) = if b = true then (if ds.length = 200 then some (.inl ((250, no), (0, 0))) else script_Parse_l8 ((no + 1, r), (c, (v, ds ++ [d])))) else some (.inl ((250, no), (0, 0))) := by
          rw [script_Parse_l8_eq]
          unfold script_Parse_l8F
          dsimp only
          rw [if_pos (by simpa using hr), er, lib_Cut_at (by rw [← er]; omega) hrow, sb]
          dsimp only
          rw [q, sb, if_neg (by decide)]
          cases b with
          | false => rw [if_pos (by simp), if_neg (by decide)]
          | true =>
            rw [if_neg (by simp), if_pos rfl]
            by_cases h200 : ds.length = 200
            · rw [if_pos (by rw [beq_iff_eq]; omega), if_pos h200]
            · rw [if_neg (by rw [beq_iff_eq]; omega), if_neg h200, if_pos (sumS56 (by rw [one_len]; omega)), w1]
        have y2 : ref20_Parse_l6 ((((a ++ row).length : Int), (no, ((a.length : Int), s))), (c', (v, ds))) = if isDeed d' = true then (if ds.length = 200 then some (.inl (no, (0, 0))) else ref20_Parse_l6 (((((a ++ row) ++ [10]).length : Int), (no + 1, ((((a ++ row) ++ [10]).length : Int), s))), (c', (v, ds ++ [d'])))) else some (.inl (no, (0, 0))) := by
          conv => lhs; rw [ref20_Parse_l6_eq]
          unfold ref20_Parse_l6F
          dsimp only
          rw [hbt, if_pos (by rw [decide_eq_true_eq]; omega), if_pos (by omega), if_pos (by omega), if_neg (by decide), if_pos (by omega), if_pos (by omega), if_pos (by omega), if_neg (by rw [beq_iff_eq]; omega), hrr, q', sb, IsDeed_is (by omega) (by omega), sb]
          cases isDeed d' with
          | false => rw [if_pos (by decide), if_neg (by decide)]
          | true =>
            rw [if_neg (by decide), if_pos rfl]
            by_cases h200 : ds.length = 200
            · rw [if_pos (by rw [beq_iff_eq]; omega), if_pos h200]
            · rw [if_neg (by rw [beq_iff_eq]; omega), if_neg h200, if_pos (sumS56 (by rw [one_len]; omega)), w1, w2]
        rw [x1, y1, y2]
        cases hb : b with
        | false =>
          have hf : isDeed d' = false := by
            cases g : isDeed d' with
            | false => rfl
            | true =>
              have := deed_full (isDeed_iff.1 g)
              rw [← hq' g, q] at this
              injection this with this
              injection this with _ this
              rw [hb] at this
              cases this
          rw [hf, if_neg (by decide), if_neg (by decide)]
          exact ⟨_, _, rfl, rfl, .inl ⟨no, rfl, by omega, .inl rfl⟩⟩
        | true =>
          obtain ⟨hd, hrw⟩ := hq hb
          have hdd : d' = d := by
            have := refdeed_full hd
            rw [← hrw, q'] at this
            exact Option.some.inj this
          rw [hdd, isDeed_iff.2 hd, if_pos rfl, if_pos rfl]
          by_cases h200 : ds.length = 200
          · rw [if_pos h200, if_pos h200]
            exact ⟨_, _, rfl, rfl, .inl ⟨no, rfl, by omega, .inl rfl⟩⟩
          · rw [if_neg h200, if_neg h200]
            obtain ⟨X, Y, hX, hY, hXY⟩ := ih r ((a ++ row) ++ [10]) (no + 1) (ds ++ [d]) (by omega) (by rw [e2]; simp) (by omega) (by rw [snocS_len, hal]; omega) (by rw [List.length_append, one_len]; omega) (fun x hx => by
              rcases List.mem_append.1 hx with hx | hx
              · exact h4 x hx
              · rw [List.mem_singleton.1 hx]; exact hd)
            refine ⟨X, Y, hX, hY, ?_⟩
            rcases hXY with h | ⟨no', ds', g1, g2, g3, g4, g5, g6⟩
            · exact .inl h
            · have ee : (ds ++ [d]) ++ ds' = ds ++ (d :: ds') := by simp
              rw [ee] at g1 g2 g5 g6
              refine .inr ⟨no', d :: ds', g1, g2, g3, ?_, g5, g6⟩
              rw [er, hrw, g4]
              simp [linesP]
/-- What both read. -/
theorem parse_is {t : Str} (ht : t.length ≤ 12000) : ∃ (p : PlanD) (e no : Int) (q : PlanD) (at1 : Int), script_Parse t = some (p, (e, no)) ∧ ref20_Parse t = some (q, at1) ∧
    ((0 < at1 ∧ e = 250 ∧ no = at1 ∧ p = (0, (0, []))) ∨ (at1 = 0 ∧ e = 0 ∧ no = 0 ∧ q = p ∧ rightP p = true ∧ t = planT p)) := by
  rcases first_or (c := 10) t with hno | ⟨row, r, er, hrow⟩
  · obtain ⟨v, b, q, _⟩ := begin_is ht
    have x1 : script_Parse t = some ((0, (0, [])), (250, 1)) := by
      unfold script_Parse
      rw [lib_Cut_none (by omega) hno, sb]
      dsimp only
      rw [q, sb, if_pos (by decide)]
    have y1 := scan (s := t) (by omega) 1 0 (((0 : Int), (0 : Int)), (((0 : Int), (0 : Int)), [])) t [] [] (by simp) hno
    rw [List.nil_append, parse_end] at y1
    have y1 : ref20_Parse_l6 (((0 : Int), ((1 : Int), ((0 : Int), t))), (((0 : Int), (0 : Int)), (((0 : Int), (0 : Int)), []))) = _ := y1
    have y2 : ref20_Parse t = some ((0, (0, [])), 1) := by
      unfold ref20_Parse
      rw [y1, sb]
      dsimp only [Sum.elim_inr]
      by_cases h : (0 : Int) < (t.length : Int)
      · rw [if_pos (by rw [decide_eq_true_eq]; exact h)]
      · rw [if_neg (by rw [decide_eq_true_eq]; exact h), if_pos (by decide)]
    exact ⟨_, _, _, _, _, x1, y2, .inl ⟨by omega, rfl, rfl, rfl⟩⟩
  · have hl : t.length = row.length + (r.length + 1) := by rw [er]; simp
    obtain ⟨v, b, q, hq⟩ := begin_is (row := row) (by omega)
    obtain ⟨v', q', hq'⟩ := refbegin_is (row := row) (by omega)
    have hbt : bt t (row.length : Int) = 10 := bt_mid (a := row) (b := r) (x := 10) er
    have w2 : IntKind.wrap .i64 ((row.length : Int) + 1) = ((row ++ [10]).length : Int) := by rw [wr64 (by omega), snocS_len]
    have w1 : IntKind.wrap .i64 ((1 : Int) + 1) = 2 := rfl
    have hrr := read_row (s := t) (a := []) (row := row) (r := r) (by rw [List.nil_append]; exact er)
    have hrr : List.drop (0 : Int).toNat (List.take (row.length : Int).toNat t) = row := hrr
    have y1 := scan (s := t) (by omega) 1 0 (((0 : Int), (0 : Int)), (((0 : Int), (0 : Int)), [])) row [] (10 :: r) (by rw [List.nil_append]; exact er) hrow
    rw [List.nil_append] at y1
    have y1 : ref20_Parse_l6 (((0 : Int), ((1 : Int), ((0 : Int), t))), (((0 : Int), (0 : Int)), (((0 : Int), (0 : Int)), []))) = _ := y1
    have y2 : ref20_Parse_l6 (((row.length : Int), ((1 : Int), ((0 : Int), t))), (((0 : Int), (0 : Int)), (((0 : Int), (0 : Int)), []))) = if beginsB v'.1 v'.2 = true then ref20_Parse_l6 ((((row ++ [10]).length : Int), ((2 : Int), (((row ++ [10]).length : Int), t))), (((0 : Int), (0 : Int)), (v', []))) else some (.inl (1, (0, 0))) := by
      conv => lhs; rw [ref20_Parse_l6_eq]
      unfold ref20_Parse_l6F
      dsimp only
      rw [hbt, if_pos (by rw [decide_eq_true_eq]; omega), if_pos (by omega), if_pos (by omega), if_neg (by decide), if_pos (by omega), if_pos (by omega), if_pos (by omega), if_pos (by decide), hrr, q', sb, ref20_Begins_is, sb]
      dsimp only
      cases beginsB v'.1 v'.2 with
      | false => rw [if_pos (by decide), if_neg (by decide)]
      | true => rw [if_neg (by decide), if_pos rfl, w1, w2]
    have x0 : script_Parse t = if b = true then (script_Parse_l8 (((2 : Int), r), (((0 : Int), (0 : Int)), (v, []))) >>= fun r => Sum.elim (fun r1 => some ((r1.2.1, (r1.2.2, [])), r1.1)) (fun r1 => some ((r1.2.1.1, (r1.2.1.2, r1.2.2)), ((0 : Int), (0 : Int)))) r) else some ((0, (0, [])), (250, 1)) := by
      unfold script_Parse
      rw [er, lib_Cut_at (by rw [← er]; omega) hrow, sb]
      dsimp only
      rw [q, sb, if_neg (by decide)]
      cases b with
      | false => rw [if_pos (by simp), if_neg (by decide)]
      | true => rw [if_neg (by simp), if_pos rfl]
    cases hb : b with
    | false =>
      have hf : beginsB v'.1 v'.2 = false := by
        cases g : beginsB v'.1 v'.2 with
        | false => rfl
        | true =>
          have := begin_full g
          rw [← hq' g, q] at this
          injection this with this
          injection this with _ this
          rw [hb] at this
          cases this
      rw [hb, if_neg (by decide)] at x0
      rw [hf, if_neg (by decide)] at y2
      have y3 : ref20_Parse t = some ((0, (0, [])), 1) := by
        unfold ref20_Parse
        rw [y1, y2, sb]
        rfl
      exact ⟨_, _, _, _, _, x0, y3, .inl ⟨by omega, rfl, rfl, rfl⟩⟩
    | true =>
      obtain ⟨hbg, hrw⟩ := hq hb
      have hvv : v' = v := by
        have := refbegin_full hbg
        rw [← hrw, q'] at this
        exact Option.some.inj this
      subst hvv
      rw [hb, if_pos rfl] at x0
      rw [hbg, if_pos rfl] at y2
      obtain ⟨X, Y, hX, hY, hXY⟩ := deeds_is ht ((0 : Int), (0 : Int)) ((0 : Int), (0 : Int)) v' r.length r (row ++ [10]) 2 [] (Nat.le_refl _) (by rw [er]; simp) (by omega) (by rw [snocS_len]; omega) (by simp) (fun d hd => by cases hd)
      rw [hX, sb] at x0
      rw [hY] at y2
      rcases hXY with ⟨no', rfl, hp, hYY⟩ | ⟨no', ds', rfl, rfl, g3, g4, g5, g6⟩
      · have y3 : ∃ q, ref20_Parse t = some (q, no') := by
          unfold ref20_Parse
          rw [y1, y2, sb]
          rcases hYY with rfl | ⟨fr, C, rfl, hfr⟩
          · exact ⟨_, rfl⟩
          · dsimp only [Sum.elim_inr]
            rw [if_pos (by rw [decide_eq_true_eq]; exact hfr)]
            exact ⟨_, rfl⟩
        obtain ⟨q2, y3⟩ := y3
        exact ⟨_, _, _, _, _, x0, y3, .inl ⟨hp, rfl, rfl, rfl⟩⟩
      · have y3 : ref20_Parse t = some ((v'.1, (v'.2, [] ++ ds')), 0) := by
          unfold ref20_Parse
          rw [y1, y2, sb]
          dsimp only [Sum.elim_inr]
          rw [if_neg (by simp), if_neg (by rw [beq_iff_eq]; omega)]
        refine ⟨_, _, _, _, _, x0, y3, .inr ⟨rfl, rfl, rfl, rfl, ?_, ?_⟩⟩
        · unfold rightP
          dsimp only
          rw [hbg, decide_eq_true g5, List.all_eq_true.2 fun d hd => isDeed_iff.2 (g6 d hd)]
          rfl
        · unfold planT headP
          dsimp only
          rw [er, hrw, g4, List.nil_append, List.append_assoc]
          rfl
theorem small_right {p : PlanD} (h : rightP p = true) : Small p := by
  obtain ⟨_, h2, h3⟩ := rightP_parts h
  refine ⟨by omega, fun d hd => ?_, fun d hd => ?_⟩
  · have g := h3 d hd
    have := g.nlen
    obtain ⟨s1, s2, s3, s4, s5⟩ := shp_small g.kind
    omega
  · have g := h3 d hd
    have := g.tlen
    obtain ⟨s1, s2, s3, s4, s5⟩ := shp_small g.kind
    omega
theorem small_none : Small ((0 : Int), ((0 : Int), [])) := ⟨by simp, fun d hd => (by cases hd), fun d hd => (by cases hd)⟩
end Go.Plain

/-
  The plain law 'ScriptBack': what is printed is parsed as that plan; what is parsed, printed, is the text.
-/
namespace Go.Plain
open Go.AM
set_option linter.unusedVariables false

theorem deeds_full (c v : Int × Int) : ∀ (b acc : List Deed) (no : Int), (∀ d ∈ b, DeedOk d) → (acc ++ b).length ≤ 200 → 0 ≤ no → no ≤ (acc.length : Int) + 2 →
    script_Parse_l8 ((no, linesP b), (c, (v, acc))) = some (.inr (c, (v, acc ++ b))) := by
  intro b
  induction b with
  | nil =>
    intro acc no _ _ _ _
    rw [script_Parse_l8_eq]
    unfold script_Parse_l8F
    dsimp only
    rw [if_neg (by simp [linesP]), List.append_nil]
  | cons d b ih =>
    intro acc no hd hl h0 h1
    have hdd := hd d List.mem_cons_self
    have es : linesP (d :: b) = lineD d ++ 10 :: linesP b := by simp [linesP]
    have hbig := linesP_len hd
    have hl2 : (acc ++ d :: b).length = acc.length + (b.length + 1) := by simp
    rw [List.length_cons] at hbig
    have w1 : IntKind.wrap .i64 (no + 1) = no + 1 := wr64 (by omega)
    have q := ih (acc ++ [d]) (no + 1) (fun x hx => hd x (List.mem_cons_of_mem _ hx)) (by rw [List.append_assoc]; exact hl) (by omega) (by rw [snocS_len]; omega)
    rw [script_Parse_l8_eq]
    unfold script_Parse_l8F
    dsimp only
    rw [es, if_pos (by simp), lib_Cut_at (by rw [← es]; omega) (lineD_bytes hdd), sb]
    dsimp only
    rw [deed_full hdd, sb, if_neg (by decide), if_neg (by simp), if_neg (by rw [beq_iff_eq]; omega), if_pos (sumS56 (by rw [one_len]; omega)), w1, q, List.append_assoc]
    rfl
theorem parse_full {p : PlanD} (h : rightP p = true) : script_Parse (planT p) = some (p, (0, 0)) := by
  obtain ⟨h1, h2, h3⟩ := rightP_parts h
  obtain ⟨n1, n2⟩ := begins_num h1
  have hh := headP_len h1
  have hll := linesP_len h3
  have hno : (10 : UInt8) ∉ lineS worldW [p.1, p.2.1] [] := lineS_bytes (by decide) (fun x hx => by
    simp only [List.mem_cons, List.not_mem_nil, or_false] at hx
    rcases hx with rfl | rfl
    · exact n1
    · exact n2) _
  have e : planT p = lineS worldW [p.1, p.2.1] [] ++ 10 :: linesP p.2.2 := by
    unfold planT headP
    rw [List.append_assoc]
    rfl
  have hlen : (planT p).length ≤ 1000000000 := by
    unfold planT
    rw [List.length_append]
    omega
  have q := deeds_full ((0 : Int), (0 : Int)) (p.1, p.2.1) p.2.2 [] 2 h3 (by simpa using h2) (by omega) (by simp)
  unfold script_Parse
  rw [e, lib_Cut_at (by rw [← e]; exact hlen) hno, sb]
  dsimp only
  rw [begin_full h1, sb, if_neg (by decide), if_neg (by simp), q, sb]
  rfl
theorem ScriptBack_holds (p : PlanD) (s : Str) : law20_ScriptBack (p, s) = some true := by
  have hs := cut_small p (m := 205) (by omega)
  obtain ⟨f, hf⟩ : ∃ f, f = cutP p 205 := ⟨_, rfl⟩
  have h0 : law20_few (p, (205 : Int)) = some (cutP p 205) := few_is p (m := 205) (by omega)
  rw [← hf] at hs h0
  have hm : min (s.length : Int) (12000 : Int) = ((min s.length 12000 : Nat) : Int) := minI _ 12000
  obtain ⟨t, htt⟩ : ∃ t, t = s.take (min s.length 12000) := ⟨_, rfl⟩
  have htl : t.length ≤ 12000 := by rw [htt, List.length_take]; omega
  obtain ⟨q, e, no, q2, at1, h1, _, h3⟩ := parse_is htl
  have tail : (script_Parse t >>= fun p2 =>
      if (p2.2.1 != (0 : Int)) then (law20_alive () >>= fun a =>
      if a then (ref20_Like (p2.1, ((0 : Int), ((0 : Int), []))) >>= fun l => some l) else some false) else
      script_Print p2.1 >>= fun p3 =>
      law20_alive () >>= fun a =>
      if a then (if (p3.2 == (0 : Int)) then (if (p3.1 == t) then (script_Right p2.1 >>= fun r => some r) else some false) else some false) else some false) = some true := by
    rw [h1, sb]
    dsimp only
    rcases h3 with ⟨g1, g2, g3, g4⟩ | ⟨g1, g2, g3, g4, g5, g6⟩
    · subst g2; subst g4
      rw [if_pos (by decide), alive20, sb, if_pos rfl, Like_refl small_none, sb]
    · subst g2
      have hsm := small_right g5
      rw [if_neg (by decide), Print_is hsm, sb, alive20, sb, if_pos rfl, g5, if_pos rfl, if_pos (by rfl), if_pos (by rw [g6]; simp), Right_is hsm, g5, sb]
  unfold law20_ScriptBack
  dsimp only
  rw [h0, sb, hm, if_pos (by omega), if_pos (by omega), Print_is hs, sb, Int.toNat_natCast, ← htt]
  cases c : rightP f with
  | false =>
    rw [if_neg (show ¬ ((if false = true then (planT f, (0 : Int)) else ([], 1)).2 == 0) = true from fun h => absurd (show ((1 : Int) == 0) = true from h) (by decide))]
    exact tail
  | true =>
    rw [if_pos rfl, if_pos (by rfl), parse_full c, sb]
    dsimp only
    rw [if_neg (by decide), if_neg (by decide), Like_refl hs, sb, if_neg (by decide)]
    exact tail
end Go.Plain
