/-
  Plain facts of the printed functions of layer 4: words and their order.
-/
import Derived.Test.YtfcigmcjgaipmaaGreatDoorPrn
import Derived.IntWalk
import Derived.Test.YtfcigmcjgaipmaaGreatDoorS7P
import Derived.Lib.ItoaMem
import Derived.Lib.ItoaLen
import Derived.Laws.Bits64
namespace Go.Plain
open Go.AM

theorem wr64 {n : Int} (h : -9223372036854775808 ≤ n ∧ n ≤ 9223372036854775807) : IntKind.wrap .i64 n = n := Go.IntWalk.i64_in n h
theorem bt_at {s : Str} {i : Nat} (h : i < s.length) : bt s (i : Int) = ((s[i]).toNat : Int) := by
  unfold bt
  simp [List.getD_eq_getElem?_getD, List.getElem?_eq_getElem h]
end Go.Plain

/-
  Plain facts of the printed functions of layer 4: names.
-/
namespace Go.Plain
open Go.AM

theorem sb {α β : Type} (a : α) (f : α → Option β) : (some a >>= f) = f a := rfl

end Go.Plain

/-
  20, plain, part A: what a line is; digits, hex digits, lines.
-/
namespace Go.Plain
open Go.AM
set_option linter.unusedVariables false

abbrev Deed : Type := Int × (List Int × List Str)
abbrev PlanD : Type := Int × (Int × List Deed)
abbrev tDeed : Ty := .pair (.int .i64) (.pair (.sl (.int .i64)) (.sl .str))
theorem eltS_mid (t : Ty) (a : List t.den) (x : t.den) (b : List t.den) : elt t (a ++ x :: b) a.length = x := by
  unfold elt
  simp [List.getD_eq_getElem?_getD]
theorem snocS_len {α : Type} (a : List α) (x : α) : ((a ++ [x]).length : Int) = (a.length : Int) + 1 := by simp
/-- Is one of a row so? -/
theorem any_gen (t : Ty) (L : Int × (List t.den × Int) → Option (Int ⊕ Unit)) (f : t.den → Option Bool) (g : t.den → Bool)
    (hL : ∀ i s n, L (i, (s, n)) = if decide (i < n) then (if (0 : Int) ≤ i then (if i < (s.length : Int) then (f (elt t s i.toNat) >>= fun r => if r then some (.inl i) else L (IntKind.wrap .i64 (i + 1), (s, n))) else none) else none) else some (.inr ()))
    {s : List t.den} (hs : s.length ≤ 9223372036854775807) (hf : ∀ x ∈ s, f x = some (g x)) :
    ((L ((0 : Int), (s, (s.length : Int))) >>= fun r => Sum.elim (fun r1 => some r1) (fun _ => some (-1 : Int)) r) >>= fun a => some (decide (a ≥ (0 : Int)))) = some (s.any g) := by
  have key : ∀ (b a : List t.den), s = a ++ b → ∃ r, L ((a.length : Int), (s, (s.length : Int))) = some r ∧ ((b.any g = false ∧ r = .inr ()) ∨ (b.any g = true ∧ ∃ k, r = .inl k ∧ 0 ≤ k)) := by
    intro b
    induction b with
    | nil =>
      intro a e
      rw [List.append_nil] at e
      rw [hL, if_neg (by rw [e]; simp)]
      exact ⟨_, rfl, .inl ⟨rfl, rfl⟩⟩
    | cons x b ih =>
      intro a e
      have hl2 : s.length = a.length + (b.length + 1) := by rw [e]; simp
      have hw : IntKind.wrap .i64 ((a.length : Int) + 1) = (a.length : Int) + 1 := wr64 (by omega)
      have he : elt t s a.length = x := by rw [e]; exact eltS_mid t a x b
      obtain ⟨r, h1, h2⟩ := ih (a ++ [x]) (by rw [e]; simp)
      rw [snocS_len] at h1
      rw [hL, Int.toNat_natCast, he, if_pos (by rw [decide_eq_true_eq]; omega), if_pos (by omega), if_pos (by omega), hf x (by rw [e]; simp), sb, hw, List.any_cons]
      cases q : g x with
      | true => exact ⟨_, rfl, .inr ⟨rfl, _, rfl, by omega⟩⟩
      | false =>
        rw [if_neg (by decide), h1]
        exact ⟨r, rfl, h2⟩
  obtain ⟨r, h1, h2⟩ := key s [] rfl
  have h1 : L ((0 : Int), (s, (s.length : Int))) = some r := h1
  rw [h1, sb]
  rcases h2 with ⟨e, rfl⟩ | ⟨e, k, rfl, hk⟩
  · rw [e]; rfl
  · rw [e]
    show some (decide (k ≥ 0)) = _
    rw [decide_eq_true hk]

theorem digit_byte {m : Nat} (h : m < 10) : bytesStr [IntKind.wrap .u8 (IntKind.wrap .i64 (48 + (m : Int)))] = [UInt8.ofNat (48 + m)] := by
  have e1 : IntKind.wrap .i64 (48 + (m : Int)) = ((48 + m : Nat) : Int) := by rw [wr64 (by omega)]; omega
  have e2 : IntKind.wrap .u8 (((48 + m : Nat) : Int)) = ((48 + m : Nat) : Int) := by rw [IntKind.wrap_u8]; omega
  rw [e1, e2]
  rfl
theorem digits_dec : ∀ n : Nat, n ≤ 9223372036854775807 → script_digits (n : Int) = some (Lib.decDigits n) := by
  intro n
  induction n using Nat.strongRecOn with
  | _ n ih =>
    intro hn
    have hm : Int.tmod (n : Int) 10 = ((n % 10 : Nat) : Int) := by rw [Int.tmod_eq_emod_of_nonneg (by omega)]; omega
    have hd : Int.tdiv (n : Int) 10 = ((n / 10 : Nat) : Int) := by rw [Int.tdiv_eq_ediv_of_nonneg (by omega)]; omega
    have hw : IntKind.wrap .i64 ((n / 10 : Nat) : Int) = ((n / 10 : Nat) : Int) := wr64 (by omega)
    rw [script_digits_eq]
    unfold script_digitsF
    skip
    rw [hm, hd, hw, digit_byte (Nat.mod_lt _ (by omega)), Lib.decDigits]
    by_cases c : n < 10
    · rw [if_pos (by rw [decide_eq_true_eq]; omega), dif_pos c, Nat.mod_eq_of_lt c]
    · have hl : (Lib.decDigits (n / 10)).length ≤ 21 := by
        have := Lib.itoa_length_le ((n / 10 : Nat) : Int) (by omega) (by omega)
        rwa [Lib.itoa_nonneg] at this
      rw [if_neg (by rw [decide_eq_true_eq]; omega), dif_neg c, ih (n / 10) (by omega) (by omega), sb]
      rw [if_pos (by simp; omega)]
theorem digits_is {n : Int} (h0 : 0 ≤ n) (h1 : n ≤ 9223372036854775807) : script_digits n = some (Lib.itoa n) := by
  obtain ⟨k, rfl⟩ := Int.eq_ofNat_of_zero_le h0
  rw [Lib.itoa_nonneg]
  exact digits_dec k (by omega)

/-- A line. -/
def numS (l : List Int) : Str := l.flatMap fun n => (32 : UInt8) :: Lib.itoa n
def txtS (l : List Str) : Str := l.flatMap fun s => (32 : UInt8) :: 120 :: hexS s
def lineS (w : Str) (nums : List Int) (texts : List Str) : Str := w ++ (numS nums ++ txtS texts)
def okNum (n : Int) : Bool := decide (0 ≤ n) && decide (n ≤ 1099511627776)
theorem okNum_iff {n : Int} : okNum n = true ↔ 0 ≤ n ∧ n ≤ 1099511627776 := by simp [okNum]
theorem line_l3_is (nums : List Int) (texts : List Str) (hn : ∀ n ∈ nums, okNum n = true) (hl : nums.length ≤ 1000000) : ∀ (b a : List Int) (w : Str), nums = a ++ b → (w ++ numS b).length ≤ 1000000000 →
    script_line_l3 ((a.length : Int), (w, (nums, (texts, (nums.length : Int))))) = some (w ++ numS b, texts) := by
  intro b
  induction b with
  | nil =>
    intro a w e _
    rw [List.append_nil] at e
    rw [script_line_l3_eq]
    unfold script_line_l3F
    dsimp only
    rw [if_neg (by rw [e]; simp)]
    simp [numS]
  | cons x b ih =>
    intro a w e hw
    have hl2 : nums.length = a.length + (b.length + 1) := by rw [e]; simp
    have hwr : IntKind.wrap .i64 ((a.length : Int) + 1) = (a.length : Int) + 1 := wr64 (by omega)
    have he : elt (.int .i64) nums a.length = x := by rw [e]; exact eltS_mid (.int .i64) a x b
    have hx := okNum_iff.1 (hn x (by rw [e]; simp))
    have es : numS (x :: b) = ([32] ++ Lib.itoa x) ++ numS b := by simp [numS]
    rw [es] at hw ⊢
    have q := ih (a ++ [x]) (w ++ ([32] ++ Lib.itoa x)) (by rw [e]; simp) (by rw [List.append_assoc]; exact hw)
    rw [snocS_len] at q
    have hlen : (w ++ (([32] ++ Lib.itoa x) ++ numS b)).length = w.length + (1 + (Lib.itoa x).length + (numS b).length) := by simp; omega
    rw [script_line_l3_eq]
    unfold script_line_l3F
    dsimp only
    rw [Int.toNat_natCast, he, if_pos (by rw [decide_eq_true_eq]; omega), if_pos (by omega), if_pos (by omega), digits_is hx.1 (by omega), sb, if_pos (by simp; omega), if_pos (by simp; omega), hwr, q, List.append_assoc]
theorem line_l10_is (texts : List Str) (hl : texts.length ≤ 1000000) : ∀ (b a : List Str) (w : Str), texts = a ++ b → (w ++ txtS b).length ≤ 1000000000 →
    script_line_l10 ((a.length : Int), (w, (texts, (texts.length : Int)))) = some (w ++ txtS b) := by
  intro b
  induction b with
  | nil =>
    intro a w e _
    rw [List.append_nil] at e
    rw [script_line_l10_eq]
    unfold script_line_l10F
    dsimp only
    rw [if_neg (by rw [e]; simp)]
    simp [txtS]
  | cons x b ih =>
    intro a w e hw
    have hl2 : texts.length = a.length + (b.length + 1) := by rw [e]; simp
    have hwr : IntKind.wrap .i64 ((a.length : Int) + 1) = (a.length : Int) + 1 := wr64 (by omega)
    have he : elt .str texts a.length = x := by rw [e]; exact eltS_mid .str a x b
    have es : txtS (x :: b) = ([32, 120] ++ hexS x) ++ txtS b := by simp [txtS]
    rw [es] at hw ⊢
    have q := ih (a ++ [x]) (w ++ ([32, 120] ++ hexS x)) (by rw [e]; simp) (by rw [List.append_assoc]; exact hw)
    rw [snocS_len] at q
    have hlen : (w ++ (([32, 120] ++ hexS x) ++ txtS b)).length = w.length + (2 + (hexS x).length + (txtS b).length) := by simp; omega
    have hxl := hexS_len x
    have hh : lib_Hex x = some (hexS x) := if_pos (by omega)
    rw [script_line_l10_eq]
    unfold script_line_l10F
    dsimp only
    rw [Int.toNat_natCast, he, if_pos (by rw [decide_eq_true_eq]; omega), if_pos (by omega), if_pos (by omega), hh, sb, if_pos (by simp; omega), if_pos (by simp; omega), hwr, q, List.append_assoc]
theorem line_is {w : Str} {nums : List Int} {texts : List Str} (hn : ∀ n ∈ nums, okNum n = true) (h1 : nums.length ≤ 1000000) (h2 : texts.length ≤ 1000000) (hl : (lineS w nums texts).length ≤ 999999999) :
    script_line (w, (nums, texts)) = some (lineS w nums texts ++ [10]) := by
  have hl2 : (lineS w nums texts).length = w.length + ((numS nums).length + (txtS texts).length) := by simp [lineS]
  have q1 := line_l3_is nums texts hn h1 nums [] w rfl (by simp; omega)
  have q2 := line_l10_is texts h2 texts [] (w ++ numS nums) rfl (by simp; omega)
  have q1 : script_line_l3 ((0 : Int), (w, (nums, (texts, (nums.length : Int))))) = _ := q1
  have q2 : script_line_l10 ((0 : Int), (w ++ numS nums, (texts, (texts.length : Int)))) = _ := q2
  unfold script_line
  dsimp only
  rw [q1, sb]
  dsimp only
  rw [q2, sb, List.append_assoc]
  change (if ((lineS w nums texts).length + [(10 : UInt8)].length) ≤ 9223372036854775807 then some (lineS w nums texts ++ [10]) else none) = _
  rw [if_pos (by simp; omega)]

/-! the reference's hex digits -/
theorem hex_digit {m : Nat} (h : m < 16) : (if decide ((m : Int) < (10 : Int)) then IntKind.wrap .u8 ((48 : Int) + (m : Int)) else IntKind.wrap .u8 (IntKind.wrap .u8 ((97 : Int) + (m : Int)) - (10 : Int))) = ((hexD m).toNat : Int) := by
  have : m = 0 ∨ m = 1 ∨ m = 2 ∨ m = 3 ∨ m = 4 ∨ m = 5 ∨ m = 6 ∨ m = 7 ∨ m = 8 ∨ m = 9 ∨ m = 10 ∨ m = 11 ∨ m = 12 ∨ m = 13 ∨ m = 14 ∨ m = 15 := by omega
  rcases this with e | e | e | e | e | e | e | e | e | e | e | e | e | e | e | e <;> subst e <;> rfl
theorem ref01_Hex_l9_one (x : Int) (s : Str) (i : Int) (l : List Int) {k : Nat} (hk : k < l.length) {m : Nat} (hm : m < 16) (he : elt (.int .u8) l k = (m : Int)) (hl : l.length ≤ 100) (c : List Int) (hc : c.length ≤ 1000000) :
    ref01_Hex_l9 (((k : Int), (s, (i, (l.length : Int)))), (c, l)) = ref01_Hex_l9 ((((k + 1 : Nat) : Int), (s, (i, (l.length : Int)))), (c ++ [((hexD m).toNat : Int)], l)) := by
  have hw : IntKind.wrap .i64 ((k : Int) + 1) = ((k + 1 : Nat) : Int) := by rw [wr64 (by omega)]; omega
  have hd := hex_digit hm
  conv => lhs; rw [ref01_Hex_l9_eq]
  unfold ref01_Hex_l9F
  dsimp only
  rw [Int.toNat_natCast, he, hw, if_pos (by rw [decide_eq_true_eq]; omega), if_pos (by omega), if_pos (by omega), if_pos (by omega)]
  have hsum : ∀ z : Int, sumOk (c.length + [z].length) 1 := fun z => by
    have : [z].length = 1 := rfl
    rw [this]
    constructor <;> omega
  by_cases g : (m : Int) < 10
  · rw [if_pos (by rw [decide_eq_true_eq]; exact g)] at hd ⊢
    rw [if_pos (hsum _), hd]
  · rw [if_neg (by rw [decide_eq_true_eq]; exact g)] at hd ⊢
    rw [if_pos (hsum _), hd]
theorem ref01_Hex_l9_two (s : Str) (i : Int) {a b : Nat} (ha : a < 16) (hb : b < 16) (c : List Int) (hc : c.length ≤ 900000) :
    ref01_Hex_l9 (((0 : Int), (s, (i, (([(a : Int), (b : Int)].length : Nat) : Int)))), (c, [(a : Int), (b : Int)])) = some ((s, i), c ++ [((hexD a).toNat : Int), ((hexD b).toNat : Int)]) := by
  have q1 := ref01_Hex_l9_one 0 s i [(a : Int), (b : Int)] (k := 0) (by simp) ha (by unfold elt; rfl) (by simp) c (by omega)
  have q2 := ref01_Hex_l9_one 0 s i [(a : Int), (b : Int)] (k := 1) (by simp) hb (by unfold elt; rfl) (by simp) (c ++ [((hexD a).toNat : Int)]) (by simp; omega)
  have q1 : ref01_Hex_l9 (((0 : Int), (s, (i, (([(a : Int), (b : Int)].length : Nat) : Int)))), (c, [(a : Int), (b : Int)])) = _ := q1
  rw [q1, q2, ref01_Hex_l9_eq]
  unfold ref01_Hex_l9F
  dsimp only
  rw [if_neg (by simp)]
  simp
theorem ref01_Hex_l4_is (s : Str) (hs : s.length ≤ 100000) : ∀ (b a : Str) (c : List Int), s = a ++ b → c.length ≤ 2 * a.length → ref01_Hex_l4 (((a.length : Int), s), c) = some (c ++ strBytes (hexS b)) := by
  intro b
  induction b with
  | nil =>
    intro a c e _
    rw [List.append_nil] at e
    rw [ref01_Hex_l4_eq]
    unfold ref01_Hex_l4F
    dsimp only
    rw [if_neg (by rw [e]; simp)]
    simp [hexS, strBytes]
  | cons x b ih =>
    intro a c e hc
    have hl2 : s.length = a.length + (b.length + 1) := by rw [e]; simp
    have hw : IntKind.wrap .i64 ((a.length : Int) + 1) = (a.length : Int) + 1 := wr64 (by omega)
    have hlt : a.length < s.length := by omega
    have hx : s[a.length] = x := by simp [e]
    have hbt : bt s (a.length : Int) = (x.toNat : Int) := by rw [bt_at hlt, hx]
    have h256 : x.toNat < 256 := x.toNat_lt
    have h1 : Int.tdiv (x.toNat : Int) 16 = ((x.toNat / 16 : Nat) : Int) := by rw [Int.tdiv_eq_ediv_of_nonneg (by omega)]; omega
    have h2 : Int.tmod (x.toNat : Int) 16 = ((x.toNat % 16 : Nat) : Int) := by rw [Int.tmod_eq_emod_of_nonneg (by omega)]; omega
    have h3 : IntKind.wrap .u8 ((x.toNat / 16 : Nat) : Int) = ((x.toNat / 16 : Nat) : Int) := by rw [IntKind.wrap_u8]; omega
    have two := ref01_Hex_l9_two s (a.length : Int) (a := x.toNat / 16) (b := x.toNat % 16) (by omega) (by omega) c (by omega)
    have q := ih (a ++ [x]) (c ++ [((hexD (x.toNat / 16)).toNat : Int), ((hexD (x.toNat % 16)).toNat : Int)]) (by rw [e]; simp) (by simp; omega)
    rw [snocS_len] at q
    rw [ref01_Hex_l4_eq]
    unfold ref01_Hex_l4F
    dsimp only
    rw [hbt, h1, h2, h3, if_pos (by rw [decide_eq_true_eq]; omega), if_pos (by omega), if_pos (by omega), if_pos (by omega), if_pos (by omega), two, sb]
    dsimp only
    rw [hw, q, List.append_assoc]
    rfl
theorem bytesStr_strBytes (s : Str) : bytesStr (strBytes s) = s := by
  unfold bytesStr strBytes
  rw [List.map_map]
  conv => rhs; rw [← List.map_id s]
  refine List.map_congr_left fun b _ => ?_
  show UInt8.ofNat (Int.toNat (b.toNat : Int)) = b
  rw [Int.toNat_natCast]
  simp
theorem ref01_Hex_is {s : Str} (hs : s.length ≤ 100000) : ref01_Hex s = some (hexS s) := by
  have q := ref01_Hex_l4_is s hs s [] [] rfl (by simp)
  have q : ref01_Hex_l4 (((0 : Int), s), []) = _ := q
  unfold ref01_Hex
  rw [q, sb, List.nil_append, bytesStr_strBytes]
end Go.Plain

/-
  20, plain, part B: which worlds begin.
-/
namespace Go.Plain
open Go.AM
set_option linter.unusedVariables false

abbrev Z128 : Str := Lib.repeatL [0] 128
theorem Z128_len : Z128.length = 128 := by rw [Lib.repeatL_length]; rfl
abbrev Head1 : Str := (([108, 101, 100] ++ [1, 0, 0, 0, 0, 0]) ++ [0, 0, 0]) ++ Lib.repeatL [0] 116
set_option maxRecDepth 100000 in
theorem wide_one : octet_Wide (1, 6) = some ([1, 0, 0, 0, 0, 0], 0) := by
  have s0 : octet_Wide_l9 (((0 : Int), ((1 : Int), (6 : Int))), [0, 0, 0, 0, 0, 0]) = octet_Wide_l9 (((1 : Int), ((1 : Int), (6 : Int))), [1, 0, 0, 0, 0, 0]) := (octet_Wide_l9_eq _).trans rfl
  have s1 : octet_Wide_l9 (((1 : Int), ((1 : Int), (6 : Int))), [1, 0, 0, 0, 0, 0]) = octet_Wide_l9 (((2 : Int), ((1 : Int), (6 : Int))), [1, 0, 0, 0, 0, 0]) := (octet_Wide_l9_eq _).trans rfl
  have s2 : octet_Wide_l9 (((2 : Int), ((1 : Int), (6 : Int))), [1, 0, 0, 0, 0, 0]) = octet_Wide_l9 (((3 : Int), ((1 : Int), (6 : Int))), [1, 0, 0, 0, 0, 0]) := (octet_Wide_l9_eq _).trans rfl
  have s3 : octet_Wide_l9 (((3 : Int), ((1 : Int), (6 : Int))), [1, 0, 0, 0, 0, 0]) = octet_Wide_l9 (((4 : Int), ((1 : Int), (6 : Int))), [1, 0, 0, 0, 0, 0]) := (octet_Wide_l9_eq _).trans rfl
  have s4 : octet_Wide_l9 (((4 : Int), ((1 : Int), (6 : Int))), [1, 0, 0, 0, 0, 0]) = octet_Wide_l9 (((5 : Int), ((1 : Int), (6 : Int))), [1, 0, 0, 0, 0, 0]) := (octet_Wide_l9_eq _).trans rfl
  have s5 : octet_Wide_l9 (((5 : Int), ((1 : Int), (6 : Int))), [1, 0, 0, 0, 0, 0]) = octet_Wide_l9 (((6 : Int), ((1 : Int), (6 : Int))), [1, 0, 0, 0, 0, 0]) := (octet_Wide_l9_eq _).trans rfl
  have s6 : octet_Wide_l9 (((6 : Int), ((1 : Int), (6 : Int))), [1, 0, 0, 0, 0, 0]) = some [1, 0, 0, 0, 0, 0] := (octet_Wide_l9_eq _).trans rfl
  have s := s0.trans (s1.trans (s2.trans (s3.trans (s4.trans (s5.trans s6)))))
  have h : octet_Wide (1, 6) = (octet_Wide_l9 (((0 : Int), ((1 : Int), (6 : Int))), [0, 0, 0, 0, 0, 0]) >>= fun r => some (bytesStr r, 0)) := rfl
  rw [h, s]
  rfl
theorem wide_none : octet_Wide (0, 3) = some ([0, 0, 0], 0) := by
  have s0 : octet_Wide_l9 (((0 : Int), ((0 : Int), (3 : Int))), [0, 0, 0]) = octet_Wide_l9 (((1 : Int), ((0 : Int), (3 : Int))), [0, 0, 0]) := (octet_Wide_l9_eq _).trans rfl
  have s1 : octet_Wide_l9 (((1 : Int), ((0 : Int), (3 : Int))), [0, 0, 0]) = octet_Wide_l9 (((2 : Int), ((0 : Int), (3 : Int))), [0, 0, 0]) := (octet_Wide_l9_eq _).trans rfl
  have s2 : octet_Wide_l9 (((2 : Int), ((0 : Int), (3 : Int))), [0, 0, 0]) = octet_Wide_l9 (((3 : Int), ((0 : Int), (3 : Int))), [0, 0, 0]) := (octet_Wide_l9_eq _).trans rfl
  have s3 : octet_Wide_l9 (((3 : Int), ((0 : Int), (3 : Int))), [0, 0, 0]) = some [0, 0, 0] := (octet_Wide_l9_eq _).trans rfl
  have s := s0.trans (s1.trans (s2.trans s3))
  have h : octet_Wide (0, 3) = (octet_Wide_l9 (((0 : Int), ((0 : Int), (3 : Int))), [0, 0, 0]) >>= fun r => some (bytesStr r, 0)) := rfl
  rw [h, s]
  rfl
theorem whole_one : octet_Whole [1, 0, 0, 0, 0, 0] = some (1, 0) := by
  have s0 : octet_Whole_l7 ((0 : Int), (([1, 0, 0, 0, 0, 0] : Str), ((0 : Int), (6 : Int)))) = octet_Whole_l7 ((1 : Int), (([1, 0, 0, 0, 0, 0] : Str), ((1 : Int), (6 : Int)))) := (octet_Whole_l7_eq _).trans rfl
  have s1 : octet_Whole_l7 ((1 : Int), (([1, 0, 0, 0, 0, 0] : Str), ((1 : Int), (6 : Int)))) = octet_Whole_l7 ((2 : Int), (([1, 0, 0, 0, 0, 0] : Str), ((1 : Int), (6 : Int)))) := (octet_Whole_l7_eq _).trans rfl
  have s2 : octet_Whole_l7 ((2 : Int), (([1, 0, 0, 0, 0, 0] : Str), ((1 : Int), (6 : Int)))) = octet_Whole_l7 ((3 : Int), (([1, 0, 0, 0, 0, 0] : Str), ((1 : Int), (6 : Int)))) := (octet_Whole_l7_eq _).trans rfl
  have s3 : octet_Whole_l7 ((3 : Int), (([1, 0, 0, 0, 0, 0] : Str), ((1 : Int), (6 : Int)))) = octet_Whole_l7 ((4 : Int), (([1, 0, 0, 0, 0, 0] : Str), ((1 : Int), (6 : Int)))) := (octet_Whole_l7_eq _).trans rfl
  have s4 : octet_Whole_l7 ((4 : Int), (([1, 0, 0, 0, 0, 0] : Str), ((1 : Int), (6 : Int)))) = octet_Whole_l7 ((5 : Int), (([1, 0, 0, 0, 0, 0] : Str), ((1 : Int), (6 : Int)))) := (octet_Whole_l7_eq _).trans rfl
  have s5 : octet_Whole_l7 ((5 : Int), (([1, 0, 0, 0, 0, 0] : Str), ((1 : Int), (6 : Int)))) = octet_Whole_l7 ((6 : Int), (([1, 0, 0, 0, 0, 0] : Str), ((1 : Int), (6 : Int)))) := (octet_Whole_l7_eq _).trans rfl
  have s6 : octet_Whole_l7 ((6 : Int), (([1, 0, 0, 0, 0, 0] : Str), ((1 : Int), (6 : Int)))) = some 1 := (octet_Whole_l7_eq _).trans rfl
  have s := s0.trans (s1.trans (s2.trans (s3.trans (s4.trans (s5.trans s6)))))
  have h : octet_Whole [1, 0, 0, 0, 0, 0] = (octet_Whole_l7 ((0 : Int), (([1, 0, 0, 0, 0, 0] : Str), ((0 : Int), (6 : Int)))) >>= fun r => some (r, 0)) := rfl
  rw [h, s]
  rfl
theorem whole_zero (n : Nat) (hn : n ≤ 8) : octet_Whole (List.replicate n 0) = some (0, 0) := by
  have key : ∀ (k i : Nat), i + k = n → octet_Whole_l7 ((i : Int), (List.replicate n 0, ((0 : Int), (n : Int)))) = some 0 := by
    intro k
    induction k with
    | zero =>
      intro i hi
      rw [octet_Whole_l7_eq]
      unfold octet_Whole_l7F
      dsimp only
      rw [if_neg (by rw [decide_eq_true_eq]; omega)]
    | succ k ih =>
      intro i hi
      have hw : IntKind.wrap .i64 ((i : Int) + 1) = ((i + 1 : Nat) : Int) := by rw [wr64 (by omega)]; omega
      have hw2 : IntKind.wrap .i64 ((8 : Int) * (i : Int)) = ((8 * i : Nat) : Int) := by rw [wr64 (by omega)]; omega
      have hl : (List.replicate n (0 : UInt8)).length = n := List.length_replicate
      have hb : bt (List.replicate n (0 : UInt8)) (i : Int) = 0 := by
        rw [bt_at (by rw [hl]; omega), List.getElem_replicate]
        rfl
      have hz : ior .u64 0 (ishl .u64 (IntKind.wrap .u64 0) ((8 * i : Nat) : Int)) = 0 := by
        have : ishl .u64 (IntKind.wrap .u64 0) ((8 * i : Nat) : Int) = 0 := by
          show IntKind.wrap .u64 ((IntKind.wrap .u64 0) * 2 ^ _) = 0
          rw [show IntKind.wrap .u64 0 = 0 from rfl, Int.zero_mul]
          rfl
        rw [this]
        rfl
      rw [octet_Whole_l7_eq]
      unfold octet_Whole_l7F
      dsimp only
      rw [hb, hw, hw2, hz, if_pos (by rw [decide_eq_true_eq]; omega), if_pos (by omega), if_pos (by rw [hl]; omega), if_pos (by omega)]
      exact ih (i + 1) (by omega)
  have q := key n 0 (by omega)
  unfold octet_Whole
  rw [List.length_replicate, if_neg (by rw [decide_eq_true_eq]; omega)]
  have q : octet_Whole_l7 ((0 : Int), (List.replicate n 0, ((0 : Int), (n : Int)))) = some 0 := q
  rw [q, sb]
theorem lib_Repeat_is {n : Nat} (h : n ≤ 1000000) : lib_Repeat (([0] : Str), (n : Int)) = some (Lib.repeatL [0] n) := by
  unfold lib_Repeat
  dsimp only
  rw [Int.toNat_natCast, if_pos (by refine ⟨by omega, by omega, ?_⟩; simp; omega)]
theorem head_one : ledger_head (1, 0) = some Head1 := by
  unfold ledger_head
  dsimp only
  rw [show IntKind.wrap .u64 1 = 1 from rfl, show IntKind.wrap .u64 0 = 0 from rfl, wide_one, sb, wide_none, sb]
  dsimp only
  rw [if_pos (by decide), if_pos (by decide)]
  have e : IntKind.wrap .i64 ((128 : Int) - (((([108, 101, 100] : Str) ++ [1, 0, 0, 0, 0, 0]) ++ [0, 0, 0]).length : Int)) = ((116 : Nat) : Int) := rfl
  rw [e, lib_Repeat_is (by omega), sb, if_pos (by rw [Lib.repeatL_length]; decide)]
theorem Head1_len : Head1.length = 128 := by
  unfold Head1
  rw [List.length_append, Lib.repeatL_length]
  rfl

/-- A disk that is new, but for its head. -/
def dsk (n : Nat) : List Str := Head1 :: List.replicate (n - 1) Z128
theorem dsk_len {n : Nat} (h : 1 ≤ n) : (dsk n).length = n := by simp [dsk]; omega
theorem dsk_all (n : Nat) : ∀ s ∈ dsk n, s.length = 128 := by
  intro s hs
  rcases List.mem_cons.1 hs with rfl | hs
  · exact Head1_len
  · rw [List.eq_of_mem_replicate hs]; exact Z128_len
theorem join_flat (l : List Str) : Lib.join l [] = l.flatten := by
  cases l with
  | nil => rfl
  | cons x r =>
    rw [Lib.join_cons]
    unfold Lib.joinTail
    simp
theorem flat_len {l : List Str} (h : ∀ s ∈ l, s.length = 128) : l.flatten.length = 128 * l.length := by
  induction l with
  | nil => rfl
  | cons x r ih =>
    rw [List.flatten_cons, List.length_append, h x List.mem_cons_self, ih fun s hs => h s (List.mem_cons_of_mem _ hs), List.length_cons]
    omega
theorem room_is {n : Nat} (h4 : 4 ≤ n) (h64 : n ≤ 64) {half : Nat} (hh : half < 2) : ∃ all : Str, ledger_room ((dsk n, []), (half : Int)) = some (((half * (n / 2) : Nat) : Int), all) := by
  have hl := dsk_len (n := n) (by omega)
  have hd : Int.tdiv (n : Int) 2 = ((n / 2 : Nat) : Int) := by rw [Int.tdiv_eq_ediv_of_nonneg (by omega)]; omega
  obtain ⟨h, hhe⟩ : ∃ h, h = n / 2 := ⟨_, rfl⟩
  have hp : half * h ≤ h := by
    have : half = 0 ∨ half = 1 := by omega
    rcases this with rfl | rfl <;> omega
  have e1 : IntKind.wrap .i64 (h : Int) = (h : Int) := wr64 (by omega)
  have e2 : IntKind.wrap .i64 ((half : Int) * (h : Int)) = ((half * h : Nat) : Int) := by rw [wr64 (by constructor <;> (rw [← Int.natCast_mul]; omega))]; omega
  have e3 : IntKind.wrap .i64 (((half * h : Nat) : Int) + 1) = ((half * h + 1 : Nat) : Int) := by rw [wr64 (by omega)]; omega
  have e4 : IntKind.wrap .i64 ((half : Int) + 1) = ((half + 1 : Nat) : Int) := by rw [wr64 (by omega)]; omega
  have hp2 : (half + 1) * h = half * h + h := by rw [Nat.add_mul, Nat.one_mul]
  have e5 : IntKind.wrap .i64 (((half + 1 : Nat) : Int) * (h : Int)) = (((half + 1) * h : Nat) : Int) := by rw [wr64 (by constructor <;> (rw [← Int.natCast_mul]; omega))]; omega
  unfold ledger_room
  dsimp only
  rw [hl, hd, ← hhe, e1, e2, e3, e4, e5, if_pos (by omega), if_pos (by omega), if_pos (by omega)]
  obtain ⟨l, hle⟩ : ∃ l, l = List.drop ((half * h + 1 : Nat) : Int).toNat (List.take (((half + 1) * h : Nat) : Int).toNat (dsk n)) := ⟨_, rfl⟩
  rw [← hle]
  have hla : ∀ s ∈ l, s.length = 128 := fun s hs => dsk_all n s (List.mem_of_mem_take (List.mem_of_mem_drop (hle ▸ hs)))
  have hll : l.length ≤ 64 := by rw [hle]; simp [hl]; omega
  have hf := flat_len hla
  have hj : lib_Join (l, []) = some (Lib.join l []) := by
    unfold lib_Join
    dsimp only
    rw [if_pos ⟨by omega, by rw [join_flat]; omega⟩]
  rw [hj, sb]
  exact ⟨_, rfl⟩
theorem tells_first {n : Nat} (h4 : 4 ≤ n) (h64 : n ≤ 64) : ledger_tells ((dsk n, []), 0) = some (1, 0) := by
  have hl := dsk_len (n := n) (by omega)
  obtain ⟨all, hr⟩ := room_is h4 h64 (half := 0) (by omega)
  have hr : ledger_room ((dsk n, []), (0 : Int)) = some ((0 : Int), all) := by
    rw [Nat.zero_mul] at hr
    exact hr
  have he : elt .str (dsk n) (0 : Int).toNat = Head1 := by unfold elt; rfl
  unfold ledger_tells
  dsimp only
  rw [hr, sb]
  dsimp only
  rw [hl, he, Head1_len, if_pos (by omega), if_pos (by omega), if_pos (by decide)]
  have t1 : List.drop 3 (List.take 9 Head1) = [1, 0, 0, 0, 0, 0] := rfl
  have t2 : List.drop 9 (List.take 12 Head1) = List.replicate 3 0 := rfl
  rw [t1, t2, whole_one, sb, if_pos (by decide), whole_zero 3 (by omega), sb, if_neg (by decide), if_neg (by decide)]
  have hu : ¬ ((0 : Int) > IntKind.wrap .u64 (all.length : Int)) := by rw [IntKind.wrap_u64]; omega
  rw [if_neg (by rw [decide_eq_true_eq]; exact hu)]
  have hh : ledger_head (IntKind.wrap .i64 1, IntKind.wrap .i64 0) = some Head1 := head_one
  rw [hh, sb, if_neg (by simp)]
  rfl
theorem tells_second {n : Nat} (h4 : 4 ≤ n) (h64 : n ≤ 64) : ledger_tells ((dsk n, []), 1) = some (0, 0) := by
  have hl := dsk_len (n := n) (by omega)
  obtain ⟨all, hr⟩ := room_is h4 h64 (half := 1) (by omega)
  have hr : ledger_room ((dsk n, []), (1 : Int)) = some (((n / 2 : Nat) : Int), all) := by
    rw [Nat.one_mul] at hr
    exact hr
  have he : elt .str (dsk n) (n / 2) = Z128 := by
    obtain ⟨k, hk⟩ : ∃ k, n / 2 = k + 1 := ⟨n / 2 - 1, by omega⟩
    rw [hk]
    unfold elt dsk
    rw [List.getD_eq_getElem?_getD, List.getElem?_cons_succ, List.getElem?_replicate, if_pos (by omega)]
    rfl
  unfold ledger_tells
  dsimp only
  rw [hr, sb]
  dsimp only
  rw [hl, Int.toNat_natCast, he, Z128_len, if_pos (by omega), if_pos (by omega), if_pos (by decide)]
  have t1 : List.drop 3 (List.take 9 Z128) = List.replicate 6 0 := rfl
  have t2 : List.drop 9 (List.take 12 Z128) = List.replicate 3 0 := rfl
  rw [t1, t2, whole_zero 6 (by omega), sb, if_pos (by decide), whole_zero 3 (by omega), sb, if_pos (by decide)]
theorem disk_Right_is {n : Nat} (h4 : 4 ≤ n) (h64 : n ≤ 64) : disk_Right (dsk n, []) = some true := by
  have hl := dsk_len (n := n) (by omega)
  have h1 : slices_ContainsFunc_string_ako (dsk n) = some false := by
    have := any_gen .str slices_IndexFunc_string_ako_l3 disk_Right_1 (fun s => (s.length : Int) != 128) (fun i s n => (slices_IndexFunc_string_ako_l3_eq _).trans rfl) (s := dsk n) (by rw [hl]; omega) (fun x _ => rfl)
    have e : (dsk n).any (fun s => (s.length : Int) != 128) = false := by
      rw [List.any_eq_false]
      intro s hs
      rw [dsk_all n s hs]
      decide
    rw [e] at this
    exact this
  have h2 : disk_well ([], (n : Int)) = some true := by
    have q : slices_IndexFunc_api_Write_ox0_l3 (((0 : Int), (([] : List (Int × Str)), (([] : List (Int × Str)).length : Int))), (n : Int)) = some (.inr (n : Int)) := (slices_IndexFunc_api_Write_ox0_l3_eq _).trans rfl
    unfold disk_well slices_ContainsFunc_api_Write_ox0 slices_IndexFunc_api_Write_ox0
    dsimp only
    rw [q]
    rfl
  unfold disk_Right
  dsimp only
  rw [hl, if_pos (by rw [decide_eq_true_eq]; omega), if_pos (by rw [decide_eq_true_eq]; omega), if_pos (by simp), h1, sb, if_pos (by decide), h2]
  rfl
theorem Open_is {n : Nat} (h4 : 4 ≤ n) (h64 : n ≤ 64) : ∃ r, ledger_Open (dsk n, []) = some r ∧ r.2 = 0 := by
  obtain ⟨all, hr⟩ := room_is h4 h64 (half := 0) (by omega)
  rw [Nat.zero_mul] at hr
  have hr : ledger_room ((dsk n, []), (0 : Int)) = some ((0 : Int), all) := hr
  have hE : ledger_entries [] = some ([], true) := by
    have q : ledger_entries_l3 (([] : Str), ([] : List Str)) = some (.inr []) := (ledger_entries_l3_eq _).trans rfl
    unfold ledger_entries
    rw [q]
    rfl
  obtain ⟨d, hd⟩ : ∃ d : List Str × List (Int × Str), d = (dsk n, []) := ⟨_, rfl⟩
  have t1 := tells_first h4 h64
  have t2 := tells_second h4 h64
  have hR := disk_Right_is h4 h64
  have hd2 : d.2 = [] := by rw [hd]
  rw [← hd] at hr t1 t2 hR ⊢
  obtain ⟨x, hx⟩ : ∃ x : (List Str × List (Int × Str)) × (Int × (Int × (Int × List Str))), x = (([], []), ((0 : Int), ((0 : Int), ((0 : Int), [])))) := ⟨_, rfl⟩
  have w0 : IntKind.wrap .i64 ((0 : Int) + 1) = 1 := rfl
  have w1 : IntKind.wrap .i64 ((1 : Int) + 1) = 2 := rfl
  have l2 : ledger_Open_l7 ((2 : Int), ((d, ((0 : Int), ((1 : Int), ((0 : Int), [])))), (d, x))) = some (x, ((d, ((0 : Int), ((1 : Int), ((0 : Int), [])))), d)) := by
    rw [ledger_Open_l7_eq]
    unfold ledger_Open_l7F
    dsimp only
    rw [if_neg (by decide)]
  have l1 : ledger_Open_l7 ((1 : Int), ((d, ((0 : Int), ((1 : Int), ((0 : Int), [])))), (d, x))) = some (x, ((d, ((0 : Int), ((1 : Int), ((0 : Int), [])))), d)) := by
    rw [ledger_Open_l7_eq]
    unfold ledger_Open_l7F
    dsimp only
    rw [if_pos (by decide), t2, sb, if_neg (by simp), w1, l2]
  have l0 : ledger_Open_l7 ((0 : Int), ((d, ((0 : Int), ((0 : Int), ((0 : Int), [])))), (d, x))) = some (x, ((d, ((0 : Int), ((1 : Int), ((0 : Int), [])))), d)) := by
    rw [ledger_Open_l7_eq]
    unfold ledger_Open_l7F
    dsimp only
    rw [if_pos (by decide), t1, sb, if_pos (by simp), w0]
    exact l1
  unfold ledger_Open
  rw [hR, sb, if_neg (by decide), hd2, if_neg (by decide), ← hx, l0, sb]
  dsimp only
  rw [hr, sb]
  dsimp only
  rw [if_pos (by decide), if_pos (by omega)]
  have e : List.take (0 : Int).toNat all = [] := rfl
  rw [e, hE, sb, if_neg (by decide), if_neg (by decide)]
  exact ⟨_, rfl, rfl⟩
theorem Format_is {n : Int} : ∃ r, ledger_Format n = some r ∧ (r.2 == 0) = decide (4 ≤ n ∧ n ≤ 64) := by
  by_cases h : 4 ≤ n ∧ n ≤ 64
  · obtain ⟨k, rfl⟩ := Int.eq_ofNat_of_zero_le (show 0 ≤ n by omega)
    obtain ⟨r, q1, q2⟩ := Open_is (n := k) (by omega) (by omega)
    have h1 : disk_New (k : Int) = some (0, List.replicate k Z128) := by
      unfold disk_New lib_RepeatS
      rw [if_neg (by rw [decide_eq_true_eq]; omega), if_neg (by rw [decide_eq_true_eq]; omega), show (128 : Int) = ((128 : Nat) : Int) from rfl, lib_Repeat_is (by omega), sb]
      dsimp only
      rw [if_pos ⟨by rfl, by omega, by omega⟩, sb, Int.toNat_natCast]
      have : elt .str [Lib.repeatL [0] 128] 0 = Z128 := by unfold elt; rfl
      rw [this]
    have h2 : List.set (List.replicate k Z128) 0 Head1 = dsk k := by
      obtain ⟨j, rfl⟩ : ∃ j, k = j + 1 := ⟨k - 1, by omega⟩
      rw [List.replicate_succ]
      rfl
    refine ⟨r, ?_, by rw [q2, decide_eq_true h]; rfl⟩
    unfold ledger_Format
    rw [h1, sb]
    dsimp only
    rw [if_neg (by decide), head_one, sb, List.length_replicate, if_pos (by omega), if_pos (by omega), h2, q1, sb]
  · have h1 : disk_New n = some (1, []) := by
      unfold disk_New
      by_cases c : n < 4
      · rw [if_pos (decide_eq_true c)]
      · rw [if_neg (by rw [decide_eq_true_eq]; exact c), if_pos (by rw [decide_eq_true_eq]; omega)]
    refine ⟨((([], []), ((0 : Int), ((0 : Int), ((0 : Int), [])))), 1), ?_, by rw [decide_eq_false h]; rfl⟩
    unfold ledger_Format
    rw [h1, sb]
    rfl
theorem New_is (q n : Int) : ∃ r, control_New (q, n) = some r ∧ (r.2 == 0) = (decide (0 ≤ q ∧ q ≤ 1048576) && decide (4 ≤ n ∧ n ≤ 64)) := by
  obtain ⟨f, f1, f2⟩ := Format_is (n := n)
  have v1 : vault_Format n = some ((f.1, ([], ((0 : Int), (0 : Int)))), f.2) := by
    unfold vault_Format
    rw [f1, sb]
  by_cases h : 0 ≤ q ∧ q ≤ 1048576
  · have hb : blob_New q = some (([], (q, ([], (0 : Int)))), 0) := by
      unfold blob_New
      rw [if_neg (by rw [decide_eq_true_eq]; omega), if_neg (by rw [decide_eq_true_eq]; omega)]
    unfold control_New
    dsimp only
    rw [hb, sb]
    dsimp only
    rw [if_neg (by decide), v1, sb, decide_eq_true h]
    dsimp only
    by_cases c : (f.2 != 0) = true
    · rw [if_pos c]
      refine ⟨_, rfl, ?_⟩
      dsimp only
      rw [f2, Bool.true_and]
    · rw [if_neg c]
      refine ⟨_, rfl, ?_⟩
      dsimp only
      rw [← f2]
      simpa using c
  · have hb : blob_New q = some (([], ((0 : Int), ([], (0 : Int)))), 1) := by
      unfold blob_New
      by_cases c : q < 0
      · rw [if_pos (decide_eq_true c)]
      · rw [if_neg (by rw [decide_eq_true_eq]; exact c), if_pos (by rw [decide_eq_true_eq]; omega)]
    unfold control_New
    dsimp only
    rw [hb, sb]
    dsimp only
    rw [if_pos (by decide), decide_eq_false h]
    exact ⟨_, rfl, rfl⟩
def beginsB (q n : Int) : Bool := decide (0 ≤ q ∧ q ≤ 1048576) && decide (4 ≤ n ∧ n ≤ 64)
theorem begins_is (p : PlanD) : script_begins p = some (beginsB p.1 p.2.1) := by
  obtain ⟨r, h1, h2⟩ := New_is p.1 p.2.1
  unfold script_begins beginsB
  rw [h1, sb, ← h2]
  by_cases c : 0 ≤ p.1 ∧ p.1 ≤ 1048576
  · by_cases d : 0 ≤ p.2.1 ∧ p.2.1 ≤ 1048576
    · rw [if_pos (decide_eq_true c.1), if_pos (decide_eq_true c.2), if_pos (decide_eq_true d.1), if_pos (decide_eq_true d.2)]
    · have hf : (r.2 == 0) = false := by
        rw [h2, decide_eq_true c, decide_eq_false (by omega)]
        rfl
      rw [if_pos (decide_eq_true c.1), if_pos (decide_eq_true c.2), hf]
      split
      · split
        · rfl
        · rfl
      · rfl
  · have hf : (r.2 == 0) = false := by
      rw [h2, decide_eq_false c]
      rfl
    rw [hf]
    split
    · split
      · split
        · split <;> rfl
        · rfl
      · rfl
    · rfl
end Go.Plain

/-
  20, plain, part D: which plans may be; what is printed; plans that are cut.
-/
namespace Go.Plain
open Go.AM
set_option linter.unusedVariables false

abbrev tShp : Ty := .pair .str (.pair (.int .i64) (.int .i64))
/-- A kind's word, how many numbers, how many texts. -/
def shpOf (k : Int) : Str × (Int × Int) := mget (.int .i64) tShp k shapesL
theorem kinds {k : Int} (h : 1 ≤ k ∧ k ≤ 12) : k = 1 ∨ k = 2 ∨ k = 3 ∨ k = 4 ∨ k = 5 ∨ k = 6 ∨ k = 7 ∨ k = 8 ∨ k = 9 ∨ k = 10 ∨ k = 11 ∨ k = 12 := by omega
theorem mhas_is (k : Int) : mhas (.int .i64) tShp k shapesL = decide (1 ≤ k ∧ k ≤ 12) := by
  by_cases h : 1 ≤ k ∧ k ≤ 12
  · rw [decide_eq_true h]
    rcases kinds h with e | e | e | e | e | e | e | e | e | e | e | e <;> subst e <;> rfl
  · rw [decide_eq_false h]
    have key : ∀ l : List (Int × (Str × (Int × Int))), (∀ p ∈ l, k ≠ p.1) → mhas (.int .i64) tShp k l = false := by
      intro l
      induction l with
      | nil => intro _; rfl
      | cons p r ih =>
        intro hp
        show (match keyB (.int .i64) k p.1 with | true => true | false => mhas (.int .i64) tShp k r) = false
        rw [show keyB (.int .i64) k p.1 = false from decide_eq_false (hp p List.mem_cons_self)]
        exact ih fun q hq => hp q (List.mem_cons_of_mem _ hq)
    refine key _ fun p hp => ?_
    simp only [shapesL, List.mem_cons, List.not_mem_nil, or_false] at hp
    rcases hp with e | e | e | e | e | e | e | e | e | e | e | e <;> subst e <;> (dsimp only; omega)
theorem ref20_nums_is {k : Int} (h : 1 ≤ k ∧ k ≤ 12) : ref20_nums k = some (shpOf k).2.1 := by
  rcases kinds h with e | e | e | e | e | e | e | e | e | e | e | e <;> subst e <;> (unfold ref20_nums elt; rfl)
theorem ref20_texts_is {k : Int} (h : 1 ≤ k ∧ k ≤ 12) : ref20_texts k = some (shpOf k).2.2 := by
  rcases kinds h with e | e | e | e | e | e | e | e | e | e | e | e <;> subst e <;> (unfold ref20_texts elt; rfl)
theorem ref20_word_is {k : Int} (h : 1 ≤ k ∧ k ≤ 12) : ref20_word k = some (shpOf k).1 := by
  rcases kinds h with e | e | e | e | e | e | e | e | e | e | e | e <;> subst e <;> (unfold ref20_word elt; rfl)
theorem shp_small {k : Int} (h : 1 ≤ k ∧ k ≤ 12) : (shpOf k).1.length ≤ 6 ∧ 0 ≤ (shpOf k).2.1 ∧ (shpOf k).2.1 ≤ 7 ∧ 0 ≤ (shpOf k).2.2 ∧ (shpOf k).2.2 ≤ 4 := by
  rcases kinds h with e | e | e | e | e | e | e | e | e | e | e | e <;> subst e <;> decide

def okTxt (s : Str) : Bool := decide (s.length ≤ 1000)
def isDeed (d : Deed) : Bool := decide (1 ≤ d.1 ∧ d.1 ≤ 12) && (decide ((d.2.1.length : Int) = (shpOf d.1).2.1) && (decide ((d.2.2.length : Int) = (shpOf d.1).2.2) && (d.2.1.all okNum && d.2.2.all okTxt)))
theorem right_1_is (n : Int) : script_right_1 n = some (!okNum n) := by
  unfold script_right_1 okNum
  by_cases a : n < 0
  · rw [if_pos (decide_eq_true a), decide_eq_false (p := 0 ≤ n) (by omega)]; rfl
  · rw [if_neg (by rw [decide_eq_true_eq]; exact a), decide_eq_true (p := 0 ≤ n) (by omega)]
    by_cases b : n > 1099511627776
    · rw [decide_eq_true b, decide_eq_false (p := n ≤ 1099511627776) (by omega)]; rfl
    · rw [decide_eq_false b, decide_eq_true (p := n ≤ 1099511627776) (by omega)]; rfl
theorem right_2_is (s : Str) : script_right_2 s = some (!okTxt s) := by
  unfold script_right_2 okTxt
  by_cases b : s.length ≤ 1000
  · rw [decide_eq_true b, decide_eq_false (by omega)]; rfl
  · rw [decide_eq_false b, decide_eq_true (by omega)]; rfl
theorem nums_right {l : List Int} (h : l.length ≤ 9223372036854775807) : slices_ContainsFunc_int_dl5 l = some (!l.all okNum) := by
  have := any_gen (.int .i64) slices_IndexFunc_int_dl5_l3 script_right_1 (fun n => !okNum n) (fun i s n => (slices_IndexFunc_int_dl5_l3_eq _).trans rfl) (s := l) h (fun x _ => right_1_is x)
  rw [← List.not_all_eq_any_not] at this
  exact this
theorem texts_right {l : List Str} (h : l.length ≤ 9223372036854775807) : slices_ContainsFunc_string_2rt l = some (!l.all okTxt) := by
  have := any_gen .str slices_IndexFunc_string_2rt_l3 script_right_2 (fun n => !okTxt n) (fun i s n => (slices_IndexFunc_string_2rt_l3_eq _).trans rfl) (s := l) h (fun x _ => right_2_is x)
  rw [← List.not_all_eq_any_not] at this
  exact this
theorem right_is {d : Deed} (h1 : d.2.1.length ≤ 9223372036854775807) (h2 : d.2.2.length ≤ 9223372036854775807) : script_right d = some (isDeed d) := by
  unfold script_right isDeed
  rw [show lib_shapes () = some shapesL from rfl, sb, mhas_is, show mget (.int .i64) (.pair .str (.pair (.int .i64) (.int .i64))) d.1 shapesL = shpOf d.1 from rfl, nums_right h1, sb, texts_right h2, sb]
  by_cases a : 1 ≤ d.1 ∧ d.1 ≤ 12
  · rw [decide_eq_true a, if_pos rfl]
    by_cases b : (d.2.1.length : Int) = (shpOf d.1).2.1
    · rw [if_pos (beq_iff_eq.2 b), decide_eq_true b]
      by_cases c : (d.2.2.length : Int) = (shpOf d.1).2.2
      · rw [if_pos (beq_iff_eq.2 c), decide_eq_true c]
        cases d.2.1.all okNum
        · rfl
        · simp
      · rw [if_neg (by rw [beq_iff_eq]; exact c), decide_eq_false c]
        rfl
    · rw [if_neg (by rw [beq_iff_eq]; exact b), decide_eq_false b]
      rfl
  · rw [decide_eq_false a, if_neg (by decide)]
    rfl
theorem IsDeed_l6_is (c : Deed) (l : List Int) (hl : l.length ≤ 9223372036854775807) : ∀ (b a : List Int), l = a ++ b → ref20_IsDeed_l6 (((a.length : Int), (l, (l.length : Int))), c) = some (if b.all okNum then .inr c else .inl false) := by
  intro b
  induction b with
  | nil =>
    intro a e
    rw [List.append_nil] at e
    rw [ref20_IsDeed_l6_eq]
    unfold ref20_IsDeed_l6F
    dsimp only
    rw [if_neg (by rw [e]; simp)]
    rfl
  | cons x b ih =>
    intro a e
    have hl2 : l.length = a.length + (b.length + 1) := by rw [e]; simp
    have hw : IntKind.wrap .i64 ((a.length : Int) + 1) = (a.length : Int) + 1 := wr64 (by omega)
    have he : elt (.int .i64) l a.length = x := by rw [e]; exact eltS_mid (.int .i64) a x b
    have q := ih (a ++ [x]) (by rw [e]; simp)
    rw [snocS_len] at q
    rw [ref20_IsDeed_l6_eq]
    unfold ref20_IsDeed_l6F
    dsimp only
    rw [Int.toNat_natCast, he, hw, if_pos (by rw [decide_eq_true_eq]; omega), if_pos (by omega), if_pos (by omega), List.all_cons]
    by_cases g : x < 0
    · have : okNum x = false := by unfold okNum; rw [decide_eq_false (p := 0 ≤ x) (by omega)]; rfl
      rw [if_pos (decide_eq_true g), this]
      rfl
    · rw [if_neg (by rw [decide_eq_true_eq]; exact g)]
      by_cases h : x > 1099511627776
      · have : okNum x = false := by unfold okNum; rw [decide_eq_false (p := x ≤ 1099511627776) (by omega), Bool.and_false]
        rw [if_pos (decide_eq_true h), this]
        rfl
      · have : okNum x = true := okNum_iff.2 (by omega)
        rw [if_neg (by rw [decide_eq_true_eq]; exact h), this, Bool.true_and]
        exact q
theorem IsDeed_l15_is (l : List Str) (hl : l.length ≤ 9223372036854775807) : ∀ (b a : List Str), l = a ++ b → ref20_IsDeed_l15 ((a.length : Int), (l, (l.length : Int))) = some (if b.all okTxt then .inr () else .inl false) := by
  intro b
  induction b with
  | nil =>
    intro a e
    rw [List.append_nil] at e
    rw [ref20_IsDeed_l15_eq]
    unfold ref20_IsDeed_l15F
    dsimp only
    rw [if_neg (by rw [e]; simp)]
    rfl
  | cons x b ih =>
    intro a e
    have hl2 : l.length = a.length + (b.length + 1) := by rw [e]; simp
    have hw : IntKind.wrap .i64 ((a.length : Int) + 1) = (a.length : Int) + 1 := wr64 (by omega)
    have he : elt .str l a.length = x := by rw [e]; exact eltS_mid .str a x b
    have q := ih (a ++ [x]) (by rw [e]; simp)
    rw [snocS_len] at q
    rw [ref20_IsDeed_l15_eq]
    unfold ref20_IsDeed_l15F
    dsimp only
    rw [Int.toNat_natCast, he, hw, if_pos (by rw [decide_eq_true_eq]; omega), if_pos (by omega), if_pos (by omega), List.all_cons]
    by_cases g : x.length ≤ 1000
    · have : okTxt x = true := decide_eq_true g
      rw [if_neg (by rw [decide_eq_true_eq]; omega), this, Bool.true_and]
      exact q
    · have : okTxt x = false := decide_eq_false g
      rw [if_pos (by rw [decide_eq_true_eq]; omega), this]
      rfl
theorem IsDeed_is {d : Deed} (h1 : d.2.1.length ≤ 9223372036854775807) (h2 : d.2.2.length ≤ 9223372036854775807) : ref20_IsDeed d = some (isDeed d) := by
  have q1 := IsDeed_l6_is d d.2.1 h1 d.2.1 [] rfl
  have q1 : ref20_IsDeed_l6 (((0 : Int), (d.2.1, (d.2.1.length : Int))), d) = _ := q1
  have q2 := IsDeed_l15_is d.2.2 h2 d.2.2 [] rfl
  have q2 : ref20_IsDeed_l15 ((0 : Int), (d.2.2, (d.2.2.length : Int))) = _ := q2
  unfold ref20_IsDeed isDeed
  by_cases a : 1 ≤ d.1 ∧ d.1 ≤ 12
  · rw [if_neg (by rw [decide_eq_true_eq]; omega), if_neg (by rw [decide_eq_true_eq]; omega), ref20_nums_is a, sb, decide_eq_true a]
    by_cases b : (d.2.1.length : Int) = (shpOf d.1).2.1
    · rw [if_neg (by simpa using b), ref20_texts_is a, sb, decide_eq_true b]
      by_cases c : (d.2.2.length : Int) = (shpOf d.1).2.2
      · rw [if_neg (by simpa using c), q1, sb, decide_eq_true c]
        cases e : d.2.1.all okNum with
        | false => rfl
        | true =>
          show (ref20_IsDeed_l15 ((0 : Int), (d.2.2, (d.2.2.length : Int))) >>= fun r2 => Sum.elim (fun r3 => some r3) (fun r3 => some true) r2) = _
          rw [q2, sb]
          cases d.2.2.all okTxt <;> rfl
      · rw [if_pos (by simpa using c), decide_eq_false c]
        rfl
    · rw [if_pos (by simpa using b), decide_eq_false b]
      rfl
  · rw [decide_eq_false a]
    by_cases c : d.1 < 1
    · rw [if_pos (decide_eq_true c)]; rfl
    · rw [if_neg (by rw [decide_eq_true_eq]; exact c), if_pos (by rw [decide_eq_true_eq]; omega)]; rfl

/-- A plan whose rows are short. -/
structure Small (p : PlanD) : Prop where
  len : p.2.2.length ≤ 1000
  nums : ∀ d ∈ p.2.2, d.2.1.length ≤ 1000
  texts : ∀ d ∈ p.2.2, d.2.2.length ≤ 1000
def rightP (p : PlanD) : Bool := beginsB p.1 p.2.1 && (decide (p.2.2.length ≤ 200) && p.2.2.all isDeed)
theorem Right_is {p : PlanD} (h : Small p) : script_Right p = some (rightP p) := by
  have q : slices_ContainsFunc_api_Deed_jfo p.2.2 = some (!p.2.2.all isDeed) := by
    have := any_gen tDeed slices_IndexFunc_api_Deed_jfo_l3 script_Right_1 (fun d => !isDeed d) (fun i s n => (slices_IndexFunc_api_Deed_jfo_l3_eq _).trans rfl) (s := p.2.2) (by have := h.len; omega) (fun x hx => by
      have h1 := h.nums x hx
      have h2 := h.texts x hx
      unfold script_Right_1
      rw [right_is (by omega) (by omega), sb])
    rw [← List.not_all_eq_any_not] at this
    exact this
  unfold script_Right rightP
  rw [begins_is, sb]
  cases beginsB p.1 p.2.1 with
  | false => rfl
  | true =>
    rw [if_pos rfl]
    by_cases c : p.2.2.length ≤ 200
    · rw [if_pos (by rw [decide_eq_true_eq]; omega), q, sb, decide_eq_true c]
      simp
    · rw [if_neg (by rw [decide_eq_true_eq]; omega), decide_eq_false c]
      rfl
/-! what is printed -/
def lineD (d : Deed) : Str := lineS (shpOf d.1).1 d.2.1 d.2.2
def linesP (l : List Deed) : Str := l.flatMap fun d => lineD d ++ [10]
def headP (q n : Int) : Str := lineS [119, 111, 114, 108, 100] [q, n] [] ++ [10]
def planT (p : PlanD) : Str := headP p.1 p.2.1 ++ linesP p.2.2
theorem numS_len {l : List Int} (h : ∀ n ∈ l, okNum n = true) : (numS l).length ≤ 22 * l.length := by
  induction l with
  | nil => simp [numS]
  | cons x r ih =>
    have e : numS (x :: r) = (32 :: Lib.itoa x) ++ numS r := by simp [numS]
    have hx := okNum_iff.1 (h x List.mem_cons_self)
    have := Lib.itoa_length_le x (by omega) (by omega)
    have ih := ih fun n hn => h n (List.mem_cons_of_mem _ hn)
    rw [e, List.length_append, List.length_cons, List.length_cons]
    omega
theorem txtS_len {l : List Str} (h : ∀ s ∈ l, okTxt s = true) : (txtS l).length ≤ 2002 * l.length := by
  induction l with
  | nil => simp [txtS]
  | cons x r ih =>
    have e : txtS (x :: r) = (32 :: 120 :: hexS x) ++ txtS r := by simp [txtS]
    have hx : x.length ≤ 1000 := of_decide_eq_true (h x List.mem_cons_self)
    have := hexS_len x
    have ih := ih fun n hn => h n (List.mem_cons_of_mem _ hn)
    rw [e, List.length_append, List.length_cons, List.length_cons, List.length_cons]
    omega
structure DeedOk (d : Deed) : Prop where
  kind : 1 ≤ d.1 ∧ d.1 ≤ 12
  nlen : (d.2.1.length : Int) = (shpOf d.1).2.1
  tlen : (d.2.2.length : Int) = (shpOf d.1).2.2
  nums : ∀ n ∈ d.2.1, okNum n = true
  texts : ∀ s ∈ d.2.2, okTxt s = true
theorem isDeed_iff {d : Deed} : isDeed d = true ↔ DeedOk d := by
  unfold isDeed
  simp only [Bool.and_eq_true, decide_eq_true_eq, List.all_eq_true]
  exact ⟨fun ⟨a, b, c, e, f⟩ => ⟨a, b, c, e, f⟩, fun ⟨a, b, c, e, f⟩ => ⟨a, b, c, e, f⟩⟩
theorem lineD_len {d : Deed} (h : DeedOk d) : (lineD d).length ≤ 8200 := by
  obtain ⟨s1, s2, s3, s4, s5⟩ := shp_small h.kind
  have h1 := numS_len h.nums
  have h2 := txtS_len h.texts
  have h3 := h.nlen
  have h4 := h.tlen
  have e : (lineD d).length = (shpOf d.1).1.length + ((numS d.2.1).length + (txtS d.2.2).length) := by simp [lineD, lineS]
  omega
theorem linesP_len {l : List Deed} (h : ∀ d ∈ l, DeedOk d) : (linesP l).length ≤ 8201 * l.length := by
  induction l with
  | nil => simp [linesP]
  | cons x r ih =>
    have e : linesP (x :: r) = (lineD x ++ [10]) ++ linesP r := by simp [linesP]
    have := lineD_len (h x List.mem_cons_self)
    have ih := ih fun n hn => h n (List.mem_cons_of_mem _ hn)
    rw [e, List.length_append, List.length_append, List.length_cons, List.length_cons, List.length_nil]
    omega
theorem line_deed {d : Deed} (h : DeedOk d) : script_line ((shpOf d.1).1, d.2) = some (lineD d ++ [10]) := by
  obtain ⟨s1, s2, s3, s4, s5⟩ := shp_small h.kind
  have h3 := h.nlen
  have h4 := h.tlen
  have := lineD_len h
  exact line_is (w := (shpOf d.1).1) (nums := d.2.1) (texts := d.2.2) h.nums (by omega) (by omega) (by unfold lineD at this; omega)
theorem headP_len {q n : Int} (h : beginsB q n = true) : (headP q n).length ≤ 60 := by
  unfold beginsB at h
  simp only [Bool.and_eq_true, decide_eq_true_eq] at h
  have h1 := numS_len (l := [q, n]) (fun x hx => by
    simp only [List.mem_cons, List.not_mem_nil, or_false] at hx
    rcases hx with rfl | rfl <;> exact okNum_iff.2 (by omega))
  have e : (headP q n).length = 5 + (numS [q, n]).length + 1 := by simp [headP, lineS, txtS]; omega
  rw [e]
  simp only [List.length_cons, List.length_nil] at h1
  omega
theorem Print_l7_is {l : List Deed} (hl : l.length ≤ 1000) (hd : ∀ d ∈ l, DeedOk d) : ∀ (b a : List Deed) (out : Str), l = a ++ b → (out ++ linesP b).length ≤ 1000000000 →
    script_Print_l7 ((a.length : Int), (out, (l, (l.length : Int)))) = some (out ++ linesP b) := by
  intro b
  induction b with
  | nil =>
    intro a out e _
    rw [List.append_nil] at e
    rw [script_Print_l7_eq]
    unfold script_Print_l7F
    dsimp only
    rw [if_neg (by rw [e]; simp)]
    simp [linesP]
  | cons x b ih =>
    intro a out e hw
    have hl2 : l.length = a.length + (b.length + 1) := by rw [e]; simp
    have hwr : IntKind.wrap .i64 ((a.length : Int) + 1) = (a.length : Int) + 1 := wr64 (by omega)
    have he : elt tDeed l a.length = x := by rw [e]; exact eltS_mid tDeed a x b
    have hx := hd x (by rw [e]; simp)
    have es : linesP (x :: b) = (lineD x ++ [10]) ++ linesP b := by simp [linesP]
    rw [es] at hw ⊢
    have q := ih (a ++ [x]) (out ++ (lineD x ++ [10])) (by rw [e]; simp) (by rw [List.append_assoc]; exact hw)
    rw [snocS_len] at q
    have hlen : (out ++ ((lineD x ++ [10]) ++ linesP b)).length = out.length + ((lineD x ++ [10]).length + (linesP b).length) := by simp only [List.length_append]
    have hld : script_line ((mget (.int .i64) (.pair .str (.pair (.int .i64) (.int .i64))) x.1 shapesL).1, x.2) = some (lineD x ++ [10]) := line_deed hx
    rw [script_Print_l7_eq]
    unfold script_Print_l7F
    dsimp only
    rw [Int.toNat_natCast, he, hwr, if_pos (by rw [decide_eq_true_eq]; omega), if_pos (by omega), if_pos (by omega), show lib_shapes () = some shapesL from rfl, sb, hld, sb, if_pos (by omega), q, List.append_assoc]
theorem rightP_parts {p : PlanD} (h : rightP p = true) : beginsB p.1 p.2.1 = true ∧ p.2.2.length ≤ 200 ∧ ∀ d ∈ p.2.2, DeedOk d := by
  unfold rightP at h
  simp only [Bool.and_eq_true, decide_eq_true_eq, List.all_eq_true] at h
  exact ⟨h.1, h.2.1, fun d hd => isDeed_iff.1 (h.2.2 d hd)⟩
theorem begins_num {q n : Int} (h : beginsB q n = true) : okNum q = true ∧ okNum n = true := by
  unfold beginsB at h
  simp only [Bool.and_eq_true, decide_eq_true_eq] at h
  exact ⟨okNum_iff.2 (by omega), okNum_iff.2 (by omega)⟩
theorem Print_is {p : PlanD} (h : Small p) : script_Print p = some (if rightP p then (planT p, 0) else ([], 1)) := by
  unfold script_Print
  rw [Right_is h, sb]
  cases c : rightP p with
  | false => rfl
  | true =>
    obtain ⟨h1, h2, h3⟩ := rightP_parts c
    obtain ⟨n1, n2⟩ := begins_num h1
    have hh := headP_len h1
    have hll := linesP_len h3
    have q1 : script_line (([119, 111, 114, 108, 100] : Str), ([p.1, p.2.1], [])) = some (headP p.1 p.2.1) := line_is (fun x hx => by
      simp only [List.mem_cons, List.not_mem_nil, or_false] at hx
      rcases hx with rfl | rfl
      · exact n1
      · exact n2) (by simp) (by simp) (by unfold headP at hh; rw [List.length_append] at hh; omega)
    have q2 := Print_l7_is h.len h3 p.2.2 [] (headP p.1 p.2.1) rfl (by rw [List.length_append]; omega)
    have q2 : script_Print_l7 ((0 : Int), (headP p.1 p.2.1, (p.2.2, (p.2.2.length : Int)))) = _ := q2
    rw [if_neg (by decide), q1, sb, q2, sb]
    rfl
theorem itoaR_is {n : Int} (h : okNum n = true) : lib_Itoa n = some (Lib.itoa n) := by
  have := okNum_iff.1 h
  exact if_pos ⟨by omega, by omega⟩
theorem Line_l4_is (c : Deed) (nums : List Int) (hn : ∀ n ∈ nums, okNum n = true) (hl : nums.length ≤ 1000000) : ∀ (b a : List Int) (w : Str), nums = a ++ b → (w ++ numS b).length ≤ 1000000000 →
    ref20_Line_l4 (((a.length : Int), (w, (nums, (nums.length : Int)))), c) = some (w ++ numS b, c) := by
  intro b
  induction b with
  | nil =>
    intro a w e _
    rw [List.append_nil] at e
    rw [ref20_Line_l4_eq]
    unfold ref20_Line_l4F
    dsimp only
    rw [if_neg (by rw [e]; simp)]
    simp [numS]
  | cons x b ih =>
    intro a w e hw
    have hl2 : nums.length = a.length + (b.length + 1) := by rw [e]; simp
    have hwr : IntKind.wrap .i64 ((a.length : Int) + 1) = (a.length : Int) + 1 := wr64 (by omega)
    have he : elt (.int .i64) nums a.length = x := by rw [e]; exact eltS_mid (.int .i64) a x b
    have es : numS (x :: b) = ([32] ++ Lib.itoa x) ++ numS b := by simp [numS]
    rw [es] at hw ⊢
    have q := ih (a ++ [x]) ((w ++ [32]) ++ Lib.itoa x) (by rw [e]; simp) (by rw [List.append_assoc, List.append_assoc, ← List.append_assoc [32]]; exact hw)
    rw [snocS_len] at q
    have hlen : (w ++ (([32] ++ Lib.itoa x) ++ numS b)).length = w.length + (1 + (Lib.itoa x).length + (numS b).length) := by simp; omega
    rw [ref20_Line_l4_eq]
    unfold ref20_Line_l4F
    dsimp only
    rw [Int.toNat_natCast, he, if_pos (by rw [decide_eq_true_eq]; omega), if_pos (by omega), if_pos (by omega), if_pos (by simp; omega), itoaR_is (hn x (by rw [e]; simp)), sb, if_pos (by simp; omega), hwr, q]
    simp
theorem Line_l11_is (texts : List Str) (ht : ∀ s ∈ texts, okTxt s = true) (hl : texts.length ≤ 1000000) : ∀ (b a : List Str) (w : Str), texts = a ++ b → (w ++ txtS b).length ≤ 1000000000 →
    ref20_Line_l11 ((a.length : Int), (w, (texts, (texts.length : Int)))) = some (w ++ txtS b) := by
  intro b
  induction b with
  | nil =>
    intro a w e _
    rw [List.append_nil] at e
    rw [ref20_Line_l11_eq]
    unfold ref20_Line_l11F
    dsimp only
    rw [if_neg (by rw [e]; simp)]
    simp [txtS]
  | cons x b ih =>
    intro a w e hw
    have hl2 : texts.length = a.length + (b.length + 1) := by rw [e]; simp
    have hwr : IntKind.wrap .i64 ((a.length : Int) + 1) = (a.length : Int) + 1 := wr64 (by omega)
    have he : elt .str texts a.length = x := by rw [e]; exact eltS_mid .str a x b
    have es : txtS (x :: b) = ([32, 120] ++ hexS x) ++ txtS b := by simp [txtS]
    rw [es] at hw ⊢
    have q := ih (a ++ [x]) ((w ++ [32, 120]) ++ hexS x) (by rw [e]; simp) (by rw [List.append_assoc, List.append_assoc, ← List.append_assoc [32, 120]]; exact hw)
    rw [snocS_len] at q
    have hlen : (w ++ (([32, 120] ++ hexS x) ++ txtS b)).length = w.length + (2 + (hexS x).length + (txtS b).length) := by simp; omega
    have hx : x.length ≤ 1000 := of_decide_eq_true (ht x (by rw [e]; simp))
    rw [ref20_Line_l11_eq]
    unfold ref20_Line_l11F
    dsimp only
    rw [Int.toNat_natCast, he, if_pos (by rw [decide_eq_true_eq]; omega), if_pos (by omega), if_pos (by omega), if_pos (by simp; omega), ref01_Hex_is (by omega), sb, if_pos (by simp; omega), hwr, q]
    simp
theorem Line_is {d : Deed} (h : DeedOk d) : ref20_Line d = some (lineD d) := by
  obtain ⟨s1, s2, s3, s4, s5⟩ := shp_small h.kind
  have h3 := h.nlen
  have h4 := h.tlen
  have hl := lineD_len h
  have e : (lineD d).length = (shpOf d.1).1.length + ((numS d.2.1).length + (txtS d.2.2).length) := by simp [lineD, lineS]
  have q1 := Line_l4_is d d.2.1 h.nums (by omega) d.2.1 [] (shpOf d.1).1 rfl (by rw [List.length_append]; omega)
  have q1 : ref20_Line_l4 (((0 : Int), ((shpOf d.1).1, (d.2.1, (d.2.1.length : Int)))), d) = _ := q1
  have q2 := Line_l11_is d.2.2 h.texts (by omega) d.2.2 [] ((shpOf d.1).1 ++ numS d.2.1) rfl (by rw [List.length_append, List.length_append]; omega)
  have q2 : ref20_Line_l11 ((0 : Int), ((shpOf d.1).1 ++ numS d.2.1, (d.2.2, (d.2.2.length : Int)))) = _ := q2
  unfold ref20_Line
  rw [ref20_word_is h.kind, sb, q1, sb]
  dsimp only
  rw [q2, sb, List.append_assoc]
  rfl
end Go.Plain

/-
  20, plain, part E: plans that are cut; the plan without deeds; the laws 'ScriptPrints' and 'ScriptLines'.
-/
namespace Go.Plain
open Go.AM
set_option linter.unusedVariables false

def cutS (s : Str) : Str := s.take (min s.length 1002)
def cutD (d : Deed) : Deed := (d.1, (d.2.1.take (min d.2.1.length 9), (d.2.2.take (min d.2.2.length 6)).map cutS))
def cutP (p : PlanD) (m : Nat) : PlanD := (p.1, (p.2.1, (p.2.2.take (min p.2.2.length m)).map cutD))
theorem minI (n : Nat) (m : Nat) : min (n : Int) (m : Int) = ((min n m : Nat) : Int) := by omega
theorem sumSm {n B : Nat} (h : n ≤ 2000) (hB : B ≤ 200) : sumOk n B := by
  unfold sumOk
  have := Nat.mul_le_mul h hB
  constructor <;> omega
theorem one_len {α : Type} (x : α) : [x].length = 1 := rfl
theorem few_l12_is (ns : List Int) (hl : ns.length ≤ 9) (x25 : List Deed) (x26 x27 k : Int) (c1 c2 : Int × Int) (e : Deed) (ds : List Deed) : ∀ (b a c4 : List Int), ns = a ++ b → c4.length = a.length →
    law20_few_l12 (((a.length : Int), (ns, (x25, (x26, (x27, (ns.length : Int)))))), (k, (c1, (c2, (e, (c4, ds)))))) = some ((x25, (x26, x27)), (k, (c1, (c2, (e, (c4 ++ b, ds)))))) := by
  intro b
  induction b with
  | nil =>
    intro a c4 q _
    rw [List.append_nil] at q
    rw [law20_few_l12_eq]
    unfold law20_few_l12F
    dsimp only
    rw [if_neg (by rw [q]; simp), List.append_nil]
  | cons x b ih =>
    intro a c4 q hc
    have hl2 : ns.length = a.length + (b.length + 1) := by rw [q]; simp
    have hw : IntKind.wrap .i64 ((a.length : Int) + 1) = (a.length : Int) + 1 := wr64 (by omega)
    have he : elt (.int .i64) ns a.length = x := by rw [q]; exact eltS_mid (.int .i64) a x b
    have r := ih (a ++ [x]) (c4 ++ [x]) (by rw [q]; simp) (by simp [hc])
    rw [snocS_len] at r
    rw [law20_few_l12_eq]
    unfold law20_few_l12F
    dsimp only
    rw [Int.toNat_natCast, he, hw, if_pos (by rw [decide_eq_true_eq]; omega), if_pos (by omega), if_pos (by omega), if_pos (sumSm (by rw [one_len]; omega) (by omega)), r, List.append_assoc]
    rfl
theorem few_l19_is (ts : List Str) (hl : ts.length ≤ 6) (x25 : List Deed) (x26 x27 k : Int) (c1 c2 : Int × Int) (ns : List Int) (ds : List Deed) : ∀ (b a c4 : List Str), ts = a ++ b → c4.length = a.length →
    law20_few_l19 (((a.length : Int), (ts, (x25, (x26, (x27, (ts.length : Int)))))), (k, (c1, (c2, (ns, (c4, ds)))))) = some ((x25, (x26, x27)), (c1, (c2, (k, (ds, (ns, c4 ++ b.map cutS)))))) := by
  intro b
  induction b with
  | nil =>
    intro a c4 q _
    rw [List.append_nil] at q
    rw [law20_few_l19_eq]
    unfold law20_few_l19F
    dsimp only
    rw [if_neg (by rw [q]; simp), List.map_nil, List.append_nil]
  | cons x b ih =>
    intro a c4 q hc
    have hl2 : ts.length = a.length + (b.length + 1) := by rw [q]; simp
    have hw : IntKind.wrap .i64 ((a.length : Int) + 1) = (a.length : Int) + 1 := wr64 (by omega)
    have he : elt .str ts a.length = x := by rw [q]; exact eltS_mid .str a x b
    have r := ih (a ++ [x]) (c4 ++ [cutS x]) (by rw [q]; simp) (by simp [hc])
    rw [snocS_len] at r
    have hm : min (x.length : Int) (1002 : Int) = ((min x.length 1002 : Nat) : Int) := minI _ 1002
    rw [law20_few_l19_eq]
    unfold law20_few_l19F
    dsimp only
    rw [Int.toNat_natCast, he, hw, hm, Int.toNat_natCast, if_pos (by rw [decide_eq_true_eq]; omega), if_pos (by omega), if_pos (by omega), if_pos (by omega), if_pos (by omega), if_pos (sumSm (by rw [one_len]; omega) (by omega))]
    change law20_few_l19 ((_, _), (k, (c1, (c2, (ns, (c4 ++ [cutS x], ds)))))) = _
    rw [r, List.append_assoc]
    rfl
theorem few_l4_is (l : List Deed) (hl : l.length ≤ 1000) (c c1 : Int × Int) : ∀ (b a ds : List Deed), l = a ++ b → ds.length = a.length →
    law20_few_l4 (((a.length : Int), (l, (l.length : Int))), (c, (c1, ds))) = some (c1, (c, ds ++ b.map cutD)) := by
  intro b
  induction b with
  | nil =>
    intro a ds q _
    rw [List.append_nil] at q
    rw [law20_few_l4_eq]
    unfold law20_few_l4F
    dsimp only
    rw [if_neg (by rw [q]; simp), List.map_nil, List.append_nil]
  | cons x b ih =>
    intro a ds q hc
    have hl2 : l.length = a.length + (b.length + 1) := by rw [q]; simp
    have hw : IntKind.wrap .i64 ((a.length : Int) + 1) = (a.length : Int) + 1 := wr64 (by omega)
    have he : elt tDeed l a.length = x := by rw [q]; exact eltS_mid tDeed a x b
    have r := ih (a ++ [x]) (ds ++ [cutD x]) (by rw [q]; simp) (by simp [hc])
    rw [snocS_len] at r
    have hm : min (x.2.1.length : Int) (9 : Int) = ((min x.2.1.length 9 : Nat) : Int) := minI _ 9
    have hm2 : min (x.2.2.length : Int) (6 : Int) = ((min x.2.2.length 6 : Nat) : Int) := minI _ 6
    have q1 := few_l12_is (x.2.1.take (min x.2.1.length 9)) (by rw [List.length_take]; omega) l (l.length : Int) (a.length : Int) x.1 c c1 x ds (x.2.1.take (min x.2.1.length 9)) [] [] rfl rfl
    have q1 : law20_few_l12 (((0 : Int), (x.2.1.take (min x.2.1.length 9), (l, ((l.length : Int), ((a.length : Int), ((x.2.1.take (min x.2.1.length 9)).length : Int)))))), (x.1, (c, (c1, (x, ([], ds)))))) = _ := q1
    have q2 := few_l19_is (x.2.2.take (min x.2.2.length 6)) (by rw [List.length_take]; omega) l (l.length : Int) (a.length : Int) x.1 c c1 (x.2.1.take (min x.2.1.length 9)) ds (x.2.2.take (min x.2.2.length 6)) [] [] rfl rfl
    have q2 : law20_few_l19 (((0 : Int), (x.2.2.take (min x.2.2.length 6), (l, ((l.length : Int), ((a.length : Int), ((x.2.2.take (min x.2.2.length 6)).length : Int)))))), (x.1, (c, (c1, (x.2.1.take (min x.2.1.length 9), ([], ds)))))) = _ := q2
    rw [law20_few_l4_eq]
    unfold law20_few_l4F
    dsimp only
    rw [Int.toNat_natCast, he, hm, Int.toNat_natCast, if_pos (by rw [decide_eq_true_eq]; omega), if_pos (by omega), if_pos (by omega), if_pos (by omega), if_pos (by omega), q1, sb]
    dsimp only
    rw [hm2, Int.toNat_natCast, if_pos (by omega), if_pos (by omega), List.nil_append, q2, sb]
    dsimp only
    rw [hw, List.nil_append, if_pos (sumSm (by rw [one_len]; omega) (by omega))]
    change law20_few_l4 ((_, _), (c, (c1, ds ++ [cutD x]))) = _
    rw [r, List.append_assoc]
    rfl
theorem few_is (p : PlanD) {m : Nat} (hm : m ≤ 1000) : law20_few (p, (m : Int)) = some (cutP p m) := by
  have q := few_l4_is (p.2.2.take (min p.2.2.length m)) (by rw [List.length_take]; omega) (p.1, p.2.1) ((0 : Int), (0 : Int)) (p.2.2.take (min p.2.2.length m)) [] [] rfl rfl
  have q : law20_few_l4 (((0 : Int), (p.2.2.take (min p.2.2.length m), ((p.2.2.take (min p.2.2.length m)).length : Int))), ((p.1, p.2.1), (((0 : Int), (0 : Int)), []))) = _ := q
  unfold law20_few
  dsimp only
  rw [minI, Int.toNat_natCast, if_pos (by omega), if_pos (by omega), q, sb]
  rfl
theorem cutD_nums (d : Deed) : (cutD d).2.1.length ≤ 9 := by show (d.2.1.take _).length ≤ 9; rw [List.length_take]; omega
theorem cutD_texts (d : Deed) : (cutD d).2.2.length ≤ 6 := by show ((d.2.2.take _).map cutS).length ≤ 6; rw [List.length_map, List.length_take]; omega
theorem cut_small (p : PlanD) {m : Nat} (hm : m ≤ 1000) : Small (cutP p m) := by
  refine ⟨?_, fun d hd => ?_, fun d hd => ?_⟩
  · show ((p.2.2.take _).map cutD).length ≤ 1000
    rw [List.length_map, List.length_take]
    omega
  · obtain ⟨x, _, rfl⟩ := List.mem_map.1 hd
    have := cutD_nums x
    omega
  · obtain ⟨x, _, rfl⟩ := List.mem_map.1 hd
    have := cutD_texts x
    omega

/-! the plan without deeds -/
abbrev aliveT : Str := [119, 111, 114, 108, 100, 32, 57, 32, 56, 10]
theorem head98 : headP 9 8 = aliveT := by
  have e9 : Lib.itoa 9 = [57] := by
    rw [show (9 : Int) = ((9 : Nat) : Int) from rfl, Lib.itoa_nonneg, Lib.decDigits]; rfl
  have e8 : Lib.itoa 8 = [56] := by
    rw [show (8 : Int) = ((8 : Nat) : Int) from rfl, Lib.itoa_nonneg, Lib.decDigits]; rfl
  unfold headP lineS numS txtS
  simp only [List.flatMap_cons, List.flatMap_nil, e9, e8]
  rfl
theorem right98 : rightP (9, (8, [])) = true := by decide
theorem small98 : Small (9, (8, [])) := ⟨by simp, fun d hd => (by cases hd), fun d hd => (by cases hd)⟩
theorem print98 : script_Print ((9 : Int), ((8 : Int), [])) = some (aliveT, 0) := by
  have := Print_is small98
  rw [right98] at this
  rw [this, if_pos rfl]
  show some (headP 9 8 ++ linesP [], (0 : Int)) = _
  rw [head98]
  rfl
theorem numbers98 : script_numbers [[57], [56]] = some [9, 8] := by
  have a0 : ∀ c : List Int, script_numbers_l12 (((0 : Int), (([57] : Str), ((0 : Int), (([[57], [56]] : List Str), ((2 : Int), ((0 : Int), (1 : Int))))))), c) = script_numbers_l12 (((1 : Int), (([57] : Str), ((9 : Int), (([[57], [56]] : List Str), ((2 : Int), ((0 : Int), (1 : Int))))))), c) := fun c => (script_numbers_l12_eq _).trans rfl
  have a1 : ∀ c : List Int, script_numbers_l12 (((1 : Int), (([57] : Str), ((9 : Int), (([[57], [56]] : List Str), ((2 : Int), ((0 : Int), (1 : Int))))))), c) = some ((([[57], [56]] : List Str), ((2 : Int), ((0 : Int), (9 : Int)))), c) := fun c => (script_numbers_l12_eq _).trans rfl
  have b0 : ∀ c : List Int, script_numbers_l12 (((0 : Int), (([56] : Str), ((0 : Int), (([[57], [56]] : List Str), ((2 : Int), ((1 : Int), (1 : Int))))))), c) = script_numbers_l12 (((1 : Int), (([56] : Str), ((8 : Int), (([[57], [56]] : List Str), ((2 : Int), ((1 : Int), (1 : Int))))))), c) := fun c => (script_numbers_l12_eq _).trans rfl
  have b1 : ∀ c : List Int, script_numbers_l12 (((1 : Int), (([56] : Str), ((8 : Int), (([[57], [56]] : List Str), ((2 : Int), ((1 : Int), (1 : Int))))))), c) = some ((([[57], [56]] : List Str), ((2 : Int), ((1 : Int), (8 : Int)))), c) := fun c => (script_numbers_l12_eq _).trans rfl
  have l2 : script_numbers_l4 (((2 : Int), (([[57], [56]] : List Str), (2 : Int))), [9, 8]) = some [9, 8] := (script_numbers_l4_eq _).trans rfl
  have l1 : script_numbers_l4 (((1 : Int), (([[57], [56]] : List Str), (2 : Int))), [9]) = some [9, 8] := by
    rw [script_numbers_l4_eq]
    unfold script_numbers_l4F
    dsimp only
    have e : elt .str ([[57], [56]] : List Str) (1 : Int).toNat = [56] := by unfold elt; rfl
    rw [if_pos (by decide), if_pos (by decide), if_pos (by decide), e]
    have := (b0 [9]).trans (b1 [9])
    have : script_numbers_l12 (((0 : Int), (([56] : Str), ((0 : Int), (([[57], [56]] : List Str), ((2 : Int), ((1 : Int), min (([56] : Str).length : Int) (14 : Int))))))), [9]) = _ := this
    rw [this, sb]
    dsimp only
    rw [if_pos (sumSm (by decide) (by omega))]
    exact l2
  have l0 : script_numbers_l4 (((0 : Int), (([[57], [56]] : List Str), (2 : Int))), []) = some [9, 8] := by
    rw [script_numbers_l4_eq]
    unfold script_numbers_l4F
    dsimp only
    have e : elt .str ([[57], [56]] : List Str) (0 : Int).toNat = [57] := by unfold elt; rfl
    rw [if_pos (by decide), if_pos (by decide), if_pos (by decide), e]
    have := (a0 []).trans (a1 [])
    have : script_numbers_l12 (((0 : Int), (([57] : Str), ((0 : Int), (([[57], [56]] : List Str), ((2 : Int), ((0 : Int), min (([57] : Str).length : Int) (14 : Int))))))), []) = _ := this
    rw [this, sb]
    dsimp only
    rw [if_pos (sumSm (by decide) (by omega))]
    exact l1
  unfold script_numbers
  have : script_numbers_l4 (((0 : Int), (([[57], [56]] : List Str), (([[57], [56]] : List Str).length : Int))), []) = _ := l0
  rw [this, sb]
set_option maxRecDepth 100000 in
theorem begin98 : script_begin [119, 111, 114, 108, 100, 32, 57, 32, 56] = some ((9, 8), true) := by
  have hs : lib_Split (([119, 111, 114, 108, 100, 32, 57, 32, 56] : Str), ([32] : Str)) = some [[119, 111, 114, 108, 100], [57], [56]] := by
    unfold lib_Split
    dsimp only
    rw [if_pos (by decide)]
    have : Lib.split [119, 111, 114, 108, 100, 32, 57, 32, 56] [32] = [[119, 111, 114, 108, 100], [57], [56]] := by decide +kernel
    rw [this]
  have e0 : elt .str ([[119, 111, 114, 108, 100], [57], [56]] : List Str) 0 = [119, 111, 114, 108, 100] := by unfold elt; rfl
  have n0 : elt (.int .i64) ([9, 8] : List Int) 0 = 9 := by unfold elt; rfl
  have n1 : elt (.int .i64) ([9, 8] : List Int) 1 = 8 := by unfold elt; rfl
  have hn : script_numbers (List.drop 1 (List.take ((([[119, 111, 114, 108, 100], [57], [56]] : List Str).length : Int)).toNat ([[119, 111, 114, 108, 100], [57], [56]] : List Str))) = some [9, 8] := numbers98
  have hb : script_begins ((9 : Int), ((8 : Int), [])) = some true := begins_is (9, (8, []))
  have h98 := head98
  have hl : script_line (([119, 111, 114, 108, 100] : Str), ([9, 8], [])) = some (headP 9 8) := line_is (w := [119, 111, 114, 108, 100]) (nums := [9, 8]) (texts := []) (fun x hx => by
      simp only [List.mem_cons, List.not_mem_nil, or_false] at hx
      rcases hx with rfl | rfl <;> rfl) (by simp) (by simp) (by
      have : (headP 9 8).length = 10 := by rw [head98]; rfl
      unfold headP at this
      rw [List.length_append] at this
      omega)
  unfold script_begin
  rw [hs, sb, if_neg (by decide), if_pos (by decide), e0, if_neg (by decide), if_pos (by decide), if_pos (by decide), hn, sb, if_pos (by decide), if_pos (by decide), n0, n1, hb, sb, if_pos rfl, if_pos (by decide), hl, sb, if_pos (by decide), head98]
  rfl
theorem parse98 : script_Parse aliveT = some (((9 : Int), ((8 : Int), [])), ((0 : Int), (0 : Int))) := by
  have hc : lib_Cut (aliveT, ([10] : Str)) = some ([119, 111, 114, 108, 100, 32, 57, 32, 56], [], true) := by
    unfold lib_Cut
    dsimp only
    rw [if_pos (by decide)]
    have : Lib.cut aliveT [10] = ([119, 111, 114, 108, 100, 32, 57, 32, 56], [], true) := by decide +kernel
    rw [this]
  have hl : script_Parse_l8 (((2 : Int), ([] : Str)), (((0 : Int), (0 : Int)), (((9 : Int), (8 : Int)), []))) = some (.inr (((0 : Int), (0 : Int)), (((9 : Int), (8 : Int)), []))) := (script_Parse_l8_eq _).trans rfl
  unfold script_Parse
  rw [hc, sb]
  dsimp only
  rw [begin98, sb, if_neg (by decide), if_neg (by decide)]
  dsimp only
  rw [hl, sb]
  rfl
theorem alive20 : law20_alive () = some true := by
  unfold law20_alive
  rw [print98, sb]
  dsimp only
  rw [parse98, sb, if_pos (by decide), if_pos (by decide), if_pos (by decide), if_pos (by decide)]
  dsimp only
  rw [Right_is small98, right98]
  rfl

/-! how many lines -/
theorem dec_bytes : ∀ u : Nat, ∀ b ∈ Lib.decDigits u, b ≠ 10 := by
  intro u
  induction u using Nat.strongRecOn with
  | _ u ih =>
    intro b hb
    have one : ∀ m, m < 10 → UInt8.ofNat (48 + m) ≠ 10 := by
      intro m hm
      have : m = 0 ∨ m = 1 ∨ m = 2 ∨ m = 3 ∨ m = 4 ∨ m = 5 ∨ m = 6 ∨ m = 7 ∨ m = 8 ∨ m = 9 := by omega
      rcases this with e | e | e | e | e | e | e | e | e | e <;> subst e <;> decide
    rw [Lib.decDigits] at hb
    split at hb
    · rename_i h
      rw [List.mem_singleton.1 hb]
      exact one u h
    · rcases List.mem_append.1 hb with hb | hb
      · exact ih (u / 10) (by omega) b hb
      · rw [List.mem_singleton.1 hb]
        exact one _ (Nat.mod_lt _ (by omega))
theorem numS_bytes {l : List Int} (h : ∀ n ∈ l, okNum n = true) : (10 : UInt8) ∉ numS l := by
  intro hb
  obtain ⟨n, hn, hb⟩ := List.mem_flatMap.1 hb
  rcases List.mem_cons.1 hb with e | hb
  · exact absurd e (by decide)
  · obtain ⟨k, rfl⟩ := Int.eq_ofNat_of_zero_le (okNum_iff.1 (h n hn)).1
    rw [Lib.itoa_nonneg] at hb
    exact dec_bytes k _ hb rfl
theorem hexD_not {m : Nat} (h : m < 16) : hexD m ≠ 10 := by
  have : m = 0 ∨ m = 1 ∨ m = 2 ∨ m = 3 ∨ m = 4 ∨ m = 5 ∨ m = 6 ∨ m = 7 ∨ m = 8 ∨ m = 9 ∨ m = 10 ∨ m = 11 ∨ m = 12 ∨ m = 13 ∨ m = 14 ∨ m = 15 := by omega
  rcases this with e | e | e | e | e | e | e | e | e | e | e | e | e | e | e | e <;> subst e <;> decide
theorem txtS_bytes (l : List Str) : (10 : UInt8) ∉ txtS l := by
  intro hb
  obtain ⟨s, _, hb⟩ := List.mem_flatMap.1 hb
  rcases List.mem_cons.1 hb with e | hb
  · exact absurd e (by decide)
  rcases List.mem_cons.1 hb with e | hb
  · exact absurd e (by decide)
  obtain ⟨b, _, hb⟩ := List.mem_flatMap.1 hb
  have := b.toNat_lt
  simp only [List.mem_cons, List.not_mem_nil, or_false] at hb
  rcases hb with e | e
  · exact hexD_not (by omega) e.symm
  · exact hexD_not (by omega) e.symm
theorem lineS_bytes {w : Str} (hw : (10 : UInt8) ∉ w) {l : List Int} (h : ∀ n ∈ l, okNum n = true) (t : List Str) : (10 : UInt8) ∉ lineS w l t := by
  intro hb
  rcases List.mem_append.1 hb with hb | hb
  · exact hw hb
  · rcases List.mem_append.1 hb with hb | hb
    · exact numS_bytes h hb
    · exact txtS_bytes t hb
theorem word_bytes {k : Int} (h : 1 ≤ k ∧ k ≤ 12) : (10 : UInt8) ∉ (shpOf k).1 := by
  rcases kinds h with e | e | e | e | e | e | e | e | e | e | e | e <;> subst e <;> decide
theorem lineD_bytes {d : Deed} (h : DeedOk d) : (10 : UInt8) ∉ lineD d := lineS_bytes (word_bytes h.kind) h.nums _
theorem count_lines {l : List Deed} (h : ∀ d ∈ l, DeedOk d) : (linesP l).count 10 = l.length := by
  induction l with
  | nil => rfl
  | cons x r ih =>
    have e : linesP (x :: r) = (lineD x ++ [10]) ++ linesP r := by simp [linesP]
    rw [e, List.count_append, List.count_append, List.count_eq_zero_of_not_mem (lineD_bytes (h x List.mem_cons_self)), ih fun d hd => h d (List.mem_cons_of_mem _ hd), List.length_cons]
    have : List.count (10 : UInt8) [10] = 1 := rfl
    omega
theorem count_plan {p : PlanD} (c : rightP p = true) : (planT p).count 10 = p.2.2.length + 1 := by
  obtain ⟨h1, h2, h3⟩ := rightP_parts c
  obtain ⟨n1, n2⟩ := begins_num h1
  have hh : (10 : UInt8) ∉ lineS [119, 111, 114, 108, 100] [p.1, p.2.1] [] := lineS_bytes (by decide) (fun x hx => by
    simp only [List.mem_cons, List.not_mem_nil, or_false] at hx
    rcases hx with rfl | rfl
    · exact n1
    · exact n2) _
  unfold planT headP
  rw [List.count_append, List.count_append, List.count_eq_zero_of_not_mem hh, count_lines h3]
  have : List.count (10 : UInt8) [10] = 1 := rfl
  omega
theorem ScriptLines_holds (p : PlanD) (d : Deed) : law20_ScriptLines (p, d) = some true := by
  have hs := cut_small p (m := 205) (by omega)
  have hlf : (cutP p 205).2.2.length ≤ 205 := by
    show ((p.2.2.take _).map cutD).length ≤ 205
    rw [List.length_map, List.length_take]
    omega
  obtain ⟨f, hf⟩ : ∃ f, f = cutP p 205 := ⟨_, rfl⟩
  have h0 : law20_few (p, (205 : Int)) = some (cutP p 205) := few_is p (m := 205) (by omega)
  have h1 : law20_few (((0 : Int), ((0 : Int), [d])), (1 : Int)) = some ((0 : Int), ((0 : Int), [cutD d])) := few_is ((0 : Int), ((0 : Int), [d])) (m := 1) (by omega)
  rw [← hf] at hs h0 hlf
  obtain ⟨x, hx⟩ : ∃ x, x = cutD d := ⟨_, rfl⟩
  have hxn := cutD_nums d
  have hxt := cutD_texts d
  rw [← hx] at h1 hxn hxt
  have he : elt tDeed [x] 0 = x := by unfold elt; rfl
  unfold law20_ScriptLines
  dsimp only
  rw [h0, sb, h1, sb]
  dsimp only
  rw [if_pos (by simp), Print_is hs, sb]
  cases c : rightP f with
  | false =>
    rw [if_pos (show ((if false = true then (planT f, (0 : Int)) else ([], 1)).2 != 0) = true from rfl), alive20, sb]
    rfl
  | true =>
    obtain ⟨g1, g2, g3⟩ := rightP_parts c
    have hq : Small (f.1, (f.2.1, f.2.2 ++ [x])) := by
      refine ⟨by rw [List.length_append, one_len]; omega, fun y hy => ?_, fun y hy => ?_⟩
      · rcases List.mem_append.1 hy with hy | hy
        · exact hs.nums y hy
        · rw [List.mem_singleton.1 hy]; omega
      · rcases List.mem_append.1 hy with hy | hy
        · exact hs.texts y hy
        · rw [List.mem_singleton.1 hy]; omega
    rw [if_pos rfl, if_neg (by simp), he, if_pos (sumSm (by omega) (by omega)), if_pos (sumSm (by rw [one_len]; omega) (by omega)), Print_is hq, sb]
    have hc : lib_Count (planT f, ([10] : Str)) = some ((f.2.2.length : Int) + 1) := by
      show some ((Lib.countByte (planT f) 10 : Nat) : Int) = _
      rw [show Lib.countByte (planT f) 10 = (planT f).count 10 from rfl, count_plan c]
      rfl
    have hw : IntKind.wrap .i64 ((f.2.2.length : Int) + 1) = (f.2.2.length : Int) + 1 := wr64 (by omega)
    dsimp only
    rw [hc, sb, hw, if_neg (by simp), alive20, sb, if_neg (by decide), IsDeed_is (by omega) (by omega), sb]
    have hrq : rightP (f.1, (f.2.1, f.2.2 ++ [x])) = (decide (f.2.2.length + 1 ≤ 200) && isDeed x) := by
      have hall : f.2.2.all isDeed = true := List.all_eq_true.2 fun y hy => isDeed_iff.2 (g3 y hy)
      unfold rightP
      dsimp only
      rw [g1, List.length_append, one_len, List.all_append, hall]
      simp
    cases e : isDeed x with
    | false =>
      rw [if_pos (by decide), hrq, e, Bool.and_false]
      rfl
    | true =>
      rw [if_neg (by decide)]
      by_cases h200 : f.2.2.length = 200
      · rw [if_pos (by rw [beq_iff_eq]; omega), hrq, decide_eq_false (by omega)]
        rfl
      · have hd := isDeed_iff.1 e
        have hl := lineD_len hd
        have hp : (planT f).length ≤ 60 + 8201 * 200 := by
          have a := headP_len g1
          have b := linesP_len g3
          unfold planT
          rw [List.length_append]
          omega
        rw [if_neg (by rw [beq_iff_eq]; omega), hrq, e, decide_eq_true (by omega), if_pos (by rfl)]
        rw [if_pos (by rfl), Line_is hd, sb, if_pos (by omega), if_pos (by rw [List.length_append, one_len]; omega)]
        have et : planT (f.1, (f.2.1, f.2.2 ++ [x])) = (planT f ++ lineD x) ++ [10] := by
          unfold planT linesP
          simp
        rw [et]
        simp
end Go.Plain
