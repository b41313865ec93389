/-
  Plain facts of the printed functions of layer 13: nets.
-/
import Derived.Test.YtgnddcjlkjnifaaW1P
import Derived.Test.YtgnddcjlkjnifaaBMTrod
namespace Go.Plain
open Go.AM

theorem sbW {α β : Type} (a : α) (f : α → Option β) : (some a >>= f) = f a := rfl
theorem wrW {n : Int} (h : -9223372036854775808 ≤ n ∧ n < 9223372036854775808) : IntKind.wrap .i64 n = n := by rw [IntKind.wrap_i64]; omega
abbrev tM : Ty := .pair (.int .i64) (.pair (.int .i64) (.pair .str (.int .i64)))
abbrev MsgD : Type := Int × (Int × (Str × Int))
abbrev NetD : Type := List MsgD × (Int × Int)
theorem eltW_mid (t : Ty) (a : List t.den) (x : t.den) (b : List t.den) : elt t (a ++ x :: b) a.length = x := by
  unfold elt
  simp [List.getD_eq_getElem?_getD]
theorem midW_snoc {α : Type} (a : List α) (x : α) (b : List α) : a ++ x :: b = (a ++ [x]) ++ b := by simp
theorem snocW_len {α : Type} (a : List α) (x : α) : ((a ++ [x]).length : Int) = (a.length : Int) + 1 := by simp

def GoodM (last now : Int) (m : MsgD) : Prop := 1 ≤ m.1 ∧ m.1 ≤ last ∧ 0 ≤ m.2.1 ∧ m.2.1 < 64 ∧ (m.2.2.1.length : Int) ≤ 4096 ∧ 0 ≤ m.2.2.2 ∧ m.2.2.2 ≤ now
def RightN (n : NetD) : Prop := n.1.length ≤ 32 ∧ 0 ≤ n.2.1 ∧ n.2.1 ≤ 1099511627776 ∧ 0 ≤ n.2.2 ∧ n.2.2 ≤ 1099511627776 ∧ ∀ m ∈ n.1, GoodM n.2.1 n.2.2 m
theorem Right_1_good {m : MsgD} {c : NetD} (h : GoodM c.2.1 c.2.2 m) : wire_Right_1_jfu (m, c) = some (false, c) := by
  obtain ⟨h1, h2, h3, h4, h5, h6, h7⟩ := h
  unfold wire_Right_1_jfu
  dsimp only
  rw [if_neg (by rw [decide_eq_true_eq]; omega), if_neg (by rw [decide_eq_true_eq]; omega), if_neg (by rw [decide_eq_true_eq]; omega), if_neg (by rw [decide_eq_true_eq]; omega), if_neg (by rw [decide_eq_true_eq]; omega), if_neg (by rw [decide_eq_true_eq]; omega), decide_eq_false (by omega)]
theorem IndexFunc_good (c : NetD) : ∀ (b a : List MsgD), (a ++ b).length ≤ 32 → (∀ m ∈ b, GoodM c.2.1 c.2.2 m) → slices_IndexFunc_api_Msg_fp2_l3 (((a.length : Int), (a ++ b, ((a ++ b).length : Int))), c) = some (.inr c) := by
  intro b
  induction b with
  | nil =>
    intro a _ _
    rw [slices_IndexFunc_api_Msg_fp2_l3_eq]
    unfold slices_IndexFunc_api_Msg_fp2_l3F
    dsimp only
    rw [if_neg (by simp)]
  | cons x b ih =>
    intro a hl hg
    have hl2 : (a ++ x :: b).length = a.length + (b.length + 1) := by simp
    have hw : IntKind.wrap .i64 ((a.length : Int) + 1) = (a.length : Int) + 1 := wrW (by omega)
    have q := ih (a ++ [x]) (by rw [← midW_snoc]; exact hl) (fun m hm => hg m (by simp [hm]))
    rw [snocW_len, ← midW_snoc] at q
    rw [slices_IndexFunc_api_Msg_fp2_l3_eq]
    unfold slices_IndexFunc_api_Msg_fp2_l3F
    dsimp only
    rw [Int.toNat_natCast, eltW_mid tM, if_pos (by rw [decide_eq_true_eq]; omega), if_pos (by omega), if_pos (by omega), Right_1_good (hg x (by simp)), sbW, if_neg (by simp), hw]
    exact q
theorem Right_true {n : NetD} (h : RightN n) : wire_Right n = some true := by
  obtain ⟨h1, h2, h3, h4, h5, h6⟩ := h
  have k := IndexFunc_good n n.1 [] (by simpa using h1) h6
  have k : slices_IndexFunc_api_Msg_fp2_l3 (((0 : Int), (n.1, (n.1.length : Int))), n) = some (.inr n) := k
  unfold wire_Right slices_ContainsFunc_api_Msg_fp2 slices_IndexFunc_api_Msg_fp2
  dsimp only
  rw [k, if_pos (by rw [decide_eq_true_eq]; omega), if_pos (by rw [decide_eq_true_eq]; omega), if_pos (by rw [decide_eq_true_eq]; omega), if_pos (by rw [decide_eq_true_eq]; omega), if_pos (by rw [decide_eq_true_eq]; omega)]
  rfl
theorem Clip_is (s : List MsgD) : slices_Clip_api_Msg s = some (s, true) := by
  unfold slices_Clip_api_Msg
  rw [if_pos (Int.le_refl _), if_pos (Int.le_refl _), Int.toNat_natCast, List.take_length, decide_eq_true rfl]
theorem sumW {n : Nat} (x : MsgD) (h : n ≤ 32) : sumOk (n + [x].length) 40 := by
  have e : [x].length = 1 := rfl
  rw [e]
  constructor <;> omega
theorem Send_is {n : NetD} (h : RightN n) {to : Int} {body : Str} (h1 : 0 ≤ to) (h2 : to < 64) (h3 : body.length ≤ 4096) (h4 : n.1.length < 32) (h5 : n.2.1 < 1099511627776) :
    wire_Send (n, (to, body)) = some ((n.1 ++ [(n.2.1 + 1, (to, (body, n.2.2)))], (n.2.1 + 1, n.2.2)), (n.2.1 + 1, 0)) := by
  have hl := h.2.1
  have hw : IntKind.wrap .i64 (n.2.1 + 1) = n.2.1 + 1 := wrW (by omega)
  unfold wire_Send
  dsimp only
  rw [Right_true h, sbW, if_neg (by decide), if_neg (by rw [decide_eq_true_eq]; omega), if_neg (by rw [decide_eq_true_eq]; omega), if_neg (by rw [decide_eq_true_eq]; omega), if_neg (by rw [beq_iff_eq]; omega), if_neg (by rw [beq_iff_eq]; omega), Clip_is, sbW, hw]
  dsimp only
  rw [if_pos rfl, if_pos (.inr (by simp)), if_pos (sumW _ (by omega))]
theorem there_is {n : NetD} (h : RightN n) {p : Nat} (hp : p < n.1.length) : wire_there (n, (p : Int)) = some 0 := by
  unfold wire_there
  dsimp only
  rw [Right_true h, sbW, if_neg (by decide), if_neg (by rw [decide_eq_true_eq]; omega), if_neg (by rw [decide_eq_true_eq]; omega)]
theorem without_is (a : List MsgD) (m : MsgD) (b : List MsgD) (h : (a ++ m :: b).length ≤ 32) : wire_without_api_Msg (a ++ m :: b, (a.length : Int)) = some (a ++ b) := by
  have hl2 : (a ++ m :: b).length = a.length + (b.length + 1) := by simp
  have hw : IntKind.wrap .i64 ((a.length : Int) + 1) = (a.length : Int) + 1 := wrW (by omega)
  unfold wire_without_api_Msg slices_Clone_api_Msg lib_Clone slices_Delete_api_Msg lib_Delete
  dsimp only
  rw [if_pos (by omega), sbW, hw, if_pos (by omega), sbW]
  have e1 : ((a.length : Int) + 1).toNat = a.length + 1 := by omega
  rw [e1, Int.toNat_natCast, List.take_left' rfl]
  have e2 : (a ++ m :: b).drop (a.length + 1) = b := by
    rw [midW_snoc]
    exact List.drop_left' (by simp)
  rw [e2]
theorem Take_is (a : List MsgD) (m : MsgD) (b : List MsgD) (r : Int × Int) (h : RightN (a ++ m :: b, r)) : wire_Take ((a ++ m :: b, r), (a.length : Int)) = some ((a ++ b, r), (m, 0)) := by
  have hl2 : (a ++ m :: b).length = a.length + (b.length + 1) := by simp
  unfold wire_Take
  dsimp only
  rw [there_is h (by dsimp only; omega), sbW, if_neg (by decide), if_pos (by omega), if_pos (by omega), without_is a m b h.1, sbW, Int.toNat_natCast, eltW_mid tM]
theorem Lose_is (a : List MsgD) (m : MsgD) (b : List MsgD) (r : Int × Int) (h : RightN (a ++ m :: b, r)) : wire_Lose ((a ++ m :: b, r), (a.length : Int)) = some ((a ++ b, r), 0) := by
  unfold wire_Lose
  dsimp only
  rw [Take_is a m b r h, sbW]
theorem Twice_is (a : List MsgD) (m : MsgD) (b : List MsgD) (r : Int × Int) (h : RightN (a ++ m :: b, r)) :
    wire_Twice ((a ++ m :: b, r), (a.length : Int)) = if (a ++ m :: b).length = 32 then some (([], (0, 0)), 13) else some (((a ++ m :: b) ++ [m], r), 0) := by
  have hl2 : (a ++ m :: b).length = a.length + (b.length + 1) := by simp
  unfold wire_Twice
  dsimp only
  rw [there_is h (by dsimp only; omega), sbW, if_neg (by decide)]
  by_cases e : (a ++ m :: b).length = 32
  · rw [if_pos (by rw [beq_iff_eq]; omega), if_pos e]
  · rw [if_neg (by rw [beq_iff_eq]; omega), if_neg e, Clip_is, sbW, Int.toNat_natCast, eltW_mid tM]
    have := h.1
    dsimp only at this ⊢
    rw [if_pos (by omega), if_pos (by omega), if_pos rfl, if_pos (.inr (by simp)), if_pos (sumW _ (by omega))]
end Go.Plain
