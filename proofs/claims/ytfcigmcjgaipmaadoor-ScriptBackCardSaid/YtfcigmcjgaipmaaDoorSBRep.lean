/-
  The map of a script's words, and slices.Repeat at texts, at this program.
-/
import Derived.Test.YtfcigmcjgaipmaaDoorSBShelf
import Derived.WalkKit
import Derived.Deep.LoopGhost
import Derived.Deep.RegionLaw
import Derived.Deep.OwnRows
import Derived.Laws.CopyOwn
import Derived.Test.YtfcigmcjgaipmaaDoorSBHex
import Derived.Test.YtfcigmcjgaipmaaDoorSBEnv
import Derived.Test.YtfcigmcjgaipmaaDoorPrn
namespace Go.Proofs.Tryd
open Go.AM Go.RowKit
set_option maxRecDepth 100000
set_option maxHeartbeats 4000000 in
theorem cShapes : ACall E 11 [] [] (fun r h' => r = .ret (.mptr 0) ∧ h' = [.mp (.int .i64) (.pair .str (.pair (.int .i64) (.int .i64))) shapesL]) := by
  refine ACall.bodyR envOK func11 rfl rfl rfl ?_
  conv => whnf
  refine ⟨[.old 0], _, [.mp (.int .i64) (.pair .str (.pair (.int .i64) (.int .i64))) shapesL], ?_, rfl, rfl⟩
  repeat' (first | exact trivial | exact rfl | exact .inl rfl | (exact .inr rfl) | refine And.intro ?_ ?_)
/-- A row under way: k texts, and empty ones. -/
def rowW (w : World) (s : ByteArray) (k n : Nat) : World := w.alloc (.cells (List.replicate k (Value.string s) ++ List.replicate (n - k) (Value.string ⟨#[]⟩)).toArray 9)
theorem rowW_row (w : World) (s : ByteArray) (k n : Nat) : (rowW w s k n).heap[w.heap.size]? = some (.cells (List.replicate k (Value.string s) ++ List.replicate (n - k) (Value.string ⟨#[]⟩)).toArray 9) := by
  show (w.heap.push _)[w.heap.size]? = _
  simp
theorem rowW_made (w : World) (s : ByteArray) (n : Nat) : w.alloc (.cells (madeCells #[Value.string ⟨#[]⟩] n) 9) = rowW w s 0 n := by
  unfold rowW
  have e : madeCells #[Value.string ⟨#[]⟩] n = (List.replicate 0 (Value.string s) ++ List.replicate (n - 0) (Value.string ⟨#[]⟩)).toArray := by
    rw [← Array.toList_inj, toList_madeCells_one]
    simp
  rw [e]
theorem alloc_setRow (w : World) (a b : Array Value) (t : TypeId) : (w.alloc (.cells a t)).setRow w.heap.size b = w.alloc (.cells b t) := by
  have e : ∀ (xs : Array Obj) (a b : Obj) (f : Obj → Obj), f a = b → (xs.push a).modify xs.size f = xs.push b := by
    intro xs a b f h
    apply Array.ext
    · simp
    · intro i h1 h2
      rw [Array.getElem_modify, Array.getElem_push, Array.getElem_push]
      by_cases g : i < xs.size
      · rw [dif_pos g, dif_pos g, if_neg (by omega)]
      · rw [dif_neg g, dif_neg g, if_pos (by simp at h1; omega), h]
  unfold World.setRow World.alloc
  dsimp only
  rw [e _ _ (.cells b t) _ rfl]
theorem rowW_copy (w : World) (s : ByteArray) (k m n : Nat) (hm : m ≤ n - k) (a : Addr) (sLen sCap dLen dCap : Nat) (hmin : m = Nat.min sLen dLen)
    (hsrc : ∀ j, j < m → (rowW w s k n).cell? (a.add j) = some (Value.string s)) (ty : TypeId) :
    (Builtin.copy_ #[36, 36] ty #[.slice (some ⟨w.heap.size, k, none⟩) dLen dCap, .slice (some a) sLen sCap]).run prog (rowW w s k n) = .ok (goInt m) (rowW w s (k + m) n) := by
  have h := run_copy_row (P := prog) (rowW w s k n) 36 36 ty 9 w.heap.size k dLen dCap a sLen sCap _ 9 (List.replicate m (Value.string s)) underlying36 (by kernel_rfl) (rowW_row w s k n)
    (by simpa using hmin) (fun j v hv => by
      have hj : j < m := by
        have := (List.getElem?_eq_some_iff.1 hv).1
        simpa using this
      rw [List.getElem?_replicate, if_pos hj] at hv
      cases hv
      exact hsrc j hj) (by simp; omega) (fun v hv => by
      rw [List.eq_of_mem_replicate hv]
      rfl)
  rw [h, List.length_replicate]
  have e : (List.take k (List.replicate k (Value.string s) ++ List.replicate (n - k) (Value.string ⟨#[]⟩)).toArray.toList ++ List.replicate m (Value.string s) ++
      List.drop (k + m) (List.replicate k (Value.string s) ++ List.replicate (n - k) (Value.string ⟨#[]⟩)).toArray.toList) = List.replicate (k + m) (Value.string s) ++ List.replicate (n - (k + m)) (Value.string ⟨#[]⟩) := by
    have e1 : n - k - (k + m - k) = n - (k + m) := by omega
    rw [List.toList_toArray, List.take_left' (List.length_replicate), List.drop_append, List.drop_eq_nil_of_le (by rw [List.length_replicate]; omega), List.nil_append, List.replicate_append_replicate, List.drop_replicate, List.length_replicate, e1]
  rw [e]
  unfold rowW
  rw [alloc_setRow]
set_option maxHeartbeats 4000000 in
set_option maxRecDepth 1000000 in
theorem slices_RepeatS (g o cap : Nat) (s : ByteArray) (n : Nat) (w : World) (hc : w.cell? ⟨g, o, none⟩ = some (.string s)) (hcap : 1 ≤ cap) (h1 : 1 ≤ n) (h2 : n ≤ 64) :
    Calls prog 64 #[.slice (some ⟨g, o, none⟩) 1 cap, .int .i64 n] w fun e w' => ∃ (w1 : World) (ty : TypeId), Below w.heap.size w w1 ∧ w' = w1.alloc (.cells (List.replicate n (Value.string s)).toArray ty) ∧ e = .returned (.slice (some ⟨w1.heap.size, 0, none⟩) n n) := by
  have hmul : ∀ w, Calls prog 71 #[.int .u64 1, .int .u64 n] w fun e w' => e = .returned (.tuple #[.int .u64 0, .int .u64 n]) ∧ w' = w := fun w => by
    have h := bits_Mul 1 n (by omega) (by omega) w
    rw [show 1 * n / 18446744073709551616 = 0 by omega, show 1 * n % 18446744073709551616 = n by omega] at h
    exact h
  have hmk : ∀ w : World, (Instr.makeSlice 36 (.int .i64 (n : Int)) (.int .i64 (n : Int))).run prog w = .ok (.slice (some ⟨w.heap.size, 0, none⟩) n n) (rowW w s 0 n) := fun w => by
    rw [← rowW_made]
    exact run_make_row' (P := prog) 36 9 (.string ⟨#[]⟩) 16 underlying36 (by kernel_rfl) rfl .i64 .i64 n (by omega) (by omega) w
  have hgs : g < w.heap.size := World.block_lt_of_cell? _ _ hc
  have hcp1 : ∀ ty, (Builtin.copy_ #[36, 36] ty #[.slice (some ⟨w.heap.size, 0, none⟩) n n, .slice (some ⟨g, o, none⟩) 1 cap]).run prog (rowW w s 0 n) = .ok (goInt 1) (rowW w s 1 n) := fun ty =>
    rowW_copy w s 0 1 n (by omega) ⟨g, o, none⟩ 1 cap n n (by show 1 = min 1 n; omega) (fun j hj => by
      have : j = 0 := by omega
      subst this
      show (w.alloc _).cell? ⟨g, o, none⟩ = _
      rw [World.cell?_alloc_lt _ _ _ hgs]
      exact hc) ty
  go_enter func64, ntmps64
  go_wp2_with (go_at_fn 71; fail)
  refine (hmul _).mono ?_
  rintro e w' ⟨rfl, rfl⟩
  dsimp only
  go_wp2
  go_loopg [8] (n - 1) (fun gk v wr => ∃ (w1 : World) (k : Nat), 1 ≤ k ∧ k ≤ n ∧ gk = n - k ∧ v = .int .i64 (k : Int) ∧ wr = rowW w1 s k n ∧ w1.heap.size = w'.heap.size ∧ Below w'.heap.size w' w1)
  case atStart => exact ⟨w', 1, Nat.le_refl _, h1, rfl, rfl, rfl, rfl, Below.refl _ _⟩
  case round =>
    obtain ⟨w1, k, hk1, hk2, rfl, rfl, rfl, hsz, hb⟩ := hrel
    have hcp : ∀ ty, k < n → (Builtin.copy_ #[36, 36] ty #[.slice (some ⟨w'.heap.size, k, none⟩) (n - k) (n - k), .slice (some ⟨w'.heap.size, 0, none⟩) k n]).run prog (rowW w1 s k n).drew = .ok (goInt (Nat.min k (n - k))) (rowW w1.drew s (k + Nat.min k (n - k)) n) := fun ty hlt => by
      rw [← hsz]
      refine rowW_copy w1.drew s k (Nat.min k (n - k)) n (Nat.min_le_right _ _) ⟨w1.heap.size, 0, none⟩ k n (n - k) (n - k) rfl (fun j hj => ?_) ty
      have hjk : j < k := Nat.lt_of_lt_of_le hj (Nat.min_le_left _ _)
      rw [Addr.add_lit, Nat.zero_add]
      show (w1.drew.alloc _).cell? ⟨w1.drew.heap.size, j, none⟩ = _
      rw [World.cell?_alloc_new]
      rw [List.getElem?_toArray, List.getElem?_append_left (by rw [List.length_replicate]; exact hjk), List.getElem?_replicate, if_pos hjk]
    go_wp2
    · have hlt : k < n := by assumption
      have hcp := fun ty => hcp ty hlt
      go_region
      go_wp2
      have hm : Nat.min k (n - k) = min k (n - k) := rfl
      have ek : wrap64 ((k : Int) + ((k.min (n - k) : Nat) : Int)) = ((k + k.min (n - k) : Nat) : Int) := by
        rw [show ((k : Int) + ((k.min (n - k) : Nat) : Int)) = ((k + k.min (n - k) : Nat) : Int) by omega]
        unfold wrap64
        omega
      rw [ek]
      go_roundg (n - (k + k.min (n - k)))
      case measure => omega
      case rel => exact ⟨w1.drew, k + k.min (n - k), by omega, by omega, rfl, rfl, rfl, hsz, hb.drew⟩
    · go_ret
      have hkn : k = n := by omega
      subst hkn
      refine ⟨w1, 9, hb, ?_, ?_⟩
      · unfold rowW
        rw [Nat.sub_self, List.replicate_zero, List.append_nil]
      · rw [hsz]
        rfl
end Go.Proofs.Tryd
