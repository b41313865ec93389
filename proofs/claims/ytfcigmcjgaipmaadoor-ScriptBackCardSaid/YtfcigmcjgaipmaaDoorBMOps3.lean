/-
  AM, part 7: the operations that reckon, and those that read memory.
-/
import Derived.Laws.Strings
import Derived.Lib.Strings
import Derived.Test.YtfcigmcjgaipmaaDoorBMOps2
namespace Go.AM
set_option linter.unusedSectionVars false
variable [Lay]
section
variable {E : Env} {w : World} {I : Nat → Nat → Prop} {h : Heap} {μ : Nat → Option Nat} {ρ : Operand → Value} {g : Nat → AB} {b0 : Nat} {fr : FR}
variable {dst : Option Tmp} {ty : TypeId} {pos : String} {aft : Array Edge} {gd : Option (Nat × Bool)}

theorem toList_str (s : Str) : (⟨s.toArray⟩ : ByteArray).toList = s := by rw [ByteArray.toList_eq]
theorem str_mk (s : ByteArray) : s = ⟨s.data.toList.toArray⟩ := by cases s; simp

theorem run_bin {P : Program} {op : BinOp} {t u : TypeId} {x y : Operand} {v : Value} (hg : (eqGuard op t x y (ρ x) (ρ y)).run P w = .ok () w) (hb : (binOp op t (ρ x) (ρ y)).run P w = .ok v w) :
    (execOp ρ ⟨dst, .binOp op t x y u, ty, pos, aft, gd⟩).run P w = .ok (.value v) w := by
  refine run_v (s := do eqGuard op t x y (ρ x) (ρ y); binOp op t (ρ x) (ρ y)) ?_
  rw [Sem.run_bind, hg]
  exact hb

theorem run_equal_bool {P : Program} {t : TypeId} (hu : P.underlying t = some .bool) {a b : Bool} : (Op.equal t (.bool a) (.bool b)).run P w = .ok (a == b) w := by
  show (Op.equalIn (9999 + 1) t (.bool a) (.bool b)).run P w = _
  rw [Op.equalIn, Sem.run_bind, run_underlying hu]
  rfl

theorem run_shl {P : Program} {t : TypeId} {k k' : IntKind} {a b : Int} (hb : 0 ≤ b) : (binOp .shl t (.int k a) (.int k' b)).run P w = .ok (.int k (ishl k a b)) w := by
  show (Op.shift .shl k a k' b).run P w = _
  unfold Op.shift
  rw [if_neg (by omega)]
  rfl
theorem run_shr {P : Program} {t : TypeId} {k k' : IntKind} {a b : Int} (hb : 0 ≤ b) : (binOp .shr t (.int k a) (.int k' b)).run P w = .ok (.int k (ishr k a b)) w := by
  show (Op.shift .shr k a k' b).run P w = _
  unfold Op.shift
  rw [if_neg (by omega)]
  rfl
theorem binOp_bits {op : BinOp} (ho : op = .and ∨ op = .or ∨ op = .xor ∨ op = .andNot) (t : TypeId) (k : IntKind) (a b : Int) : binOp op t (.int k a) (.int k b) = Op.intBits op k a b := by
  rcases ho with rfl | rfl | rfl | rfl <;> simp [binOp]

theorem op_binOp (hE : EnvOK E) (R : RelH w I μ h) {op : BinOp} {t u : TypeId} {x y : Operand} {vs : List AV} (hv : Reps w I h μ ρ (opnds E ⟨dst, .binOp op t x y u, ty, pos, aft, gd⟩) vs)
    (hf : fCore E ⟨dst, .binOp op t x y u, ty, pos, aft, gd⟩ vs g b0 = some fr) (hc : ∀ c ∈ fr.cs, c.p) : OpOK E ⟨dst, .binOp op t x y u, ty, pos, aft, gd⟩ ρ w I h μ fr := by
  match vs, hv with
  | [vx, vy], hv =>
    obtain ⟨hx, hy, _⟩ := hv
    simp only [fCore, binA] at hf
    split at hf
    · rename_i k a k' b
      have ex := rep_int hx
      have ey := rep_int hy
      have hg : (eqGuard op t x y (ρ x) (ρ y)).run E.P w = .ok () w := by rw [ex, eqGuard_at_int]; rfl
      split at hf
      all_goals first
        | (split at hf
           · obtain rfl := ‹k = k'›
             cases hf
             refine .quiet R rfl _ (run_bin hg (v := ?_) ?_) ?_
             rotate_left
             · rw [ex, ey]
               first
                 | (rw [binOp_add]; rfl) | (rw [binOp_sub]; rfl) | (rw [binOp_mul]; rfl) | (rw [binOp_eql]; rfl) | (rw [binOp_neq]; rfl) | (rw [binOp_lss]; rfl) | (rw [binOp_leq]; rfl) | (rw [binOp_gtr]; rfl) | (rw [binOp_geq]; rfl)
                 | (rw [binOp_quo]; have hn : ¬ b = 0 := hc _ (List.mem_singleton.2 rfl); unfold Op.intDiv; rw [if_neg hn]; rfl)
                 | (rw [binOp_rem]; have hn : ¬ b = 0 := hc _ (List.mem_singleton.2 rfl); unfold Op.intDiv; rw [if_neg hn]; rfl)
                 | (rw [binOp_bits (by simp)]; rfl)
             · first | exact .int _ _ | exact .bool _
           · cases hf)
        | (cases hf
           have hb0 : 0 ≤ b := hc ⟨_, inferInstance⟩ (by simp)
           refine .quiet R rfl _ (run_bin hg ?_) (.int _ _)
           rw [ex, ey]
           first
             | exact run_shl hb0
             | exact run_shr hb0)
        | cases hf
    · rename_i a b
      have ex := rep_str hx
      have ey := rep_str hy
      have hg : (eqGuard op t x y (ρ x) (ρ y)).run E.P w = .ok () w := by rw [ex, eqGuard_at_string]; rfl
      have hb : ∀ v, (Op.stringOp op ⟨a.toArray⟩ ⟨b.toArray⟩).run E.P w = .ok v w → (binOp op t (ρ x) (ρ y)).run E.P w = .ok v w := by
        intro v hv
        rw [ex, ey]
        have : binOp op t (.string ⟨a.toArray⟩) (.string ⟨b.toArray⟩) = Op.stringOp op ⟨a.toArray⟩ ⟨b.toArray⟩ := by cases op <;> rfl
        rw [this]; exact hv
      split at hf
      all_goals first
        | (cases hf; refine .quiet R rfl _ (run_bin hg (hb _ ?_)) (.bool _)
           simp only [Op.stringOp, toList_str]; first | rfl | (simp; done))
        | (cases hf
           have hl := hc _ (List.mem_singleton.2 rfl)
           refine .quiet R rfl (.string ⟨(a ++ b).toArray⟩) (run_bin hg (hb _ ?_)) (.str _)
           have hs : (⟨a.toArray⟩ : ByteArray) ++ ⟨b.toArray⟩ = ⟨(a ++ b).toArray⟩ := by
             rw [str_mk (⟨a.toArray⟩ ++ ⟨b.toArray⟩ : ByteArray)]
             simp [ByteArray.data_append]
           simp only [Op.stringOp, str_size, hs]
           rw [if_neg (by simp only [IntKind.max_i64]; omega)]
           rfl)
        | cases hf
    · rename_i xs ys
      obtain ⟨hck, hf⟩ := chk_some hf
      have hmem : t ∈ E.eqs := by simpa using hck
      obtain ⟨us, hus⟩ : ∃ us, ρ x = .agg us := by generalize ρ x = q at hx; cases hx; exact ⟨_, rfl⟩
      obtain ⟨us', hus'⟩ : ∃ us, ρ y = .agg us := by generalize ρ y = q at hy; cases hy; exact ⟨_, rfl⟩
      rw [hus] at hx; rw [hus'] at hy
      split at hf
      · have hb := ‹eqT E (E.ti t).ud xs ys = some _›
        cases hf
        obtain ⟨h1, h2⟩ := hE.eqs t hmem w I h μ us us' xs ys _ hx hy hb .eql (.inl rfl) x y
        refine .quiet R rfl (.bool _) (run_bin (by rw [hus, hus']; exact h1) ?_) (.bool _)
        rw [hus, hus']
        show (do pure (Value.bool (← Op.equal t (.agg us) (.agg us'))) : Sem Value).run E.P w = _
        rw [Sem.run_bind, h2]; rfl
      · have hb := ‹eqT E (E.ti t).ud xs ys = some _›
        cases hf
        obtain ⟨h1, h2⟩ := hE.eqs t hmem w I h μ us us' xs ys _ hx hy hb .neq (.inr rfl) x y
        refine .quiet R rfl (.bool (!_)) (run_bin (by rw [hus, hus']; exact h1) ?_) (.bool _)
        rw [hus, hus']
        show (do pure (Value.bool (!(← Op.equal t (.agg us) (.agg us')))) : Sem Value).run E.P w = _
        rw [Sem.run_bind, h2]; rfl
      · cases hf
    · split at hf
      · rename_i hud ha hb
        cases hf
        have hu := hE.und t (kn_ud (by rw [hud]; rfl))
        rw [hud] at hu
        have ex := rep_bool hx ha
        have ey := rep_bool hy hb
        refine .quiet R rfl _ (run_bin (by rw [ex, eqGuard_at_bool]; rfl) (v := .bool (_ == _)) ?_) (.bool _)
        rw [ex, ey]
        show (do pure (Value.bool (← Op.equal t (.bool _) (.bool _))) : Sem Value).run E.P w = _
        rw [Sem.run_bind, run_equal_bool hu]; rfl
      · rename_i hud ha hb
        cases hf
        have hu := hE.und t (kn_ud (by rw [hud]; rfl))
        rw [hud] at hu
        have ex := rep_bool hx ha
        have ey := rep_bool hy hb
        refine .quiet R rfl _ (run_bin (by rw [ex, eqGuard_at_bool]; rfl) (v := .bool (!(_ == _))) ?_) (.bool _)
        rw [ex, ey]
        show (do pure (Value.bool (!(← Op.equal t (.bool _) (.bool _)))) : Sem Value).run E.P w = _
        rw [Sem.run_bind, run_equal_bool hu]; rfl
      · cases hf

theorem op_unOp (R : RelH w I μ h) {op : UnOp} {t : TypeId} {x : Operand} {vs : List AV} (hv : Reps w I h μ ρ (opnds E ⟨dst, .unOp op t x, ty, pos, aft, gd⟩) vs)
    (hf : fCore E ⟨dst, .unOp op t x, ty, pos, aft, gd⟩ vs g b0 = some fr) : OpOK E ⟨dst, .unOp op t x, ty, pos, aft, gd⟩ ρ w I h μ fr := by
  match vs, hv with
  | [v], hv =>
    have hx := hv.1
    have hrun : ∀ u, (Op.unary op (ρ x)).run E.P w = .ok u w → (execOp ρ ⟨dst, .unOp op t x, ty, pos, aft, gd⟩).run E.P w = .ok (.value u) w := fun u hu => run_v (s := Op.unary op (ρ x)) hu
    simp only [fCore, unA] at hf
    split at hf
    · cases hf
      refine .quiet R rfl (.bool false) (hrun _ ?_) .f
      rw [rep_bool hx rfl]; rfl
    · cases hf
      refine .quiet R rfl (.bool true) (hrun _ ?_) .t
      rw [rep_bool hx rfl]; rfl
    · cases hf
      refine .quiet R rfl _ (hrun (.bool _) ?_) (.bool _)
      rw [rep_bool hx rfl]; rfl
    · cases hf
      refine .quiet R rfl _ (hrun (.int _ _) ?_) (.int _ _)
      rw [rep_int hx]; rfl
    · cases hf
      refine .quiet R rfl _ (hrun (.int _ _) ?_) (.int _ _)
      rw [rep_int hx]
      simp only [Op.unary]
      unfold ixor
      simp only [Bool.cond_eq_ite]
      rfl
    · cases hf

theorem op_convert0 (hE : EnvOK E) (R : RelH w I μ h) {s d : TypeId} {x : Operand} {v : AV} (hx : Rep w I h μ (ρ x) v) (hf : convertA (E.ti s) (E.ti d) v = some fr) : OpOK E ⟨dst, .convert s d x, ty, pos, aft, gd⟩ ρ w I h μ fr := by
    simp only [convertA] at hf
    split at hf
    · rename_i hud
      obtain ⟨hck, hf⟩ := chk_some hf
      cases hf
      have hd := hE.und d (kn_ud (by rw [hud]; rfl))
      rw [hud] at hd
      have hs : (E.P.underlying s).isSome = true := by
        have := hE.und s (kn_size (by simpa using hck))
        revert this
        cases (E.ti s).ud <;> simp only [UDok] <;> intro hq <;> first | (rw [hq]; rfl) | (obtain ⟨_, hq, _⟩ := hq; rw [hq]; rfl)
      refine .quiet R rfl _ (run_v (s := convert s d (ρ x)) (v := .int _ _) ?_) (.int _ _)
      rw [rep_int hx]
      obtain ⟨q, hq⟩ := Option.isSome_iff_exists.1 hs
      simp only [convert, Sem.run_bind, run_underlying hq, run_underlying hd, Result.andThen_ok]
      rfl
    · rename_i hus hud
      cases hf
      have hd := hE.und d (kn_ud (by rw [hud]; rfl))
      rw [hud] at hd
      have hs := hE.und s (kn_ud (by rw [hus]; rfl))
      rw [hus] at hs
      refine .quiet R rfl _ (run_v (s := convert s d (ρ x)) (v := .string _) ?_) (.str _)
      rw [rep_str hx]
      simp only [convert, Sem.run_bind, run_underlying hs, run_underlying hd, Result.andThen_ok]
      rfl
    · cases hf

theorem op_makeInterface (hE : EnvOK E) (R : RelH w I μ h) {t : TypeId} {x : Operand} {vs : List AV} (hv : Reps w I h μ ρ (opnds E ⟨dst, .makeInterface t x, ty, pos, aft, gd⟩) vs)
    (hf : fCore E ⟨dst, .makeInterface t x, ty, pos, aft, gd⟩ vs g b0 = some fr) : OpOK E ⟨dst, .makeInterface t x, ty, pos, aft, gd⟩ ρ w I h μ fr := by
  match vs, hv with
  | [v], hv =>
    have hx := hv.1
    simp only [fCore] at hf
    split at hf
    · cases hf
    · rename_i hno
      cases hf
      have hu := hE.und t (kn_ud (by revert hno; cases (E.ti t).ud <;> simp [UD.isOther]))
      refine .quiet R rfl _ (run_v (s := Instr.makeInterface t (ρ x)) (v := .iface t (ρ x)) ?_) (.iface _ _ _ hx)
      revert hu hno
      cases (E.ti t).ud <;> simp only [UDok] <;> intro hno hu <;> first | (simp [Instr.makeInterface, run_underlying hu]; done) | (obtain ⟨_, hu, _⟩ := hu; simp [Instr.makeInterface, run_underlying hu]; done) | exact (hno trivial).elim
end
end Go.AM
