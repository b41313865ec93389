/-
  AM, part 16: each operation that hands on a value is as 'fCore' says.
-/
import Derived.Test.YtfcigmcjgaipmaaDoorBMOpsC
namespace Go.AM
set_option linter.unusedSectionVars false
variable [Lay]
section
variable {E : Env} {w : World} {I : Nat → Nat → Prop} {h : Heap} {μ : Nat → Option Nat} {ρ : Operand → Value} {g : Nat → AB} {b0 : Nat} {fr : FR}

theorem fCore_sound (hE : EnvOK E) (R : RelH w I μ h) (G : GOK g h) (hb : b0 ≤ h.length) (hh : h[b0]? = none ∨ h[b0]? = some .hole) {o : Oper} {vs : List AV}
    (hρ : ∀ q, ρ (.global q) = .pointer (some ⟨q, 0, none⟩)) (hv : Reps w I h μ ρ (opnds E o) vs) (hf : fCore E o vs g b0 = some fr) (hc : ∀ c ∈ fr.cs, c.p) : OpOK E o ρ w I h μ fr := by
  obtain ⟨dst, op, ty, pos, aft, gd⟩ := o
  cases op with
  | move x => exact op_move R hv hf
  | assign x => exact op_assign R hv hf
  | pick c a b => exact op_pick R hv hf
  | alloc e => exact op_alloc hE R hb hh hf
  | box e v => exact op_box R hb hh hv hf
  | build t ps => exact op_build hE R hv hf
  | buildSlice t n ps => exact op_buildSlice hE R G hb hh hv hf
  | load t a => exact op_load hE R G hv hf hc
  | store t a v => exact op_store hE R G hv hf hc
  | nilCheck x => exact op_nilCheck R hv hf
  | binOp op t x y u => exact op_binOp hE R hv hf hc
  | unOp op t x => exact op_unOp R hv hf
  | convert s d x => exact op_convert hE R G hb hh hv hf
  | makeInterface t x => exact op_makeInterface hE R hv hf
  | makeFunc f a b => exact op_makeFunc R hv hf
  | makeSlice t a b => exact op_makeSlice hE R hb hh hv hf hc
  | slice t x l hi m => exact op_slice hE R G hv hf hc
  | fieldAddr t x i => exact op_fieldAddr hE R hv hf
  | field t x i => exact op_field hE R hv hf
  | indexAddr t x i => exact op_indexAddr hE R G hρ hv hf hc
  | index t x i => exact op_index hE R hv hf hc
  | extract x i => exact op_extract R hv hf
  | makeMap t r => exact op_makeMap R hb hh hf
  | lookup t x i ok => exact op_lookup hE R G hv hf
  | mapUpdate t m k x => exact op_mapUpdate hE R G hv hf
  | insert t m k x => exact op_insert hE R G hv hf
  | range t x => exact op_range hE R G hb hh hv hf
  | entry x => exact op_entry R G hv hf
  | call c =>
    obtain ⟨cal, as, ts⟩ := c
    cases cal with
    | builtin b =>
      have hf' := hf
      simp only [fCore] at hf
      obtain ⟨hs, hf⟩ := chk_some hf
      have hs : as.size = ts.size := Nat.eq_of_beq_eq_true hs
      split at hf
      · rename_i x t hts _
        exact op_len hE R G hs hts hv hf
      · rename_i x y t u hts _
        split at hf
        · rename_i e hud
          exact op_append hE R G hb hh hs hts hud hv hf hc
        · cases hf
      · split at hf
        · rename_i v hm
          cases hf
          exact op_min R hs hv hm
        · cases hf
      · split at hf
        · rename_i v hm
          cases hf
          exact op_max R hs hv hm
        · cases hf
      · cases hf
    | value f => cases vs <;> simp [fCore] at hf
    | invoke r m => cases vs <;> simp [fCore] at hf
  | _ => cases vs <;> simp [fCore] at hf

/-- Slots. -/
def SRep (w : World) (I : Nat → Nat → Prop) (h : Heap) (μ : Nat → Option Nat) (a : Act) (s : Slots) : Prop := ∀ i, Rep w I h μ (a.tmps.getD i undef) (lkp i s)

theorem ofConst_rep (ti : TI) (v : Value) : Rep w I h μ v (ofConst ti v) := by
  unfold ofConst
  split
  · exact .t
  · exact .f
  · exact .int _ _
  · rename_i s
    have e := str_mk s
    have := Rep.str (w := w) (I := I) (h := h) (μ := μ) s.data.toList
    rwa [← e] at this
  · split
    · exact .sl _ [] true none 0 0 (.sl _ [] none 0 (fun _ => []) (Nat.zero_le _) (fun i hi => by simp at hi) (fun h0 => by simp at h0)) (fun _ => rfl)
    · exact .nilsl
  · exact .nilptr
  · exact .nilfn
  · exact .niliface
  · exact .junk _

theorem ev_rep {a : Act} {s : Slots} (hs : SRep w I h μ a s) (t : TypeId) (x : Operand) : Rep w I h μ (a.eval x) (ev E s t x) := by
  cases x with
  | tmp i => exact hs i
  | const v => exact ofConst_rep _ v
  | global g => exact .junk _
  | func f => exact .fn (.func f) #[] #[] [] [] rfl rfl (fun i v c h1 _ => by simp at h1) (fun i v c h1 _ => by simp at h1)

theorem evs_reps {a : Act} {s : Slots} (hs : SRep w I h μ a s) : ∀ l : List (TypeId × Operand), Reps w I h μ a.eval l (evs E s l)
  | [] => trivial
  | (t, x) :: r => ⟨ev_rep hs t x, evs_reps hs r⟩

theorem fOp_sound (hE : EnvOK E) (R : RelH w I μ h) (hb : b0 ≤ h.length) (hh : h[b0]? = none ∨ h[b0]? = some .hole) {o : Oper} {a : Act} {s : Slots} (hs : SRep w I h μ a s)
    (hf : fOp E o s h b0 = some fr) (hc : ∀ c ∈ fr.cs, c.p) : OpOK E o a.eval w I h μ fr :=
  fCore_sound hE R (look_ok h _) hb hh (fun _ => rfl) (evs_reps hs _) hf hc
end
end Go.AM
