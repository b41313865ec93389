/-
  BM: []byte(s), string(b).
-/
import Derived.Laws.IdiomStrings
import Derived.Laws.BytesArg
import Derived.Test.YtfcigmcjgaipmaaDoorBMOpsM
namespace Go.AM
set_option linter.unusedSectionVars false
variable [Lay]
section
variable {E : Env} {w w' : World} {I I' : Nat → Nat → Prop} {h h' : Heap} {μ μ' : Nat → Option Nat} {ρ : Operand → Value} {g : Nat → AB} {b0 : Nat} {fr : FR}
variable {dst : Option Tmp} {ty : TypeId} {pos : String} {aft : Array Edge} {gd : Option (Nat × Bool)}

/-- A new object that nobody writes. -/
theorem RelH.more (R : RelH w I μ h) (ob : Obj) (n : Nat) :
    RelH (w.alloc ob) (fun q o => I q o ∨ (q = w.heap.size ∧ o < n)) μ h ∧ Fr w (Wr h μ) I (w.alloc ob) (Wr h μ) (fun q o => I q o ∨ (q = w.heap.size ∧ o < n)) := by
  have hheap : ∀ q, q < w.heap.size → (w.alloc ob).heap[q]? = w.heap[q]? := fun q hq => RowKit.Below.heap_alloc w _ q hq
  have hsz : (w.alloc ob).heap.size = w.heap.size + 1 := by show (w.heap.push _).size = _; simp
  have F : Fr w (Wr h μ) I (w.alloc ob) (Wr h μ) (fun q o => I q o ∨ (q = w.heap.size ∧ o < n)) := by
    refine ⟨rfl, rfl, rfl, by omega, fun q hq _ => hheap q hq, fun q vs e fz hq hv => ⟨vs, (hheap q hq).trans hv, rfl, fun _ _ => rfl⟩, fun q hq hg x hx => ?_, fun q o hw => .inl hw, fun _ _ h => .inl h, fun q o hi => ?_⟩
    · rw [hheap q hq] at hx; exact hg x hx
    · rcases hi with hi | ⟨rfl, _⟩
      · exact .inl hi
      · exact .inr (.inr (Nat.le_refl _))
  refine ⟨⟨R.inj, fun i x q hi lx hq => Nat.lt_of_lt_of_le (R.lt i x q hi lx hq) (by omega), fun i x hi => ?_, fun q o hi hw => ?_, fun q o hi => ?_, R.laid.step R.disj R.ilt F⟩, F⟩
  · have hc := R.keptI F
    cases x with
    | hole => trivial
    | gone => trivial
    | _ => exact RepB.mono (HM.refl h μ) F.shape hc F.im (fun _ => rfl) (fun q hq => hheap q (R.lt i _ q hi trivial hq)) (R.blk i _ hi)
  · rcases hi with hi | ⟨rfl, _⟩
    · exact R.disj q o hi hw
    · obtain ⟨i, hi, hx⟩ := hw
      have : w.heap.size < w.heap.size := by
        rcases hx with ⟨_, hx⟩ | ⟨_, _, hx⟩ | ⟨_, _, hx, _⟩ | ⟨_, _, _, hx⟩ <;> exact R.lt i _ _ hx trivial hi
      omega
  · rcases hi with hi | ⟨rfl, _⟩
    · exact Nat.lt_of_lt_of_le (R.ilt q o hi) (by omega)
    · omega

/-- The cells of a row of bytes. -/
theorem byte_cells (R : RelH w I μ h) (G : GOK g h) {v : Value} {y : AV} {l : List Int} (r : Rep w I h μ v y) (hy : rowOf g (.int .u8) y = some l) :
    (v = .slice none 0 0 ∧ l = []) ∨ ∃ a c, v = .slice a l.length c ∧ (l = [] ∨ ∃ q o, a = some ⟨q, o, none⟩ ∧ ∀ i (hi : i < l.length), w.cell? ⟨q, o + i, none⟩ = some (.int .u8 l[i])) := by
  cases r with
  | nilsl => cases hy; exact .inl ⟨rfl, rfl⟩
  | sl t' l' full a n cap hr hf =>
    simp only [rowOf] at hy
    split at hy
    · rename_i e
      subst e
      cases hy
      right
      cases hr with
      | sl _ _ _ _ cs hcap hel hat =>
        refine ⟨a, cap, rfl, ?_⟩
        by_cases h0 : l'.length = 0
        · exact .inl (List.eq_nil_of_length_eq_zero h0)
        · obtain ⟨q, o, ha, hc⟩ := hat (by omega)
          refine .inr ⟨q, o, ha, fun i hi => ?_⟩
          have he := hel i hi
          have hcs : cs i = [.int .u8 l'[i]] := by
            generalize cs i = z at he
            cases he
            rfl
          have := (hc i hi 0 (.int .u8 l'[i]) (by rw [hcs]; rfl)).1
          simpa [Ty.sz] using this
    · cases hy
  | own t' b full a n cap ho =>
    simp only [rowOf] at hy
    split at hy
    · rename_i u l' frz hgb
      split at hy
      · rename_i e
        obtain ⟨e1, e2⟩ := e
        subst e1
        subst e2
        cases hy
        right
        have hb := G.some hgb (by simp)
        obtain ⟨x, hx, _, h3⟩ := ho
        rw [hb] at hx
        cases hx
        obtain ⟨_, hn, _, _, h5⟩ := h3 _ _ _ rfl
        subst hn
        refine ⟨a, cap, rfl, ?_⟩
        by_cases h0 : l'.length = 0
        · exact .inl (List.eq_nil_of_length_eq_zero h0)
        · rcases h5 with ⟨h5, _⟩ | ⟨q, vs, e', f1, f2, f3, f4⟩
          · exact absurd h5 h0
          · refine .inr ⟨q, 0, f2, fun i hi => ?_⟩
            rcases R.blk b _ hb with hnil | ⟨q', vs', e2, k1, k2, k3, k4, _⟩
            · rw [hnil] at hi; simp at hi
            · rw [f1] at k1; cases k1
              obtain ⟨fz3, f3, _⟩ := f3
              obtain ⟨fz4, k2, _⟩ := k2
              rw [f3] at k2; cases k2
              have he := k4 i hi
              have hrow : (vs.toList.drop (i * 1)).take 1 = [.int .u8 l'[i]] := by
                have he : RD w I (.int .u8) l'[i] ((vs.toList.drop (i * 1)).take 1) := he
                generalize (vs.toList.drop (i * 1)).take 1 = z at he
                cases he
                rfl
              have hget : vs[i]? = some (.int .u8 l'[i]) := by
                have := congrArg (fun z : List Value => z[0]?) hrow
                simpa using this
              unfold World.cell?
              simp [f3, hget]
      · cases hy
    · cases hy
  | _ => cases hy

theorem op_convB (hE : EnvOK E) (R : RelH w I μ h) (G : GOK g h) (hb : b0 ≤ h.length) (hh : h[b0]? = none ∨ h[b0]? = some .hole) {s d : TypeId} {x : Operand} {v : AV} (hx : Rep w I h μ (ρ x) v) (hf : convB E (E.ti s).ud (E.ti d).ud g b0 v = some fr) :
    OpOK E ⟨dst, .convert s d x, ty, pos, aft, gd⟩ ρ w I h μ fr := by
  have u8 : ∀ e, isU8 (E.ti e) = true → E.P.underlying e = some (.int .u8) := by
    intro e he
    unfold isU8 at he
    split at he
    · rename_i hud
      have := hE.und e (kn_ud (by rw [hud]; rfl))
      rw [hud] at this
      exact this
    · cases he
  unfold convB at hf
  split at hf
  · rename_i e s' hsu hdu
    obtain ⟨hck, hf⟩ := chk_some hf
    have hs := hE.und s (kn_ud (by rw [hsu]; rfl))
    rw [hsu] at hs
    have hd := hE.und d (kn_ud (by rw [hdu]; rfl))
    rw [hdu] at hd
    have hs : E.P.underlying s = some .string := hs
    have hd : E.P.underlying d = some (.slice e) := hd
    have ev := rep_str hx
    have hrun := run_bytes_of_string (P := E.P) w s d e ⟨s'.toArray⟩ hs hd (u8 e hck)
    obtain ⟨R1, F1⟩ := R.drew
    have hsz : (⟨s'.toArray⟩ : ByteArray).size = s'.length := by simp [ByteArray.size]
    have hcap := grownCap_ge w (⟨s'.toArray⟩ : ByteArray).size 0 e
    have hlen : (strBytes s').length = s'.length := by simp [strBytes]
    split at hf
    · -- one's own
      cases hf
      rw [hsz] at hrun hcap
      have hbs : (bytesRow ⟨s'.toArray⟩ (grownCap w s'.length 0 e)).size = grownCap w s'.length 0 e := by
        unfold bytesRow
        rw [Array.size_append, Array.size_map, Array.size_replicate, hsz]
        show s'.toArray.size + _ = _
        simp
        omega
      have hrow : RowRD w.drew I (.int .u8) (strBytes s') (bytesRow ⟨s'.toArray⟩ (grownCap w s'.length 0 e)).toList := by
        have hrl : (bytesRow ⟨s'.toArray⟩ (grownCap w s'.length 0 e)).toList.length = grownCap w s'.length 0 e := by rw [Array.length_toList, hbs]
        have hsz1 : Ty.sz (.int .u8) = 1 := rfl
        refine ⟨by rw [hrl, hsz1]; omega, fun k hk => ?_⟩
        have hk' : k < s'.length := by rw [← hlen]; exact hk
        have hcell : ((bytesRow ⟨s'.toArray⟩ (grownCap w s'.length 0 e)).toList.drop (k * Ty.sz (.int .u8))).take (Ty.sz (.int .u8)) = [.int .u8 ((strBytes s')[k])] := by
          show (List.drop (k * 1) _).take 1 = _
          rw [Nat.mul_one]
          have hlt : k < (bytesRow ⟨s'.toArray⟩ (grownCap w s'.length 0 e)).toList.length := by rw [Array.length_toList, hbs]; omega
          rw [List.drop_eq_getElem_cons hlt]
          simp only [List.take_succ_cons, List.take_zero]
          congr 1
          rw [Array.getElem_toList]
          have hq : (bytesRow ⟨s'.toArray⟩ (grownCap w s'.length 0 e))[k]? = some (.int .u8 ((strBytes s')[k])) := by
            unfold bytesRow
            rw [Array.getElem?_append_left (by simpa using hk')]
            simp [strBytes, hk']
          exact (Array.getElem?_eq_some_iff.1 hq).2
        rw [hcell]
        exact .int _ _
      obtain ⟨r1, r2, r3, r4⟩ := lay_arrF R1 hb hh hrow e (grownCap w s'.length 0 e) false ((bytesRow ⟨s'.toArray⟩ (grownCap w s'.length 0 e)).size, (bytesRow ⟨s'.toArray⟩ (grownCap w s'.length 0 e)).size + 1) (.inr (Nat.le_refl _)) (by rw [hlen]; exact hcap) (fun hh => by cases hh) (by show _ * 1 ≤ _; rw [hbs]; omega)
      rw [hlen] at r1
      exact ⟨_, _, _, I, upd μ b0 w.drew.heap.size, run_v (s := convert s d (ρ x)) (by rw [ev]; exact hrun), .inl rfl, r1, r2, F1.trans r3, r4⟩
    cases hf
    obtain ⟨R2, F2⟩ := R1.more (.cells (bytesRow ⟨s'.toArray⟩ (grownCap w (⟨s'.toArray⟩ : ByteArray).size 0 e)) e ((bytesRow ⟨s'.toArray⟩ (grownCap w (⟨s'.toArray⟩ : ByteArray).size 0 e)).size, (bytesRow ⟨s'.toArray⟩ (grownCap w (⟨s'.toArray⟩ : ByteArray).size 0 e)).size + 1)) s'.length
    rw [hsz] at hrun R2 F2 hcap
    refine ⟨_, _, _, _, _, run_v (s := convert s d (ρ x)) (by rw [ev]; exact hrun), .inl rfl, ?_, R2, F1.trans F2, HM.refl _ _⟩
    refine .sl (.int .u8) (strBytes s') false _ _ _ ?_ (fun hh => by cases hh)
    have key : RD (w.drew.alloc (.cells (bytesRow ⟨s'.toArray⟩ (grownCap w s'.length 0 e)) e ((bytesRow ⟨s'.toArray⟩ (grownCap w s'.length 0 e)).size, (bytesRow ⟨s'.toArray⟩ (grownCap w s'.length 0 e)).size + 1))) (fun q o => I q o ∨ (q = w.drew.heap.size ∧ o < s'.length)) (.sl (.int .u8)) (strBytes s') [.slice (some ⟨w.heap.size, 0, none⟩) (strBytes s').length (grownCap w s'.length 0 e)] := by
      refine .sl (.int .u8) (strBytes s') _ _ (fun i => [.int .u8 ((strBytes s').getD i 0)]) (by rw [hlen]; exact hcap) (fun i hi => ?_) (fun _ => ⟨w.heap.size, 0, rfl, fun i hi j u hu => ?_⟩)
      · have : (strBytes s').getD i 0 = (strBytes s')[i] := by simp [List.getD_eq_getElem?_getD, hi]
        rw [this]
        exact .int _ _
      · have hi' : i < s'.length := by rw [← hlen]; exact hi
        cases j with
        | succ j => simp at hu
        | zero =>
          simp at hu
          subst hu
          refine ⟨?_, .inr ⟨rfl, by simpa [Ty.sz] using hi'⟩⟩
          have hb : (w.drew.alloc (.cells (bytesRow ⟨s'.toArray⟩ (grownCap w s'.length 0 e)) e ((bytesRow ⟨s'.toArray⟩ (grownCap w s'.length 0 e)).size, (bytesRow ⟨s'.toArray⟩ (grownCap w s'.length 0 e)).size + 1))).heap[w.heap.size]? = some (.cells (bytesRow ⟨s'.toArray⟩ (grownCap w s'.length 0 e)) e ((bytesRow ⟨s'.toArray⟩ (grownCap w s'.length 0 e)).size, (bytesRow ⟨s'.toArray⟩ (grownCap w s'.length 0 e)).size + 1)) := by
            show (w.heap.push _)[w.heap.size]? = _
            simp
          unfold World.cell?
          simp only [Option.isSome_none, Bool.false_eq_true, if_false, hb]
          unfold bytesRow
          rw [Array.getElem?_append_left (by simpa [Ty.sz] using hi')]
          simp [Ty.sz, strBytes, hi']
    rw [hlen] at key
    exact key
  · rename_i e hsu hdu
    obtain ⟨hck, hf⟩ := chk_some hf
    split at hf
    · rename_i l hl
      cases hf
      have hs := hE.und s (kn_ud (by rw [hsu]; rfl))
      rw [hsu] at hs
      have hd := hE.und d (kn_ud (by rw [hdu]; rfl))
      rw [hdu] at hd
      have hs : E.P.underlying s = some (.slice e) := hs
      have hd : E.P.underlying d = some .string := hd
      have nil : (⟨(bytesStr []).toArray⟩ : ByteArray) = ByteArray.empty := rfl
      rcases byte_cells R G hx hl with ⟨ev, rfl⟩ | ⟨a, c, ev, hc⟩
      · refine .quiet R rfl _ (run_v (s := convert s d (ρ x)) ?_) (.str _)
        rw [ev, nil]
        exact run_convert_bytes_nil w s e hs (u8 e hck) 0 0 d hd
      · refine .quiet R rfl _ (run_v (s := convert s d (ρ x)) (v := .string ⟨(bytesStr l).toArray⟩) ?_) (.str _)
        rw [ev]
        rcases hc with rfl | ⟨q, o, rfl, hc⟩
        · cases a with
          | none => exact run_convert_bytes_nil w s e hs (u8 e hck) 0 c d hd
          | some a =>
            show (convert s d (Value.slice (some a) 0 c)).run E.P w = _
            rw [run_convert_bytes_string w s d e (some a) 0 c hs (u8 e hck) hd]
            have hl0 := run_loadCells_list (P := E.P) w a [] (fun j v hj => by simp at hj)
            exact run_bytesToString w a 0 c [] hl0
        · have := run_convert_bytes_arg (P := E.P) w s e hs (u8 e hck) q o l.length c l rfl (fun i hi => by rw [hc i hi]; simp [List.getD_eq_getElem?_getD, hi]) d hd
          rw [this]
          rfl
    · cases hf
  · cases hf

theorem op_convert (hE : EnvOK E) (R : RelH w I μ h) (G : GOK g h) (hb : b0 ≤ h.length) (hh : h[b0]? = none ∨ h[b0]? = some .hole) {s d : TypeId} {x : Operand} {vs : List AV} (hv : Reps w I h μ ρ (opnds E ⟨dst, .convert s d x, ty, pos, aft, gd⟩) vs)
    (hf : fCore E ⟨dst, .convert s d x, ty, pos, aft, gd⟩ vs g b0 = some fr) : OpOK E ⟨dst, .convert s d x, ty, pos, aft, gd⟩ ρ w I h μ fr := by
  match vs, hv with
  | [v], hv =>
    have hx := hv.1
    have hf : convX E (E.ti s) (E.ti d) g b0 v = some fr := hf
    unfold convX at hf
    split at hf
    · rename_i r hr
      cases hf
      exact op_convert0 hE R hx hr
    · exact op_convB hE R G hb hh hx hf
end
end Go.AM
