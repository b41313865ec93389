/-
  AM, part 11: rows of cells that are laid over, read as data, frozen.
-/
import Derived.Laws.Tables
import Derived.Great.BuildSlice
import Derived.Test.YtfcigmcjgaipmaaDoorBMOps6
namespace Go.AM
set_option linter.unusedSectionVars false
variable [Lay]
section
variable {E : Env} {w w' : World} {I I' : Nat → Nat → Prop} {h h' : Heap} {μ μ' : Nat → Option Nat} {ρ : Operand → Value} {g : Nat → AB} {b0 : Nat} {fr : FR}
variable {dst : Option Tmp} {ty : TypeId} {pos : String} {aft : Array Edge} {gd : Option (Nat × Bool)}

/-- Cells and what they are, place by place. -/
def CRep (w : World) (I : Nat → Nat → Prop) (h : Heap) (μ : Nat → Option Nat) (vs : List Value) (as : List AV) : Prop :=
  vs.length = as.length ∧ ∀ (k : Nat) (v : Value) (c : AV), vs[k]? = some v → as[k]? = some c → Rep w I h μ v c

theorem CRep.tail {v : Value} {c : AV} {vs : List Value} {as : List AV} (r : CRep w I h μ (v :: vs) (c :: as)) : Rep w I h μ v c ∧ CRep w I h μ vs as :=
  ⟨r.2 0 v c rfl rfl, by have := r.1; simpa using this, fun k u d h1 h2 => r.2 (k + 1) u d (by simpa using h1) (by simpa using h2)⟩
theorem CRep.cons {v : Value} {c : AV} {vs : List Value} {as : List AV} (r : Rep w I h μ v c) (rs : CRep w I h μ vs as) : CRep w I h μ (v :: vs) (c :: as) := by
  refine ⟨by simp [rs.1], fun k u d h1 h2 => ?_⟩
  cases k with
  | zero => simp at h1 h2; subst h1; subst h2; exact r
  | succ k => exact rs.2 k u d (by simpa using h1) (by simpa using h2)
theorem CRep.nil : CRep w I h μ [] [] := ⟨rfl, fun k v c h1 _ => by simp at h1⟩
theorem CRep.set {vs : List Value} {as : List AV} (r : CRep w I h μ vs as) {v : Value} {c : AV} (rv : Rep w I h μ v c) (j : Nat) : CRep w I h μ (vs.set j v) (as.set j c) := by
  refine ⟨by simp [r.1], fun k u d h1 h2 => ?_⟩
  rw [List.getElem?_set] at h1 h2
  by_cases hj : j = k
  · subst hj
    rw [if_pos rfl] at h1 h2
    split at h1
    · split at h2
      · injection h1 with h1; injection h2 with h2
        subst h1; subst h2; exact rv
      · cases h2
    · cases h1
  · rw [if_neg hj] at h1 h2
    exact r.2 k u d h1 h2

/-- The model's own laying over, as a list. -/
def setAtV (cs : List Value) (j : Nat) : List Value → List Value
  | [] => cs
  | v :: r => setAtV (cs.set j v) (j + 1) r

theorem setAtV_len : ∀ (r cs : List Value) (j : Nat), (setAtV cs j r).length = cs.length
  | [], _, _ => rfl
  | v :: r, cs, j => by simp [setAtV, setAtV_len r]

theorem setAtV_get : ∀ (r cs : List Value) (j k : Nat), j + r.length ≤ cs.length → (setAtV cs j r)[k]? = if j ≤ k ∧ k < j + r.length then r[k - j]? else cs[k]?
  | [], cs, j, k, _ => by simp only [setAtV, List.length_nil, Nat.add_zero]; rw [if_neg (by omega)]
  | v :: r, cs, j, k, hl => by
    have ih := setAtV_get r (cs.set j v) (j + 1) k (by simp only [List.length_cons, List.length_set] at hl ⊢; omega)
    simp only [setAtV, ih]
    simp only [List.length_cons] at hl
    by_cases h1 : j + 1 ≤ k ∧ k < j + 1 + r.length
    · rw [if_pos h1, if_pos (by simp only [List.length_cons]; omega)]
      rw [show k - j = (k - (j + 1)) + 1 by omega, List.getElem?_cons_succ]
    · rw [if_neg h1, List.getElem?_set]
      by_cases h2 : j = k
      · subst h2
        rw [if_pos rfl, if_pos (by omega), if_pos (by simp)]
        simp
      · rw [if_neg h2, if_neg (by simp only [List.length_cons]; omega)]

theorem CRep.setAt : ∀ (rv : List Value) (ra : List AV) (vs : List Value) (as : List AV) (j : Nat), CRep w I h μ vs as → CRep w I h μ rv ra → CRep w I h μ (setAtV vs j rv) (AM.setAt as j ra)
  | [], [], vs, as, j, r, _ => r
  | v :: rv, a :: ra, vs, as, j, r, r2 => CRep.setAt rv ra _ _ (j + 1) (r.set r2.tail.1 j) r2.tail.2
  | [], _ :: _, _, _, _, _, r2 => by have := r2.1; simp at this
  | _ :: _, [], _, _, _, _, r2 => by have := r2.1; simp at this

theorem fold_setAtV (off : Nat) : ∀ (l : List Value) (k : Nat) (cs : Array Value), ((l.zipIdx k).foldl (fun (cs : Array Value) (x : Value × Nat) => cs.setIfInBounds (off + x.2) x.1) cs).toList = setAtV cs.toList (off + k) l
  | [], _, _ => rfl
  | v :: l, k, cs => by
    simp only [List.zipIdx_cons, List.foldl_cons, setAtV]
    rw [fold_setAtV off l (k + 1)]
    simp [Array.toList_setIfInBounds, Nat.add_assoc]

theorem rep_cells {v : Value} {x : AV} (r : Rep w I h μ v x) (hn : ∀ vs, x ≠ .tup vs) (hj : x ≠ .junk) : CRep w I h μ v.cells.toList x.cells := by
  cases r with
  | junk => exact absurd rfl hj
  | agg vs cs hl hc => exact ⟨by simpa [Value.cells, AV.cells] using hl, fun k v c h1 h2 => hc k v c (by simpa [Value.cells] using h1) h2⟩
  | tup vs cs hl hc => exact absurd rfl (hn _)
  | t => exact CRep.cons .t .nil
  | f => exact CRep.cons .f .nil
  | bool b => exact CRep.cons (.bool b) .nil
  | int k n => exact CRep.cons (.int k n) .nil
  | str l => exact CRep.cons (.str l) .nil
  | nilsl => exact CRep.cons .nilsl .nil
  | sl t l full a n cap hr hf => exact CRep.cons (.sl t l full a n cap hr hf) .nil
  | own t b full a n cap ho => exact CRep.cons (.own t b full a n cap ho) .nil
  | ptr b j g hp => exact CRep.cons (.ptr b j g hp) .nil
  | eptr t b i j g hp => exact CRep.cons (.eptr t b i j g hp) .nil
  | iptr t x j g o cs hr hc => exact CRep.cons (.iptr t x j g o cs hr hc) .nil
  | nilptr => exact CRep.cons .nilptr .nil
  | fn f as cs xs ys ha hb h1 h2 => exact CRep.cons (.fn f as cs xs ys ha hb h1 h2) .nil
  | nilfn => exact CRep.cons .nilfn .nil
  | iface t v x hv => exact CRep.cons (.iface t v x hv) .nil
  | niliface => exact CRep.cons .niliface .nil
  | mptr b g hp => exact CRep.cons (.mptr b g hp) .nil
  | fmap k v l g es c hi hg hd => exact CRep.cons (.fmap k v l g es c hi hg hd) .nil

theorem rep_cells' {v : Value} {x : AV} (r : Rep w I h μ v x) (hp : plainA x = true) : CRep w I h μ v.cells.toList x.cells :=
  rep_cells r (fun vs e => by subst e; cases hp) (fun e => by subst e; cases hp)

theorem rep_one {v : Value} {x : AV} (r : Rep w I h μ v x) (hp : oneA x = true) : v.oneCell' = true := by
  cases r <;> first | rfl | cases hp

theorem fill_ok (place : Nat → Option (Nat × Nat)) : ∀ (pv : List (Nat × Value)) (pa : List (Nat × AV)) (cs : Array Value) (as out : List AV),
    pv.length = pa.length → (∀ (k : Nat) (x : Nat × Value) (y : Nat × AV), pv[k]? = some x → pa[k]? = some y → x.1 = y.1 ∧ Rep w I h μ x.2 y.2) → CRep w I h μ cs.toList as →
    fillA place as pa = some out → ∃ cells, Instr.fill place cs pv = some cells ∧ CRep w I h μ cells.toList out
  | [], [], cs, as, out, _, _, hc, hf => by
    cases hf
    exact ⟨cs, rfl, hc⟩
  | (i, v) :: pv, (j, a) :: pa, cs, as, out, hl, hr, hc, hf => by
    obtain ⟨e1, rv⟩ := hr 0 _ _ rfl rfl
    simp only at e1 rv
    subst e1
    simp only [fillA] at hf
    split at hf
    · cases hf
    · rename_i off size hpl'
      split at hf
      · rename_i hck
        simp only [Bool.and_eq_true, Nat.ble_eq] at hck
        obtain ⟨⟨hpl, h1⟩, h2⟩ := hck
        have h1 : a.cells.length = size := Nat.eq_of_beq_eq_true h1
        have rc := rep_cells' rv hpl
        have hvs : v.cells.size = size := by rw [← h1, ← rc.1]; simp
        have hcs : cs.size = as.length := by simpa using hc.1
        have hfold : (v.cells.zipIdx.foldl (fun (cs : Array Value) (x : Value × Nat) => cs.setIfInBounds (off + x.2) x.1) cs).toList = setAtV cs.toList off v.cells.toList := by
          rw [← Array.foldl_toList, Array.toList_zipIdx, fold_setAtV]
          rfl
        obtain ⟨cells, g1, g2⟩ := fill_ok place pv pa _ _ out (by simpa using hl) (fun k x y h1 h2 => hr (k + 1) x y (by simpa using h1) (by simpa using h2)) (hfold ▸ hc.setAt _ _ _ _ off rc) hf
        refine ⟨cells, ?_, g2⟩
        simp only [Instr.fill, hpl']
        rw [if_neg (by simp only [Bool.or_eq_true, decide_eq_true_eq, ne_eq]; simp [hvs]; omega)]
        exact g1
      · cases hf
  | [], _ :: _, _, _, _, hl, _, _, _ => by simp at hl
  | _ :: _, [], _, _, _, hl, _, _, _ => by simp at hl

/-- Cells that are told, as data. -/
theorem dec_ok (t : Ty) : ∀ (as as' : List AV) (x : t.den) (vs : List Value), CRep w I h μ vs as → dec t as = some (x, as') → ∃ cs vs', vs = cs ++ vs' ∧ RD w I t x cs ∧ CRep w I h μ vs' as' := by
  induction t with
  | unit =>
    intro as as' x vs hc hd
    simp only [dec, Option.some.injEq, Prod.mk.injEq] at hd
    obtain ⟨_, rfl⟩ := hd
    exact ⟨[], vs, rfl, .unit, hc⟩
  | int k =>
    intro as as' x vs hc hd
    match as, hd with
    | .int k' n :: r, hd =>
      simp only [dec] at hd
      split at hd
      · rename_i hk
        cases hd
        subst hk
        match vs, hc with
        | v :: vs, hc =>
          obtain ⟨r1, r2⟩ := hc.tail
          rw [rep_int r1]
          exact ⟨[_], vs, rfl, .int _ _, r2⟩
        | [], hc => have := hc.1; simp at this
      · cases hd
  | bool =>
    intro as as' x vs hc hd
    match as, hd with
    | .t :: r, hd =>
      cases hd
      match vs, hc with
      | v :: vs, hc =>
        obtain ⟨r1, r2⟩ := hc.tail
        rw [rep_bool r1 rfl]
        exact ⟨[_], vs, rfl, .bool _, r2⟩
      | [], hc => have := hc.1; simp at this
    | .f :: r, hd =>
      cases hd
      match vs, hc with
      | v :: vs, hc =>
        obtain ⟨r1, r2⟩ := hc.tail
        rw [rep_bool r1 rfl]
        exact ⟨[_], vs, rfl, .bool _, r2⟩
      | [], hc => have := hc.1; simp at this
    | .bool b :: r, hd =>
      cases hd
      match vs, hc with
      | v :: vs, hc =>
        obtain ⟨r1, r2⟩ := hc.tail
        rw [rep_bool r1 rfl]
        exact ⟨[_], vs, rfl, .bool _, r2⟩
      | [], hc => have := hc.1; simp at this
  | str =>
    intro as as' x vs hc hd
    match as, hd with
    | .str s :: r, hd =>
      cases hd
      match vs, hc with
      | v :: vs, hc =>
        obtain ⟨r1, r2⟩ := hc.tail
        rw [rep_str r1]
        exact ⟨[_], vs, rfl, .str _, r2⟩
      | [], hc => have := hc.1; simp at this
  | sl t _ =>
    intro as as' x vs hc hd
    match as, hd with
    | .sl t' l f :: r, hd =>
      simp only [dec] at hd
      split at hd
      · rename_i e
        subst e
        cases hd
        match vs, hc with
        | v :: vs, hc =>
          obtain ⟨r1, r2⟩ := hc.tail
          cases r1 with
          | sl _ _ _ a n cap hr hfl => exact ⟨[_], vs, rfl, hr, r2⟩
        | [], hc => have := hc.1; simp at this
      · cases hd
    | .nilsl :: r, hd =>
      cases hd
      match vs, hc with
      | v :: vs, hc =>
        obtain ⟨r1, r2⟩ := hc.tail
        cases r1 with
        | nilsl => exact ⟨[_], vs, rfl, .sl t [] none 0 (fun _ => []) (Nat.zero_le _) (fun i hi => by simp at hi) (fun h0 => by simp at h0), r2⟩
      | [], hc => have := hc.1; simp at this
  | pair a b iha ihb =>
    intro as as' x vs hc hd
    simp only [dec] at hd
    split at hd
    · rename_i x1 r1 h1
      split at hd
      · rename_i x2 r2 h2
        cases hd
        obtain ⟨cs, vs1, rfl, d1, c1⟩ := iha as r1 x1 vs hc h1
        obtain ⟨ds, vs2, rfl, d2, c2⟩ := ihb r1 _ x2 vs1 c1 h2
        exact ⟨cs ++ ds, vs2, by simp, .pair a b x1 x2 cs ds d1 d2, c2⟩
      · cases hd
    · cases hd
  | val =>
    intro as as' x vs hc hd
    match as, hd with
    | .int k1 k :: .int k2 n :: .str s :: i :: m :: r, hd =>
      simp only [dec] at hd
      split at hd
      · rename_i hck
        obtain ⟨rfl, rfl⟩ : k1 = .i64 ∧ k2 = .i64 := by simpa using hck
        split at hd
        · rename_i li lm hi hm
          cases hd
          match vs, hc with
          | v1 :: v2 :: v3 :: v4 :: v5 :: vs, hc =>
            obtain ⟨q1, hc⟩ := hc.tail
            obtain ⟨q2, hc⟩ := hc.tail
            obtain ⟨q3, hc⟩ := hc.tail
            obtain ⟨q4, hc⟩ := hc.tail
            obtain ⟨q5, hc⟩ := hc.tail
            rw [rep_int q1, rep_int q2, rep_str q3]
            have d4 : RD w I (.sl .val) li [v4] := by
              split at hi
              · cases hi
                cases q4 with
                | sl _ _ _ a n cap hr hfl => exact hr
              · cases hi
                cases q4 with
                | nilsl => exact .sl .val [] none 0 (fun _ => []) (Nat.zero_le _) (fun i hi => by simp at hi) (fun h0 => by simp at h0)
              · cases hi
            have d5 : RD w I (.sl .str) lm [v5] := by
              split at hm
              · cases hm
                cases q5 with
                | sl _ _ _ a n cap hr hfl => exact hr
              · cases hm
                cases q5 with
                | nilsl => exact .sl .str [] none 0 (fun _ => []) (Nat.zero_le _) (fun i hi => by simp at hi) (fun h0 => by simp at h0)
              · cases hm
            exact ⟨[_, _, _, v4, v5], vs, rfl, .val k n s li lm [v4] [v5] d4 d5, hc⟩
          | [], hc => have := hc.1; simp at this
          | [_], hc => have := hc.1; simp at this
          | [_, _], hc => have := hc.1; simp at this
          | [_, _, _], hc => have := hc.1; simp at this
          | [_, _, _, _], hc => have := hc.1; simp at this
        · cases hd
      · cases hd

theorem decAll_ok {t : Ty} {as : List AV} {x : t.den} {vs : List Value} (hc : CRep w I h μ vs as) (hd : decAll t as = some x) : RD w I t x vs := by
  unfold decAll at hd
  split at hd
  · rename_i y hy
    cases hd
    obtain ⟨cs, vs', rfl, hr, hc'⟩ := dec_ok t as [] _ vs hc hy
    obtain rfl : vs' = [] := List.eq_nil_of_length_eq_zero (by simpa using hc'.1)
    simpa using hr
  · cases hd

/-- A slice over an array that is frozen is data. -/
theorem own_frozen (R : RelH w I μ h) {b : Nat} {t : Ty} {l : List t.den} {full : Bool} {v : Value} (hb : h[b]? = some (.arr t l false)) (r : Rep w I h μ v (.own t b full)) : Rep w I h μ v (.sl t l full) := by
  cases r with
  | own _ _ _ a n cap ho =>
    obtain ⟨x, hx, h1, h2⟩ := ho
    rw [hb] at hx; injection hx with hx; subst hx
    obtain ⟨_, rfl, h3, h4, h5⟩ := h2 _ _ _ rfl
    refine .sl t l full a _ cap ?_ h4
    by_cases h0 : l = []
    · subst h0
      exact .sl t [] a cap (fun _ => []) (Nat.zero_le _) (fun i hi => by simp at hi) (fun h0 => by simp at h0)
    · have hpos : 0 < l.length := List.length_pos_iff.2 h0
      rcases R.blk b _ hb with hnil | ⟨q, us, e, q1, q2, q3, q4, q5⟩
      · exact absurd hnil h0
      · rcases h5 with ⟨h5, _⟩ | ⟨q', us', e', h6, rfl, h8, h9⟩
        · omega
        · rw [q1] at h6; injection h6 with h6; subst h6
          refine .sl t l (some ⟨q, 0, none⟩) cap (fun k => (us.toList.drop (k * t.sz)).take t.sz) h3 q4 (fun _ => ⟨q, 0, rfl, fun i hi j v hv => ?_⟩)
          rw [List.getElem?_take] at hv
          split at hv
          · rename_i hj
            rw [List.getElem?_drop] at hv
            refine ⟨?_, ?_⟩
            · rw [cell_of_row w q _ us e _ q2.choose_spec.1]
              simpa using hv
            · have := Nat.mul_le_mul_right t.sz (Nat.succ_le_of_lt hi)
              rw [Nat.succ_mul] at this
              simpa using q5 rfl (i * t.sz + j) (by omega)
          · cases hv

/-- The blocks that are told of, some of them frozen since. -/
def GOKf (g : Nat → AB) (h : Heap) : Prop := ∀ b, g b = hget h b ∨ g b = .hole ∨ ∃ t l fr, g b = .arr t l fr ∧ h[b]? = some (.arr t l false)
theorem GOK.f (G : GOK g h) : GOKf g h := fun b => (G b).elim .inl (fun e => .inr (.inl e))

theorem hget_eq {b : Nat} {x : AB} (hb : h[b]? = some x) : hget h b = x := by
  unfold hget
  rw [List.getD_eq_getElem?_getD, hb]
  rfl

theorem frz_ok : ∀ (bs : List Nat) (I : Nat → Nat → Prop) (h : Heap), RelH w I μ h → GOKf g h →
    ∃ I', RelH w I' μ (hputs h (frz g bs)) ∧ Fr w (Wr h μ) I w (Wr (hputs h (frz g bs)) μ) I' ∧ HM h μ (hputs h (frz g bs)) μ ∧ GOKf g (hputs h (frz g bs)) ∧
      (∀ b ∈ bs, ∀ t l fr, g b = .arr t l fr → (hputs h (frz g bs))[b]? = some (.arr t l false)) ∧ (∀ b, b ∉ bs → (hputs h (frz g bs))[b]? = h[b]?)
  | [], I, h, R, G => ⟨I, R, Fr.refl _ _ _, HM.refl _ _, G, fun b hb => by simp at hb, fun _ _ => rfl⟩
  | b :: bs, I, h, R, G => by
    cases hgb : g b with
    | arr t l fr =>
      have hb : ∃ fr', h[b]? = some (.arr t l fr') := by
        rcases G b with e | e | ⟨t', l', fr', e1, e2⟩
        · exact ⟨fr, hget_some (e.symm.trans hgb) (by simp)⟩
        · rw [hgb] at e; cases e
        · rw [hgb] at e1; cases e1; exact ⟨false, e2⟩
      obtain ⟨fr', hb⟩ := hb
      obtain ⟨I1, R1, F1, M1, _⟩ := R.freeze hb
      have hlen : b ≤ h.length := by have := (List.getElem?_eq_some_iff.1 hb).1; omega
      have hg1 : ∀ i : Nat, (hput h b (.arr t l false))[i]? = if i = b then some (.arr t l false) else h[i]? := fun i => hput_get _ h b i hlen
      have G1 : GOKf g (hput h b (.arr t l false)) := by
        intro c
        by_cases hcb : c = b
        · subst hcb
          exact .inr (.inr ⟨t, l, fr, hgb, by rw [hg1, if_pos rfl]⟩)
        · rcases G c with e | e | ⟨t', l', fr', e1, e2⟩
          · left
            rw [e]
            unfold hget
            rw [List.getD_eq_getElem?_getD, List.getD_eq_getElem?_getD, hg1, if_neg hcb]
          · exact .inr (.inl e)
          · exact .inr (.inr ⟨t', l', fr', e1, by rw [hg1, if_neg hcb]; exact e2⟩)
      obtain ⟨I2, R2, F2, M2, G2, h2, h3⟩ := frz_ok bs I1 _ R1 G1
      have hfz : frz g (b :: bs) = (b, .arr t l false) :: frz g bs := by simp [frz, hgb]
      rw [hfz]
      simp only [hputs]
      refine ⟨I2, R2, F1.trans F2, M1.trans M2, G2, ?_, ?_⟩
      · intro c hc t' l' fr2 hgc
        by_cases hcbs : c ∈ bs
        · exact h2 c hcbs t' l' fr2 hgc
        · have hcb : c = b := by
            rcases List.mem_cons.1 hc with e | e
            · exact e
            · exact absurd e hcbs
          subst hcb
          rw [hgb] at hgc; cases hgc
          rw [h3 c hcbs, hg1, if_pos rfl]
      · intro c hc
        rw [h3 c (fun e => hc (List.mem_cons_of_mem _ e)), hg1, if_neg (fun e => hc (by rw [e]; exact List.mem_cons_self))]
    | hole | gone | var cs | mp _ _ _ =>
      obtain ⟨I2, R2, F2, M2, G2, h2, h3⟩ := frz_ok bs I h R G
      have hfz : frz g (b :: bs) = frz g bs := by simp [frz, hgb]
      rw [hfz]
      refine ⟨I2, R2, F2, M2, G2, ?_, fun c hc => h3 c (fun e => hc (List.mem_cons_of_mem _ e))⟩
      intro c hc t' l' fr2 hgc
      rcases List.mem_cons.1 hc with e | e
      · subst e; rw [hgb] at hgc; cases hgc
      · exact h2 c e t' l' fr2 hgc

theorem mem_ownsOf : ∀ (cs : List AV) (t : Ty) (b : Nat) (full : Bool), .own t b full ∈ cs → b ∈ ownsOf cs
  | [], _, _, _, hm => by simp at hm
  | c :: cs, t, b, full, hm => by
    rcases List.mem_cons.1 hm with e | e
    · subst e; simp [ownsOf]
    · have := mem_ownsOf cs t b full e
      cases c <;> simp [ownsOf, this]

/-- A cell, frozen and told as data. -/
theorem res1_ok (R : RelH w I μ h) {v : Value} {c : AV} (r : Rep w I h μ v c) (hfz : ∀ t b full, c = .own t b full → ∀ t' l fr, g b = .arr t' l fr → h[b]? = some (.arr t' l false)) : Rep w I h μ v (res1 g c) := by
  cases c with
  | own t b full =>
    simp only [res1]
    split
    · rename_i t' l fr hb
      split
      · rename_i e
        subst e
        exact own_frozen R (hfz _ b full rfl _ _ _ hb) r
      · exact .junk v
    · exact .junk v
  | _ => exact r

theorem hputs_app : ∀ (a b : List (Nat × AB)) (h : Heap), hputs h (a ++ b) = hputs (hputs h a) b
  | [], _, _ => rfl
  | (i, x) :: a, b, h => by simp only [List.cons_append, hputs, hputs_app a b]
end
end Go.AM
