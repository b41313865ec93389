/-
  AM, part 12: the operations that lay or write blocks.
-/
import Derived.Test.YtfcigmcjgaipmaaDoorBMOps7
import Derived.Laws.IdiomCopy
namespace Go.AM
set_option linter.unusedSectionVars false
variable [Lay]
section
variable {E : Env} {w w' : World} {I I' : Nat → Nat → Prop} {h h' : Heap} {μ μ' : Nat → Option Nat} {ρ : Operand → Value} {g : Nat → AB} {b0 : Nat} {fr : FR}
variable {dst : Option Tmp} {ty : TypeId} {pos : String} {aft : Array Edge} {gd : Option (Nat × Bool)}

theorem op_slice (hE : EnvOK E) (R : RelH w I μ h) (G : GOK g h) {t : TypeId} {x : Operand} {lo hi mx : Option Operand} {vs : List AV} (hv : Reps w I h μ ρ (opnds E ⟨dst, .slice t x lo hi mx, ty, pos, aft, gd⟩) vs)
    (hf : fCore E ⟨dst, .slice t x lo hi mx, ty, pos, aft, gd⟩ vs g b0 = some fr) (hc : ∀ c ∈ fr.cs, c.p) : OpOK E ⟨dst, .slice t x lo hi mx, ty, pos, aft, gd⟩ ρ w I h μ fr := by
  have fin : ∀ {vx : AV} {alo ahi amx : Option AV}, Rep w I h μ (ρ x) vx → OptRep w I h μ (lo.map ρ) alo → OptRep w I h μ (hi.map ρ) ahi → OptRep w I h μ (mx.map ρ) amx → (amx.isSome = true → ahi.isSome = true) →
      sliceA (E.ti t).ud E g vx alo ahi amx = some fr → OpOK E ⟨dst, .slice t x lo hi mx, ty, pos, aft, gd⟩ ρ w I h μ fr := by
    intro vx alo ahi amx r1 r2 r3 r4 h5 h6
    obtain ⟨v', I', hrun, hrep, hR, hF, hM⟩ := cut_ok hE R G r1 r2 r3 r4 h5 h6 hc
    exact ⟨v', _, w, I', μ, run_v (s := Instr.sliceAt t (ρ x) (lo.map ρ) (hi.map ρ) (mx.map ρ)) hrun, .inl rfl, hrep, hR, hF, hM⟩
  match lo, hi, mx, vs, hv with
  | none, none, none, [vx], hv => exact fin (vx := vx) (alo := none) (ahi := none) (amx := none) hv.1 trivial trivial trivial (fun e => by cases e) hf
  | some _, none, none, [vx, v1], hv => exact fin (vx := vx) (alo := some v1) (ahi := none) (amx := none) hv.1 hv.2.1 trivial trivial (fun e => by cases e) hf
  | none, some _, none, [vx, v1], hv => exact fin (vx := vx) (alo := none) (ahi := some v1) (amx := none) hv.1 trivial hv.2.1 trivial (fun e => by cases e) hf
  | some _, some _, none, [vx, v1, v2], hv => exact fin (vx := vx) (alo := some v1) (ahi := some v2) (amx := none) hv.1 hv.2.1 hv.2.2.1 trivial (fun e => by cases e) hf
  | none, some _, some _, [vx, v1, v2], hv => exact fin (vx := vx) (alo := none) (ahi := some v1) (amx := some v2) hv.1 trivial hv.2.1 hv.2.2.1 (fun _ => rfl) hf
  | some _, some _, some _, [vx, v1, v2, v3], hv => exact fin (vx := vx) (alo := some v1) (ahi := some v2) (amx := some v3) hv.1 hv.2.1 hv.2.2.1 hv.2.2.2.1 (fun _ => rfl) hf
  | none, none, some _, [vx, v1], hv => simp [fCore] at hf
  | some _, none, some _, [vx, v1, v2], hv => simp [fCore] at hf

theorem reps_parts {f : Nat → TypeId} : ∀ (ps : List (Nat × Operand)) (vs : List AV), Reps w I h μ ρ (ps.map fun p => (f p.1, p.2)) vs →
    (zipParts ps vs).length = ps.length ∧ ∀ (k : Nat) (x : Nat × Value) (y : Nat × AV), (ps.map fun (i, x) => (i, ρ x))[k]? = some x → (zipParts ps vs)[k]? = some y → x.1 = y.1 ∧ Rep w I h μ x.2 y.2
  | [], vs, hv => ⟨rfl, fun k x y h1 _ => by simp at h1⟩
  | (i, o) :: ps, vs, hv => by
    match vs, hv with
    | v :: vs, hv =>
      obtain ⟨h1, h2⟩ := reps_parts ps vs hv.2
      refine ⟨by simp [zipParts, h1], fun k x y e1 e2 => ?_⟩
      cases k with
      | zero => simp [zipParts] at e1 e2; subst e1; subst e2; exact ⟨rfl, hv.1⟩
      | succ k => exact h2 k x y (by simpa using e1) (by simpa [zipParts] using e2)

theorem op_build (hE : EnvOK E) (R : RelH w I μ h) {t : TypeId} {ps : Array (Nat × Operand)} {vs : List AV} (hv : Reps w I h μ ρ (opnds E ⟨dst, .build t ps, ty, pos, aft, gd⟩) vs)
    (hf : fCore E ⟨dst, .build t ps, ty, pos, aft, gd⟩ vs g b0 = some fr) : OpOK E ⟨dst, .build t ps, ty, pos, aft, gd⟩ ρ w I h μ fr := by
  obtain ⟨hl, hr⟩ := reps_parts (f := fun i => fieldTy (E.ti t).ud i) ps.toList vs hv
  have hps : (ps.map fun (i, x) => (i, ρ x)).toList = ps.toList.map fun (i, x) => (i, ρ x) := by simp
  simp only [fCore] at hf
  split at hf
  · rename_i cs hcs
    obtain ⟨hck, hf⟩ := chk_some hf
    cases hf
    simp only [Bool.and_eq_true] at hck
    have hzl : (E.ti t).zero.length = (E.ti t).size := Nat.eq_of_beq_eq_true hck.1
    have hkn := kn_zero hE.knows hzl
    obtain ⟨it, z, hit, hz, hzr⟩ := hE.zero t hkn hzl
    have hz0 : CRep w I h μ z.cells.toList (E.ti t).zero := ⟨by simpa using hzr.1, fun k v c h1 h2 => hzr.2 k v c (by simpa using h1) h2 w I h μ⟩
    have hu := hE.und t hkn
    have done : ∀ cells : Array Value, E.P.built t (ps.map fun (i, x) => (i, ρ x)).toList = some cells → CRep w I h μ cells.toList cs → OpOK E ⟨dst, .build t ps, ty, pos, aft, gd⟩ ρ w I h μ ⟨.agg cs, [], []⟩ := by
      intro cells h1 h2
      refine .quiet R rfl (.agg cells) (run_v (s := Instr.build t (ps.map fun (i, x) => (i, ρ x))) (run_build w t _ cells h1)) ?_
      exact .agg _ _ (by simpa using h2.1) fun k v c e1 e2 => h2.2 k v c (by simpa using e1) e2
    split at hcs
    · rename_i fs hud
      rw [hud] at hu
      obtain ⟨fields, hu, hfl⟩ := hu
      -- the places, as the model has them
      have hplaces : ∀ (l : List Field), (∀ f ∈ l, (f.type, f.offset) ∈ fs) → l.mapM (fun f => (E.P.info? f.type).map fun i => (f.offset, i.size)) = some (l.map fun f => (f.offset, (E.ti f.type).size)) := by
        intro l
        induction l with
        | nil => intro _; rfl
        | cons f l ih =>
          intro hm
          obtain ⟨i, hi, hsz, _⟩ := hE.info f.type (hE.flds t fs hud (f.type, f.offset) (hm f List.mem_cons_self))
          rw [List.mapM_cons, ih (fun f hf => hm f (List.mem_cons_of_mem _ hf)), hi]
          simp [hsz]
      have hpl := hplaces fields.toList (fun f hf => by rw [← hfl]; exact List.mem_map.2 ⟨f, hf, rfl⟩)
      obtain ⟨cells, g1, g2⟩ := fill_ok (w := w) (I := I) (h := h) (μ := μ) (structPlace E fs) ((ps.map fun (i, x) => (i, ρ x)).toList) (zipParts ps.toList vs) z.cells (E.ti t).zero cs (by rw [hps, hl]; simp) (by rw [hps]; exact hr) hz0 hcs
      refine done cells ?_ g2
      unfold Program.built
      simp only [hit, hu, hz, hpl]
      rw [← g1]
      congr 1
      funext i
      simp only [structPlace, ← hfl, List.getElem?_map]
      simp only [List.getElem?_toArray, List.getElem?_map]
      cases fields.toList[i]? <;> rfl
    · rename_i n e hud
      rw [hud] at hu
      have hke : (E.ti e).kn = true := by
        have := hck.2
        rw [hud] at this
        exact kn_size (by simpa using this)
      · obtain ⟨ie, hie, hsz, _⟩ := hE.info e hke
        obtain ⟨cells, g1, g2⟩ := fill_ok (w := w) (I := I) (h := h) (μ := μ) (fun i => some (i * (E.ti e).size, (E.ti e).size)) ((ps.map fun (i, x) => (i, ρ x)).toList) (zipParts ps.toList vs) z.cells (E.ti t).zero cs (by rw [hps, hl]; simp) (by rw [hps]; exact hr) hz0 hcs
        refine done cells ?_ g2
        unfold Program.built
        have hu' : E.P.underlying t = some (.array n e) := hu
        simp only [hit, hu', hz, hie, hsz]
        exact g1
    · cases hcs
  · cases hf

/-- A new variable. -/
theorem lay_var (R : RelH w I μ h) (hb : b0 ≤ h.length) (hh : h[b0]? = none ∨ h[b0]? = some .hole) {cs : Array Value} {as : List AV} (hc : CRep w I h μ cs.toList as) (e : TypeId) :
    Rep (w.alloc (.cells cs e (0, 0))) I (hput h b0 (.var as)) (upd μ b0 w.heap.size) (.pointer (some ⟨w.heap.size, 0, none⟩)) (.ptr b0 0) ∧
      RelH (w.alloc (.cells cs e (0, 0))) I (upd μ b0 w.heap.size) (hput h b0 (.var as)) ∧
      Fr w (Wr h μ) I (w.alloc (.cells cs e (0, 0))) (Wr (hput h b0 (.var as)) (upd μ b0 w.heap.size)) I ∧ HM h μ (hput h b0 (.var as)) (upd μ b0 w.heap.size) := by
  have hnew : (w.alloc (.cells cs e (0, 0))).heap[w.heap.size]? = some (.cells cs e (0, 0)) := heap_alloc_new w _
  have hget0 : (hput h b0 (.var as))[b0]? = some (.var as) := by rw [hput_get _ h b0 b0 hb, if_pos rfl]
  obtain ⟨hR, hF, hM⟩ := R.lay hb hh cs e (.var as) (by
    refine ⟨w.heap.size, cs, e, upd_same _ _ _, hnew, by simpa using hc.1, fun k v c h1 h2 => ?_⟩
    have r := hc.2 k v c (by simpa using h1) h2
    -- the value means what it meant
    obtain ⟨_, hF, hM⟩ := R.lay hb hh cs e .gone trivial
    refine r.mono (h' := hput h b0 (.var as)) (μ' := upd μ b0 w.heap.size) ⟨fun i x hx => ?_, fun i x y hx hy lx ly => ?_⟩ hF.shape (R.keptI hF) hF.im
    · by_cases hib : i = b0
      · subst hib
        refine ⟨.var as, hget0, ?_⟩
        rcases hh with hh | hh
        · rw [hh] at hx; cases hx
        · rw [hh] at hx; injection hx with hx; subst hx; trivial
      · obtain ⟨y, hy, ky⟩ := hM.kept i x hx
        rw [hput_get _ h b0 i hb, if_neg hib] at hy
        exact ⟨y, by rw [hput_get _ h b0 i hb, if_neg hib]; exact hy, ky⟩
    · by_cases hib : i = b0
      · subst hib
        rcases hh with hh | hh
        · rw [hh] at hx; cases hx
        · rw [hh] at hx; injection hx with hx; subst hx; exact lx.elim
      · exact upd_ne _ _ hib)
  exact ⟨.ptr b0 0 _ ⟨_, hget0, by simp, fun _ => upd_same _ _ _⟩, hR, hF, hM⟩

theorem zInts_at {k : IntKind} : ∀ {l : List AV}, zInts k l = true → ∀ (i : Nat), i < l.length → l[i]? = some (.int k 0)
  | [], _, i, hi => by cases hi
  | a :: r, h, i, hi => by
    unfold zInts at h
    split at h
    · rename_i e; cases e
    · rename_i k' n r' e
      injection e with e1 e2
      subst e1; subst e2
      simp only [Bool.and_eq_true, decide_eq_true_eq] at h
      obtain ⟨⟨rfl, rfl⟩, h⟩ := h
      cases i with
      | zero => rfl
      | succ i => exact zInts_at h i (by simpa using hi)
    · cases h
theorem op_allocBig (hE : EnvOK E) (R : RelH w I μ h) (hb : b0 ≤ h.length) (hh : h[b0]? = none ∨ h[b0]? = some .hole) {e : TypeId} {k : IntKind} (_hk : bigU E (E.ti e).ud = some k)
    (hf : chk (Nat.beq (E.ti e).zero.length (E.ti e).size && zInts k (E.ti e).zero) (some ⟨.ptr b0 0, [(b0, .arr (.int k) (List.replicate (E.ti e).size 0) true)], []⟩) = some fr) : OpOK E ⟨dst, .alloc e, ty, pos, aft, gd⟩ ρ w I h μ fr := by
  obtain ⟨hck, hf⟩ := chk_some hf
  cases hf
  simp only [Bool.and_eq_true] at hck
  have hzl : (E.ti e).zero.length = (E.ti e).size := Nat.eq_of_beq_eq_true hck.1
  obtain ⟨it, z, hit, hz, hzr⟩ := hE.zero e (kn_zero hE.knows hzl) hzl
  have hzi : ∀ i, i < (E.ti e).size → z.cells[i]? = some (.int k 0) := by
    intro i hi
    have h1 := zInts_at hck.2 i (by omega)
    have hlt : i < z.cells.size := by rw [hzr.1]; omega
    have h2 := hzr.2 i z.cells[i] _ (Array.getElem?_eq_getElem hlt) h1 w I h μ
    rw [Array.getElem?_eq_getElem hlt, rep_int h2]
  have hnew : (w.alloc (.cells z.cells e (0, 0))).heap[w.heap.size]? = some (.cells z.cells e (0, 0)) := heap_alloc_new w _
  have hget0 : (hput h b0 (.arr (.int k) (List.replicate (E.ti e).size 0) true))[b0]? = some (.arr (.int k) (List.replicate (E.ti e).size 0) true) := by rw [hput_get _ h b0 b0 hb, if_pos rfl]
  obtain ⟨hR, hF, hM⟩ := R.lay hb hh z.cells e (.arr (.int k) (List.replicate (E.ti e).size 0) true) (by
    right
    refine ⟨w.heap.size, z.cells, e, upd_same _ _ _, .of hnew, by simp [Ty.sz, hzr.1, hzl], fun i hi => ?_, fun hf => by cases hf⟩
    have hi' : i < (E.ti e).size := by simpa using hi
    have h1 : ((z.cells.toList.drop (i * (Ty.int k).sz)).take (Ty.int k).sz) = [.int k 0] := by
      have hz1 := hzi i hi'
      simp only [Ty.sz, Nat.mul_one]
      have hlt : i < z.cells.toList.length := by simp [hzr.1]; omega
      rw [List.drop_eq_getElem_cons hlt]
      simp only [List.take_succ_cons, List.take_zero]
      congr 1
      rw [Array.getElem?_eq_getElem (by simpa using hlt)] at hz1
      simpa using Option.some.inj hz1
    rw [h1]
    have h2 : (List.replicate (E.ti e).size (0 : Int))[i]'(by simpa using hi') = 0 := by simp
    have h3 : RD (w.alloc (.cells z.cells e (0, 0))) I (.int k) ((List.replicate (E.ti e).size (0 : Int))[i]'(by simpa using hi')) [.int k 0] := by rw [h2]; exact .int k 0
    exact h3)
  refine ⟨_, _, _, I, _, run_v (s := Instr.alloc e true (.tuple #[])) (v := .pointer (some ⟨w.heap.size, 0, none⟩)) (w' := w.alloc (.cells z.cells e (0, 0))) ?_, .inl rfl, .ptr b0 0 _ ⟨_, hget0, by simp, fun _ => upd_same _ _ _⟩, hR, hF, hM⟩
  have : (zeroValue e).run E.P w = .ok z w := by simp [zeroValue, typeInfo, hit, hz]
  simp only [Instr.alloc, Sem.run_bind, this, Result.andThen_ok]
  rfl

theorem op_alloc (hE : EnvOK E) (R : RelH w I μ h) (hb : b0 ≤ h.length) (hh : h[b0]? = none ∨ h[b0]? = some .hole) {e : TypeId} {vs : List AV}
    (hf : fCore E ⟨dst, .alloc e, ty, pos, aft, gd⟩ vs g b0 = some fr) : OpOK E ⟨dst, .alloc e, ty, pos, aft, gd⟩ ρ w I h μ fr := by
  simp only [fCore] at hf
  split at hf
  · exact op_allocBig hE R hb hh (by assumption) hf
  obtain ⟨hck, hf⟩ := chk_some hf
  cases hf
  have hzl : (E.ti e).zero.length = (E.ti e).size := Nat.eq_of_beq_eq_true hck
  obtain ⟨it, z, hit, hz, hzr⟩ := hE.zero e (kn_zero hE.knows hzl) hzl
  have hz0 : CRep w I h μ z.cells.toList (E.ti e).zero := ⟨by simpa using hzr.1, fun k v c h1 h2 => hzr.2 k v c (by simpa using h1) h2 w I h μ⟩
  obtain ⟨h1, h2, h3, h4⟩ := lay_var R hb hh hz0 e
  refine ⟨_, _, _, I, _, run_v (s := Instr.alloc e true (.tuple #[])) (v := .pointer (some ⟨w.heap.size, 0, none⟩)) (w' := w.alloc (.cells z.cells e (0, 0))) ?_, .inl rfl, h1, h2, h3, h4⟩
  have : (zeroValue e).run E.P w = .ok z w := by simp [zeroValue, typeInfo, hit, hz]
  simp only [Instr.alloc, Sem.run_bind, this, Result.andThen_ok]
  rfl

theorem intsOf_ok {k : IntKind} : ∀ {cs : List AV} {l : List Int}, intsOf k cs = some l → l.length = cs.length ∧ cs.all oneA = true ∧ ∀ (i : Nat) (hi : i < l.length), cs[i]? = some (.int k l[i])
  | [], l, h => by cases h; exact ⟨rfl, rfl, fun i hi => by cases hi⟩
  | a :: r, l, h => by
    unfold intsOf at h
    split at h
    · rename_i e; cases e
    · rename_i k' n r' e
      injection e with e1 e2
      subst e1; subst e2
      split at h
      · rename_i hk _
        subst hk
        split at h
        · rename_i l' hl'
          cases h
          obtain ⟨h1, h2, h3⟩ := intsOf_ok hl'
          refine ⟨by simp [h1], by simp [oneA, h2], fun i hi => ?_⟩
          cases i with
          | zero => rfl
          | succ i => exact h3 i (by simpa using hi)
        · cases h
      · cases h
    · cases h
theorem op_box (R : RelH w I μ h) (hb : b0 ≤ h.length) (hh : h[b0]? = none ∨ h[b0]? = some .hole) {e : TypeId} {x : Operand} {vs : List AV} (hv : Reps w I h μ ρ (opnds E ⟨dst, .box e x, ty, pos, aft, gd⟩) vs)
    (hf : fCore E ⟨dst, .box e x, ty, pos, aft, gd⟩ vs g b0 = some fr) : OpOK E ⟨dst, .box e x, ty, pos, aft, gd⟩ ρ w I h μ fr := by
  match vs, hv with
  | [v], hv =>
    simp only [fCore] at hf
    split at hf
    · rename_i k _
      split at hf
      · rename_i l hl
        obtain ⟨hck, hf⟩ := chk_some hf
        cases hf
        simp only [Bool.and_eq_true] at hck
        have hcr := rep_cells' hv.1 hck.1
        have hnew : (w.alloc (.cells (ρ x).cells e (0, 0))).heap[w.heap.size]? = some (.cells (ρ x).cells e (0, 0)) := heap_alloc_new w _
        have hget0 : (hput h b0 (.arr (.int k) l true))[b0]? = some (.arr (.int k) l true) := by rw [hput_get _ h b0 b0 hb, if_pos rfl]
        have hll := (intsOf_ok hl).1
        have hcz : (ρ x).cells.size = v.cells.length := by have := hcr.1; simpa using this
        obtain ⟨hR, hF, hM⟩ := R.lay hb hh (ρ x).cells e (.arr (.int k) l true) (by
          right
          refine ⟨w.heap.size, (ρ x).cells, e, upd_same _ _ _, .of hnew, by show (l : List Int).length * 1 ≤ _; omega, fun m hm => ?_, fun hff => by cases hff⟩
          have hm' : m < (l : List Int).length := hm
          have hlt : m < (ρ x).cells.toList.length := by simp; omega
          have h6 := (intsOf_ok hl).2.2 m hm'
          have h7 := hcr.2 m _ _ (List.getElem?_eq_getElem hlt) h6
          have h8 : (((ρ x).cells.toList.drop (m * (Ty.int k).sz)).take (Ty.int k).sz) = [.int k ((l : List Int)[m])] := by
            simp only [Ty.sz, Nat.mul_one]
            rw [List.drop_eq_getElem_cons hlt, rep_int h7]
            rfl
          have h10 : RD (w.alloc (.cells (ρ x).cells e (0, 0))) I (.int k) ((l : List Int)[m] : Int) [.int k ((l : List Int)[m])] := .int k _
          rw [h8]
          exact h10)
        exact ⟨_, _, _, I, _, run_v (s := Instr.box e (ρ x)) (v := .pointer (some ⟨w.heap.size, 0, none⟩)) (w' := w.alloc (.cells (ρ x).cells e (0, 0))) rfl, .inl rfl, .ptr b0 0 _ ⟨_, hget0, by simp, fun _ => upd_same _ _ _⟩, hR, hF, hM⟩
      · cases hf
    obtain ⟨hck, hf⟩ := chk_some hf
    cases hf
    simp only [Bool.and_eq_true] at hck
    obtain ⟨h1, h2, h3, h4⟩ := lay_var R hb hh (rep_cells' hv.1 hck.1) e
    exact ⟨_, _, _, I, _, run_v (s := Instr.box e (ρ x)) (v := .pointer (some ⟨w.heap.size, 0, none⟩)) (w' := w.alloc (.cells (ρ x).cells e (0, 0))) rfl, .inl rfl, h1, h2, h3, h4⟩

theorem ones {vs : List Value} {as : List AV} (hc : CRep w I h μ vs as) (ho : as.all oneA = true) : ∀ u ∈ vs, u.oneCell' = true := by
  intro u hu
  obtain ⟨k, hk, hku⟩ := List.getElem_of_mem hu
  have hk2 : k < as.length := by rw [← hc.1]; exact hk
  refine rep_one (hc.2 k u as[k] (by rw [List.getElem?_eq_getElem hk, hku]) (by rw [List.getElem?_eq_getElem hk2])) ?_
  exact List.all_eq_true.1 ho _ (List.getElem_mem hk2)

theorem laid_eq (us vs : List Value) (j : Nat) (hl : j + vs.length ≤ us.length) : setAtV us j vs = us.take j ++ vs ++ us.drop (j + vs.length) := by
  apply List.ext_getElem?
  intro m
  rw [setAtV_get _ _ _ _ hl]
  by_cases h1 : m < j
  · rw [if_neg (by omega), List.append_assoc, List.getElem?_append_left (by simp; omega), List.getElem?_take, if_pos h1]
  · by_cases h2 : m < j + vs.length
    · rw [if_pos (by omega), List.getElem?_append_left (by simp; omega), List.getElem?_append_right (by simp; omega)]
      congr 1; simp; omega
    · rw [if_neg (by omega), List.getElem?_append_right (by simp; omega), List.getElem?_drop]
      congr 1; simp; omega

theorem setCells_row8 (g : Nat) (e : TypeId) (fz : Nat × Nat) : ∀ (vs : List Value) (o : Nat) (w : World) (cs : Array Value), w.heap[g]? = some (.cells cs e fz) → w.setCells g o vs = w.setRow g (setAtV cs.toList o vs).toArray
  | [], o, w, cs, h => by
    show w = w.setRow g cs.toList.toArray
    rw [Array.toArray_toList, setRow_self w g cs e fz h]
  | v :: r, o, w, cs, h => by
    show (w.setCell ⟨g, o, none⟩ v).setCells g (o + 1) r = _
    rw [setCell_eq_setRow w g o cs e fz v h, setCells_row8 g e fz r (o + 1) _ _ (setRow_heap w g _ _ e fz h), setRow_setRow]
    simp [setAtV]
/-- Cells of a row, of which none may not be written, are written. -/
theorem run_storeCells_F {P : Program} {w : World} {q : Nat} {us : Array Value} {e : TypeId} {fz : Nat × Nat} (hq : w.heap[q]? = some (.cells us e fz)) (hz : fz = (0, 0) ∨ us.size ≤ fz.1) (vs : List Value) (o : Nat)
    (hl : o + vs.length ≤ us.size) (h1 : ∀ v ∈ vs, v.oneCell' = true) :
    (storeCells ⟨q, o, none⟩ vs 0).run P w = .ok () (w.setRow q (us.toList.take o ++ vs ++ us.toList.drop (o + vs.length)).toArray) := by
  have hst := run_storeCells_cells (P := P) q o vs 0 w (fun j hj => by
    have hi : o + j < us.size := by omega
    simp [World.cell?, hq, hi]) (fun j hj => by
    obtain ⟨lo, hi⟩ := fz
    unfold World.frozen?
    rw [hq]
    rcases hz with hz | hz
    · cases hz
      simp
    · have hz : us.size ≤ lo := hz
      have : ¬ lo ≤ o + 0 + j := by omega
      simp only [this, decide_false, Bool.false_and]) h1
  rw [hst, Nat.add_zero, setCells_row8 q e fz vs o w us hq, laid_eq us.toList vs o (by simpa using hl)]

/-- A row of a block is written. -/
theorem run_storeAt {P : Program} {t : TypeId} {i : TypeInfo} (hi : P.info? t = some i) {q o : Nat} {us : Array Value} {e : TypeId} {fz : Nat × Nat} (hq : w.heap[q]? = some (.cells us e fz)) (hz : fz = (0, 0) ∨ us.size ≤ fz.1) {v : Value}
    (hs : v.cells.size = i.size) (hfit : o + i.size ≤ us.size) (h1 : ∀ u ∈ v.cells.toList, u.oneCell' = true) :
    (Instr.storeAt t (.pointer (some ⟨q, o, none⟩)) v).run P w = .ok () (w.setRow q (us.toList.take o ++ v.cells.toList ++ us.toList.drop (o + i.size)).toArray) := by
  have hst := run_storeCells_F (P := P) hq hz v.cells.toList o (by simp; omega) h1
  have hl : v.cells.toList.length = i.size := by simpa using hs
  rw [hl] at hst
  simp only [Instr.storeAt, Instr.sureAddr, Sem.run_bind, Sem.run_pure, Result.andThen_ok, storeVar, sizeOf, typeInfo, run_program, hi, hs]
  simpa using hst

theorem op_store (hE : EnvOK E) (R : RelH w I μ h) (G : GOK g h) {t : TypeId} {x y : Operand} {vs : List AV} (hv : Reps w I h μ ρ (opnds E ⟨dst, .store t x y, ty, pos, aft, gd⟩) vs)
    (hf : fCore E ⟨dst, .store t x y, ty, pos, aft, gd⟩ vs g b0 = some fr) (hc : ∀ c ∈ fr.cs, c.p) : OpOK E ⟨dst, .store t x y, ty, pos, aft, gd⟩ ρ w I h μ fr := by
  match vs, hv with
  | [a, v], hv =>
    obtain ⟨hx, hy, _⟩ := hv
    simp only [fCore, storeA] at hf
    split at hf
    · rename_i b j
      split at hf
      · rename_i cs hb
        obtain ⟨hck, hf⟩ := chk_some hf
        cases hf
        simp only [Bool.and_eq_true, Nat.ble_eq] at hck
        obtain ⟨⟨⟨⟨hpl, hone⟩, hsz⟩, hfit⟩, hkn⟩ := hck
        have hsz : v.cells.length = (E.ti t).size := Nat.eq_of_beq_eq_true hsz
        have hb' := G.some hb (by simp)
        obtain ⟨q, us, e, h1, h2, h3, h4⟩ := R.blk b _ hb'
        have hpq : ρ x = .pointer (some ⟨q, j, none⟩) := by
          generalize ρ x = z at hx
          cases hx with
          | ptr _ _ q' hp =>
            obtain ⟨z, hz, hz1, hz2⟩ := hp
            rw [hb'] at hz; injection hz with hz; subst hz
            have := hz2 (by simp)
            rw [h1] at this; injection this with this; subst this
            rfl
        have hcr := rep_cells' hy hpl
        obtain ⟨i, hi, his, _⟩ := hE.info t (kn_size hkn)
        have hlen : (ρ y).cells.size = i.size := by rw [his, ← hsz, ← hcr.1]; simp
        have hrun := run_storeAt (w := w) hi h2 (.inl rfl) (v := ρ y) (o := j) hlen (by omega) (ones hcr hone)
        have hlay := laid_eq us.toList (ρ y).cells.toList j (by simp; omega)
        have hl2 : (ρ y).cells.toList.length = i.size := by simpa using hlen
        rw [hl2] at hlay
        rw [← hlay] at hrun
        have hwr : ∀ o, Wr h μ q o := fun o => ⟨b, h1, .inl ⟨cs, hb'⟩⟩
        have hlt : b ≤ h.length := by have := (List.getElem?_eq_some_iff.1 hb').1; omega
        obtain ⟨hR, hF, hM⟩ := R.write (w' := w.setRow q (setAtV us.toList j (ρ y).cells.toList).toArray) (x' := .var (setAt cs j v.cells)) hb' trivial h1 h2 (setRow_heap w q us _ e _ h2) (by simp [setAtV_len])
          (fun k hk => setRow_other w q k _ hk) rfl rfl rfl (by simp) (fun o hn => absurd (hwr o) hn) ⟨_, rfl⟩ trivial
          (fun q' o hq' => by
            obtain ⟨i', hi', hx'⟩ := hq'
            by_cases hib : i' = b
            · subst hib
              rw [h1] at hi'; injection hi' with hi'; subst hi'
              exact hwr o
            · rw [hput_get _ h b i' hlt, if_neg hib] at hx'
              exact ⟨i', hi', hx'⟩)
          (fun hM hstep _ => by
            have hcs : CRep w I h μ us.toList cs := ⟨by simpa using h3, fun k v c e1 e2 => h4 k v c (by simpa using e1) e2⟩
            have hnew := CRep.setAt _ _ _ _ j hcs hcr
            refine ⟨q, _, e, h1, setRow_heap w q us _ e _ h2, by simpa using hnew.1, fun k v c e1 e2 => hstep v c (hnew.2 k v c (by simpa using e1) e2)⟩)
        exact ⟨undef, _, _, I, μ, run_u (s := Instr.storeAt t (ρ x) (ρ y)) (by rw [hpq]; exact hrun), .inr ⟨rfl, rfl⟩, .junk _, hR, hF, hM⟩
      · rename_i k l hb
        split at hf
        · rename_i l' hl'
          obtain ⟨hck, hf⟩ := chk_some hf
          cases hf
          simp only [Bool.and_eq_true, Nat.ble_eq] at hck
          obtain ⟨⟨⟨⟨hpl, hj⟩, hz1⟩, hsz⟩, hkn⟩ := hck
          have hj : j = 0 := Nat.eq_of_beq_eq_true hj
          subst hj
          have hsz : v.cells.length = (E.ti t).size := Nat.eq_of_beq_eq_true hsz
          have hln : (l : List Int).length = (E.ti t).size := hc ⟨_, inferInstance⟩ (by simp)
          have hll : (l' : List Int).length = (l : List Int).length := by rw [(intsOf_ok hl').1, hsz, hln]
          have hb' := G.some hb (by simp)
          rcases R.blk b _ hb' with hnil | ⟨q, us, e, h1, h2, h3, h4, h5⟩
          · have : (l : List Int).length = 0 := by rw [show (l : List Int) = [] from hnil]; rfl
            omega
          have hpq : ρ x = .pointer (some ⟨q, 0, none⟩) := by
            generalize ρ x = z at hx
            cases hx with
            | ptr _ _ q' hp =>
              obtain ⟨z, hz, hz1, hz2⟩ := hp
              rw [hb'] at hz; injection hz with hz; subst hz
              have := hz2 (by simp)
              rw [h1] at this; injection this with this; subst this
              rfl
          have h3 : (l : List Int).length * 1 ≤ us.size := h3
          have hcr := rep_cells' hy hpl
          obtain ⟨i, hi, his, _⟩ := hE.info t (kn_size hkn)
          have hlen : (ρ y).cells.size = i.size := by rw [his, ← hsz, ← hcr.1]; simp
          obtain ⟨fz, h2, hfz⟩ := h2
          have hrun := run_storeAt (w := w) hi h2 hfz (v := ρ y) (o := 0) hlen (by omega) (ones hcr (intsOf_ok hl').2.1)
          have hlay := laid_eq us.toList (ρ y).cells.toList 0 (by simp; omega)
          have hl2 : (ρ y).cells.toList.length = i.size := by simpa using hlen
          rw [hl2] at hlay
          rw [← hlay] at hrun
          have hwr : ∀ o, Wr h μ q o := fun o => ⟨b, h1, .inr (.inl ⟨.int k, l, hb'⟩)⟩
          have hlt : b ≤ h.length := by have := (List.getElem?_eq_some_iff.1 hb').1; omega
          obtain ⟨hR, hF, hM⟩ := R.write (w' := w.setRow q (setAtV us.toList 0 (ρ y).cells.toList).toArray) (x' := .arr (.int k) l' true) hb' trivial h1 h2 (setRow_heap w q us _ e _ h2) (by simp [setAtV_len])
            (fun k hk => setRow_other w q k _ hk) rfl rfl rfl (by simp) (fun o hn => absurd (hwr o) hn) (.inr ⟨l', true, rfl, hll⟩) trivial
            (fun q' o hq' => by
              obtain ⟨i', hi', hx'⟩ := hq'
              by_cases hib : i' = b
              · subst hib
                rw [h1] at hi'; injection hi' with hi'; subst hi'
                exact hwr o
              · rw [hput_get _ h b i' hlt, if_neg hib] at hx'
                exact ⟨i', hi', hx'⟩)
            (fun hM hstep hrd => by
              right
              refine ⟨q, _, e, h1, ⟨fz, setRow_heap w q us _ e _ h2, by simpa [setAtV_len] using hfz⟩, by simp [setAtV_len, Ty.sz]; omega, fun m hm => ?_, fun hff => by cases hff⟩
              have hm' : m < (l' : List Int).length := hm
              have hcell : (ρ y).cells.toList[m]? = some (.int k ((l' : List Int)[m])) := by
                have h6 := (intsOf_ok hl').2.2 m hm'
                have hlt2 : m < (ρ y).cells.toList.length := by rw [hcr.1, hsz]; omega
                have h7 := hcr.2 m _ _ (List.getElem?_eq_getElem hlt2) h6
                rw [List.getElem?_eq_getElem hlt2, rep_int h7]
              have h8 : (((setAtV us.toList 0 (ρ y).cells.toList).toArray.toList.drop (m * (Ty.int k).sz)).take (Ty.int k).sz) = [.int k ((l' : List Int)[m])] := by
                simp only [Ty.sz, Nat.mul_one]
                have hlt3 : m < (setAtV us.toList 0 (ρ y).cells.toList).length := by rw [setAtV_len]; simp; omega
                have h9 : (setAtV us.toList 0 (ρ y).cells.toList)[m]? = some (.int k ((l' : List Int)[m])) := by
                  rw [setAtV_get _ _ _ _ (by simp; omega), if_pos ⟨by omega, by rw [hcr.1, hsz]; omega⟩, Nat.sub_zero]
                  exact hcell
                rw [List.getElem?_eq_getElem hlt3] at h9
                rw [List.drop_eq_getElem_cons hlt3, Option.some.inj h9]
                rfl
              have h10 : RD (w.setRow q (setAtV us.toList 0 (ρ y).cells.toList).toArray) I (.int k) ((l' : List Int)[m] : Int) [.int k ((l' : List Int)[m])] := .int k _
              rw [h8]
              exact h10)
          exact ⟨undef, _, _, I, μ, run_u (s := Instr.storeAt t (ρ x) (ρ y)) (by rw [hpq]; exact hrun), .inr ⟨rfl, rfl⟩, .junk _, hR, hF, hM⟩
        · cases hf
      · cases hf
    · rename_i t' b i j
      split at hf
      · rename_i t2 l hb
        split at hf
        · rename_i he
          subst he
          · split at hf
            · rename_i y0 hy0
              obtain ⟨hck, hf⟩ := chk_some hf
              cases hf
              simp only [Bool.and_eq_true, Nat.ble_eq, Bool.not_eq_true'] at hck
              obtain ⟨⟨⟨⟨⟨hpl, hone⟩, hsz⟩, hfit⟩, hkn⟩, hnot⟩ := hck
              have hsz : v.cells.length = (E.ti t).size := Nat.eq_of_beq_eq_true hsz
              have hnot : b ∉ ownsOf v.cells := by simpa using hnot
              have hb0' := G.some hb (by simp)
              obtain ⟨I1, R1, F1, M1, _, hfz, hoth⟩ := frz_ok (ownsOf v.cells) I h R G.f
              have hb' : (hputs h (frz g (ownsOf v.cells)))[b]? = some (.arr t2 l true) := (hoth b hnot).trans hb0'
              have hy1 := hy.step R F1 M1
              have hcr0 := rep_cells' hy1 hpl
              have hcr : CRep w I1 (hputs h (frz g (ownsOf v.cells))) μ (ρ y).cells.toList (v.cells.map (res1 g)) := by
                refine ⟨by simpa using hcr0.1, fun k u c e1 e2 => ?_⟩
                rw [List.getElem?_map] at e2
                cases hq : v.cells[k]? with
                | none => rw [hq] at e2; cases e2
                | some c0 =>
                  rw [hq] at e2
                  simp at e2
                  subst e2
                  refine res1_ok R1 (hcr0.2 k u c0 e1 hq) fun t3 b3 full e3 t' l' fr' e4 => hfz b3 ?_ t' l' fr' e4
                  subst e3
                  exact mem_ownsOf _ _ _ _ (List.mem_of_getElem? hq)
              have hil : i < l.length := hc ⟨_, inferInstance⟩ (by simp)
              have hx0' : l[i] = elt t2 l i := (elt_eq hil).symm
              generalize elt t2 l i = x0 at hy0 hx0'
              rcases R1.blk b _ hb' with hnil | ⟨q, us, e, h1, h2, h3, h4, h5⟩
              · subst hnil; simp at hil
              · have hpq : ρ x = .pointer (some ⟨q, i * t2.sz + j, none⟩) := by
                  generalize ρ x = z at hx
                  cases hx with
                  | eptr _ _ _ _ q' hp =>
                    obtain ⟨z, hz, hz1, hz2⟩ := hp
                    rw [hb0'] at hz; injection hz with hz; subst hz
                    have := hz2 (by simp)
                    rw [h1] at this; injection this with this; subst this
                    rfl
                obtain ⟨it, hit, his, _⟩ := hE.info t (kn_size hkn)
                have hlen : (ρ y).cells.size = it.size := by rw [his, ← hsz, ← hcr0.1]; simp
                have hrow : i * t2.sz + t2.sz ≤ l.length * t2.sz := by
                  have := Nat.mul_le_mul_right t2.sz hil
                  rw [Nat.succ_mul] at this
                  exact this
                obtain ⟨fz, h2, hfz⟩ := h2
                have hrun := run_storeAt (w := w) hit h2 hfz (v := ρ y) (o := i * t2.sz + j) hlen (by omega) (ones hcr0 hone)
                have hlay := laid_eq us.toList (ρ y).cells.toList (i * t2.sz + j) (by simp; omega)
                have hl2 : (ρ y).cells.toList.length = it.size := by simpa using hlen
                rw [hl2] at hlay
                rw [← hlay] at hrun
                have hwr : ∀ o, Wr (hputs h (frz g (ownsOf v.cells))) μ q o := fun o => ⟨b, h1, .inr (.inl ⟨t2, l, hb'⟩)⟩
                have hlt : b ≤ (hputs h (frz g (ownsOf v.cells))).length := by have := (List.getElem?_eq_some_iff.1 hb').1; omega
                obtain ⟨hR, hF, hM⟩ := R1.write (w' := w.setRow q (setAtV us.toList (i * t2.sz + j) (ρ y).cells.toList).toArray) (x' := .arr t2 (l.set i y0) true) hb' trivial h1 h2 (setRow_heap w q us _ e _ h2) (by simp [setAtV_len])
                  (fun k hk => setRow_other w q k _ hk) rfl rfl rfl (by simp) (fun o hn => absurd (hwr o) hn) (.inr ⟨l.set i y0, true, rfl, by simp⟩) trivial
                  (fun q' o hq' => by
                    obtain ⟨i', hi', hx'⟩ := hq'
                    by_cases hib : i' = b
                    · subst hib
                      rw [h1] at hi'; injection hi' with hi'; subst hi'
                      exact hwr o
                    · rw [hput_get _ _ b i' hlt, if_neg hib] at hx'
                      exact ⟨i', hi', hx'⟩)
                  (fun hM hstep hrd => by
                    right
                    refine ⟨q, _, e, h1, ⟨fz, setRow_heap w q us _ e _ h2, by simpa [setAtV_len] using hfz⟩, by simp [setAtV_len]; omega, fun k hk => ?_, fun hff => by cases hff⟩
                    have hk' : k < l.length := by simpa using hk
                    by_cases hki : k = i
                    · subst hki
                      have hold := h4 k hk'
                      rw [hx0'] at hold
                      have hseg : CRep w I1 (hputs h (frz g (ownsOf v.cells))) μ ((us.toList.drop (k * t2.sz)).take t2.sz) (cellsOf t2 x0) := ⟨by rw [hold.len, cellsOf_len], fun _ _ _ e1 e2 => hold.rep _ _ _ e1 e2⟩
                      have hnew := CRep.setAt _ _ _ _ j hseg hcr
                      have hdata := decAll_ok hnew hy0
                      have : (l.set k y0)[k] = y0 := by simp
                      rw [this]
                      refine hrd _ _ _ ?_
                      have hsegeq : (((setAtV us.toList (k * t2.sz + j) (ρ y).cells.toList).toArray.toList.drop (k * t2.sz)).take t2.sz) = setAtV ((us.toList.drop (k * t2.sz)).take t2.sz) j (ρ y).cells.toList := by
                        apply List.ext_getElem?
                        intro m
                        rw [List.getElem?_take]
                        rw [setAtV_get _ _ _ _ (by rw [List.length_take, List.length_drop]; simp; omega)]
                        split
                        · rename_i hm
                          rw [List.getElem?_drop]
                          simp only
                          rw [setAtV_get _ _ _ _ (by simp; omega)]
                          by_cases hin : j ≤ m ∧ m < j + (ρ y).cells.toList.length
                          · rw [if_pos hin, if_pos (by omega)]
                            congr 1; omega
                          · rw [if_neg hin, if_neg (by omega), List.getElem?_take, if_pos hm, List.getElem?_drop]
                        · rename_i hm
                          rw [if_neg (by omega), List.getElem?_take, if_neg hm]
                      rw [hsegeq]
                      exact hdata
                    · have : (l.set i y0)[k] = l[k] := by simp [Ne.symm hki]
                      rw [this]
                      refine hrd _ _ _ ?_
                      have hsegeq : (((setAtV us.toList (i * t2.sz + j) (ρ y).cells.toList).toArray.toList.drop (k * t2.sz)).take t2.sz) = ((us.toList.drop (k * t2.sz)).take t2.sz) := by
                        apply List.ext_getElem?
                        intro m
                        rw [List.getElem?_take, List.getElem?_take]
                        split
                        · rename_i hm
                          rw [List.getElem?_drop, List.getElem?_drop]
                          simp only
                          rw [setAtV_get _ _ _ _ (by simp; omega), if_neg ?_]
                          rintro ⟨e1, e2⟩
                          rcases Nat.lt_or_gt_of_ne hki with hlt' | hgt'
                          · have := Nat.mul_le_mul_right t2.sz (Nat.succ_le_of_lt hlt')
                            rw [Nat.succ_mul] at this
                            omega
                          · have := Nat.mul_le_mul_right t2.sz (Nat.succ_le_of_lt hgt')
                            rw [Nat.succ_mul] at this
                            omega
                        · rfl
                      rw [hsegeq]
                      exact h4 k hk')
                refine ⟨undef, _, _, I1, μ, run_u (s := Instr.storeAt t (ρ x) (ρ y)) (by rw [hpq]; exact hrun), .inr ⟨rfl, rfl⟩, .junk _, ?_, ?_, ?_⟩
                · rw [hputs_app]; exact hR
                · rw [hputs_app]; exact F1.trans hF
                · rw [hputs_app]; exact M1.trans hM
            · cases hf
        · cases hf
      · cases hf
    · cases hf
end
end Go.AM
