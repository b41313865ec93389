/-
  AM, part 13: rows that are made, and grow.
-/
import Derived.Laws.Append
import Derived.Laws.AppendOwn
import Derived.Laws.MakeOwn
import Derived.Test.YtfcigmcjgaipmaaDoorBMOps8
namespace Go.AM
set_option linter.unusedSectionVars false
variable [Lay]
section
variable {E : Env} {w w' : World} {I I' : Nat → Nat → Prop} {h h' : Heap} {μ μ' : Nat → Option Nat} {ρ : Operand → Value} {g : Nat → AB} {b0 : Nat} {fr : FR}
variable {dst : Option Tmp} {ty : TypeId} {pos : String} {aft : Array Edge} {gd : Option (Nat × Bool)}

/-- A row of cells that reads as elements. -/
def RowRD (w : World) (I : Nat → Nat → Prop) (t : Ty) (l : List t.den) (vs : List Value) : Prop :=
  l.length * t.sz ≤ vs.length ∧ ∀ k (hk : k < l.length), RD w I t l[k] ((vs.drop (k * t.sz)).take t.sz)

/-- A new array. -/
theorem lay_arrF (R : RelH w I μ h) (hb : b0 ≤ h.length) (hh : h[b0]? = none ∨ h[b0]? = some .hole) {t : Ty} {l : List t.den} {cs : Array Value} (hr : RowRD w I t l cs.toList) (e : TypeId) (cap : Nat) (full : Bool) (fz : Nat × Nat)
    (hz : fz = (0, 0) ∨ cs.size ≤ fz.1) (h1 : l.length ≤ cap) (h2 : full = true → cap = l.length) (h3 : cap * t.sz ≤ cs.size) :
    Rep (w.alloc (.cells cs e fz)) I (hput h b0 (.arr t l true)) (upd μ b0 w.heap.size) (.slice (some ⟨w.heap.size, 0, none⟩) l.length cap) (.own t b0 full) ∧
      RelH (w.alloc (.cells cs e fz)) I (upd μ b0 w.heap.size) (hput h b0 (.arr t l true)) ∧
      Fr w (Wr h μ) I (w.alloc (.cells cs e fz)) (Wr (hput h b0 (.arr t l true)) (upd μ b0 w.heap.size)) I ∧ HM h μ (hput h b0 (.arr t l true)) (upd μ b0 w.heap.size) := by
  have hnew : (w.alloc (.cells cs e fz)).heap[w.heap.size]? = some (.cells cs e fz) := heap_alloc_new w _
  have hget0 : (hput h b0 (.arr t l true))[b0]? = some (.arr t l true) := by rw [hput_get _ h b0 b0 hb, if_pos rfl]
  obtain ⟨_, hF0, hM0⟩ := R.layF hb hh (.cells cs e fz) .gone trivial
  obtain ⟨hR, hF, hM⟩ := R.layF hb hh (.cells cs e fz) (.arr t l true) (by
    right
    refine ⟨w.heap.size, cs, e, upd_same _ _ _, ⟨fz, hnew, hz⟩, by simpa using hr.1, fun k hk => ?_, fun hf => by cases hf⟩
    exact (hr.2 k hk).mono (R.cell hF0) hF0.im)
  refine ⟨.own t b0 full _ _ cap ⟨_, hget0, by simp, fun t' l' fr' e' => ?_⟩, hR, hF, hM⟩
  cases e'
  exact ⟨rfl, rfl, h1, h2, .inr ⟨_, cs, e, upd_same _ _ _, rfl, ⟨fz, hnew, hz⟩, h3⟩⟩
theorem lay_arr (R : RelH w I μ h) (hb : b0 ≤ h.length) (hh : h[b0]? = none ∨ h[b0]? = some .hole) {t : Ty} {l : List t.den} {cs : Array Value} (hr : RowRD w I t l cs.toList) (e : TypeId) (cap : Nat) (full : Bool)
    (h1 : l.length ≤ cap) (h2 : full = true → cap = l.length) (h3 : cap * t.sz ≤ cs.size) :
    Rep (w.alloc (.cells cs e (0, 0))) I (hput h b0 (.arr t l true)) (upd μ b0 w.heap.size) (.slice (some ⟨w.heap.size, 0, none⟩) l.length cap) (.own t b0 full) ∧
      RelH (w.alloc (.cells cs e (0, 0))) I (upd μ b0 w.heap.size) (hput h b0 (.arr t l true)) ∧
      Fr w (Wr h μ) I (w.alloc (.cells cs e (0, 0))) (Wr (hput h b0 (.arr t l true)) (upd μ b0 w.heap.size)) I ∧ HM h μ (hput h b0 (.arr t l true)) (upd μ b0 w.heap.size) :=
  lay_arrF R hb hh hr e cap full (0, 0) (.inl rfl) h1 h2 h3

/-- Cells of zeros. -/
theorem zero_rows {t : Ty} {z : Value} (hz : RD w I t t.zero z.cells.toList) (n : Nat) (_hsz : 1 ≤ t.sz) : RowRD w I t (List.replicate n t.zero) ((Array.range (n * t.sz)).map (z.cells[· % z.cells.size]!)).toList := by
  have hzs : z.cells.size = t.sz := by have := hz.len; simpa using this
  refine ⟨by simp, fun k hk => ?_⟩
  have hk' : k < n := by simpa using hk
  have : (List.replicate n t.zero)[k] = t.zero := by simp
  rw [this]
  have hrow : k * t.sz + t.sz ≤ n * t.sz := by
    have := Nat.mul_le_mul_right t.sz hk'
    rw [Nat.succ_mul] at this
    exact this
  have : ((((Array.range (n * t.sz)).map (z.cells[· % z.cells.size]!)).toList.drop (k * t.sz)).take t.sz) = z.cells.toList := by
    apply List.ext_getElem?
    intro m
    rw [List.getElem?_take]
    split
    · rename_i hm
      rw [List.getElem?_drop]
      have hmm : (k * t.sz + m) % z.cells.size = m := by
        rw [hzs, Nat.mul_comm, Nat.mul_add_mod]
        exact Nat.mod_eq_of_lt hm
      have hmz : m < z.cells.size := by omega
      simp only [Array.toList_map, List.getElem?_map, Array.toList_range]
      rw [List.getElem?_range (by omega)]
      simp only [Option.map_some, hmm]
      simp [getElem!_pos, hmz]
    · rename_i hm
      rw [List.getElem?_eq_none]
      simp; omega
  rw [this]
  exact hz

theorem setRow_ok {t : Ty} (hsz : 1 ≤ t.sz) : ∀ (pv : List (Nat × Value)) (pa : List (Nat × AV)) (cs : Array Value) (l out : List t.den),
    pv.length = pa.length → (∀ (k : Nat) (x : Nat × Value) (y : Nat × AV), pv[k]? = some x → pa[k]? = some y → x.1 = y.1 ∧ (plainA y.2 = true → CRep w I h μ x.2.cells.toList (y.2.cells.map (res1 g)))) →
    RowRD w I t l cs.toList → l.length * t.sz = cs.size → setRow t g l pa = some out →
    ∃ cells, Instr.fill (fun i => some (i * t.sz, t.sz)) cs pv = some cells ∧ RowRD w I t out cells.toList ∧ out.length = l.length ∧ cells.size = cs.size
  | [], [], cs, l, out, _, _, hc, _, hf => by
    cases hf
    exact ⟨cs, rfl, hc, rfl, rfl⟩
  | (i, v) :: pv, (j, a) :: pa, cs, l, out, hl, hr, hc, hsize, hf => by
    obtain ⟨e1, rv⟩ := hr 0 _ _ rfl rfl
    simp only at e1 rv
    subst e1
    simp only [setRow] at hf
    split at hf
    · rename_i x hck hx
      simp only [Bool.and_eq_true] at hck
      obtain ⟨hpl, hil⟩ := hck
      have hil : i < l.length := by
        simp only [Nat.blt, Nat.ble_eq] at hil
        omega
      have hrd := decAll_ok (rv hpl) hx
      have hvs : v.cells.size = t.sz := by have := hrd.len; simpa using this
      have hrow : i * t.sz + t.sz ≤ l.length * t.sz := by
        have := Nat.mul_le_mul_right t.sz hil
        rw [Nat.succ_mul] at this
        exact this
      have hfold : (v.cells.zipIdx.foldl (fun (cs : Array Value) (x : Value × Nat) => cs.setIfInBounds (i * t.sz + x.2) x.1) cs).toList = setAtV cs.toList (i * t.sz) v.cells.toList := by
        rw [← Array.foldl_toList, Array.toList_zipIdx, fold_setAtV]
        rfl
      have hnew : RowRD w I t (l.set i x) (setAtV cs.toList (i * t.sz) v.cells.toList) := by
        refine ⟨by simp [setAtV_len]; omega, fun k hk => ?_⟩
        have hk' : k < l.length := by simpa using hk
        by_cases hki : k = i
        · subst hki
          have : (l.set k x)[k] = x := by simp
          rw [this]
          have heq : ((setAtV cs.toList (k * t.sz) v.cells.toList).drop (k * t.sz)).take t.sz = v.cells.toList := by
            apply List.ext_getElem?
            intro m
            rw [List.getElem?_take]
            split
            · rename_i hm
              rw [List.getElem?_drop, setAtV_get _ _ _ _ (by simp; omega), if_pos (by simp; omega)]
              congr 1; omega
            · rw [List.getElem?_eq_none]; simp; omega
          rw [heq]; exact hrd
        · have : (l.set i x)[k] = l[k] := by simp [Ne.symm hki]
          rw [this]
          have heq : ((setAtV cs.toList (i * t.sz) v.cells.toList).drop (k * t.sz)).take t.sz = (cs.toList.drop (k * t.sz)).take t.sz := by
            apply List.ext_getElem?
            intro m
            rw [List.getElem?_take, List.getElem?_take]
            split
            · rename_i hm
              rw [List.getElem?_drop, List.getElem?_drop, setAtV_get _ _ _ _ (by simp; omega), if_neg ?_]
              simp only [Array.length_toList]
              rintro ⟨e1, e2⟩
              rcases Nat.lt_or_gt_of_ne hki with hlt' | hgt'
              · have := Nat.mul_le_mul_right t.sz (Nat.succ_le_of_lt hlt')
                rw [Nat.succ_mul] at this
                omega
              · have := Nat.mul_le_mul_right t.sz (Nat.succ_le_of_lt hgt')
                rw [Nat.succ_mul] at this
                omega
            · rfl
          rw [heq]; exact hc.2 k hk'
      obtain ⟨cells, g1, g2, g3, g4⟩ := setRow_ok hsz pv pa (v.cells.zipIdx.foldl (fun (cs : Array Value) (x : Value × Nat) => cs.setIfInBounds (i * t.sz + x.2) x.1) cs) (l.set i x) out (by simpa using hl)
        (fun k x y h1 h2 => hr (k + 1) x y (by simpa using h1) (by simpa using h2)) (by rw [hfold]; exact hnew)
        (by rw [← Array.length_toList, hfold, setAtV_len]; simpa using hsize) hf
      have hcsz : (v.cells.zipIdx.foldl (fun (cs : Array Value) (x : Value × Nat) => cs.setIfInBounds (i * t.sz + x.2) x.1) cs).size = cs.size := by
        rw [← Array.length_toList, hfold, setAtV_len]; simp
      refine ⟨cells, ?_, g2, by simpa using g3, g4.trans hcsz⟩
      simp only [Instr.fill]
      rw [if_neg (by simp only [Bool.or_eq_true, decide_eq_true_eq, ne_eq]; simp [hvs]; omega)]
      exact g1
    · cases hf
  | [], _ :: _, _, _, _, hl, _, _, _, _ => by simp at hl
  | _ :: _, [], _, _, _, hl, _, _, _, _ => by simp at hl

theorem mem_ownsOfVs : ∀ (vs : List AV) (v : AV), v ∈ vs → ∀ b, b ∈ ownsOf v.cells → b ∈ ownsOfVs vs
  | [], _, hm, _, _ => by simp at hm
  | u :: vs, v, hm, b, hb => by
    rcases List.mem_cons.1 hm with e | e
    · subst e; simp [ownsOfVs, hb]
    · simp [ownsOfVs, mem_ownsOfVs vs v e b hb]

theorem zipParts_mem : ∀ (ps : List (Nat × Operand)) (vs : List AV) (y : Nat × AV), y ∈ zipParts ps vs → y.2 ∈ vs
  | [], _, y, hm => by simp [zipParts] at hm
  | _ :: _, [], y, hm => by simp [zipParts] at hm
  | (i, o) :: ps, v :: vs, y, hm => by
    simp only [zipParts, List.mem_cons] at hm
    rcases hm with e | e
    · subst e; simp
    · exact List.mem_cons_of_mem _ (zipParts_mem ps vs y e)

theorem exec_buildSlice {t : TypeId} {n : Nat} {ps : Array (Nat × Operand)} {P : Program} {v : Value} (hr : (Instr.buildSlice t n (ps.map fun (i, x) => (i, ρ x))).run P w = .ok v w') :
    (execOp ρ ⟨dst, .buildSlice t n ps, ty, pos, aft, gd⟩).run P w = .ok (.value v) w' := by
  have : execOp ρ ⟨dst, .buildSlice t n ps, ty, pos, aft, gd⟩ = (do pure (Next.value (← Instr.buildSlice t n (ps.map fun (i, x) => (i, ρ x))))) := rfl
  rw [this]
  exact run_v hr

theorem op_buildSlice (hE : EnvOK E) (R : RelH w I μ h) (G : GOK g h) (hb : b0 ≤ h.length) (hh : h[b0]? = none ∨ h[b0]? = some .hole) {t : TypeId} {n : Nat} {ps : Array (Nat × Operand)} {vs : List AV}
    (hv : Reps w I h μ ρ (opnds E ⟨dst, .buildSlice t n ps, ty, pos, aft, gd⟩) vs)
    (hf : fCore E ⟨dst, .buildSlice t n ps, ty, pos, aft, gd⟩ vs g b0 = some fr) : OpOK E ⟨dst, .buildSlice t n ps, ty, pos, aft, gd⟩ ρ w I h μ fr := by
  obtain ⟨hl, hr⟩ := reps_parts (f := fun i => fieldTy (E.ti t).ud i) ps.toList vs hv
  have hps : (ps.map fun (i, x) => (i, ρ x)).toList = ps.toList.map fun (i, x) => (i, ρ x) := by simp
  simp only [fCore] at hf
  split at hf
  · rename_i u hty
    split at hf
    · rename_i l hl'
      obtain ⟨hck, hf⟩ := chk_some hf
      cases hf
      simp only [Bool.and_eq_true, Nat.ble_eq, Bool.not_eq_true'] at hck
      obtain ⟨⟨hnot, hsz1⟩, hsmall⟩ := hck
      obtain ⟨e, hud, hte⟩ := hE.sl t u hty
      have hu := hE.und t (kn_ud (by rw [hud]; rfl))
      rw [hud] at hu
      have hu' : E.P.underlying t = some (.slice e) := hu
      obtain ⟨hes, hek, ie', z, hie', hz, hzr⟩ := hE.ty e u hte
      obtain ⟨ie, hie, his, _⟩ := hE.info e hek
      rw [hie] at hie'; injection hie' with hie'; subst hie'
      obtain ⟨I1, R1, F1, M1, _, hfz, hoth⟩ := frz_ok (ownsOfVs vs) I h R G.f
      have hnot' : b0 ∉ ownsOfVs vs := by simpa using hnot
      have hb1 : b0 ≤ (hputs h (frz g (ownsOfVs vs))).length := by
        rcases Nat.lt_or_ge b0 h.length with hlt | hge
        · rcases hh with hh | hh
          · rw [List.getElem?_eq_getElem hlt] at hh; cases hh
          · have := (hoth b0 hnot').trans hh
            have := (List.getElem?_eq_some_iff.1 this).1
            omega
        · refine Nat.le_of_not_lt fun hlt => ?_
          have hb0 : b0 = h.length := by omega
          cases hq : h.length with
          | zero => omega
          | succ m =>
            have hm : h[m]? = some h[m] := List.getElem?_eq_getElem (by omega)
            obtain ⟨y, hy, _⟩ := M1.kept m _ hm
            have := (List.getElem?_eq_some_iff.1 hy).1
            omega
      have hh1 : (hputs h (frz g (ownsOfVs vs)))[b0]? = none ∨ (hputs h (frz g (ownsOfVs vs)))[b0]? = some .hole := by
        rw [hoth b0 hnot']; exact hh
      have hparts : ∀ (k : Nat) (x : Nat × Value) (y : Nat × AV), ((ps.map fun (i, x) => (i, ρ x)).toList)[k]? = some x → (zipParts ps.toList vs)[k]? = some y →
          x.1 = y.1 ∧ (plainA y.2 = true → CRep w I1 (hputs h (frz g (ownsOfVs vs))) μ x.2.cells.toList (y.2.cells.map (res1 g))) := by
        intro k x y e1 e2
        rw [hps] at e1
        obtain ⟨h1, h2⟩ := hr k x y e1 e2
        refine ⟨h1, fun hpl => ?_⟩
        have hcr := rep_cells' (h2.step R F1 M1) hpl
        refine ⟨by simpa using hcr.1, fun k' u' c e3 e4 => ?_⟩
        rw [List.getElem?_map] at e4
        cases hq : y.2.cells[k']? with
        | none => rw [hq] at e4; cases e4
        | some c0 =>
          rw [hq] at e4
          simp at e4
          subst e4
          refine res1_ok R1 (hcr.2 k' u' c0 e3 hq) fun t3 b3 full e5 t' l' fr' e6 => hfz b3 ?_ t' l' fr' e6
          subst e5
          exact mem_ownsOfVs vs y.2 (zipParts_mem _ _ _ (List.mem_of_getElem? e2)) b3 (mem_ownsOf _ _ _ _ (List.mem_of_getElem? hq))
      obtain ⟨cells, g1, g2, g3, g4⟩ := setRow_ok hsz1 _ _ ((Array.range (n * u.sz)).map (z.cells[· % z.cells.size]!)) _ l (by rw [hps, hl]; simp) hparts (zero_rows (hzr w I1) n hsz1) (by simp) hl'
      have hln : l.length = n := by simpa using g3
      have hcn : cells.size = n * u.sz := by simpa using g4
      have hisz : ie.size = u.sz := his.trans hes
      obtain ⟨r1, r2, r3, r4⟩ := lay_arr R1 hb1 hh1 g2 e n true (by omega) (fun _ => hln.symm) (by omega)
      rw [hln] at r1
      have hrun : (Instr.buildSlice t n (ps.map fun (i, x) => (i, ρ x))).run E.P w = .ok (.slice (some ⟨w.heap.size, 0, none⟩) n n) (w.alloc (.cells cells e (0, 0))) := by
        by_cases hn : n = 0
        · subst hn
          have hfill : Instr.fill (fun i => some (i * ie.size, ie.size)) #[] (ps.map fun (i, x) => (i, ρ x)).toList = some cells := by
            rw [hisz]; simpa [Array.range_zero'] using g1
          simp [Instr.buildSlice, run_underlying hu', sizeOf, typeInfo, hie, newRow, Array.range_zero'] at hfill ⊢
          rw [hfill]; rfl
        · refine run_buildSlice w t e n _ cells ie z hu' hie hz (by rw [hisz]; omega) ?_ (by rw [hisz]; exact g1)
          rw [hisz]
          have := Nat.mul_pos (Nat.pos_of_ne_zero hn) hsz1
          omega
      have hrun' : (execOp ρ ⟨dst, .buildSlice t n ps, ty, pos, aft, gd⟩).run E.P w = .ok (.value (.slice (some ⟨w.heap.size, 0, none⟩) n n)) (w.alloc (.cells cells e (0, 0))) :=
        exec_buildSlice hrun
      refine ⟨_, _, _, I1, upd μ b0 w.heap.size, hrun', .inl rfl, ?_, ?_, ?_, ?_⟩
      · simp only [hputs_app, hputs]; exact r1
      · simp only [hputs_app, hputs]; exact r2
      · simp only [hputs_app, hputs]; exact F1.trans r3
      · simp only [hputs_app, hputs]; exact M1.trans r4
    · cases hf
  · cases hf

theorem op_makeSlice (hE : EnvOK E) (R : RelH w I μ h) (hb : b0 ≤ h.length) (hh : h[b0]? = none ∨ h[b0]? = some .hole) {t : TypeId} {x y : Operand} {vs : List AV}
    (hv : Reps w I h μ ρ (opnds E ⟨dst, .makeSlice t x y, ty, pos, aft, gd⟩) vs)
    (hf : fCore E ⟨dst, .makeSlice t x y, ty, pos, aft, gd⟩ vs g b0 = some fr) (hc : ∀ c ∈ fr.cs, c.p) : OpOK E ⟨dst, .makeSlice t x y, ty, pos, aft, gd⟩ ρ w I h μ fr := by
  match vs, hv with
  | [a, b], hv =>
    cases a <;> try (simp [fCore] at hf; done)
    rename_i k1 n
    cases b <;> try (simp [fCore] at hf; done)
    rename_i k2 m
    obtain ⟨hx, hy, _⟩ := hv
    simp only [fCore] at hf
    split at hf
    · rename_i u e hty hud
      obtain ⟨hck, hf⟩ := chk_some hf
      cases hf
      have hsz1 : 1 ≤ u.sz := by simpa using hck
      have e1 : n = m := hc ⟨_, inferInstance⟩ (by simp)
      have h0 : 0 ≤ n := hc ⟨_, inferInstance⟩ (by simp)
      have hsum : n.toNat * (E.ti e).bytes ≤ 140737488355328 ∧ n.toNat ≤ 140737488355328 := hc (sumOk n.toNat (E.ti e).bytes) (by simp)
      subst e1
      obtain ⟨e', hud', hte⟩ := hE.sl t u hty
      rw [hud] at hud'; cases hud'
      have hu := hE.und t (kn_ud (by rw [hud]; rfl))
      rw [hud] at hu
      have hu' : E.P.underlying t = some (.slice e) := hu
      obtain ⟨hes, hek, ie', z, hie', hz, hzr⟩ := hE.ty e u hte
      obtain ⟨ie, hie, his, hib⟩ := hE.info e hek
      rw [hie] at hie'; injection hie' with hie'; subst hie'
      have hisz : ie.size = u.sz := his.trans hes
      obtain ⟨N, rfl⟩ : ∃ N : Nat, n = (N : Int) := ⟨n.toNat, by omega⟩
      simp only [Int.toNat_natCast] at hsum
      have hrows := zero_rows (hzr w I) N hsz1
      obtain ⟨r1, r2, r3, r4⟩ := lay_arr R hb hh hrows e N true (by simp) (fun _ => by simp) (by simp)
      have hwrap : IntKind.i64.wrap (N : Int) = (N : Int) := by
        simp [IntKind.wrap, IntKind.bits, IntKind.signed]
        omega
      have hzv : (zeroValue e).run E.P w = .ok z w := by simp [zeroValue, typeInfo, hie, hz]
      have hbig : ¬ ((2 : Int) ^ 48 < (ie.bytes : Int) * (N : Int)) := by
        have : ie.bytes * N ≤ 140737488355328 := by rw [hib, Nat.mul_comm]; exact hsum.1
        have : ((ie.bytes * N : Nat) : Int) ≤ 140737488355328 := by omega
        rw [Int.natCast_mul] at this
        omega
      have hrun : (Instr.makeSlice t (.int k1 N) (.int k2 N)).run E.P w = .ok (.slice (some ⟨w.heap.size, 0, none⟩) N N) (w.alloc (.cells ((Array.range (N * u.sz)).map (z.cells[· % z.cells.size]!)) e (0, 0))) := by
        unfold Instr.makeSlice
        simp only [Sem.run_bind, run_underlying hu', Result.andThen_ok, asInt, asIntOf, Sem.run_pure, typeInfo, run_program, hie, hwrap]
        rw [if_neg (by simp only [Bool.or_eq_true, decide_eq_true_eq, gt_iff_lt]; omega)]
        simp only [Sem.run_bind, Sem.run_pure, Result.andThen_ok, run_askRoom, sizeOf, typeInfo, run_program, hie, hisz, Int.toNat_natCast]
        by_cases hN : N * u.sz = 0
        · rw [if_pos hN]
          simp only [Sem.run_pure, Result.andThen_ok, hN, Array.range_zero', newRow, Sem.run_bind, run_newObj, Array.map_empty]
          rfl
        · rw [if_neg hN]
          simp only [Sem.run_bind, hzv, Sem.run_pure, Result.andThen_ok, newRow, run_newObj]
          rfl
      rw [List.length_replicate] at r1
      have hrun' : (execOp ρ ⟨dst, .makeSlice t x y, ty, pos, aft, gd⟩).run E.P w = .ok (.value (.slice (some ⟨w.heap.size, 0, none⟩) N N)) (w.alloc (.cells ((Array.range (N * u.sz)).map (z.cells[· % z.cells.size]!)) e (0, 0))) :=
        run_v (s := Instr.makeSlice t (ρ x) (ρ y)) (by rw [rep_int hx, rep_int hy]; exact hrun)
      exact ⟨_, _, _, I, upd μ b0 w.heap.size, hrun', .inl rfl, r1, r2, r3, r4⟩
    · cases hf
  | [], hv => exact hv.elim
  | [_], hv => exact hv.2.elim
  | _ :: _ :: _ :: _, hv => exact hv.2.2.elim
end
end Go.AM
