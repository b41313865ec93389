/-
  AM, part 15: append, the operation.
-/
import Derived.Test.YtfcigmcjgaipmaaDoorBMOpsA
namespace Go.AM
set_option linter.unusedSectionVars false
variable [Lay]
section
variable {E : Env} {w w' : World} {I I' : Nat → Nat → Prop} {h h' : Heap} {μ μ' : Nat → Option Nat} {ρ : Operand → Value} {g : Nat → AB} {b0 : Nat} {fr : FR}
variable {dst : Option Tmp} {ty : TypeId} {pos : String} {aft : Array Edge} {gd : Option (Nat × Bool)}

/-- The first cells of a slice, in whatever world has this one's memory. -/
def First (P : Program) (w : World) (sz n : Nat) (v : Value) (cs : List Value) : Prop :=
  cs.length = n * sz ∧ ∀ w1 : World, w1.heap = w.heap → (Builtin.firstCells sz n v).run P w1 = .ok cs.toArray w1

theorem cell_heap {w w1 : World} (hh : w1.heap = w.heap) (a : Addr) : w1.cell? a = w.cell? a := by unfold World.cell?; rw [hh]

theorem row_cells {P : Program} (R : RelH w I μ h) (G : GOK g h) {t : Ty} {v : Value} {y : AV} {ys : List t.den} (r : Rep w I h μ v y) (hy : rowOf g t y = some ys) :
    ∃ a c news, v = .slice a ys.length c ∧ ys.length ≤ c ∧ First P w t.sz ys.length v news ∧ RowRD w I t ys news ∧ (∀ u ∈ news, u.oneCell' = true) := by
  have empty : ∀ (a : Option Addr) (c : Nat), First P w t.sz 0 (.slice a 0 c) [] := by
    intro a c
    refine ⟨by simp, fun w1 _ => ?_⟩
    cases a with
    | none => exact run_firstCells_none w1 _ _ _ _
    | some a => exact run_firstCells_some w1 _ _ a _ _ [] (by simp) (fun j u hj => by simp at hj)
  cases r with
  | nilsl =>
    cases hy
    exact ⟨none, 0, [], rfl, Nat.le_refl _, empty _ _, ⟨by simp, fun k hk => by simp at hk⟩, fun u hu => by simp at hu⟩
  | sl t' l full a n cap hr hf =>
    simp only [rowOf] at hy
    split at hy
    · rename_i e
      subst e
      cases hy
      cases hr with
      | sl _ _ _ _ cs hcap hel hat =>
        by_cases h0 : l.length = 0
        · obtain rfl := List.eq_nil_of_length_eq_zero h0
          exact ⟨a, cap, [], rfl, hcap, empty _ _, ⟨by simp, fun k hk => by simp at hk⟩, fun u hu => by simp at hu⟩
        · obtain ⟨q, o, rfl, hc⟩ := hat (by omega)
          -- all cells, one element's behind the other's
          let news : List Value := (List.range (l.length * t'.sz)).map fun j => (cs (j / t'.sz)).getD (j % t'.sz) undef
          have hlen : ∀ i, i < l.length → (cs i).length = t'.sz := fun i hi => (hel i hi).len
          have hget : ∀ j, j < l.length * t'.sz → ∃ u, (cs (j / t'.sz))[j % t'.sz]? = some u ∧ news[j]? = some u ∧ j / t'.sz < l.length := by
            intro j hj
            have hpos : 0 < t'.sz := by
              rcases Nat.eq_zero_or_pos t'.sz with e | e
              · rw [e] at hj; simp at hj
              · exact e
            have h1 : j / t'.sz < l.length := Nat.div_lt_of_lt_mul (by rw [Nat.mul_comm]; exact hj)
            have h2 : j % t'.sz < t'.sz := Nat.mod_lt _ hpos
            have h3 : j % t'.sz < (cs (j / t'.sz)).length := by rw [hlen _ h1]; exact h2
            refine ⟨(cs (j / t'.sz))[j % t'.sz], List.getElem?_eq_getElem h3, ?_, h1⟩
            simp only [news, List.getElem?_map, List.getElem?_range hj, Option.map_some, List.getD_eq_getElem?_getD, List.getElem?_eq_getElem h3, Option.getD_some]
          have hnl : news.length = l.length * t'.sz := by simp [news]
          have hcell : ∀ j u, news[j]? = some u → w.cell? ((⟨q, o, none⟩ : Addr).add j) = some u := by
            intro j u hj
            have hlt : j < l.length * t'.sz := by
              have := (List.getElem?_eq_some_iff.1 hj).1
              omega
            obtain ⟨u', e1, e2, e3⟩ := hget j hlt
            rw [hj] at e2; cases e2
            have := (hc (j / t'.sz) e3 (j % t'.sz) u e1).1
            rw [Nat.div_add_mod'] at this
            rwa [Addr.add_lit]
          refine ⟨some ⟨q, o, none⟩, cap, news, rfl, hcap, ⟨hnl, fun w1 hw1 => run_firstCells_some w1 _ _ _ _ _ news hnl fun j u hj => (cell_heap hw1 _).trans (hcell j u hj)⟩, ⟨Nat.le_of_eq hnl.symm, fun k hk => ?_⟩, ?_⟩
          · have : (news.drop (k * t'.sz)).take t'.sz = cs k := by
              apply List.ext_getElem?
              intro m
              rw [List.getElem?_take]
              split
              · rename_i hm
                rw [List.getElem?_drop]
                have hrow : k * t'.sz + t'.sz ≤ l.length * t'.sz := by
                  have := Nat.mul_le_mul_right t'.sz hk
                  rw [Nat.succ_mul] at this
                  exact this
                obtain ⟨u', e1, e2, e3⟩ := hget (k * t'.sz + m) (by omega)
                rw [e2, ← e1]
                have h1 : (k * t'.sz + m) / t'.sz = k := by
                  rw [Nat.mul_comm, Nat.mul_add_div (by omega)]
                  rw [Nat.div_eq_of_lt hm]; omega
                have h2 : (k * t'.sz + m) % t'.sz = m := by
                  rw [Nat.mul_comm, Nat.mul_add_mod]
                  exact Nat.mod_eq_of_lt hm
                rw [h1, h2]
              · rw [List.getElem?_eq_none]
                rw [hlen k hk]; omega
            rw [this]
            exact hel k hk
          · intro u hu
            obtain ⟨j, hj, rfl⟩ := List.getElem_of_mem hu
            obtain ⟨u', e1, e2, e3⟩ := hget j (by omega)
            rw [List.getElem?_eq_getElem hj] at e2
            cases e2
            exact (hel _ e3).one _ (List.mem_of_getElem? e1)
    · cases hy
  | own t' b full a n cap ho =>
    simp only [rowOf] at hy
    split at hy
    · rename_i u l fr' hgb
      split at hy
      · rename_i e
        obtain ⟨rfl, e2⟩ := e
        subst e2
        cases hy
        have hb' := G.some hgb (by simp)
        obtain ⟨x, hx, h1, h2⟩ := ho
        rw [hb'] at hx; injection hx with hx; subst hx
        obtain ⟨_, rfl, h3, h4, h5⟩ := h2 _ _ _ rfl
        by_cases h0 : l.length = 0
        · obtain rfl := List.eq_nil_of_length_eq_zero h0
          exact ⟨a, cap, [], rfl, h3, empty _ _, ⟨by simp, fun k hk => by simp at hk⟩, fun u hu => by simp at hu⟩
        · rcases h5 with ⟨h5, _⟩ | ⟨q, us, e, h6, rfl, h8, h9⟩
          · omega
          · rcases R.blk b _ hb' with hnil | ⟨q', us', e', g1, g2, g3, g4, g5⟩
            · subst hnil; simp at h0
            · rw [h6] at g1; injection g1 with g1; subst g1
              obtain ⟨fz8, h8, hz8⟩ := h8
              obtain ⟨fz9, g2, _⟩ := g2
              rw [h8] at g2; injection g2 with g2; injection g2 with g2 _ _; subst g2
              have hnl : (us.toList.take (l.length * u.sz)).length = l.length * u.sz := by simp; omega
              refine ⟨some ⟨q, 0, none⟩, cap, us.toList.take (l.length * u.sz), rfl, h3, ⟨hnl, fun w1 hw1 => run_firstCells_some w1 _ _ _ _ _ _ hnl fun j v hj => ?_⟩, ⟨Nat.le_of_eq hnl.symm, fun k hk => ?_⟩, ?_⟩
              · rw [cell_heap hw1, Addr.add_lit, Nat.zero_add, cell_of_row w q j us e _ h8]
                rw [List.getElem?_take] at hj
                split at hj
                · simpa using hj
                · cases hj
              · have hrow : k * u.sz + u.sz ≤ l.length * u.sz := by
                  have := Nat.mul_le_mul_right u.sz hk
                  rw [Nat.succ_mul] at this
                  exact this
                have : ((us.toList.take (l.length * u.sz)).drop (k * u.sz)).take u.sz = (us.toList.drop (k * u.sz)).take u.sz := by
                  apply List.ext_getElem?
                  intro m
                  rw [List.getElem?_take, List.getElem?_take]
                  split
                  · rw [List.getElem?_drop, List.getElem?_drop, List.getElem?_take, if_pos (by omega)]
                  · rfl
                rw [this]
                exact g4 k hk
              · intro v hv
                obtain ⟨j, hj, rfl⟩ := List.getElem_of_mem hv
                have hj' : j < l.length * u.sz := by omega
                have hpos : 0 < u.sz := by
                  rcases Nat.eq_zero_or_pos u.sz with e | e
                  · rw [e] at hj'; simp at hj'
                  · exact e
                have h1 : j / u.sz < l.length := Nat.div_lt_of_lt_mul (by rw [Nat.mul_comm]; exact hj')
                have h2 : j % u.sz < u.sz := Nat.mod_lt _ hpos
                refine (g4 (j / u.sz) h1).one _ ?_
                refine List.mem_of_getElem? (i := j % u.sz) ?_
                rw [List.getElem?_take, if_pos h2, List.getElem?_drop, Nat.div_add_mod']
                have hju : j < us.toList.length := by simp; omega
                rw [List.getElem?_eq_getElem hju]
                simp
      · cases hy
    · cases hy
  | _ => simp [rowOf] at hy

theorem run_app {P : Program} {t e : TypeId} {i : TypeInfo} {z : Value} (hu : P.underlying t = some (.slice e)) (hi : P.info? e = some i) (hz : i.zero = some z) {base ya : Option Addr} {n cap m yc : Nat} {olds news : List Value}
    (ho : First P w i.size n (.slice base n cap) olds) (hn : First P w i.size m (.slice ya m yc) news) :
    ((n + m ≤ cap → news = [] → (Builtin.append_ #[t, t] ty #[.slice base n cap, .slice ya m yc]).run P w = .ok (.slice base (n + m) cap) w) ∧
    (n + m ≤ cap → ∀ q us e', base = some ⟨q, 0, none⟩ → CellsAt w q us e' → n * i.size + news.length ≤ us.size → (∀ u ∈ news, u.oneCell' = true) →
      (Builtin.append_ #[t, t] ty #[.slice base n cap, .slice ya m yc]).run P w = .ok (.slice base (n + m) cap) (w.setRow q (us.toList.take (n * i.size) ++ news ++ us.toList.drop (n * i.size + news.length)).toArray)) ∧
    (cap < n + m → n ≤ cap → (n + m) * i.bytes ≤ 140737488355328 → (n + m ≤ 140737488355328) →
      ∃ C, n + m ≤ C ∧ (Builtin.append_ #[t, t] ty #[.slice base n cap, .slice ya m yc]).run P w =
        .ok (.slice (some ⟨w.heap.size, 0, none⟩) (n + m) C) (w.drew.alloc (.cells (olds.toArray ++ news.toArray ++ Builtin.zeroCells z.cells (C - (n + m))) e (0, 0))))) := by
  refine ⟨fun hle hnil => ?_, fun hle q us e' hb hq hfit h1 => ?_, fun hlt hnc hby hsm => ⟨grownCap w (n + m) cap e, grownCap_ge w _ _ e, ?_⟩⟩
  · have hf := hn.2 w rfl
    rw [hnil] at hf
    cases base with
    | none => simp [Builtin.append_, run_underlying hu, sizeOf, typeInfo, hi, Builtin.lenOf, hle, hf]
    | some a => simp [Builtin.append_, run_underlying hu, sizeOf, typeInfo, hi, Builtin.lenOf, hle, hf, storeCells]
  · subst hb
    have hf := hn.2 w rfl
    obtain ⟨fz, hq, hz⟩ := hq
    have hst := run_storeCells_F (P := P) hq hz news (n * i.size) hfit h1
    simp [Builtin.append_, run_underlying hu, sizeOf, typeInfo, hi, Builtin.lenOf, hle, hf, Addr.add_lit, hst]
  · have hnot : ¬ (n + m ≤ cap) := by omega
    have h63' : ¬ (9223372036854775807 < ((n : Int) + (m : Int))) := by omega
    have h48' : ¬ (281474976710656 < Builtin.nextslicecap (n + m) cap * i.bytes) := by
      have := growslice_fits (need := n + m) (old := cap) (bytes := i.bytes) (by omega) hby
      omega
    have hf1 := ho.2 w.drew rfl
    have hf2 := hn.2 w.drew rfl
    have hzv : ∀ w1 : World, (zeroValue e).run P w1 = .ok z w1 := fun w1 => by simp [zeroValue, typeInfo, hi, hz]
    simp [Builtin.append_, run_underlying hu, sizeOf, typeInfo, hi, Builtin.lenOf, hnot, h63', h48', Question.forced, hf1, hf2, hzv, newRow, grownCap]
    congr 2
    rw [← Array.append_assoc]
    congr 1
    simp

theorem RowRD.app {t : Ty} {xs ys : List t.den} {olds news rest : List Value} (hx : RowRD w I t xs olds) (hy : RowRD w I t ys news) (hlx : olds.length = xs.length * t.sz) (hly : news.length = ys.length * t.sz) :
    RowRD w I t (xs ++ ys) (olds ++ news ++ rest) := by
  refine ⟨by simp [Nat.add_mul]; omega, fun k hk => ?_⟩
  have hk' : k < xs.length + ys.length := by simpa using hk
  by_cases h1 : k < xs.length
  · have hrow : k * t.sz + t.sz ≤ xs.length * t.sz := by
      have := Nat.mul_le_mul_right t.sz h1
      rw [Nat.succ_mul] at this
      exact this
    have e1 : (xs ++ ys)[k] = xs[k] := List.getElem_append_left h1
    have e2 : ((olds ++ news ++ rest).drop (k * t.sz)).take t.sz = (olds.drop (k * t.sz)).take t.sz := by
      apply List.ext_getElem?
      intro m
      rw [List.getElem?_take, List.getElem?_take]
      split
      · rw [List.getElem?_drop, List.getElem?_drop, List.append_assoc, List.getElem?_append_left (by omega)]
      · rfl
    rw [e1, e2]
    exact hx.2 k h1
  · have h2 : k - xs.length < ys.length := by omega
    have hrow : (k - xs.length) * t.sz + t.sz ≤ ys.length * t.sz := by
      have := Nat.mul_le_mul_right t.sz h2
      rw [Nat.succ_mul] at this
      exact this
    have e1 : (xs ++ ys)[k] = ys[k - xs.length] := List.getElem_append_right (by omega)
    have hks : k * t.sz = xs.length * t.sz + (k - xs.length) * t.sz := by rw [← Nat.add_mul]; congr 1; omega
    have e2 : ((olds ++ news ++ rest).drop (k * t.sz)).take t.sz = (news.drop ((k - xs.length) * t.sz)).take t.sz := by
      apply List.ext_getElem?
      intro m
      rw [List.getElem?_take, List.getElem?_take]
      split
      · rw [List.getElem?_drop, List.getElem?_drop, List.getElem?_append_left (by simp; omega), List.getElem?_append_right (by omega)]
        congr 1; omega
      · rfl
    rw [e1, e2]
    exact hy.2 _ h2

theorem hput_hput (x y : AB) : ∀ (h : Heap) (b : Nat), b ≤ h.length → hput (hput h b x) b y = hput h b y
  | [], 0, _ => rfl
  | [], b + 1, hb => by simp at hb
  | _ :: _, 0, _ => rfl
  | z :: r, b + 1, hb => by simp only [hput]; rw [hput_hput x y r b (by simpa using hb)]

/-- A new array, frozen or not. -/
theorem lay_arr' (R : RelH w I μ h) (hb : b0 ≤ h.length) (hh : h[b0]? = none ∨ h[b0]? = some .hole) {t : Ty} {l : List t.den} {cs : Array Value} (hr : RowRD w I t l cs.toList) (e : TypeId) (cap : Nat) (full frz : Bool)
    (h1 : l.length ≤ cap) (h2 : full = true → cap = l.length) (h3 : cap * t.sz ≤ cs.size) :
    ∃ I', Rep (w.alloc (.cells cs e (0, 0))) I' (hput h b0 (.arr t l frz)) (upd μ b0 w.heap.size) (.slice (some ⟨w.heap.size, 0, none⟩) l.length cap) (.own t b0 full) ∧
      RelH (w.alloc (.cells cs e (0, 0))) I' (upd μ b0 w.heap.size) (hput h b0 (.arr t l frz)) ∧
      Fr w (Wr h μ) I (w.alloc (.cells cs e (0, 0))) (Wr (hput h b0 (.arr t l frz)) (upd μ b0 w.heap.size)) I' ∧ HM h μ (hput h b0 (.arr t l frz)) (upd μ b0 w.heap.size) := by
  obtain ⟨r1, r2, r3, r4⟩ := lay_arr R hb hh hr e cap full h1 h2 h3
  cases frz with
  | true => exact ⟨I, r1, r2, r3, r4⟩
  | false =>
    have hget : (hput h b0 (.arr t l true))[b0]? = some (.arr t l true) := by rw [hput_get _ h b0 b0 hb, if_pos rfl]
    obtain ⟨I', R', F', M', _⟩ := r2.freeze hget
    rw [hput_hput _ _ h b0 hb] at R' F' M'
    exact ⟨I', r1.step r2 F' M', R', r3.trans F', r4.trans M'⟩

theorem Rep.drew {v : Value} {x : AV} (R : RelH w I μ h) (r : Rep w I h μ v x) : Rep w.drew I h μ v x := r.step R R.drew.2 (HM.refl h μ)
theorem RowRD.drew (R : RelH w I μ h) {t : Ty} {l : List t.den} {cs : List Value} (r : RowRD w I t l cs) : RowRD w.drew I t l cs :=
  ⟨r.1, fun k hk => (r.2 k hk).mono (R.cell R.drew.2) (fun _ _ h => h)⟩

/-- An empty array, of no block. -/
theorem RelH.layE (R : RelH w I μ h) (hb : b0 ≤ h.length) (hh : h[b0]? = none ∨ h[b0]? = some .hole) {t : Ty} :
    RelH w I (updO μ b0 none) (hput h b0 (.arr t [] true)) ∧ Fr w (Wr h μ) I w (Wr (hput h b0 (.arr t [] true)) (updO μ b0 none)) I ∧ HM h μ (hput h b0 (.arr t [] true)) (updO μ b0 none) := by
  have hget : ∀ i : Nat, (hput h b0 (.arr t [] true))[i]? = if i = b0 then some (.arr t [] true) else h[i]? := fun i => hput_get _ h b0 i hb
  have hWr : ∀ q o, Wr (hput h b0 (.arr t [] true)) (updO μ b0 none) q o → Wr h μ q o := by
    rintro q o ⟨i, hi, hx⟩
    by_cases hi0 : i = b0
    · subst hi0
      rw [updO_same] at hi; cases hi
    · rw [updO_ne _ _ hi0] at hi
      rw [hget, if_neg hi0] at hx
      exact ⟨i, hi, hx⟩
  have F : Fr w (Wr h μ) I w (Wr (hput h b0 (.arr t [] true)) (updO μ b0 none)) I :=
    ⟨rfl, rfl, rfl, Nat.le_refl _, fun _ _ _ => rfl, fun g vs e fz _ hv => ⟨vs, hv, rfl, fun _ _ => rfl⟩, fun _ _ hh => hh, fun q o hw => .inl (hWr q o hw), fun _ _ h => h, fun _ _ h => .inl h⟩
  have M : HM h μ (hput h b0 (.arr t [] true)) (updO μ b0 none) := by
    refine ⟨fun i x hx => ?_, fun i x y hx hy lx ly => ?_⟩
    · rw [hget]
      by_cases hi0 : i = b0
      · subst hi0
        rw [if_pos rfl]
        refine ⟨_, rfl, ?_⟩
        rcases hh with hh | hh
        · rw [hh] at hx; cases hx
        · rw [hh] at hx; cases hx; trivial
      · rw [if_neg hi0]
        obtain ⟨y, hy, k⟩ := (HM.refl h μ).kept i x hx
        rw [hx] at hy; cases hy
        exact ⟨x, hx, k⟩
    · by_cases hi0 : i = b0
      · subst hi0
        rcases hh with hh | hh
        · rw [hh] at hx; cases hx
        · rw [hh] at hx; cases hx; exact lx.elim
      · exact updO_ne _ _ hi0
  refine ⟨⟨?_, ?_, ?_, fun q o hi hw => R.disj q o hi (hWr q o hw), R.ilt, R.laid.step R.disj R.ilt F⟩, F, M⟩
  · intro i j x y q hi hj lx ly gi gj
    by_cases hi0 : i = b0
    · subst hi0; rw [updO_same] at gi; cases gi
    · by_cases hj0 : j = b0
      · subst hj0; rw [updO_same] at gj; cases gj
      · rw [updO_ne _ _ hi0] at gi; rw [updO_ne _ _ hj0] at gj
        rw [hget, if_neg hi0] at hi; rw [hget, if_neg hj0] at hj
        exact R.inj i j x y q hi hj lx ly gi gj
  · intro i x q hi lx gi
    by_cases hi0 : i = b0
    · subst hi0; rw [updO_same] at gi; cases gi
    · rw [updO_ne _ _ hi0] at gi; rw [hget, if_neg hi0] at hi
      exact R.lt i x q hi lx gi
  · intro i x hi
    by_cases hi0 : i = b0
    · subst hi0
      rw [hget, if_pos rfl] at hi; cases hi
      exact .inl rfl
    · rw [hget, if_neg hi0] at hi
      by_cases lx : live x
      · exact RepB.mono M F.shape (R.keptI F) F.im (fun _ => updO_ne _ _ hi0) (fun _ _ => rfl) (R.blk i x hi)
      · cases x with
        | hole => trivial
        | gone => trivial
        | var => exact absurd trivial lx
        | arr => exact absurd trivial lx
        | mp => exact absurd trivial lx

theorem own_empty {h1 : Heap} {t : Ty} {fr : Bool} (hb : b0 ≤ h1.length) (a : Option Addr) : Rep w I (hput h1 b0 (.arr t [] fr)) μ (.slice a 0 0) (.own t b0 false) := by
  refine .own t b0 false a 0 0 ⟨_, by rw [hput_get _ _ b0 b0 hb, if_pos rfl], by simp, fun t2 l2 fr2 e2 => ?_⟩
  cases e2
  exact ⟨rfl, rfl, Nat.le_refl _, fun hf => (by cases hf), .inl ⟨rfl, rfl⟩⟩

set_option maxHeartbeats 1000000 in
theorem op_append (hE : EnvOK E) (R : RelH w I μ h) (G : GOK g h) (hb : b0 ≤ h.length) (hh : h[b0]? = none ∨ h[b0]? = some .hole) {as : Array Operand} {ts : Array TypeId} {t u e : TypeId} {x y : AV}
    (hs : as.size = ts.size) (ht : ts.toList = [t, u]) (hud : (E.ti t).ud = .slice e)
    (hv : Reps w I h μ ρ (opnds E ⟨dst, .call { callee := .builtin .append, args := as, argTypes := ts }, ty, pos, aft, gd⟩) [x, y])
    (hf0 : chk (Nat.beq t u) (appendA (E.ti t) g b0 (E.ti e).bytes x y) = some fr) (hc : ∀ c ∈ fr.cs, c.p) :
    OpOK E ⟨dst, .call { callee := .builtin .append, args := as, argTypes := ts }, ty, pos, aft, gd⟩ ρ w I h μ fr := by
  obtain ⟨ox, oy, rfl, rfl⟩ := zip_two hs ht
  have hx : Rep w I h μ (ρ ox) x := hv.1
  have hy : Rep w I h μ (ρ oy) y := hv.2.1
  clear hv hs ht
  obtain ⟨htu, hf⟩ := chk_some hf0
  obtain rfl := Nat.eq_of_beq_eq_true htu
  clear hf0
  have hu := hE.und t (kn_ud (by rw [hud]; rfl))
  rw [hud] at hu
  have hu' : E.P.underlying t = some (.slice e) := hu
  unfold appendA at hf
  split at hf
  · rename_i τ hty
    obtain ⟨hsz1, hf⟩ := chk_some hf
    have hsz1 : 1 ≤ τ.sz := by simpa using hsz1
    obtain ⟨e', hud', hte⟩ := hE.sl t τ hty
    rw [hud] at hud'; cases hud'
    obtain ⟨hes, hek, ie', z, hie', hz, hzr⟩ := hE.ty e τ hte
    obtain ⟨ie, hie, his, hib⟩ := hE.info e hek
    rw [hie] at hie'; injection hie' with hie'; subst hie'
    have hisz : ie.size = τ.sz := his.trans hes
    have hzs : z.cells.size = τ.sz := by have := (hzr w I).len; simpa using this
    split at hf
    · rename_i ys hys
      obtain ⟨ya, yc, news, hyv, hyc, hyF, hyR, hyo⟩ := row_cells (P := E.P) R G hy hys
      have exec : ∀ {v : Value} {w' : World}, (Builtin.append_ #[t, t] ty #[ρ ox, ρ oy]).run E.P w = .ok v w' → (execOp ρ ⟨dst, .call { callee := .builtin .append, args := #[ox, oy], argTypes := #[t, t] }, ty, pos, aft, gd⟩).run E.P w = .ok (.value v) w' :=
        fun hr => run_builtin rfl (by simpa using hr)
      have hyF' : First E.P w ie.size ys.length (.slice ya ys.length yc) news := by rw [hisz, ← hyv]; exact hyF
      have hyl : news.length = ys.length * τ.sz := hyF.1
      -- a new row, out of what is read
      have grow : ∀ {h1 : Heap} {xs : List τ.den} {olds : List Value} {base : Option Addr} {n cap : Nat} (frz : Bool), RelH w I μ h1 → b0 ≤ h1.length → (h1[b0]? = none ∨ h1[b0]? = some .hole) → n = xs.length → RowRD w I τ xs olds →
          First E.P w ie.size n (.slice base n cap) olds → cap < n + ys.length → n ≤ cap → sumOk (n + ys.length) (E.ti e).bytes → ρ ox = .slice base n cap →
          ∃ v' w' I', (execOp ρ ⟨dst, .call { callee := .builtin .append, args := #[ox, oy], argTypes := #[t, t] }, ty, pos, aft, gd⟩).run E.P w = .ok (.value v') w' ∧
            Rep w' I' (hput h1 b0 (.arr τ (xs ++ ys) frz)) (upd μ b0 w.heap.size) v' (.own τ b0 false) ∧ RelH w' I' (upd μ b0 w.heap.size) (hput h1 b0 (.arr τ (xs ++ ys) frz)) ∧
            Fr w (Wr h1 μ) I w' (Wr (hput h1 b0 (.arr τ (xs ++ ys) frz)) (upd μ b0 w.heap.size)) I' ∧ HM h1 μ (hput h1 b0 (.arr τ (xs ++ ys) frz)) (upd μ b0 w.heap.size) := by
        intro h1 xs olds base n cap frz R1 hb1 hh1 hn hxR hxF hlt hnc hsum hxv
        obtain ⟨_, _, h3⟩ := run_app (P := E.P) (ty := ty) hu' hie hz hxF hyF'
        have hsum1 : (n + ys.length) * (E.ti e).bytes ≤ 140737488355328 ∧ n + ys.length ≤ 140737488355328 := hsum
        obtain ⟨C, hC, hrun⟩ := h3 hlt hnc (by rw [hib]; exact hsum1.1) hsum1.2
        have hrow : RowRD w.drew I τ (xs ++ ys) (olds.toArray ++ news.toArray ++ Builtin.zeroCells z.cells (C - (n + ys.length))).toList := by
          have := (RowRD.app (rest := (Builtin.zeroCells z.cells (C - (n + ys.length))).toList) hxR hyR (by rw [hxF.1, hisz, hn]) hyF.1).drew R1
          simpa using this
        have hlen : (xs ++ ys).length = n + ys.length := by simp [hn]
        obtain ⟨I', r1, r2, r3, r4⟩ := lay_arr' (R1.drew).1 hb1 hh1 hrow e C false frz (by omega) (fun hf => by cases hf) (by
          have h1 := hxF.1
          have h2 := hyF.1
          simp only [Array.size_append, List.size_toArray, size_zeroCells, hzs, h1, h2, hisz, ← Nat.add_mul]
          refine Nat.mul_le_mul_right _ ?_
          omega)
        rw [hlen] at r1
        refine ⟨_, _, I', exec (by rw [hxv, hyv]; exact hrun), r1, r2, (R1.drew).2.trans r3, r4⟩
      have same : ys.length = 0 → ∀ {base : Option Addr} {n cap : Nat} {olds : List Value}, First E.P w ie.size n (.slice base n cap) olds → n ≤ cap → ρ ox = .slice base n cap →
          (execOp ρ ⟨dst, .call { callee := .builtin .append, args := #[ox, oy], argTypes := #[t, t] }, ty, pos, aft, gd⟩).run E.P w = .ok (.value (.slice base n cap)) w := by
        intro h0 base n cap olds hxF hnc hxv
        have hn0 : news = [] := List.eq_nil_of_length_eq_zero (by rw [hyl, h0]; simp)
        obtain ⟨h1, _, _⟩ := run_app (P := E.P) (ty := ty) hu' hie hz hxF hyF'
        have hrun := h1 (by omega) hn0
        rw [h0] at hrun
        refine exec ?_
        rw [hxv, hyv, h0]
        exact hrun
      split at hf
      · -- data that is read, and has no room
        rename_i t' xs full _
        split at hf
        · rename_i he
          subst he
          cases hf
          have hful : full = true := hc ⟨_, inferInstance⟩ (by simp)
          have hor : xs.length = 0 ∨ 0 < ys.length := hc ⟨_, inferInstance⟩ (by simp)
          have hsum : sumOk (xs.length + ys.length) (E.ti e).bytes := hc ⟨_, inferInstance⟩ (by simp)
          obtain ⟨xa, xc, olds, hxv, hxc, hxF, hxR, _⟩ := row_cells (P := E.P) R G (t := t') (ys := xs) hx (by simp [rowOf])
          have hcap : xc = xs.length := by
            generalize hq : ρ ox = q at hx
            cases hx with
            | sl _ _ _ a n cap hr hfl =>
              rw [hxv] at hq
              injection hq with _ q2 q3
              have := hfl hful
              omega
          have hxF' : First E.P w ie.size xs.length (.slice xa xs.length xc) olds := by rw [hisz, ← hxv]; exact hxF
          by_cases hy0 : ys.length = 0
          · -- nothing is added to nothing
            have hx0 : xs.length = 0 := by omega
            obtain rfl := List.eq_nil_of_length_eq_zero hy0
            obtain rfl := List.eq_nil_of_length_eq_zero hx0
            obtain ⟨r1, r2, r3⟩ := R.layE (t := t') hb hh
            refine ⟨_, _, w, I, updO μ b0 none, same rfl hxF' hxc hxv, .inl rfl, ?_, r1, r2, r3⟩
            subst hcap
            exact own_empty hb xa
          · obtain ⟨v', w', I', g1, g2, g3, g4, g5⟩ := grow true R hb hh rfl hxR hxF' (by omega) (by omega) hsum hxv
            exact ⟨v', _, w', I', _, g1, .inl rfl, g2, g3, g4, g5⟩
        · cases hf
      · -- nil
        cases hf
        have hsum : sumOk ys.length (E.ti e).bytes := hc ⟨_, inferInstance⟩ (by simp)
        obtain ⟨xa, xc, olds, hxv, hxc, hxF, hxR, _⟩ := row_cells (P := E.P) R G (t := τ) (ys := []) hx (by simp [rowOf])
        have hxv' : ρ ox = .slice none 0 0 := by generalize ρ ox = q at hx; cases hx; rfl
        have hxF' : First E.P w ie.size 0 (.slice none 0 0) olds := by rw [hisz, ← hxv']; exact hxF
        by_cases hy0 : ys.length = 0
        · obtain rfl := List.eq_nil_of_length_eq_zero hy0
          obtain ⟨r1, r2, r3⟩ := R.layE (t := τ) hb hh
          exact ⟨_, _, w, I, updO μ b0 none, same rfl hxF' (Nat.le_refl _) hxv', .inl rfl, own_empty hb none, r1, r2, r3⟩
        · obtain ⟨v', w', I', g1, g2, g3, g4, g5⟩ := grow (xs := []) true R hb hh rfl hxR hxF' (by omega) (Nat.le_refl _) (by simpa using hsum) hxv'
          exact ⟨v', _, w', I', _, g1, .inl rfl, g2, g3, g4, g5⟩
      · -- a row of one's own
        rename_i t' b full _
        split at hf
        · rename_i u' l frz hgb
          split at hf
          · rename_i he
            obtain ⟨e1, e2⟩ := he
            subst e1
            subst e2
            cases hf
            have hsum : sumOk (l.length + ys.length) (E.ti e).bytes := hc ⟨_, inferInstance⟩ (by simp)
            obtain ⟨xa, xc, hxv, _, hxc, _, hat, hbb⟩ := own_len G hx hgb
            obtain ⟨xa', xc', olds, hxv', _, hxF, hxR, _⟩ := row_cells (P := E.P) R G (t := u') (ys := l) hx (by simp [rowOf, hgb])
            rw [hxv] at hxv'
            injection hxv' with q1 _ q3
            subst q1; subst q3
            have hxF' : First E.P w ie.size l.length (.slice xa l.length xc) olds := by rw [hisz, ← hxv]; exact hxF
            have hbne : b ≠ b0 := by
              rintro rfl
              rcases hh with hh | hh <;> rw [hbb] at hh <;> cases hh
            have hblt : b < h.length := (List.getElem?_eq_some_iff.1 hbb).1
            by_cases hroom : l.length + ys.length ≤ xc
            · rcases hat with ⟨h5, h6⟩ | ⟨q, us, e', h6, rfl, h8, h9⟩
              · -- nothing is added to nothing
                have hy0 : ys.length = 0 := by omega
                obtain rfl := List.eq_nil_of_length_eq_zero hy0
                obtain rfl := List.eq_nil_of_length_eq_zero h5
                obtain ⟨I', r1, r2, r3⟩ := R.adopt (w' := w) (l' := ([] : List u'.den)) hbb hb hh none (fun q hq => by cases hq) (fun _ => ⟨rfl, rfl⟩) (fun _ => Nat.le_refl _) rfl rfl rfl rfl
                refine ⟨_, _, w, I', updO μ b0 none, same rfl hxF' hxc hxv, .inl rfl, ?_, r1, r2, r3⟩
                have hb1 : b0 ≤ (hput h b .gone).length := Nat.le_trans hb (hput_len _ h b (by omega))
                subst h6
                exact own_empty (fr := frz) hb1 xa
              · -- in its own room
                have hlz : l.length * u'.sz + ys.length * u'.sz ≤ us.size := by
                  rw [← Nat.add_mul]
                  exact Nat.le_trans (Nat.mul_le_mul_right _ hroom) h9
                obtain ⟨_, h2, _⟩ := run_app (P := E.P) (ty := ty) hu' hie hz hxF' hyF'
                have hrun := h2 hroom q us e' rfl h8 (by rw [hisz, hyl]; exact hlz) hyo
                obtain ⟨fz8, h8, hz8⟩ := h8
                rw [hisz] at hrun
                rw [← laid_eq us.toList news (l.length * u'.sz) (by rw [hyl]; simpa using hlz)] at hrun
                obtain ⟨I', r1, r2, r3⟩ := R.adopt (w' := w.setRow q (setAtV us.toList (l.length * u'.sz) news).toArray) (l' := l ++ ys) hbb hb hh (some q)
                  (fun q' hq' => by
                    injection hq' with hq'
                    subst hq'
                    refine ⟨h6, us, _, e', ⟨fz8, hz8, h8, setRow_heap w q us _ e' _ h8⟩, by simp [setAtV_len], fun k hk => setRow_other w q k _ hk, fun o _ ho => ?_, fun I'' hmono => ?_⟩
                    · simp only [List.getElem?_toArray]
                      rw [setAtV_get _ _ _ _ (by rw [hyl]; simpa using hlz), if_neg (by omega)]
                      simp
                    · have holds : olds = us.toList.take (l.length * u'.sz) := by
                        have h1 := hxF.2 w rfl
                        rw [hxv] at h1
                        have h2 := run_firstCells_some (P := E.P) w u'.sz l.length ⟨q, 0, none⟩ l.length xc (us.toList.take (l.length * u'.sz)) (by simp; omega) (fun j v hj => by
                          rw [Addr.add_lit, Nat.zero_add, cell_of_row w q j us e' _ h8]
                          rw [List.getElem?_take] at hj
                          split at hj
                          · simpa using hj
                          · cases hj)
                        rw [h1] at h2
                        injection h2 with h2 _
                        simpa using h2
                      have hrow := RowRD.app (rest := us.toList.drop (l.length * u'.sz + news.length)) hxR hyR hxF.1 hyl
                      rw [holds] at hrow
                      have e3 : ((setAtV us.toList (l.length * u'.sz) news).toArray).toList = us.toList.take (l.length * u'.sz) ++ news ++ us.toList.drop (l.length * u'.sz + news.length) :=
                        laid_eq us.toList news (l.length * u'.sz) (by rw [hyl]; simpa using hlz)
                      rw [e3]
                      exact ⟨hrow.1, fun k hk => hmono _ _ _ (hrow.2 k hk)⟩)
                  (fun hq' => by cases hq') (by simp) rfl rfl rfl (by simp)
                refine ⟨_, _, _, I', updO μ b0 (some q), exec (by rw [hxv, hyv]; exact hrun), .inl rfl, ?_, r1, r2, r3⟩
                have hb1 : b0 ≤ (hput h b .gone).length := Nat.le_trans hb (hput_len _ h b (by omega))
                refine .own u' b0 false _ _ xc ⟨_, by simp only [hputs]; rw [hput_get _ _ b0 b0 hb1, if_pos rfl], by simp, fun t2 l2 fr2 e2 => ?_⟩
                cases e2
                exact ⟨rfl, by simp, hroom, fun hf => (by cases hf), .inr ⟨q, _, e', updO_same _ _ _, rfl, ⟨fz8, setRow_heap w q us _ e' _ h8, by simpa [setAtV_len] using hz8⟩, by simpa [setAtV_len] using h9⟩⟩
            · -- a new row
              obtain ⟨R1, F1, M1⟩ := R.drop hbb
              have hb1 : b0 ≤ (hput h b .gone).length := Nat.le_trans hb (hput_len _ h b (by omega))
              have hh1 : (hput h b .gone)[b0]? = none ∨ (hput h b .gone)[b0]? = some .hole := by
                rw [hput_get _ h b b0 (by omega), if_neg (Ne.symm hbne)]; exact hh
              obtain ⟨v', w', I', g1, g2, g3, g4, g5⟩ := grow frz R1 hb1 hh1 rfl hxR hxF' (by omega) hxc hsum hxv
              exact ⟨v', _, w', I', _, g1, .inl rfl, g2, g3, F1.trans g4, M1.trans g5⟩
          · cases hf
        · cases hf
      · cases hf
    · cases hf
  · cases hf
end
end Go.AM
