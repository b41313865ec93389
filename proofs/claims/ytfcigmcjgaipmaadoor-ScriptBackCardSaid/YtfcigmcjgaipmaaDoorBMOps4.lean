/-
  AM, part 8: the operations that read memory.
-/
import Derived.Test.YtfcigmcjgaipmaaDoorBMOps3
namespace Go.AM
set_option linter.unusedSectionVars false
variable [Lay]
section
variable {E : Env} {w : World} {I : Nat → Nat → Prop} {h : Heap} {μ : Nat → Option Nat} {ρ : Operand → Value} {g : Nat → AB} {b0 : Nat} {fr : FR}
variable {dst : Option Tmp} {ty : TypeId} {pos : String} {aft : Array Edge} {gd : Option (Nat × Bool)}

theorem run_builtin {P : Program} {b : Builtin} {as : Array Operand} {ts : Array TypeId} {v : Value} {w' : World} {s : Sem Value}
    (hb : builtin b ts ty (as.map fun | .const _ => true | _ => false) (as.map ρ) = (do pure (Next.value (← s)))) (hs : s.run P w = .ok v w') :
    (execOp ρ ⟨dst, .call { callee := .builtin b, args := as, argTypes := ts }, ty, pos, aft, gd⟩).run P w = .ok (.value v) w' := by
  show (do let d ← resolve ρ { callee := .builtin b, args := as, argTypes := ts } ty; invoke d.target d.args : Sem Next).run P w = _
  rw [Sem.run_bind]
  exact (congrArg (fun z => Sem.run P z w) hb).trans (run_v hs)

/-- The operands of a builtin's call with one type each. -/
theorem zip_one {as : Array Operand} {ts : Array TypeId} {t : TypeId} (hs : as.size = ts.size) (ht : ts.toList = [t]) : ∃ x, as = #[x] ∧ ts = #[t] := by
  have h1 : ts = #[t] := by rw [← Array.toArray_toList (xs := ts), ht]
  subst h1
  match as, hs with
  | ⟨[x]⟩, _ => exact ⟨x, rfl, rfl⟩
theorem zip_two {as : Array Operand} {ts : Array TypeId} {t u : TypeId} (hs : as.size = ts.size) (ht : ts.toList = [t, u]) : ∃ x y, as = #[x, y] ∧ ts = #[t, u] := by
  have h1 : ts = #[t, u] := by rw [← Array.toArray_toList (xs := ts), ht]
  subst h1
  match as, hs with
  | ⟨[x, y]⟩, _ => exact ⟨x, y, rfl, rfl⟩

theorem run_len_sl {P : Program} {t e : TypeId} (hu : P.underlying t = some (.slice e)) (a : Option Addr) (n cap : Nat) : (Builtin.len_ #[t] ty #[.slice a n cap]).run P w = .ok (.int .i64 (n : Int)) w := by
  unfold Builtin.len_
  simp [run_underlying hu, goInt]
theorem run_len_str {P : Program} {t : TypeId} (hu : P.underlying t = some .string) (s : ByteArray) : (Builtin.len_ #[t] ty #[.string s]).run P w = .ok (.int .i64 (s.size : Int)) w := by
  unfold Builtin.len_
  simp [run_underlying hu, goInt]

theorem own_len (G : GOK g h) {v : Value} {t t' : Ty} {b : Nat} {full fr' : Bool} {l : List t'.den} (r : Rep w I h μ v (.own t b full)) (hb : g b = .arr t' l fr') :
    ∃ a cap, v = .slice a l.length cap ∧ t' = t ∧ l.length ≤ cap ∧ (full = true → cap = l.length) ∧
      ((l.length = 0 ∧ cap = 0) ∨ ∃ q vs e, μ b = some q ∧ a = some ⟨q, 0, none⟩ ∧ CellsAt w q vs e ∧ cap * t.sz ≤ vs.size) ∧ h[b]? = some (.arr t' l fr') := by
  cases r with
  | own _ _ _ a n cap ho =>
    have hb' := G.some hb (by simp)
    obtain ⟨x, hx, h1, h2⟩ := ho
    rw [hb'] at hx; injection hx with hx; subst hx
    obtain ⟨rfl, rfl, h3, h4, h5⟩ := h2 _ _ _ rfl
    exact ⟨a, cap, rfl, rfl, h3, h4, h5, hb'⟩

theorem op_len (hE : EnvOK E) (R : RelH w I μ h) (G : GOK g h) {as : Array Operand} {ts : Array TypeId} {t : TypeId} {x : AV} (hs : as.size = ts.size) (ht : ts.toList = [t])
    (hv : Reps w I h μ ρ (opnds E ⟨dst, .call { callee := .builtin .len, args := as, argTypes := ts }, ty, pos, aft, gd⟩) [x])
    (hf : lenA (E.ti t).ud g x = some fr) : OpOK E ⟨dst, .call { callee := .builtin .len, args := as, argTypes := ts }, ty, pos, aft, gd⟩ ρ w I h μ fr := by
  obtain ⟨o, rfl, rfl⟩ := zip_one hs ht
  have hx : Rep w I h μ (ρ o) x := hv.1
  unfold lenA at hf
  split at hf
  · rename_i s hud
    cases hf
    have hu := hE.und t (kn_ud (by rw [hud]; rfl))
    rw [hud] at hu
    refine .quiet R rfl (.int .i64 (s.length : Int)) (run_builtin rfl ?_) (.int _ _)
    have e := run_len_str (w := w) (ty := ty) hu ⟨s.toArray⟩
    rw [str_size] at e
    simpa [rep_str hx] using e
  · rename_i e _ l full hud
    cases hf
    have hu := hE.und t (kn_ud (by rw [hud]; rfl))
    rw [hud] at hu
    obtain ⟨a, cap, hq⟩ : ∃ a cap, ρ o = .slice a l.length cap := by
      generalize ρ o = q at hx
      cases hx with
      | sl _ _ _ a n cap hr _ => cases hr; exact ⟨_, _, rfl⟩
    refine .quiet R rfl (.int .i64 (l.length : Int)) (run_builtin rfl ?_) (.int _ _)
    simpa [hq] using run_len_sl (w := w) (ty := ty) hu a l.length cap
  · rename_i e hud
    cases hf
    have hu := hE.und t (kn_ud (by rw [hud]; rfl))
    rw [hud] at hu
    have hq : ρ o = .slice none 0 0 := by generalize ρ o = q at hx; cases hx; rfl
    refine .quiet R rfl (.int .i64 0) (run_builtin rfl ?_) (.int _ _)
    simpa [hq] using run_len_sl (w := w) (ty := ty) hu none 0 0
  · rename_i e _ b _ hud
    split at hf
    · rename_i t' l fr' hb
      cases hf
      have hu := hE.und t (kn_ud (by rw [hud]; rfl))
      rw [hud] at hu
      obtain ⟨a, cap, hq, _⟩ := own_len G hx hb
      refine .quiet R rfl (.int .i64 (l.length : Int)) (run_builtin rfl ?_) (.int _ _)
      simpa [hq] using run_len_sl (w := w) (ty := ty) hu a l.length cap
    · cases hf
  · cases hf

theorem addC_some {cs : List DP} {x : Option FR} {fr : FR} (h : addC cs x = some fr) : ∃ fr0, x = some fr0 ∧ fr = ⟨fr0.v, fr0.ws, cs ++ fr0.cs⟩ := by
  unfold addC at h
  split at h
  · rename_i fr0; cases h; exact ⟨fr0, rfl, rfl⟩
  · cases h

theorem aggInts_at {k : IntKind} {l : List Int} : ∀ (n i j : Nat) (c : AV), (aggInts k l i n)[j]? = some c → j < n ∧ c = .int k (elt (.int k) l (i + j))
  | 0, _, _, _, h => by simp [aggInts] at h
  | n + 1, i, j, c, h => by
    cases j with
    | zero =>
      simp [aggInts] at h
      exact ⟨by omega, h.symm⟩
    | succ j =>
      simp only [aggInts, List.getElem?_cons_succ] at h
      obtain ⟨h1, h2⟩ := aggInts_at n (i + 1) j c h
      exact ⟨by omega, by rw [h2, Nat.add_assoc, Nat.add_comm 1 j]⟩
theorem aggInts_len {k : IntKind} {l : List Int} : ∀ (n i : Nat), (aggInts k l i n).length = n
  | 0, _ => rfl
  | n + 1, i => by simp [aggInts, aggInts_len n]
/-- A block's number at a place. -/
theorem arr_int_cell {w : World} {I : Nat → Nat → Prop} {k : IntKind} {l : List Int} {us : Array Value} (h : ∀ i (hi : i < l.length), RD w I (.int k) (l[i] : Int) ((us.toList.drop (i * (Ty.int k).sz)).take (Ty.int k).sz)) (i : Nat) (hi : i < l.length) : us[i]? = some (.int k l[i]) := by
  have h1 := h i hi
  simp only [Ty.sz, Nat.mul_one] at h1
  generalize hq : (us.toList.drop i).take 1 = q at h1
  cases h1 with
  | int =>
    have := congrArg (·[0]?) hq
    simpa [List.getElem?_take, List.getElem?_drop] using this
theorem load_q (hE : EnvOK E) (R : RelH w I μ h) (G : GOK g h) {t : TypeId} {p : Value} {v : AV} (hx : Rep w I h μ p v) (hf : loadA (E.ti t) g v = some fr) (hc : ∀ c ∈ fr.cs, c.p) :
    ∃ q v', p = .pointer (some q) ∧ (Instr.loadAt t p).run E.P w = .ok v' w ∧ fr.ws = [] ∧ Rep w I h μ v' fr.v := by
    have fin : ∀ {fr : FR} {a : Addr} {cs : List Value} {as : List AV}, (E.ti t).kn = true → cs.length = (E.ti t).size → as.length = cs.length → (∀ j v, cs[j]? = some v → w.cell? (a.add j) = some v) →
        (∀ (k : Nat) (v : Value) (c : AV), cs[k]? = some v → as[k]? = some c → Rep w I h μ v c) → asVal (E.ti t) as = some fr → p = .pointer (some a) →
        ∃ q v', p = .pointer (some q) ∧ (Instr.loadAt t p).run E.P w = .ok v' w ∧ fr.ws = [] ∧ Rep w I h μ v' fr.v := by
      intro fr a cs as hk hl hla hcell hrep hval hp
      obtain ⟨v', hrun, hws, _, hr⟩ := load_ok hE hk hl hla hcell hrep hval
      exact ⟨a, v', hp, by rw [hp]; exact hrun, hws, hr⟩
    have hadd : ∀ (q o j : Nat), (⟨q, o, none⟩ : Addr).add j = ⟨q, o + j, none⟩ := fun q o j => Addr.add_lit q o j
    unfold loadA at hf
    split at hf
    · rename_i b j
      split at hf
      · rename_i cs hb
        obtain ⟨hck, hf⟩ := chk_some hf
        have hck : j + (E.ti t).size ≤ cs.length := by simpa using hck
        have hb' := G.some hb (by simp)
        obtain ⟨q, us, e, h1, h2, h3, h4⟩ := R.blk b _ hb'
        obtain ⟨hp, hpq⟩ : PtrAt h μ b q ∧ p = .pointer (some ⟨q, j, none⟩) := by
          generalize p = y at hx
          cases hx with
          | ptr _ _ q' hp =>
            obtain ⟨z, hz, hz1, hz2⟩ := id hp
            rw [hb'] at hz; injection hz with hz; subst hz
            have := hz2 (by simp)
            rw [h1] at this; injection this with this; subst this
            exact ⟨hp, rfl⟩
        by_cases hk : (E.ti t).kn = true
        · refine fin (cs := (us.toList.drop j).take (E.ti t).size) hk (by simp; omega) (by simp; omega) ?_ ?_ hf hpq
          · intro i v hi
            rw [hadd, cell_of_row w q _ us e _ h2]
            rw [List.getElem?_take] at hi
            split at hi
            · simpa using hi
            · cases hi
          · intro i v c hi hc
            rw [List.getElem?_take] at hi hc
            split at hi
            · rename_i hlt
              rw [if_pos hlt] at hc
              exact h4 (j + i) v c (by simpa using hi) (by simpa using hc)
            · cases hi
        · rcases hE.knows t with e | e
          · exact absurd e hk
          · rw [e] at hck hf
            simp only [asVal] at hf
            have hd : (default : TI).ud.isAgg = false := rfl
            rw [hd] at hf
            simp only at hf
            split at hf
            · rename_i v0 hv0
              have := congrArg List.length hv0
              have hd2 : (default : TI).size = 1099511627776 := rfl
              rw [hd2] at this hck
              simp only [List.length_take, List.length_drop, List.length_singleton] at this
              omega
            · cases hf
      · rename_i k l fr' hb
        obtain ⟨hck, hf2⟩ := chk_some hf
        clear hf
        simp only [Bool.and_eq_true, Nat.ble_eq] at hck
        obtain ⟨⟨hj, hz1⟩, hz2⟩ := hck
        have hj : j = 0 := Nat.eq_of_beq_eq_true hj
        subst hj
        obtain ⟨fr0, hf0, rfl⟩ := addC_some hf2
        have hln : (E.ti t).size ≤ (l : List Int).length := hc ⟨_, inferInstance⟩ (by simp)
        have hb' := G.some hb (by simp)
        rcases R.blk b _ hb' with hnil | ⟨q, us, e, h1, h2, h3, h4, h5⟩
        · have : (l : List Int).length = 0 := by rw [show (l : List Int) = [] from hnil]; rfl
          omega
        · obtain ⟨hp, hpq⟩ : PtrAt h μ b q ∧ p = .pointer (some ⟨q, 0, none⟩) := by
            generalize p = y at hx
            cases hx with
            | ptr _ _ q' hp =>
              obtain ⟨z, hz, hz1, hz2⟩ := id hp
              rw [hb'] at hz; injection hz with hz; subst hz
              have := hz2 (by simp)
              rw [h1] at this; injection this with this; subst this
              exact ⟨hp, rfl⟩
          have h3 : (l : List Int).length * 1 ≤ us.size := h3
          have hcell := arr_int_cell (l := l) h4
          refine fin (fr := fr0) (cs := us.toList.take (E.ti t).size) (kn_size hz2) (by simp; omega) (by rw [aggInts_len]; simp; omega) ?_ ?_ hf0 hpq
          · intro i v hi
            rw [hadd, cell_of_row w q _ us e _ h2.choose_spec.1]
            rw [List.getElem?_take] at hi
            split at hi
            · simpa using hi
            · cases hi
          · intro i v c hi hc'
            obtain ⟨g1, g2⟩ := aggInts_at _ _ _ _ hc'
            rw [Nat.zero_add] at g2
            rw [List.getElem?_take, if_pos g1] at hi
            have hil : i < (l : List Int).length := by omega
            have h6 := hcell i hil
            have h7 : v = .int k (l[i]'hil) := by
              have : us[i]? = some v := by simpa using hi
              rw [h6] at this
              exact (Option.some.inj this).symm
            rw [h7, g2, elt_eq hil]
            exact .int k _
      · cases hf
    · rename_i t' b i j
      split at hf
      · rename_i t2 l fr' hb
        split at hf
        · rename_i he
          subst he
          · obtain ⟨hck, hf⟩ := chk_some hf
            obtain ⟨fr0, hf0, hfr⟩ := addC_some hf
            clear hf
            subst hfr
            have hf := hf0
            clear hf0
            have hck : j + (E.ti t).size ≤ t2.sz := by simpa using hck
            have hb' := G.some hb (by simp)
            have hil : i < l.length := hc ⟨_, inferInstance⟩ (by simp)
            have hx0' : l[i] = elt t2 l i := (elt_eq hil).symm
            generalize elt t2 l i = x0 at hf hx0'
            rcases R.blk b _ hb' with hnil | ⟨q, us, e, h1, h2, h3, h4, h5⟩
            · subst hnil; simp at hil
            · have hrd := h4 i hil
              rw [hx0'] at hrd
              have hpq : p = .pointer (some ⟨q, i * t2.sz + j, none⟩) := by
                generalize p = y at hx
                cases hx with
                | eptr _ _ _ _ q' hp =>
                  obtain ⟨z, hz, hz1, hz2⟩ := hp
                  rw [hb'] at hz; injection hz with hz; subst hz
                  have := hz2 (by simp)
                  rw [h1] at this; injection this with this; subst this
                  rfl
              have hlt : i * t2.sz + t2.sz ≤ l.length * t2.sz := by
                have := Nat.mul_le_mul_right t2.sz hil
                rw [Nat.succ_mul] at this
                exact this
              by_cases hk : (E.ti t).kn = true
              · refine fin (fr := fr0) (cs := (us.toList.drop (i * t2.sz + j)).take (E.ti t).size) hk (by simp; omega) (by simp [cellsOf_len]; omega) ?_ ?_ hf hpq
                · intro k v hi
                  rw [hadd, cell_of_row w q _ us e _ h2.choose_spec.1]
                  rw [List.getElem?_take] at hi
                  split at hi
                  · simpa using hi
                  · cases hi
                · intro k v c hi hc
                  rw [List.getElem?_take] at hi hc
                  split at hi
                  · rename_i hlt
                    rw [if_pos hlt] at hc
                    refine hrd.rep (j + k) v c ?_ (by simpa using hc)
                    rw [List.getElem?_take, if_pos (by omega), List.getElem?_drop]
                    rw [List.getElem?_drop] at hi
                    rw [← hi]; congr 1; omega
                  · cases hi
              · rcases hE.knows t with e | e
                · exact absurd e hk
                · rw [e] at hck hf
                  simp only [asVal] at hf
                  have hd : (default : TI).ud.isAgg = false := rfl
                  rw [hd] at hf
                  simp only at hf
                  split at hf
                  · rename_i v0 hv0
                    have := congrArg List.length hv0
                    have hd2 : (default : TI).size = 1099511627776 := rfl
                    rw [hd2] at this hck
                    simp only [List.length_take, List.length_drop, List.length_singleton, cellsOf_len] at this
                    omega
                  · cases hf
        · cases hf
      · cases hf
    · rename_i t' x0 j
      obtain ⟨hck, hf⟩ := chk_some hf
      have hck : j + (E.ti t).size ≤ t'.sz := by simpa using hck
      obtain ⟨q, o, cs, hrd, hcs, hpq⟩ : ∃ q o cs, RD w I t' x0 cs ∧ (∀ (k : Nat) (u : Value), cs[k]? = some u → w.cell? ⟨q, o + k, none⟩ = some u ∧ I q (o + k)) ∧ p = .pointer (some ⟨q, o + j, none⟩) := by
        generalize p = y at hx
        cases hx with
        | iptr _ _ _ q o cs hr hc => exact ⟨q, o, cs, hr, hc, rfl⟩
      have hlen := hrd.len
      by_cases hk : (E.ti t).kn = true
      · refine fin (cs := (cs.drop j).take (E.ti t).size) hk (by simp; omega) (by simp [cellsOf_len]; omega) ?_ ?_ hf hpq
        · intro k v hi
          rw [hadd]
          rw [List.getElem?_take] at hi
          split at hi
          · rw [List.getElem?_drop] at hi
            have := (hcs _ _ hi).1
            rwa [← Nat.add_assoc] at this
          · cases hi
        · intro k v c hi hc
          rw [List.getElem?_take] at hi hc
          split at hi
          · rename_i hlt
            rw [if_pos hlt] at hc
            exact hrd.rep (j + k) v c (by simpa using hi) (by simpa using hc)
          · cases hi
      · rcases hE.knows t with e | e
        · exact absurd e hk
        · rw [e] at hck hf
          simp only [asVal] at hf
          have hd : (default : TI).ud.isAgg = false := rfl
          rw [hd] at hf
          simp only at hf
          split at hf
          · rename_i v0 hv0
            have := congrArg List.length hv0
            have hd2 : (default : TI).size = 1099511627776 := rfl
            rw [hd2] at this hck
            simp only [List.length_take, List.length_drop, List.length_singleton, cellsOf_len] at this
            omega
          · cases hf
    · cases hf
theorem op_load (hE : EnvOK E) (R : RelH w I μ h) (G : GOK g h) {t : TypeId} {x : Operand} {vs : List AV} (hv : Reps w I h μ ρ (opnds E ⟨dst, .load t x, ty, pos, aft, gd⟩) vs)
    (hf : fCore E ⟨dst, .load t x, ty, pos, aft, gd⟩ vs g b0 = some fr) (hc : ∀ c ∈ fr.cs, c.p) : OpOK E ⟨dst, .load t x, ty, pos, aft, gd⟩ ρ w I h μ fr := by
  match vs, hv with
  | [v], hv =>
    simp only [fCore] at hf
    obtain ⟨q, v', _, hrun, hws, hr⟩ := load_q hE R G hv.1 hf hc
    exact .quiet R hws v' (run_v (s := Instr.loadAt t (ρ x)) hrun) hr
end
end Go.AM
