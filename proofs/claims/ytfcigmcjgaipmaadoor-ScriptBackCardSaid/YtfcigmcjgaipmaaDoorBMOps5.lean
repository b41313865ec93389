/-
  AM, part 9: indexes, fields, cuts, the smallest.
-/
import Derived.Test.YtfcigmcjgaipmaaDoorBMOps4
namespace Go.AM
set_option linter.unusedSectionVars false
variable [Lay]
section
variable {E : Env} {w : World} {I : Nat → Nat → Prop} {h : Heap} {μ : Nat → Option Nat} {ρ : Operand → Value} {g : Nat → AB} {b0 : Nat} {fr : FR}
variable {dst : Option Tmp} {ty : TypeId} {pos : String} {aft : Array Edge} {gd : Option (Nat × Bool)}

theorem run_indexAt_sl {P : Program} {t e : TypeId} {ie : TypeInfo} (hu : P.underlying t = some (.slice e)) (hi : P.info? e = some ie) (a : Addr) (n cap : Nat) (k : IntKind) (i : Int) (h0 : 0 ≤ i) (h1 : i < (n : Int)) :
    (Instr.indexAt t (.slice (some a) n cap) (.int k i)).run P w = .ok (.pointer (some (a.add (i.toNat * ie.size)))) w := by
  simp [Instr.indexAt, run_underlying hu, asIntOf, h0, h1, sizeOf, typeInfo, hi]

theorem run_indexAt_ar {P : Program} {t e : TypeId} {m : Nat} {ie : TypeInfo} (hu : P.underlying t = some (.array m e)) (hi : P.info? e = some ie) (a : Addr) (k : IntKind) (i : Int) (h0 : 0 ≤ i) (h1 : i < (m : Int)) :
    (Instr.indexAt t (.pointer (some a)) (.int k i)).run P w = .ok (.pointer (some (a.add (i.toNat * ie.size)))) w := by
  simp [Instr.indexAt, run_underlying hu, asIntOf, h0, h1, sizeOf, typeInfo, hi, Instr.sureAddr]

theorem tabOf_mem : ∀ {l : List (Nat × (IntKind × List Int))} {q : Nat} {x : IntKind × List Int}, tabOf l q = some x → (q, x) ∈ l
  | [], _, _, h => by cases h
  | (g, y) :: r, q, x, h => by
    unfold tabOf at h
    split at h
    · rename_i e
      have : g = q := Nat.eq_of_beq_eq_true e
      subst this
      injection h with h
      subst h
      exact List.mem_cons_self ..
    · exact List.mem_cons_of_mem _ (tabOf_mem h)
theorem op_tabAddr (hE : EnvOK E) (R : RelH w I μ h) (hρ : ∀ q, ρ (.global q) = .pointer (some ⟨q, 0, none⟩)) {t : TypeId} {q : Nat} {i : Operand} {vi : AV} (hi : Rep w I h μ (ρ i) vi)
    (hf : tabAddrA E (E.ti t).ud q vi = some fr) (hc : ∀ c ∈ fr.cs, c.p) : OpOK E ⟨dst, .indexAddr t (.global q) i, ty, pos, aft, gd⟩ ρ w I h μ fr := by
  unfold tabAddrA at hf
  split at hf
  · rename_i k0 n m e k l hud htab
    have ei := rep_int hi
    split at hf
    · rename_i k' hty
      split at hf
      · rename_i hk _
        subst hk
        cases hf
        have hu := hE.und t (kn_ud (by rw [hud]; rfl))
        rw [hud] at hu
        obtain ⟨hes, hek, _⟩ := hE.ty e _ hty
        obtain ⟨ie, hie, hsz, _⟩ := hE.info e hek
        have h0 : 0 ≤ n := hc ⟨_, inferInstance⟩ (by simp)
        have h1 : n < (m : Int) := hc ⟨_, inferInstance⟩ (by simp)
        have h2 : n < (l.length : Int) := hc ⟨_, inferInstance⟩ (by simp)
        have hil : n.toNat < l.length := by omega
        obtain ⟨⟨e', fz, hcell⟩, hI⟩ := R.laid.1 _ (hE.tabs _ (tabOf_mem htab))
        simp only at hcell hI
        have hx0 : elt (.int k') l n.toNat = l[n.toNat] := elt_eq hil
        have hr : Rep w I h μ (.pointer (some ⟨q, n.toNat + 0, none⟩)) (.iptr (.int k') (elt (.int k') l n.toNat) 0) := by
          refine .iptr (.int k') _ 0 q n.toNat [.int k' l[n.toNat]] (by rw [hx0]; exact .int k' _) fun j u hj => ?_
          match j, hj with
          | 0, hj =>
            injection hj with hj
            subst hj
            refine ⟨?_, hI _ (by simpa using hil)⟩
            simp [World.cell?, hcell, hil]
          | j + 1, hj => simp at hj
        refine .quiet R rfl _ (run_v (s := Instr.indexAt t (ρ (.global q)) (ρ i)) ?_) hr
        rw [hρ, ei, run_indexAt_ar hu hie _ _ _ h0 h1, hsz, hes, Addr.add_lit]
        simp [Ty.sz]
      · cases hf
    · cases hf
  · cases hf

theorem op_indexAddr (hE : EnvOK E) (R : RelH w I μ h) (G : GOK g h) (hρ : ∀ q, ρ (.global q) = .pointer (some ⟨q, 0, none⟩)) {t : TypeId} {x i : Operand} {vs : List AV} (hv : Reps w I h μ ρ (opnds E ⟨dst, .indexAddr t x i, ty, pos, aft, gd⟩) vs)
    (hf : fCore E ⟨dst, .indexAddr t x i, ty, pos, aft, gd⟩ vs g b0 = some fr) (hc : ∀ c ∈ fr.cs, c.p) : OpOK E ⟨dst, .indexAddr t x i, ty, pos, aft, gd⟩ ρ w I h μ fr := by
  match vs, hv with
  | [vx, vi], hv =>
    obtain ⟨hx, hi, _⟩ := hv
    simp only [fCore] at hf
    split at hf
    · exact op_tabAddr hE R hρ hi hf hc
    unfold indexAddrA at hf
    split at hf
    · rename_i k n
      have ei := rep_int hi
      split at hf
      · rename_i m e hud
        split at hf
        · rename_i k' b hbig
          cases hf
          have hu := hE.und t (kn_ud (by rw [hud]; rfl))
          rw [hud] at hu
          have hty : (E.ti e).ty = some (.int k') := by
            unfold bigA at hbig
            split at hbig
            · split at hbig
              · rename_i k'' hty
                injection hbig with hbig
                subst hbig
                exact hty
              · cases hbig
            · cases hbig
          obtain ⟨hes, hek, _⟩ := hE.ty e _ hty
          obtain ⟨ie, hie, hsz, _⟩ := hE.info e hek
          have h0 : 0 ≤ n := hc ⟨_, inferInstance⟩ (by simp)
          have h1 : n < (m : Int) := hc ⟨_, inferInstance⟩ (by simp)
          obtain ⟨q, hq, hp⟩ : ∃ q, ρ x = .pointer (some ⟨q, 0, none⟩) ∧ PtrAt h μ b q := by
            generalize ρ x = v at hx
            cases hx with
            | ptr _ _ q hp => exact ⟨q, rfl, hp⟩
          have hr : Rep w I h μ (.pointer (some ⟨q, n.toNat * (Ty.int k').sz + 0, none⟩)) (.eptr (.int k') b n.toNat 0) := .eptr (.int k') b n.toNat 0 q hp
          refine .quiet R rfl _ (run_v (s := Instr.indexAt t (ρ x) (ρ i)) ?_) hr
          rw [hq, ei, run_indexAt_ar hu hie _ _ _ h0 h1, hsz, hes, Addr.add_lit]
          simp
        obtain ⟨hck, hf⟩ := chk_some hf
        split at hf
        · rename_i p hp
          cases hf
          have hu := hE.und t (kn_ud (by rw [hud]; rfl))
          rw [hud] at hu
          obtain ⟨ie, hie, hsz, _⟩ := hE.info e (kn_size (by simpa using hck))
          obtain ⟨⟨qb, qo, qs⟩, hq, hsp, hr⟩ := addPtr_ok hp hx
          simp only at hsp; subst hsp
          have h0 : 0 ≤ n := hc ⟨_, inferInstance⟩ (by simp)
          have h1 : n < (m : Int) := hc ⟨_, inferInstance⟩ (by simp)
          refine .quiet R rfl _ (run_v (s := Instr.indexAt t (ρ x) (ρ i)) ?_) hr
          rw [hq, ei, run_indexAt_ar hu hie _ _ _ h0 h1, hsz, Addr.add_lit]
        · cases hf
      · rename_i e hud
        have hu := hE.und t (kn_ud (by rw [hud]; rfl))
        rw [hud] at hu
        split at hf
        · rename_i u l full
          obtain ⟨hck, hf⟩ := chk_some hf
          have hck : (E.ti e).size = u.sz ∧ (E.ti e).size ≤ 1000000 := by simpa using hck
          obtain ⟨ie, hie, hsz, _⟩ := hE.info e (kn_size hck.2)
          · cases hf
            have h0 : 0 ≤ n := hc ⟨_, inferInstance⟩ (by simp)
            have h1 : n < (l.length : Int) := hc ⟨_, inferInstance⟩ (by simp)
            have hil : n.toNat < l.length := by omega
            have hx0' : l[n.toNat] = elt u l n.toNat := (elt_eq hil).symm
            generalize elt u l n.toNat = x0 at hx0'
            obtain ⟨a, cap, cs, hq, hel, hat⟩ : ∃ (a : Option Addr) (cap : Nat) (cs : Nat → List Value), ρ x = .slice a l.length cap ∧ (∀ i (h : i < l.length), RD w I u l[i] (cs i)) ∧
                (0 < l.length → ∃ g o, a = some ⟨g, o, none⟩ ∧ ∀ i, i < l.length → ∀ (j : Nat) (v : Value), (cs i)[j]? = some v → w.cell? ⟨g, o + (i * u.sz + j), none⟩ = some v ∧ I g (o + (i * u.sz + j))) := by
              generalize ρ x = q at hx
              cases hx with
              | sl _ _ _ a m cap hr _ =>
                cases hr with
                | sl _ _ _ _ cs hcap hel hat => exact ⟨a, cap, cs, rfl, hel, hat⟩
            obtain ⟨q, o, rfl, hcells⟩ := hat (by omega)
            have hrd := hel n.toNat hil
            rw [hx0'] at hrd
            have hr : Rep w I h μ (.pointer (some ⟨q, (o + n.toNat * u.sz) + 0, none⟩)) (.iptr u x0 0) :=
              .iptr u x0 0 q (o + n.toNat * u.sz) (cs n.toNat) hrd (fun k v hk => by have := hcells n.toNat hil k v hk; rw [← Nat.add_assoc] at this; exact this)
            refine .quiet R rfl _ (run_v (s := Instr.indexAt t (ρ x) (ρ i)) ?_) hr
            rw [hq, ei, run_indexAt_sl hu hie _ _ _ _ _ h0 (by omega), hsz, hck.1, Addr.add_lit]
            rfl
        · rename_i u b full
          obtain ⟨hck, hf⟩ := chk_some hf
          have hck : (E.ti e).size = u.sz ∧ (E.ti e).size ≤ 1000000 := by simpa using hck
          obtain ⟨ie, hie, hsz, _⟩ := hE.info e (kn_size hck.2)
          split at hf
          · rename_i u' l fr' hb
            cases hf
            have h0 : 0 ≤ n := hc ⟨_, inferInstance⟩ (by simp)
            have h1 : n < (l.length : Int) := hc ⟨_, inferInstance⟩ (by simp)
            obtain ⟨a, cap, hq, rfl, h3, h4, h5, hb'⟩ := own_len G hx hb
            rcases h5 with ⟨h5, _⟩ | ⟨q, us, e', h6, rfl, h8, h9⟩
            · omega
            · have hr : Rep w I h μ (.pointer (some ⟨q, n.toNat * u'.sz + 0, none⟩)) (.eptr u' b n.toNat 0) := .eptr u' b n.toNat 0 q ⟨_, hb', by simp, fun _ => h6⟩
              refine .quiet R rfl _ (run_v (s := Instr.indexAt t (ρ x) (ρ i)) ?_) hr
              rw [hq, ei, run_indexAt_sl hu hie _ _ _ _ _ h0 h1, hsz, hck.1, Addr.add_lit]
              simp
          · cases hf
        · cases hf
      · cases hf
    · cases hf

theorem op_index (hE : EnvOK E) (R : RelH w I μ h) {t : TypeId} {x i : Operand} {vs : List AV} (hv : Reps w I h μ ρ (opnds E ⟨dst, .index t x i, ty, pos, aft, gd⟩) vs)
    (hf : fCore E ⟨dst, .index t x i, ty, pos, aft, gd⟩ vs g b0 = some fr) (hc : ∀ c ∈ fr.cs, c.p) : OpOK E ⟨dst, .index t x i, ty, pos, aft, gd⟩ ρ w I h μ fr := by
  match vs, hv with
  | [vx, vi], hv =>
    obtain ⟨hx, hi, _⟩ := hv
    simp only [fCore] at hf
    unfold indexA at hf
    split at hf
    · rename_i k n
      have ei := rep_int hi
      split at hf
      · rename_i s hud
        cases hf
        have hu := hE.und t (kn_ud (by rw [hud]; rfl))
        rw [hud] at hu
        have h0 : 0 ≤ n := hc ⟨_, inferInstance⟩ (by simp)
        have h1 : n < (s.length : Int) := hc ⟨_, inferInstance⟩ (by simp)
        refine .quiet R rfl (.int .u8 (bt s n)) (run_v (s := Instr.index t (ρ x) (ρ i)) ?_) (.int _ _)
        rw [ei, rep_str hx]
        have hlt : n.toNat < s.length := by omega
        have hget : (⟨s.toArray⟩ : ByteArray)[n.toNat]? = some s[n.toNat] := by
          have hsz : n.toNat < (⟨s.toArray⟩ : ByteArray).size := by rw [str_size]; exact hlt
          rw [getElem?_pos (⟨s.toArray⟩ : ByteArray) n.toNat hsz]
          rfl
        have hu' : E.P.underlying t = some .string := hu
        simp only [Instr.index, asIntOf, Sem.run_bind, Sem.run_pure, Result.andThen_ok, run_underlying hu', if_pos h0, hget]
        simp [bt, List.getD_eq_getElem?_getD, hlt]
      · rename_i m e cs hud
        obtain ⟨hck, hf⟩ := chk_some hf
        simp only [Bool.and_eq_true, decide_eq_true_eq, Nat.ble_eq] at hck
        obtain ⟨⟨⟨⟨h0, h1⟩, h2⟩, h3⟩, h4⟩ := hck
        have hu := hE.und t (kn_ud (by rw [hud]; rfl))
        rw [hud] at hu
        obtain ⟨ie, hie, hsz, _⟩ := hE.info e (kn_size h3)
        have hue := hE.und e (kn_size h3)
        obtain ⟨us, hq, hl, hrep⟩ : ∃ us, ρ x = .agg us ∧ us.size = cs.length ∧ ∀ (i : Nat) (v : Value) (c : AV), us[i]? = some v → cs[i]? = some c → Rep w I h μ v c := by
          generalize ρ x = q at hx
          cases hx with
          | agg us _ hl hcs => exact ⟨us, rfl, hl, hcs⟩
        have hu' : E.P.underlying t = some (.array m e) := hu
        unfold asVal at hf
        cases hag : (E.ti e).ud.isAgg with
        | true =>
          rw [hag] at hf
          cases hf
          have hagg : (isAgg e).run E.P w = .ok true w := by
            unfold isAgg
            revert hue hag
            cases (E.ti e).ud <;> simp [UDok, UD.isAgg]
            · intro h1; simp [run_underlying h1]
            · intro x h1 h2; simp [run_underlying h1]
          refine .quiet R rfl (.agg (us.extract (n.toNat * ie.size) (n.toNat * ie.size + ie.size))) (run_v (s := Instr.index t (ρ x) (ρ i)) ?_) ?_
          · rw [ei, hq]
            simp only [Instr.index, asIntOf, Sem.run_bind, Sem.run_pure, Result.andThen_ok, run_underlying hu', h0, h1, and_self, if_true]
            simp [part, hagg, sizeOf, typeInfo, hie]
          · refine .agg _ _ (by rw [hsz]; simp; omega) fun j v c hj hcj => ?_
            rw [Array.getElem?_extract] at hj
            rw [List.getElem?_take] at hcj
            split at hj
            · rename_i hlt
              split at hcj
              · rw [List.getElem?_drop] at hcj
                refine hrep _ v c hj ?_
                rw [hsz]; exact hcj
              · cases hcj
            · cases hj
        | false =>
          rw [hag] at hf
          simp only at hf
          split at hf
          · rename_i v0 hv0
            cases hf
            have hl1 := congrArg List.length hv0
            simp at hl1
            have hs1 : (E.ti e).size = 1 := by omega
            have hagg : (isAgg e).run E.P w = .ok false w := by
              unfold isAgg
              revert hue hag
              cases (E.ti e).ud with
              | other =>
                rintro ⟨d, hd, hn⟩ _
                rw [Sem.run_bind, run_underlying hd]
                cases d <;> first | (exact hn.elim) | simp
              | _ => simp [UDok, UD.isAgg] <;> (intro h1; simp [run_underlying h1])
            have hlt : n.toNat * ie.size < us.size := by rw [hsz, hs1]; rw [hs1] at h4; omega
            refine .quiet R rfl us[n.toNat * ie.size] (run_v (s := Instr.index t (ρ x) (ρ i)) ?_) ?_
            · rw [ei, hq]
              simp only [Instr.index, asIntOf, Sem.run_bind, Sem.run_pure, Result.andThen_ok, run_underlying hu', h0, h1, and_self, if_true]
              simp [part, hagg, sizeOf, typeInfo, hie, hlt]
            · refine hrep (n.toNat * ie.size) _ v0 (by simp [hlt]) ?_
              have := congrArg (fun l => l[0]?) hv0
              simp only [List.getElem?_take, List.getElem?_drop, hs1] at this
              rw [hsz, hs1]
              simpa using this
          · cases hf
      · cases hf
    · cases hf

theorem op_field (hE : EnvOK E) (R : RelH w I μ h) {t : TypeId} {x : Operand} {i : Nat} {vs : List AV} (hv : Reps w I h μ ρ (opnds E ⟨dst, .field t x i, ty, pos, aft, gd⟩) vs)
    (hf : fCore E ⟨dst, .field t x i, ty, pos, aft, gd⟩ vs g b0 = some fr) : OpOK E ⟨dst, .field t x i, ty, pos, aft, gd⟩ ρ w I h μ fr := by
  match vs, hv with
  | [vx], hv =>
    have hx := hv.1
    cases vx with
    | agg cs =>
      simp only [fCore] at hf
      split at hf
      · rename_i fs hud
        split at hf
        · rename_i u off hfs
          obtain ⟨hck, hf⟩ := chk_some hf
          simp only [Bool.and_eq_true, Nat.ble_eq] at hck
          have hu := hE.und t (kn_ud (by rw [hud]; rfl))
          rw [hud] at hu
          obtain ⟨fields, hu, hfl⟩ := hu
          obtain ⟨iu, hiu, hsz, _⟩ := hE.info u (kn_size hck.2)
          have hue := hE.und u (kn_size hck.2)
          have hfi : ∃ f, fields[i]? = some f ∧ f.type = u ∧ f.offset = off := by
            rw [← hfl, List.getElem?_map] at hfs
            cases hq' : fields.toList[i]? with
            | none => rw [hq'] at hfs; cases hfs
            | some f =>
              rw [hq'] at hfs
              simp at hfs
              exact ⟨f, by simpa using hq', hfs.1, hfs.2⟩
          obtain ⟨f, hfi, rfl, rfl⟩ := hfi
          obtain ⟨us, hq, hl, hrep⟩ : ∃ us, ρ x = .agg us ∧ us.size = cs.length ∧ ∀ (i : Nat) (v : Value) (c : AV), us[i]? = some v → cs[i]? = some c → Rep w I h μ v c := by
            generalize ρ x = q at hx
            cases hx with
            | agg us _ hl hcs => exact ⟨us, rfl, hl, hcs⟩
          unfold asVal at hf
          cases hag : (E.ti f.type).ud.isAgg with
          | true =>
            rw [hag] at hf
            cases hf
            have hagg : (isAgg f.type).run E.P w = .ok true w := by
              unfold isAgg
              revert hue hag
              cases (E.ti f.type).ud <;> simp [UDok, UD.isAgg]
              · intro h1; simp [run_underlying h1]
              · intro x h1 h2; simp [run_underlying h1]
            refine .quiet R rfl (.agg (us.extract f.offset (f.offset + iu.size))) (run_v (s := Instr.field t (ρ x) i) ?_) ?_
            · rw [hq]
              simp [Instr.field, run_underlying hu, hfi, part, hagg, sizeOf, typeInfo, hiu, asAgg]
            · refine .agg _ _ (by simp; omega) fun j v c hj hcj => ?_
              rw [Array.getElem?_extract] at hj
              rw [List.getElem?_take] at hcj
              split at hj
              · split at hcj
                · rw [List.getElem?_drop] at hcj
                  exact hrep _ v c hj hcj
                · cases hcj
              · cases hj
          | false =>
            rw [hag] at hf
            simp only at hf
            split at hf
            · rename_i v0 hv0
              cases hf
              have hl1 := congrArg List.length hv0
              simp at hl1
              have hagg : (isAgg f.type).run E.P w = .ok false w := by
                unfold isAgg
                revert hue hag
                cases (E.ti f.type).ud with
                | other =>
                  rintro ⟨d, hd, hn⟩ _
                  rw [Sem.run_bind, run_underlying hd]
                  cases d <;> first | (exact hn.elim) | simp
                | _ => simp [UDok, UD.isAgg] <;> (intro h1; simp [run_underlying h1])
              have hlt : f.offset < us.size := by omega
              refine .quiet R rfl us[f.offset] (run_v (s := Instr.field t (ρ x) i) ?_) ?_
              · rw [hq]
                simp [Instr.field, run_underlying hu, hfi, part, hagg, asAgg, hlt]
              · refine hrep f.offset _ v0 (by simp [hlt]) ?_
                have := congrArg (fun l => l[0]?) hv0
                simp only [List.getElem?_take, List.getElem?_drop] at this
                split at this
                · simpa using this
                · simp at this
            · cases hf
        · cases hf
      · cases hf
    | _ => simp [fCore] at hf

theorem min_fold {P : Program} : ∀ (ls : List Value) (as : List AV) (k : IntKind) (a m : Int), (∀ (i : Nat) (v : Value) (c : AV), ls[i]? = some v → as[i]? = some c → Rep w I h μ v c) → ls.length = as.length →
    minFold a as = some m → (ls.foldlM Builtin.min2 (.int k a)).run P w = .ok (.int k m) w
  | [], [], k, a, m, _, _, hm => by
    cases hm
    rfl
  | v :: ls, c :: as, k, a, m, hr, hl, hm => by
    have hc := hr 0 v c rfl rfl
    cases c with
    | int k2 n =>
      have ev := rep_int hc
      subst ev
      simp only [minFold] at hm
      have ih := min_fold (P := P) ls as k (min a n) m (fun i v c h1 h2 => hr (i + 1) v c (by simpa using h1) (by simpa using h2)) (by simpa using hl) hm
      have hmin : (if n < a then n else a) = min a n := by omega
      rw [List.foldlM_cons, Sem.run_bind]
      show (((pure (.int k (if n < a then n else a)) : Sem Value).run P w).andThen fun a w' => (List.foldlM Builtin.min2 a ls).run P w') = _
      rw [hmin]
      exact ih
    | _ => simp [minFold] at hm
  | [], _ :: _, _, _, _, _, hl, _ => by simp at hl
  | _ :: _, [], _, _, _, _, hl, _ => by simp at hl

theorem reps_args : ∀ (as : List Operand) (ts : List TypeId) (vs : List AV), as.length = ts.length → Reps w I h μ ρ ((as.zip ts).map fun p => (p.2, p.1)) vs →
    vs.length = as.length ∧ ∀ (i : Nat) (v : Value) (c : AV), (as.map ρ)[i]? = some v → vs[i]? = some c → Rep w I h μ v c
  | [], [], vs, _, hv => by
    match vs, hv with
    | [], _ => exact ⟨rfl, fun i v c h1 _ => by simp at h1⟩
  | a :: as, t :: ts, vs, hl, hv => by
    match vs, hv with
    | u :: vs, hv =>
      obtain ⟨h1, h2⟩ := reps_args as ts vs (by simpa using hl) hv.2
      refine ⟨by simp [h1], fun i v c e1 e2 => ?_⟩
      cases i with
      | zero => simp at e1 e2; subst e1; subst e2; exact hv.1
      | succ i => exact h2 i v c (by simpa using e1) (by simpa using e2)
  | [], _ :: _, _, hl, _ => by simp at hl
  | _ :: _, [], _, hl, _ => by simp at hl

theorem op_min (R : RelH w I μ h) {as : Array Operand} {ts : Array TypeId} {vs : List AV} {m : AV} (hs : as.size = ts.size)
    (hv : Reps w I h μ ρ (opnds E ⟨dst, .call { callee := .builtin .min, args := as, argTypes := ts }, ty, pos, aft, gd⟩) vs)
    (hm : minA vs = some m) : OpOK E ⟨dst, .call { callee := .builtin .min, args := as, argTypes := ts }, ty, pos, aft, gd⟩ ρ w I h μ ⟨m, [], []⟩ := by
  obtain ⟨hl, hr⟩ := reps_args as.toList ts.toList vs (by simpa using hs) hv
  match vs, hm with
  | .int k a :: r, hm =>
    simp only [minA] at hm
    split at hm
    · rename_i m' hm'
      cases hm
      have hl0 : as.toList.map ρ ≠ [] := by
        intro e
        have := congrArg List.length e
        simp at this hl
        simp [this] at hl
      obtain ⟨v0, ls, hls⟩ := List.exists_cons_of_ne_nil hl0
      have h0 := hr 0 v0 _ (by rw [hls]; rfl) rfl
      have e0 := rep_int h0
      subst e0
      have hlen : ls.length = r.length := by
        have := congrArg List.length hls
        simp at this hl
        omega
      have hrun := min_fold (P := E.P) ls r k a m' (fun i v c h1 h2 => hr (i + 1) v c (by rw [hls]; simpa using h1) (by simpa using h2)) hlen hm'
      refine .quiet R rfl (.int k m') (run_builtin rfl ?_) (.int _ _)
      unfold Builtin.min_
      have : (as.map ρ).toList = .int k a :: ls := by rw [← hls]; simp
      simp only [this]
      exact hrun
    · cases hm
theorem max_fold {P : Program} : ∀ (ls : List Value) (as : List AV) (k : IntKind) (a m : Int), (∀ (i : Nat) (v : Value) (c : AV), ls[i]? = some v → as[i]? = some c → Rep w I h μ v c) → ls.length = as.length →
    maxFold a as = some m → (ls.foldlM Builtin.max2 (.int k a)).run P w = .ok (.int k m) w
  | [], [], k, a, m, _, _, hm => by
    cases hm
    rfl
  | v :: ls, c :: as, k, a, m, hr, hl, hm => by
    have hc := hr 0 v c rfl rfl
    cases c with
    | int k2 n =>
      have ev := rep_int hc
      subst ev
      simp only [maxFold] at hm
      have ih := max_fold (P := P) ls as k (max a n) m (fun i v c h1 h2 => hr (i + 1) v c (by simpa using h1) (by simpa using h2)) (by simpa using hl) hm
      have hmin : (if n > a then n else a) = max a n := by omega
      rw [List.foldlM_cons, Sem.run_bind]
      show (((pure (.int k (if n > a then n else a)) : Sem Value).run P w).andThen fun a w' => (List.foldlM Builtin.max2 a ls).run P w') = _
      rw [hmin]
      exact ih
    | _ => simp [maxFold] at hm
  | [], _ :: _, _, _, _, _, hl, _ => by simp at hl
  | _ :: _, [], _, _, _, _, hl, _ => by simp at hl

theorem op_max (R : RelH w I μ h) {as : Array Operand} {ts : Array TypeId} {vs : List AV} {m : AV} (hs : as.size = ts.size)
    (hv : Reps w I h μ ρ (opnds E ⟨dst, .call { callee := .builtin .max, args := as, argTypes := ts }, ty, pos, aft, gd⟩) vs)
    (hm : maxA vs = some m) : OpOK E ⟨dst, .call { callee := .builtin .max, args := as, argTypes := ts }, ty, pos, aft, gd⟩ ρ w I h μ ⟨m, [], []⟩ := by
  obtain ⟨hl, hr⟩ := reps_args as.toList ts.toList vs (by simpa using hs) hv
  match vs, hm with
  | .int k a :: r, hm =>
    simp only [maxA] at hm
    split at hm
    · rename_i m' hm'
      cases hm
      have hl0 : as.toList.map ρ ≠ [] := by
        intro e
        have := congrArg List.length e
        simp at this hl
        simp [this] at hl
      obtain ⟨v0, ls, hls⟩ := List.exists_cons_of_ne_nil hl0
      have h0 := hr 0 v0 _ (by rw [hls]; rfl) rfl
      have e0 := rep_int h0
      subst e0
      have hlen : ls.length = r.length := by
        have := congrArg List.length hls
        simp at this hl
        omega
      have hrun := max_fold (P := E.P) ls r k a m' (fun i v c h1 h2 => hr (i + 1) v c (by rw [hls]; simpa using h1) (by simpa using h2)) hlen hm'
      refine .quiet R rfl (.int k m') (run_builtin rfl ?_) (.int _ _)
      unfold Builtin.max_
      have : (as.map ρ).toList = .int k a :: ls := by rw [← hls]; simp
      simp only [this]
      exact hrun
    · cases hm
end
end Go.AM
