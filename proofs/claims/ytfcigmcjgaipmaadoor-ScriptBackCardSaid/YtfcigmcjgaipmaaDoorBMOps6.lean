/-
  AM, part 10: cuts of strings and slices; values that are built.
-/
import Derived.Test.YtfcigmcjgaipmaaDoorBMOps5
namespace Go.AM
set_option linter.unusedSectionVars false
variable [Lay]
section
variable {E : Env} {w : World} {I : Nat → Nat → Prop} {h : Heap} {μ : Nat → Option Nat} {ρ : Operand → Value} {g : Nat → AB} {b0 : Nat} {fr : FR}
variable {dst : Option Tmp} {ty : TypeId} {pos : String} {aft : Array Edge} {gd : Option (Nat × Bool)}

/-- A cut of data that is read. -/
theorem RD.cut {t : Ty} {s : List t.den} {a : Option Addr} {cap : Nat} (r : RD w I (.sl t) s [.slice a s.length cap]) (l hh m : Nat) (h1 : l ≤ hh) (h2 : hh ≤ m) (h3 : hh ≤ s.length) (sz : Nat) (hsz : sz = t.sz) :
    RD w I (.sl t) ((s.take hh).drop l) [.slice (if m = l then a else a.map (·.add (l * sz))) (hh - l) (m - l)] := by
  subst hsz
  cases r with
  | sl _ _ _ _ cs hcap hel hat =>
    have hlen : ((s.take hh).drop l).length = hh - l := by simp; omega
    have key := RD.sl (w := w) (I := I) t ((s.take hh).drop l) (if m = l then a else a.map (·.add (l * t.sz))) (m - l) (fun i => cs (l + i)) (by rw [hlen]; omega)
      (fun i hi => by
        have hi' : l + i < s.length := by rw [hlen] at hi; omega
        have := hel (l + i) hi'
        simpa [List.getElem_drop, List.getElem_take] using this)
      (fun h0 => by
        rw [hlen] at h0
        obtain ⟨q, o, rfl, hr⟩ := hat (by omega)
        have hml : ¬ m = l := by omega
        refine ⟨q, o + l * t.sz, ?_, fun i hi j u hu => ?_⟩
        · simp [hml, Addr.add_lit]
        · rw [hlen] at hi
          have := hr (l + i) (by omega) j u hu
          rw [show o + l * t.sz + (i * t.sz + j) = o + ((l + i) * t.sz + j) by rw [Nat.add_mul]; omega]
          exact this)
    rwa [hlen] at key

theorem run_cut {P : Program} {t e : TypeId} {ie : TypeInfo} (hu : P.underlying t = some (.slice e)) (hi : P.info? e = some ie) (a : Option Addr) (n cap : Nat) (lo hi' mx : Option Value) (l hh m : Nat)
    (hb : (Instr.sliceBounds true n cap lo hi' mx).run P w = .ok (l, hh, m) w) :
    (Instr.sliceAt t (.slice a n cap) lo hi' mx).run P w = .ok (.slice (if m = l then a else a.map (·.add (l * ie.size))) (hh - l) (m - l)) w := by
  have h1 : (Instr.sliceAt t (.slice a n cap) lo hi' mx).run P w = (Instr.slice t (.slice a n cap) lo hi' mx).run P w := by
    simp [Instr.sliceAt, run_underlying hu]
  rw [h1]
  simp [Instr.slice, run_underlying hu, hb, sizeOf, typeInfo, hi]

theorem run_cutS {P : Program} {t : TypeId} (hu : P.underlying t = some .string) (s : ByteArray) (lo hi' : Option Value) (l hh m : Nat)
    (hb : (Instr.sliceBounds false s.size s.size lo hi' none).run P w = .ok (l, hh, m) w) :
    (Instr.sliceAt t (.string s) lo hi' none).run P w = .ok (.string (s.extract l hh)) w := by
  have h1 : (Instr.sliceAt t (.string s) lo hi' none).run P w = (Instr.slice t (.string s) lo hi' none).run P w := by
    simp [Instr.sliceAt, run_underlying hu]
  rw [h1]
  simp [Instr.slice, run_underlying hu, hb]

/-- The bounds of a cut, as the abstract machine has them. -/
def loOf (lo : Option AV) : Option Int := match lo with | none => some 0 | some (.int _ n) => some n | _ => none
def hiOf (hi : Option AV) (n : Nat) : Option Int := match hi with | none => some (n : Int) | some (.int _ n) => some n | _ => none

/-- How operands and their values go together. -/
def OptRep (w : World) (I : Nat → Nat → Prop) (h : Heap) (μ : Nat → Option Nat) : Option Value → Option AV → Prop
  | none, none => True
  | some v, some a => Rep w I h μ v a
  | _, _ => False

theorem bound_ok {P : Program} {v : Value} {k : IntKind} {n : Int} (r : Rep w I h μ v (.int k n)) (y : Nat) (c : BoundsCode) (h0 : 0 ≤ n) (h1 : n ≤ (y : Int)) : (Instr.sliceBound v y c).run P w = .ok n.toNat w := by
  rw [rep_int r]
  exact run_sliceBound w k n y c h0 h1

theorem bounds2 {P : Program} {isS : Bool} {n cap : Nat} {lo hi : Option Value} {alo ahi : Option AV} {l hh : Int} (rl : OptRep w I h μ lo alo) (rh : OptRep w I h μ hi ahi)
    (el : loOf alo = some l) (eh : hiOf ahi n = some hh) (h0 : 0 ≤ l) (h1 : l ≤ hh) (h2 : hh ≤ (n : Int)) (h3 : n ≤ cap) :
    (Instr.sliceBounds isS n cap lo hi none).run P w = .ok (l.toNat, hh.toNat, cap) w := by
  unfold Instr.sliceBounds
  have hhh : ((hh.toNat : Nat) : Int) = hh := Int.toNat_of_nonneg (by omega)
  match lo, alo, rl, hi, ahi, rh with
  | none, none, _, none, none, _ =>
    cases el; cases eh
    simp
  | some v, some a, rl, none, none, _ =>
    cases eh
    cases a <;> simp only [loOf, Option.some.injEq] at el <;> try cases el
    have := bound_ok (P := P) rl n .sliceB h0 (by omega)
    simp [this]
  | none, none, _, some v, some a, rh =>
    cases el
    cases a <;> simp only [hiOf, Option.some.injEq] at eh <;> try cases eh
    have := bound_ok (P := P) rh cap (if isS then .sliceAcap else .sliceAlen) (by omega) (by omega)
    cases isS <;> simp at this <;> simp [this]
  | some v, some a, rl, some v2, some a2, rh =>
    cases a <;> simp only [loOf, Option.some.injEq] at el <;> try cases el
    cases a2 <;> simp only [hiOf, Option.some.injEq] at eh <;> try cases eh
    have e1 := bound_ok (P := P) rh cap (if isS then .sliceAcap else .sliceAlen) (by omega) (by omega)
    have e2 := bound_ok (P := P) rl hh.toNat .sliceB h0 (by omega)
    cases isS <;> simp at e1 <;> simp [e1, e2]

theorem bounds3 {P : Program} {n cap : Nat} {lo : Option Value} {hi mx : Value} {alo : Option AV} {ahi : AV} {km : IntKind} {l hh m : Int} (rl : OptRep w I h μ lo alo) (rh : Rep w I h μ hi ahi) (rm : Rep w I h μ mx (.int km m))
    (el : loOf alo = some l) (eh : hiOf (some ahi) n = some hh) (h0 : 0 ≤ l) (h1 : l ≤ hh) (h2 : hh ≤ m) (h3 : m ≤ (n : Int)) (h4 : n ≤ cap) :
    (Instr.sliceBounds true n cap lo (some hi) (some mx)).run P w = .ok (l.toNat, hh.toNat, m.toNat) w := by
  unfold Instr.sliceBounds
  have e0 := bound_ok (P := P) rm cap .slice3Acap (by omega) (by omega)
  cases ahi <;> simp only [hiOf, Option.some.injEq] at eh <;> try cases eh
  have e1 := bound_ok (P := P) rh m.toNat .slice3B (by omega) (by omega)
  match lo, alo, rl with
  | none, none, _ =>
    cases el
    simp [e0, e1]
  | some v, some a, rl =>
    cases a <;> simp only [loOf, Option.some.injEq] at el <;> try cases el
    have e2 := bound_ok (P := P) rl hh.toNat .slice3C h0 (by omega)
    simp [e0, e1, e2]

theorem extract_str (s : Str) (l hh : Nat) : (⟨s.toArray⟩ : ByteArray).extract l hh = ⟨((s.take hh).drop l).toArray⟩ := by
  rw [str_mk ((⟨s.toArray⟩ : ByteArray).extract l hh)]
  congr 2
  rw [Lib.extract_data]
  simp [List.drop_take]

/-- What was handed in, and what came of it. -/
theorem cut_ok (hE : EnvOK E) (R : RelH w I μ h) (G : GOK g h) {t : TypeId} {v : Value} {x : AV} {lo hi mx : Option Value} {alo ahi amx : Option AV} (rx : Rep w I h μ v x) (rl : OptRep w I h μ lo alo) (rh : OptRep w I h μ hi ahi) (rm : OptRep w I h μ mx amx)
    (hmh : amx.isSome = true → ahi.isSome = true) (hf : sliceA (E.ti t).ud E g x alo ahi amx = some fr) (hc : ∀ c ∈ fr.cs, c.p) :
    ∃ v' I', (Instr.sliceAt t v lo hi mx).run E.P w = .ok v' w ∧ Rep w I' (hputs h fr.ws) μ v' fr.v ∧ RelH w I' μ (hputs h fr.ws) ∧ Fr w (Wr h μ) I w (Wr (hputs h fr.ws) μ) I' ∧ HM h μ (hputs h fr.ws) μ := by
  have quiet : ∀ {v' : Value}, (Instr.sliceAt t v lo hi mx).run E.P w = .ok v' w → fr.ws = [] → Rep w I h μ v' fr.v →
      ∃ v' I', (Instr.sliceAt t v lo hi mx).run E.P w = .ok v' w ∧ Rep w I' (hputs h fr.ws) μ v' fr.v ∧ RelH w I' μ (hputs h fr.ws) ∧ Fr w (Wr h μ) I w (Wr (hputs h fr.ws) μ) I' ∧ HM h μ (hputs h fr.ws) μ := by
    intro v' h1 h2 h3
    refine ⟨v', I, h1, ?_, ?_, ?_, ?_⟩ <;> rw [h2] <;> simp only [hputs]
    · exact h3
    · exact R
    · exact Fr.refl _ _ _
    · exact HM.refl _ _
  unfold sliceA at hf
  split at hf
  · cases hf
  · rename_i l hl
    have el : loOf alo = some l := hl
    split at hf
    · rename_i s hud
      split at hf
      · rename_i hh hhe
        cases hf
        have eh : hiOf ahi s.length = some hh := hhe
        have h0 : 0 ≤ l := hc ⟨_, inferInstance⟩ (by simp)
        have h1 : l ≤ hh := hc ⟨_, inferInstance⟩ (by simp)
        have h2 : hh ≤ (s.length : Int) := hc ⟨_, inferInstance⟩ (by simp)
        have hu := hE.und t (kn_ud (by rw [hud]; rfl))
        rw [hud] at hu
        obtain rfl : mx = none := by cases mx with | none => rfl | some _ => exact rm.elim
        have hb := bounds2 (P := E.P) (isS := false) (n := s.length) (cap := s.length) rl rh el eh h0 h1 h2 (Nat.le_refl _)
        rw [rep_str rx] at *
        refine quiet (run_cutS hu _ lo hi l.toNat hh.toNat s.length (by rw [str_size]; exact hb)) rfl ?_
        rw [extract_str]
        exact .str _
      · cases hf
    · rename_i e u s full hud
      obtain ⟨hck, hf⟩ := chk_some hf
      have hck : (E.ti e).size = u.sz ∧ (E.ti e).size ≤ 1000000 := by simpa using hck
      obtain ⟨ie, hie, hsz, _⟩ := hE.info e (kn_size hck.2)
      have hu := hE.und t (kn_ud (by rw [hud]; rfl))
      rw [hud] at hu
      obtain ⟨a, cap, hq, hr, hcap, hful⟩ : ∃ a cap, v = .slice a s.length cap ∧ RD w I (.sl u) s [.slice a s.length cap] ∧ s.length ≤ cap ∧ (full = true → cap = s.length) := by
        cases rx with
        | sl _ _ _ a n cap hr hfl =>
          have hr2 := hr
          cases hr2 with
          | sl _ _ _ _ cs hcap hel hat => exact ⟨a, cap, rfl, hr, hcap, hfl⟩
      split at hf
      · cases hf
      · rename_i hh hhe
        have eh : hiOf ahi s.length = some hh := hhe
        split at hf
        · cases hf
          have h0 : 0 ≤ l := hc ⟨_, inferInstance⟩ (by simp)
          have h1 : l ≤ hh := hc ⟨_, inferInstance⟩ (by simp)
          have h2 : hh ≤ (s.length : Int) := hc ⟨_, inferInstance⟩ (by simp)
          obtain rfl : mx = none := by cases mx with | none => rfl | some _ => exact rm.elim
          have hb := bounds2 (P := E.P) (isS := true) (n := s.length) (cap := cap) rl rh el eh h0 h1 h2 hcap
          subst hq
          refine quiet (run_cut hu hie a s.length cap lo hi none l.toNat hh.toNat cap hb) rfl ?_
          refine .sl u _ _ _ _ _ (hr.cut l.toNat hh.toNat cap (by omega) (by omega) (by omega) ie.size (hsz.trans hck.1)) ?_
          intro hfl
          simp only [Bool.and_eq_true, decide_eq_true_eq] at hfl
          have := hful hfl.1
          omega
        · rename_i km m _
          cases hf
          have h0 : 0 ≤ l := hc ⟨_, inferInstance⟩ (by simp)
          have h1 : l ≤ hh := hc ⟨_, inferInstance⟩ (by simp)
          have h2 : hh ≤ m := hc ⟨_, inferInstance⟩ (by simp)
          have h3 : m ≤ (s.length : Int) := hc ⟨_, inferInstance⟩ (by simp)
          obtain ⟨vm, rfl, rm⟩ : ∃ vm, mx = some vm ∧ Rep w I h μ vm (.int km m) := by cases mx with | none => exact rm.elim | some vm => exact ⟨vm, rfl, rm⟩
          obtain ⟨ah, rfl⟩ : ∃ ah, ahi = some ah := Option.isSome_iff_exists.1 (hmh rfl)
          obtain ⟨vh, rfl, rh⟩ : ∃ vh, hi = some vh ∧ Rep w I h μ vh ah := by cases hi with | none => exact rh.elim | some vh => exact ⟨vh, rfl, rh⟩
          have hb := bounds3 (P := E.P) rl rh rm el eh h0 h1 h2 h3 hcap
          subst hq
          refine quiet (run_cut hu hie a s.length cap lo _ _ l.toNat hh.toNat m.toNat hb) rfl ?_
          refine .sl u _ _ _ _ _ (hr.cut l.toNat hh.toNat m.toNat (by omega) (by omega) (by omega) ie.size (hsz.trans hck.1)) ?_
          intro hfl
          simp only [decide_eq_true_eq] at hfl
          omega
        · cases hf
    · rename_i e u b full hud
      obtain ⟨hck, hf⟩ := chk_some hf
      have hck : (E.ti e).size = u.sz ∧ (E.ti e).size ≤ 1000000 := by simpa using hck
      obtain ⟨ie, hie, hsz, _⟩ := hE.info e (kn_size hck.2)
      have hu := hE.und t (kn_ud (by rw [hud]; rfl))
      rw [hud] at hu
      split at hf
      · rename_i u' s fr' hb
        obtain ⟨a, cap, rfl, he, hcap, hful, hat, hb'⟩ := own_len G rx hb
        rw [dif_pos he] at hf
        subst he
        obtain ⟨I', R', F', M', him⟩ := R.freeze hb'
        -- read as data, once it is frozen
        have hr : RD w I' (.sl u') s [.slice a s.length cap] := by
          rcases R'.blk b _ (by rw [hput_get _ h b b (by have := (List.getElem?_eq_some_iff.1 hb').1; omega), if_pos rfl]) with hnil | ⟨q, us, e', q1, q2, q3, q4, q5⟩
          · subst hnil
            exact .sl u' [] a cap (fun _ => []) (Nat.zero_le _) (fun i hi => by simp at hi) (fun h0 => by simp at h0)
          · rcases hat with ⟨h5, h6⟩ | ⟨q', us', e2, h6, rfl, h8, h9⟩
            · have : s = [] := List.eq_nil_of_length_eq_zero h5
              subst this
              exact .sl u' [] a cap (fun _ => []) (Nat.zero_le _) (fun i hi => by simp at hi) (fun h0 => by simp at h0)
            · rw [q1] at h6; injection h6 with h6; subst h6
              refine .sl u' s (some ⟨q, 0, none⟩) cap (fun k => (us.toList.drop (k * u'.sz)).take u'.sz) hcap q4 (fun h0 => ⟨q, 0, rfl, fun i hi j v hv => ?_⟩)
              rw [List.getElem?_take] at hv
              split at hv
              · rename_i hj
                rw [List.getElem?_drop] at hv
                refine ⟨?_, ?_⟩
                · rw [cell_of_row w q _ us e' _ q2.choose_spec.1]
                  simpa using hv
                · refine him q q1 (by rintro rfl; simp at h0) _ ?_
                  have := Nat.mul_le_mul_right u'.sz (Nat.succ_le_of_lt hi)
                  rw [Nat.succ_mul] at this
                  omega
              · cases hv
        have fin : ∀ {v' : Value} {x' : AV}, (Instr.sliceAt t (.slice a s.length cap) lo hi mx).run E.P w = .ok v' w → fr.ws = [(b, .arr u' s false)] → fr.v = x' → Rep w I' (hput h b (.arr u' s false)) μ v' x' →
            ∃ v' I', (Instr.sliceAt t (.slice a s.length cap) lo hi mx).run E.P w = .ok v' w ∧ Rep w I' (hputs h fr.ws) μ v' fr.v ∧ RelH w I' μ (hputs h fr.ws) ∧ Fr w (Wr h μ) I w (Wr (hputs h fr.ws) μ) I' ∧ HM h μ (hputs h fr.ws) μ := by
          intro v' x' h1 h2 h3 h4
          subst h3
          refine ⟨v', I', h1, ?_, ?_, ?_, ?_⟩ <;> rw [h2] <;> simp only [hputs]
          · exact h4
          · exact R'
          · exact F'
          · exact M'
        split at hf
        · cases hf
        · rename_i hh hhe
          have eh : hiOf ahi s.length = some hh := hhe
          split at hf
          · cases hf
            have h0 : 0 ≤ l := hc ⟨_, inferInstance⟩ (by simp)
            have h1 : l ≤ hh := hc ⟨_, inferInstance⟩ (by simp)
            have h2 : hh ≤ (s.length : Int) := hc ⟨_, inferInstance⟩ (by simp)
            obtain rfl : mx = none := by cases mx with | none => rfl | some _ => exact rm.elim
            have hb := bounds2 (P := E.P) (isS := true) (n := s.length) (cap := cap) rl rh el eh h0 h1 h2 hcap
            refine fin (run_cut hu hie a s.length cap lo hi none l.toNat hh.toNat cap hb) rfl rfl ?_
            refine .sl u' _ _ _ _ _ (hr.cut l.toNat hh.toNat cap (by omega) (by omega) (by omega) ie.size (hsz.trans hck.1)) ?_
            intro hfl
            simp only [Bool.and_eq_true, decide_eq_true_eq] at hfl
            have := hful hfl.1
            omega
          · rename_i km m _
            cases hf
            have h0 : 0 ≤ l := hc ⟨_, inferInstance⟩ (by simp)
            have h1 : l ≤ hh := hc ⟨_, inferInstance⟩ (by simp)
            have h2 : hh ≤ m := hc ⟨_, inferInstance⟩ (by simp)
            have h3 : m ≤ (s.length : Int) := hc ⟨_, inferInstance⟩ (by simp)
            obtain ⟨vm, rfl, rm⟩ : ∃ vm, mx = some vm ∧ Rep w I h μ vm (.int km m) := by cases mx with | none => exact rm.elim | some vm => exact ⟨vm, rfl, rm⟩
            obtain ⟨ah, rfl⟩ : ∃ ah, ahi = some ah := Option.isSome_iff_exists.1 (hmh rfl)
            obtain ⟨vh, rfl, rh⟩ : ∃ vh, hi = some vh ∧ Rep w I h μ vh ah := by cases hi with | none => exact rh.elim | some vh => exact ⟨vh, rfl, rh⟩
            have hb := bounds3 (P := E.P) rl rh rm el eh h0 h1 h2 h3 hcap
            refine fin (run_cut hu hie a s.length cap lo _ _ l.toNat hh.toNat m.toNat hb) rfl rfl ?_
            refine .sl u' _ _ _ _ _ (hr.cut l.toNat hh.toNat m.toNat (by omega) (by omega) (by omega) ie.size (hsz.trans hck.1)) ?_
            intro hfl
            simp only [decide_eq_true_eq] at hfl
            omega
          · cases hf
      · cases hf
    · cases hf
end
end Go.AM
