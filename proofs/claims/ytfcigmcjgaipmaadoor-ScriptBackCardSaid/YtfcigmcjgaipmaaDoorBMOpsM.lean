/-
  AM, part 15b: maps: made, looked up, written.
-/
import Derived.MapKept
import Derived.Test.YtfcigmcjgaipmaaDoorBMOpsB
namespace Go.AM
set_option linter.unusedSectionVars false
variable [Lay]
open Go.MapKept

theorem scal_d {w : World} {I : Nat → Nat → Prop} {h : Heap} {μ : Nat → Option Nat} {t : Ty} {v : Value} {x : AV} {n : t.den} (r : Rep w I h μ v x) (hs : scal t x = some n) : ScalD t n v := by
  cases t <;> cases x <;> simp [scal] at hs
  · split at hs
    · rename_i e _
      subst e
      simp at hs
      subst hs
      cases r; rfl
    · cases hs
  · subst hs; cases r; rfl
  · subst hs; cases r; rfl
  · subst hs; cases r; rfl
  · subst hs; cases r; rfl

theorem d_rep {w : World} {I : Nat → Nat → Prop} {h : Heap} {μ : Nat → Option Nat} {t : Ty} {v : Value} {n : t.den} (hs : isScal t = true) (r : ScalD t n v) : Rep w I h μ v (scalAV t n) := by
  cases t <;> simp [isScal] at hs
  · obtain rfl := r; exact .int _ _
  · obtain rfl := r; exact .bool _
  · obtain rfl := r; exact .str _

theorem one_d {w : World} {I : Nat → Nat → Prop} {h : Heap} {μ : Nat → Option Nat} (t : Ty) (vs : List Value) (cs : List AV) (x : t.den) (r : List AV)
    (hf : (match cs with | v :: r => (match scal t v with | some x => some (x, r) | none => none) | [] => none) = some (x, r)) (hl : vs.length = cs.length)
    (hr : ∀ (i : Nat) (v : Value) (c : AV), vs[i]? = some v → cs[i]? = some c → Rep w I h μ v c) (hd : ∀ (v : Value) (_ : AV), ScalD t x v → FlatD t x [v]) :
    ∃ v1 v2, vs = v1 ++ v2 ∧ FlatD t x v1 ∧ v2.length = r.length ∧ (∀ (i : Nat) (v : Value) (c : AV), v2[i]? = some v → r[i]? = some c → Rep w I h μ v c) := by
  cases cs with
  | nil => cases hf
  | cons c cs =>
    cases vs with
    | nil => simp at hl
    | cons v vs =>
      dsimp only at hf
      cases hs : scal t c with
      | none => rw [hs] at hf; cases hf
      | some y =>
        rw [hs] at hf
        injection hf with hf
        injection hf with h1 h2
        subst h1 h2
        exact ⟨[v], vs, rfl, hd v c (scal_d (hr 0 v c rfl rfl) hs), by simpa using hl, fun i v' c' e1 e2 => hr (i + 1) v' c' (by simpa using e1) (by simpa using e2)⟩
theorem flat_d {w : World} {I : Nat → Nat → Prop} {h : Heap} {μ : Nat → Option Nat} : ∀ (t : Ty) (vs : List Value) (cs : List AV) (x : t.den) (r : List AV), vs.length = cs.length →
    (∀ (i : Nat) (v : Value) (c : AV), vs[i]? = some v → cs[i]? = some c → Rep w I h μ v c) → flat t cs = some (x, r) → ∃ v1 v2, vs = v1 ++ v2 ∧ FlatD t x v1 ∧ v2.length = r.length ∧ (∀ (i : Nat) (v : Value) (c : AV), v2[i]? = some v → r[i]? = some c → Rep w I h μ v c)
  | .pair a b, vs, cs, x, r, hl, hr, hf => by
    unfold flat at hf
    cases ha : flat a cs with
    | none => rw [ha] at hf; cases hf
    | some p =>
      rw [ha] at hf
      obtain ⟨y, r1⟩ := p
      dsimp only at hf
      cases hb : flat b r1 with
      | none => rw [hb] at hf; cases hf
      | some q =>
        rw [hb] at hf
        obtain ⟨z, r2⟩ := q
        injection hf with hf
        injection hf with h1 h2
        subst h1 h2
        obtain ⟨u1, u2, e1, d1, l1, k1⟩ := flat_d a vs cs y r1 hl hr ha
        obtain ⟨u3, u4, e2, d2, l2, k2⟩ := flat_d b u2 r1 z r2 l1 k1 hb
        exact ⟨u1 ++ u3, u4, by rw [e1, e2, List.append_assoc], ⟨u1, u3, rfl, d1, d2⟩, l2, k2⟩
  | .int k, vs, cs, x, r, hl, hr, hf => one_d (.int k) vs cs x r hf hl hr (fun v c hs => ⟨v, rfl, hs⟩)
  | .str, vs, cs, x, r, hl, hr, hf => one_d .str vs cs x r hf hl hr (fun v c hs => ⟨v, rfl, hs⟩)
  | .bool, vs, cs, x, r, hl, hr, hf => one_d .bool vs cs x r hf hl hr (fun v c hs => ⟨v, rfl, hs⟩)
  | .unit, vs, cs, x, r, hl, hr, hf => one_d .unit vs cs x r hf hl hr (fun v c hs => ⟨v, rfl, hs⟩)
  | .sl t, vs, cs, x, r, hl, hr, hf => one_d (.sl t) vs cs x r hf hl hr (fun v c hs => ⟨v, rfl, hs⟩)
  | .val, vs, cs, x, r, hl, hr, hf => one_d .val vs cs x r hf hl hr (fun v c hs => ⟨v, rfl, hs⟩)
theorem el_d {w : World} {I : Nat → Nat → Prop} {h : Heap} {μ : Nat → Option Nat} {t : Ty} {v : Value} {x : AV} {n : t.den} (r : Rep w I h μ v x) (hs : elD t x = some n) : ElD t n v := by
  cases t with
  | pair a b =>
    cases x with
    | agg cs =>
      have hs : (match flat (.pair a b) cs with | some (x, []) => some x | _ => none) = some n := hs
      split at hs
      · rename_i y hf
        injection hs with hs
        subst hs
        cases r with
        | agg vs cs hl hc =>
          obtain ⟨v1, v2, e1, d1, l1, _⟩ := flat_d (w := w) (I := I) (h := h) (μ := μ) (.pair a b) vs.toList cs y [] (by simpa using hl) (fun i v c e1 e2 => hc i v c (by simpa using e1) e2) hf
          obtain rfl := List.length_eq_zero_iff.1 (show v2.length = 0 by simpa using l1)
          rw [List.append_nil] at e1
          exact ⟨vs, rfl, by rw [e1]; exact d1⟩
      · cases hs
    | _ => cases hs
  | int k => exact scal_d (t := (.int k)) r hs
  | str => exact scal_d (t := .str) r hs
  | bool => exact scal_d (t := .bool) r hs
  | unit => exact scal_d (t := .unit) r hs
  | sl t => exact scal_d (t := (.sl t)) r hs
  | val => exact scal_d (t := .val) r hs
theorem one_r {w : World} {I : Nat → Nat → Prop} {h : Heap} {μ : Nat → Option Nat} (t : Ty) (x : t.den) (cs : List Value) (hs : isScal t = true) (hd : ∃ v, cs = [v] ∧ ScalD t x v) (he : flatAV t x = [scalAV t x]) :
    cs.length = (flatAV t x).length ∧ ∀ (i : Nat) (v : Value) (c : AV), cs[i]? = some v → (flatAV t x)[i]? = some c → Rep w I h μ v c := by
  obtain ⟨v, rfl, hv⟩ := hd
  rw [he]
  refine ⟨rfl, fun i v' c e1 e2 => ?_⟩
  cases i with
  | zero => simp at e1 e2; subst e1; subst e2; exact d_rep hs hv
  | succ i => simp at e1
theorem flat_rep {w : World} {I : Nat → Nat → Prop} {h : Heap} {μ : Nat → Option Nat} : ∀ (t : Ty) (x : t.den) (cs : List Value), isFlat t = true → FlatD t x cs →
    cs.length = (flatAV t x).length ∧ ∀ (i : Nat) (v : Value) (c : AV), cs[i]? = some v → (flatAV t x)[i]? = some c → Rep w I h μ v c
  | .pair a b, x, cs, hf, hd => by
    obtain ⟨c1, c2, rfl, d1, d2⟩ := hd
    simp only [isFlat, Bool.and_eq_true] at hf
    obtain ⟨l1, r1⟩ := flat_rep (w := w) (I := I) (h := h) (μ := μ) a x.1 c1 hf.1 d1
    obtain ⟨l2, r2⟩ := flat_rep (w := w) (I := I) (h := h) (μ := μ) b x.2 c2 hf.2 d2
    refine ⟨by show (c1 ++ c2).length = (flatAV a x.1 ++ flatAV b x.2).length; rw [List.length_append, List.length_append, l1, l2], fun i v c e1 e2 => ?_⟩
    have e2 : (flatAV a x.1 ++ flatAV b x.2)[i]? = some c := e2
    by_cases hi : i < c1.length
    · rw [List.getElem?_append_left hi] at e1
      rw [List.getElem?_append_left (by omega)] at e2
      exact r1 i v c e1 e2
    · rw [List.getElem?_append_right (by omega)] at e1
      rw [List.getElem?_append_right (by omega)] at e2
      exact r2 _ v c e1 (by rw [l1]; exact e2)
  | .int k, x, cs, hf, hd => one_r (.int k) x cs rfl hd rfl
  | .str, x, cs, hf, hd => one_r .str x cs rfl hd rfl
  | .bool, x, cs, hf, hd => one_r .bool x cs rfl hd rfl
  | .unit, x, cs, hf, hd => by cases hf
  | .sl t, x, cs, hf, hd => by cases hf
  | .val, x, cs, hf, hd => by cases hf
theorem el_rep {w : World} {I : Nat → Nat → Prop} {h : Heap} {μ : Nat → Option Nat} {t : Ty} {v : Value} {n : t.den} (hs : isFlat t = true) (r : ElD t n v) : Rep w I h μ v (elAV t n) := by
  cases t with
  | pair a b =>
    obtain ⟨vs, rfl, hd⟩ := r
    obtain ⟨h1, h2⟩ := flat_rep (w := w) (I := I) (h := h) (μ := μ) (.pair a b) n vs.toList hs hd
    exact .agg vs _ (by simpa using h1) (fun i v c e1 e2 => h2 i v c (by simpa using e1) e2)
  | int k => exact d_rep (t := .int k) rfl r
  | str => exact d_rep (t := .str) rfl r
  | bool => exact d_rep (t := .bool) rfl r
  | unit => cases hs
  | sl t => cases hs
  | val => cases hs
theorem flat_rd {w : World} {I : Nat → Nat → Prop} : ∀ (t : Ty) (x : t.den) (cs : List Value), isFlat t = true → RD w I t x cs → FlatD t x cs
  | .pair a b, x, cs, hf, hr => by
    simp only [isFlat, Bool.and_eq_true] at hf
    cases hr with
    | pair _ _ x y c1 c2 h1 h2 => exact ⟨c1, c2, rfl, flat_rd a _ c1 hf.1 h1, flat_rd b _ c2 hf.2 h2⟩
  | .int k, x, cs, _, hr => by cases hr; exact ⟨_, rfl, rfl⟩
  | .str, x, cs, _, hr => by cases hr; exact ⟨_, rfl, rfl⟩
  | .bool, x, cs, _, hr => by cases hr; exact ⟨_, rfl, rfl⟩
  | .unit, x, cs, hf, _ => by cases hf
  | .sl t, x, cs, hf, _ => by cases hf
  | .val, x, cs, hf, _ => by cases hf
theorem flat_len : ∀ (t : Ty) (x : t.den) (cs : List Value), FlatD t x cs → 1 ≤ cs.length
  | .pair a b, x, cs, hd => by
    obtain ⟨c1, c2, rfl, d1, _⟩ := hd
    have := flat_len a x.1 c1 d1
    rw [List.length_append]
    omega
  | .int k, x, cs, hd => by obtain ⟨v, rfl, _⟩ := hd; simp
  | .str, x, cs, hd => by obtain ⟨v, rfl, _⟩ := hd; simp
  | .bool, x, cs, hd => by obtain ⟨v, rfl, _⟩ := hd; simp
  | .unit, x, cs, hd => by obtain ⟨v, rfl, _⟩ := hd; simp
  | .sl t, x, cs, hd => by obtain ⟨v, rfl, _⟩ := hd; simp
  | .val, x, cs, hd => by obtain ⟨v, rfl, _⟩ := hd; simp
/-- What a map gives where there is nothing. -/
theorem zero_el {E : Env} (hE : EnvOK E) {t : TypeId} {u : Ty} (ht : (E.ti t).ty = some u) (hf : isFlat u = true) : ∃ i z, E.P.info? t = some i ∧ i.zero = some z ∧ ElD u u.zero z := by
  cases u with
  | pair a b =>
    obtain ⟨_, _, i, z, h1, h2, h3⟩ := hE.ty t (.pair a b) ht
    have hd := flat_rd (.pair a b) _ _ hf (h3 default (fun _ _ => False))
    refine ⟨i, z, h1, h2, ?_⟩
    obtain ⟨c1, c2, e, d1, d2⟩ := hd
    have l1 := flat_len _ _ _ d1
    have l2 := flat_len _ _ _ d2
    have hl : 2 ≤ z.cells.toList.length := by rw [e, List.length_append]; omega
    cases z with
    | agg vs => exact ⟨vs, rfl, c1, c2, e, d1, d2⟩
    | _ => exact absurd hl (by simp [Value.cells])
  | int k => exact hE.zsc t _ ht rfl
  | str => exact hE.zsc t _ ht rfl
  | bool => exact hE.zsc t _ ht rfl
  | unit => cases hf
  | sl t => cases hf
  | val => cases hf

/-- The description of a key's type. -/
def keyD (kt : Ty) (d : TypeDesc) : Prop := match kt with
  | .int k => d = .int k
  | .str => d = .string
  | _ => False

theorem keyD_of {P : Program} {t : TypeId} {ud : UD} {kt : Ty} (hu : UDok P t ud) (hs : sameUD ud kt = true) : ∃ d, P.underlying t = some d ∧ keyD kt d := by
  cases ud <;> cases kt <;> simp [sameUD] at hs
  · subst hs; exact ⟨_, hu, rfl⟩
  · exact ⟨_, hu, rfl⟩

theorem keyD_is {kt : Ty} {d : TypeDesc} {n : kt.den} {v : Value} (hd : keyD kt d) (hv : ScalD kt n v) : IsKey d v := by
  cases kt <;> simp only [keyD] at hd
  · subst hd; obtain rfl := hv; rfl
  · subst hd; obtain rfl := hv; trivial

theorem keyB_same {kt : Ty} {d : TypeDesc} {n m : kt.den} {v u : Value} (hd : keyD kt d) (hv : ScalD kt n v) (hu : ScalD kt m u) : Instr.sameNow d v u = some (keyB kt n m) ∧ (keyB kt n m = true → v = u) := by
  cases kt <;> simp only [keyD] at hd
  · subst hd; obtain rfl := hv; obtain rfl := hu
    refine ⟨by simp [Instr.sameNow, keyB], fun h => ?_⟩
    have h : ((n : Int) == m) = true := h
    have e : (n : Int) = m := by simpa using h
    rw [e]
  · subst hd; obtain rfl := hv; obtain rfl := hu
    have key : ((⟨(n : Str).toArray⟩ : ByteArray) == ⟨(m : Str).toArray⟩) = ((n : Str) == m) := by
      rw [Bool.eq_iff_iff, bytes_beq]
      constructor
      · intro e
        injection e with e
        have : (n : Str) = m := by simpa using congrArg Array.toList e
        simpa using this
      · intro e
        have : (n : Str) = m := by simpa using e
        rw [this]
    refine ⟨by simp only [Instr.sameNow, key]; rfl, fun h => ?_⟩
    have h : ((n : Str) == m) = true := h
    have e : (n : Str) = m := by simpa using h
    rw [e]

/-- Entries, one by one. -/
def PW (kt vt : Ty) (es : List MapEntry) (l : List (kt.den × vt.den)) : Prop :=
  es.length = l.length ∧ ∀ (n : Nat) (e : MapEntry) (x : kt.den × vt.den), es[n]? = some e → l[n]? = some x → ScalD kt x.1 e.key ∧ ElD vt x.2 e.val

theorem find_abs {kt vt : Ty} {d : TypeDesc} {n : kt.den} {k : Value} (hd : keyD kt d) (hk : ScalD kt n k) : ∀ (es : List MapEntry) (l : List (kt.den × vt.den)) (i : Nat), PW kt vt es l →
    (mhas kt vt n l = false ∧ Instr.findNow d k es i = some none ∧ mget kt vt n l = vt.zero ∧ ∀ y, mset kt vt n y l = l ++ [(n, y)]) ∨
    (∃ j e x, es[j]? = some e ∧ l[j]? = some x ∧ Instr.findNow d k es i = some (some (i + j, e.val)) ∧ mhas kt vt n l = true ∧ mget kt vt n l = x.2 ∧ k = e.key ∧ ∀ y, mset kt vt n y l = l.set j (x.1, y))
  | [], [], i, _ => .inl ⟨rfl, rfl, rfl, fun _ => rfl⟩
  | [], _ :: _, _, h => by simp [PW] at h
  | _ :: _, [], _, h => by simp [PW] at h
  | e :: es, (a, b) :: l, i, h => by
    obtain ⟨hl, hp⟩ := h
    obtain ⟨h1, h2⟩ := hp 0 e (a, b) rfl rfl
    obtain ⟨s1, s2⟩ := keyB_same hd hk h1
    cases hq : keyB kt n a with
    | true =>
      rw [hq] at s1 s2
      refine .inr ⟨0, e, (a, b), rfl, rfl, by simp [Instr.findNow, s1], by simp [mhas, hq], by simp [mget, hq], s2 rfl, fun y => by simp [mset, hq]⟩
    | false =>
      rw [hq] at s1
      have ih := find_abs (vt := vt) hd hk es l (i + 1) ⟨by simpa using hl, fun m e' x' e1 e2 => hp (m + 1) e' x' (by simpa using e1) (by simpa using e2)⟩
      rcases ih with ⟨i1, i2, i3, i4⟩ | ⟨j, e', x, i1, i2, i3, i4, i5, i6, i7⟩
      · exact .inl ⟨by simp [mhas, hq, i1], by simp [Instr.findNow, s1, i2], by simp [mget, hq, i3], fun y => by simp [mset, hq, i4]⟩
      · exact .inr ⟨j + 1, e', x, by simpa using i1, by simpa using i2, by simp [Instr.findNow, s1, i3]; omega, by simp [mhas, hq, i4], by simp [mget, hq, i5], i6, fun y => by simp [mset, hq, i7]⟩

section
variable {E : Env} {w : World} {I : Nat → Nat → Prop} {h : Heap} {μ : Nat → Option Nat} {ρ : Operand → Value} {g : Nat → AB} {b0 : Nat} {fr : FR}
variable {dst : Option Tmp} {ty : TypeId} {pos : String} {aft : Array Edge} {gd : Option (Nat × Bool)}

theorem op_makeMap (R : RelH w I μ h) (hb : b0 ≤ h.length) (hh : h[b0]? = none ∨ h[b0]? = some .hole) {t : TypeId} {r : Option Operand} {vs : List AV}
    (hf : fCore E ⟨dst, .makeMap t r, ty, pos, aft, gd⟩ vs g b0 = some fr) : OpOK E ⟨dst, .makeMap t r, ty, pos, aft, gd⟩ ρ w I h μ fr := by
  cases r with
  | some r => simp [fCore] at hf
  | none =>
    simp only [fCore] at hf
    split at hf
    · split at hf
      · rename_i kt vt _ _
        obtain ⟨hck, hf⟩ := chk_some hf
        simp only [Bool.and_eq_true] at hck
        cases hf
        have hal := heap_alloc w (.map #[] 0)
        obtain ⟨h2, h3, h4⟩ := R.layO hb hh (.map #[] 0) trivial (.mp kt vt []) (by
          show MpAt _ _ _ _ _ _ _
          rw [MpAt.of hck.1.2]
          exact ⟨w.heap.size, #[], 0, upd_same _ _ _, hal.1, rfl, (fun n e x e1 _ => by simp at e1), (by simp), (by simp)⟩)
        refine ⟨_, _, _, I, _, run_v (s := Instr.makeMap t none) (v := .map (some w.heap.size)) (w' := w.alloc (.map #[] 0)) rfl, .inl rfl, ?_, h2, h3, h4⟩
        refine .mptr b0 w.heap.size ⟨.mp kt vt [], ?_, by simp, fun _ => upd_same _ _ _⟩
        show (hput h b0 (.mp kt vt []))[b0]? = _
        rw [hput_get _ h b0 b0 hb, if_pos rfl]
      · cases hf
    · cases hf

theorem kn_map {ti : TI} {k v : TypeId} (h : ti.ud = .map k v) : ti.kn = true := by simp [TI.kn, h, UD.isOther]
theorem kn_same {ti : TI} {kt : Ty} (h : sameUD ti.ud kt = true) : ti.kn = true := by
  cases hq : ti.ud <;> rw [hq] at h <;> cases kt <;> simp [sameUD] at h <;> simp [TI.kn, hq, UD.isOther]

theorem sameUD_key {ud : UD} {kt : Ty} (h : sameUD ud kt = true) : isKey kt = true := by
  cases ud <;> cases kt <;> simp [sameUD] at h <;> rfl

theorem map_at (R : RelH w I μ h) (G : GOK g h) {b : Nat} {kt vt : Ty} {l : List (kt.den × vt.den)} {v : Value} (hkey : isKey kt = true) (hv : Rep w I h μ v (.mptr b)) (hgb : g b = .mp kt vt l) :
    ∃ q es c, v = .map (some q) ∧ h[b]? = some (.mp kt vt l) ∧ μ b = some q ∧ w.heap[q]? = some (.map es c) ∧ PW kt vt es.toList l ∧ MapD kt vt es c l := by
  have hb := G.some hgb (by simp)
  cases hv with
  | mptr _ q hp =>
    obtain ⟨x, hx, _, h2⟩ := hp
    rw [hb] at hx; cases hx
    have hm : MpAt w I μ b kt vt l := R.blk b _ hb
    rw [MpAt.of hkey] at hm
    obtain ⟨q', es, c, k1, k2, k3, k4, k5⟩ := hm
    have k0 := h2 (by simp)
    rw [k0] at k1; cases k1
    exact ⟨q, es, c, rfl, hb, k0, k2, ⟨by simpa using k3, fun n e x e1 e2 => k4 n e x (by simpa using e1) e2⟩, k3, k4, k5⟩

theorem lookup_ok (hE : EnvOK E) (R : RelH w I μ h) {t : TypeId} {x i : Operand} {ok : Bool} {c : AV} {kt vt : Ty} {l : List (kt.den × vt.den)} (hc : Rep w I h μ (ρ i) c)
    (hat : isKey kt = true → ∃ q es cl, ρ x = .map (some q) ∧ w.heap[q]? = some (.map es cl) ∧ PW kt vt es.toList l)
    (hf : lookupA E (E.ti t).ud (.mp kt vt l) ok c = some fr) : OpOK E ⟨dst, .lookup t x i ok, ty, pos, aft, gd⟩ ρ w I h μ fr := by
  simp only [lookupA] at hf
  split at hf
  · rename_i k v kt vt l hud hgb
    injection hgb with g1 g2 g3
    subst g1; subst g2
    obtain rfl := eq_of_heq g3
    obtain ⟨hck, hf⟩ := chk_some hf
    simp only [Bool.and_eq_true] at hck
    obtain ⟨⟨c1, c2⟩, c3⟩ := hck
    obtain ⟨q, es, cl, e1, hq, hpw⟩ := hat (sameUD_key c1)
    have hund : E.P.underlying t = some (.map k v) := by
      have := hE.und t (kn_map hud)
      rw [hud] at this
      exact this
    obtain ⟨d, hd, hkd⟩ := keyD_of (hE.und k (kn_same c1)) c1
    split at hf
    · rename_i n hn
      have hkn := scal_d hc hn
      have hik := keyD_is hkd hkn
      have hvt : (E.ti v).ty = some vt := by
        unfold tyIs at c3
        split at c3
        · rename_i u hu; rw [hu, of_decide_eq_true c3]
        · cases c3
      obtain ⟨iv, z, z1, z2, z3⟩ := zero_el hE hvt c2
      have hzero : (zeroValue v).run E.P w = .ok z w := by simp [zeroValue, typeInfo, z1, z2]
      have key : ∃ u : Value, (Instr.lookup t (ρ x) (ρ i) ok).run E.P w = .ok (if ok then .tuple #[u, .bool (mhas kt vt n l)] else u) w ∧ ElD vt (mget kt vt n l) u := by
        rcases find_abs (vt := vt) hkd hkn es.toList l 0 hpw with ⟨f1, f2, f3, _⟩ | ⟨j, e, y, f1, f2, f3, f4, f5, _, _⟩
        · refine ⟨z, ?_, by rw [f3]; exact z3⟩
          rw [e1, f1]
          simp [Instr.lookup, run_underlying hund, Go.MapKept.run_getObj_map hq, run_checkKey hd hik, run_findKey hd f2, hzero, Result.andThen]
        · refine ⟨e.val, ?_, by rw [f5]; exact (hpw.2 j e y f1 f2).2⟩
          rw [e1, f4]
          simp [Instr.lookup, run_underlying hund, Go.MapKept.run_getObj_map hq, run_checkKey hd hik, run_findKey hd f3, Result.andThen]
      obtain ⟨u, hrun, hu⟩ := key
      cases ok with
      | true =>
        cases hf
        refine .quiet R rfl _ (run_v hrun) ?_
        refine .tup _ _ rfl fun j a b h1 h2 => ?_
        match j with
        | 0 => simp at h1 h2; subst h1; subst h2; exact el_rep c2 hu
        | 1 => simp at h1 h2; subst h1; subst h2; exact .bool _
        | j + 2 => simp at h1
      | false =>
        cases hf
        exact .quiet R rfl _ (run_v hrun) (el_rep c2 hu)
    · cases hf
  · cases hf

theorem op_lookup (hE : EnvOK E) (R : RelH w I μ h) (G : GOK g h) {t : TypeId} {x i : Operand} {ok : Bool} {vs : List AV} (hv : Reps w I h μ ρ (opnds E ⟨dst, .lookup t x i ok, ty, pos, aft, gd⟩) vs)
    (hf : fCore E ⟨dst, .lookup t x i ok, ty, pos, aft, gd⟩ vs g b0 = some fr) : OpOK E ⟨dst, .lookup t x i ok, ty, pos, aft, gd⟩ ρ w I h μ fr := by
  match vs, hv with
  | [m, c], hv =>
    obtain ⟨hm, hc, _⟩ := hv
    cases m with
    | mptr b =>
      simp only [fCore] at hf
      cases hgb : g b with
      | mp kt vt l =>
        rw [hgb] at hf
        refine lookup_ok hE R hc (fun hk => ?_) hf
        obtain ⟨q, es, cl, e1, _, _, hq, hpw, _⟩ := map_at R G hk hm hgb
        exact ⟨q, es, cl, e1, hq, hpw⟩
      | _ => rw [hgb] at hf; simp [lookupA] at hf
    | fmap kt vt l =>
      simp only [fCore] at hf
      refine lookup_ok hE R hc (fun hk => ?_) hf
      generalize hq : ρ x = q at hm
      cases hm with
      | fmap _ _ _ q es cl hi hg hd => exact ⟨q, es, cl, rfl, hg, by simpa using hd.1, fun n e x e1 e2 => hd.2.1 n e x (by simpa using e1) e2⟩
    | _ => simp [fCore] at hf

theorem contains_push (s : Array Nat) (b x : Nat) : (s.push b).contains x = (s.contains x || (x == b)) := by
  rw [Bool.eq_iff_iff]
  simp
theorem leftOf_push (es : Array MapEntry) (s : Array Nat) (b : Nat) : (leftOf es (s.push b)).toList = (leftOf es s).toList.filter fun e => !(e.born == b) := by
  unfold leftOf
  rw [Array.toList_filter, Array.toList_filter, List.filter_filter]
  refine List.filter_congr fun x _ => ?_
  rw [contains_push]
  cases s.contains x.born <;> cases x.born == b <;> rfl
theorem filter_born : ∀ (L : List MapEntry) (j : Nat) (e : MapEntry), (L.map (·.born)).Nodup → L[j]? = some e → L.filter (fun x => !(x.born == e.born)) = L.eraseIdx j
  | [], j, e, _, h => by simp at h
  | a :: L, 0, e, hn, h => by
    simp at h
    subst h
    simp only [List.map_cons, List.nodup_cons] at hn
    simp only [List.eraseIdx_cons_zero]
    rw [List.filter_cons_of_neg (by simp)]
    refine List.filter_eq_self.2 fun x hx => ?_
    simp only [Bool.not_eq_true', beq_eq_false_iff_ne]
    intro he
    exact hn.1 (List.mem_map.2 ⟨x, hx, he⟩)
  | a :: L, j + 1, e, hn, h => by
    simp only [List.map_cons, List.nodup_cons] at hn
    have h : L[j]? = some e := by simpa using h
    simp only [List.eraseIdx_cons_succ]
    rw [List.filter_cons_of_pos, filter_born L j e hn.2 h]
    simp only [Bool.not_eq_true', beq_eq_false_iff_ne]
    intro he
    exact hn.1 (List.mem_map.2 ⟨e, List.mem_of_getElem? h, he.symm⟩)

theorem ItD.new {k v : Ty} {es : Array MapEntry} {c : Nat} {l : List (k.den × v.den)} (h : MapD k v es c l) : ItD k v es c c c #[] (itNew k v l) := by
  have e : leftOf es #[] = es := by
    unfold leftOf
    exact Array.filter_eq_self.2 fun x _ => by simp
  refine ⟨h.2.2.1, rfl, Nat.le_refl _, h.2.2.2, by rw [e]; simp [itNew, h.1], by simp [itNew], fun n e' x e1 e2 => ?_, fun x hx hb => ?_⟩
  · rw [e] at e1
    have e2 : (l.map fun x => ((false, x.1), x.2))[n]? = some x := e2
    rw [List.getElem?_map] at e2
    cases hq : l[n]? with
    | none => rw [hq] at e2; cases e2
    | some y => rw [hq] at e2; cases e2; exact h.2.1 n e' y e1 hq
  · have hx : some (((false, k.zero), v.zero) : (Bool × k.den) × v.den) = some x := hx
    cases hx
    cases hb

/-- A range over a map goes on, whichever entry is next; or is over. -/
theorem RelH.stepIt (R : RelH w I μ h) {b : Nat} {k v : Ty} {l : List ((Bool × k.den) × v.den)} {u : Value} (hr : Rep w I h μ u (.ptr b 0)) (hb : h[b]? = some (.mp (.pair .bool k) v l)) :
    ∃ v' w' x' h' μ', (Instr.next u false ty).run E.P w = .ok v' w' ∧ Rep w' I h' μ' v' x' ∧ RelH w' I μ' h' ∧ Fr w (Wr h μ) I w' (Wr h' μ') I ∧ HM h μ h' μ' ∧
      ((l.tail = [] ∧ x' = .tup [.f] ∧ h' = h) ∨ ∃ j, j < l.tail.length ∧ x' = .tup [.t, .junk, .junk] ∧ h' = hput h b (.mp (.pair .bool k) v (itPut k v l j))) := by
  obtain ⟨r, q, es, c, since, c0, seen, h1, h2, h3, h4, i1, i2, i3, i4, i5, i6, i7, i8⟩ := (show MpAt w I μ b (.pair .bool k) v l from R.blk b _ hb)
  subst i2
  cases hr with
  | ptr _ _ r' hp =>
    obtain ⟨x, hx, _, hp2⟩ := hp
    rw [hb] at hx; cases hx
    have := hp2 (by simp)
    rw [this] at h1; cases h1
    rcases run_next_at (P := E.P) w ty r q since c0 seen es c0 h2 h4 i1 i3 with ⟨hz, hrun⟩ | ⟨e, he, w1, hal, hrun⟩
    · refine ⟨_, w, .tup [.f], h, μ, hrun, ?_, R, Fr.refl _ _ _, HM.refl _ _, .inl ⟨?_, rfl, rfl⟩⟩
      · refine .tup _ _ rfl fun i v c e1 e2 => ?_
        match i with
        | 0 => cases e1; cases e2; exact .f
        | n + 1 => simp at e2
      · exact List.eq_nil_of_length_eq_zero (by omega)
    · obtain ⟨j, hj⟩ := List.getElem?_of_mem he
      have hjl : j < l.tail.length := by
        rw [← i5]
        have := (List.getElem?_eq_some_iff.1 hj).1
        simpa using this
      obtain ⟨R1, F1⟩ : RelH w1 I μ h ∧ Fr w (Wr h μ) I w1 (Wr h μ) I := by
        rcases hal with rfl | rfl
        · exact ⟨R, Fr.refl _ _ _⟩
        · exact R.drew
      have hr1 : w1.heap[r]? = some (.mapIter (some q) since seen c0) := by rcases hal with rfl | rfl <;> exact h2
      have hq1 : w1.heap[q]? = some (.map es c0) := by rcases hal with rfl | rfl <;> exact h4
      have hqr : q ≠ r := by rintro rfl; rw [h2] at h4; cases h4
      have hset := heap_set (w := w1) (o' := .mapIter (some q) since (seen.push e.born) c0) hr1
      have hmem : e ∈ es.toList := by
        have : e ∈ (leftOf es seen).toList := he
        unfold leftOf at this
        rw [Array.toList_filter] at this
        exact (List.mem_filter.1 this).1
      have hx0 : l.tail[j]? = some l.tail[j] := List.getElem?_eq_getElem hjl
      have hg0 : itGet k v l j = l.tail[j] := by unfold itGet; rw [hx0]; rfl
      have hcor := i7 j e l.tail[j] (by rw [← Array.getElem?_toList]; exact hj) hx0
      have hnl : ((leftOf es seen).toList.map (·.born)).Nodup := by
        unfold leftOf
        rw [Array.toList_filter]
        exact (List.filter_sublist.map _).nodup i4
      have hle : (leftOf es (seen.push e.born)).toList = (leftOf es seen).toList.eraseIdx j := by
        rw [leftOf_push, filter_born _ j e hnl hj]
      obtain ⟨r1, r2, r3⟩ := R1.writeMp (w' := Go.ChangeMaps.setBlock w1 r (.mapIter (some q) since (seen.push e.born) c0)) (kt := .pair .bool k) (vt := v) (l' := itPut k v l j) hb this hr1 (fun _ _ _ e => by cases e) hset.1 trivial hset.2 rfl rfl rfl (by simp [Go.ChangeMaps.setBlock]) (by
        refine ⟨r, q, es, c0, since, c0, seen.push e.born, this, hset.1, h3, (hset.2 q hqr).trans hq1, i1, rfl, i3, i4, ?_, by simp [itPut], fun n e' x e1 e2 => ?_, fun x hx _ => ?_⟩
        · rw [← Array.length_toList, hle, List.length_eraseIdx]
          have : (leftOf es seen).toList.length = l.tail.length := by rw [Array.length_toList]; exact i5
          show _ = (l.tail.eraseIdx j).length
          rw [List.length_eraseIdx, this]
        · rw [← Array.getElem?_toList, hle, List.getElem?_eraseIdx] at e1
          have e2 : (l.tail.eraseIdx j)[n]? = some x := e2
          rw [List.getElem?_eraseIdx] at e2
          split at e1
          · rename_i hn
            rw [if_pos hn] at e2
            exact i7 n e' x (by rw [← Array.getElem?_toList]; exact e1) e2
          · rename_i hn
            rw [if_neg hn] at e2
            exact i7 (n + 1) e' x (by rw [← Array.getElem?_toList]; exact e1) e2
        · have hx : some (((true, (itGet k v l j).1.2), (itGet k v l j).2) : (Bool × k.den) × v.den) = some x := hx
          cases hx
          refine ⟨e, hmem, ?_, ?_, seen, rfl⟩
          · show ScalD k (itGet k v l j).1.2 e.key
            rw [hg0]; exact hcor.1
          · show ElD v (itGet k v l j).2 e.val
            rw [hg0]; exact hcor.2)
      refine ⟨_, _, .tup [.t, .junk, .junk], _, μ, hrun, ?_, r1, F1.trans r2, r3, .inr ⟨j, hjl, rfl, rfl⟩⟩
      refine .tup _ _ rfl fun i v c e1 e2 => ?_
      match i with
      | 0 => cases e1; cases e2; exact .t
      | 1 => cases e1; cases e2; exact .junk _
      | 2 => cases e1; cases e2; exact .junk _
      | n + 3 => simp at e2

/-- A range over a map that nobody writes any more begins. -/
theorem RelH.newIt (R : RelH w I μ h) (hb : b0 ≤ h.length) (hh : h[b0]? = none ∨ h[b0]? = some .hole) {k v : Ty} {l : List (k.den × v.den)} {q c : Nat} {es : Array MapEntry} (hi : ∀ o, I q o) (hq : w.heap[q]? = some (.map es c)) (hd : MapD k v es c l) :
    Rep (w.alloc (.mapIter (some q) c #[] c)) I (hput h b0 (.mp (.pair .bool k) v (itNew k v l))) (upd μ b0 w.heap.size) (.pointer (some ⟨w.heap.size, 0, none⟩)) (.ptr b0 0) ∧
    RelH (w.alloc (.mapIter (some q) c #[] c)) I (upd μ b0 w.heap.size) (hput h b0 (.mp (.pair .bool k) v (itNew k v l))) ∧
    Fr w (Wr h μ) I (w.alloc (.mapIter (some q) c #[] c)) (Wr (hput h b0 (.mp (.pair .bool k) v (itNew k v l))) (upd μ b0 w.heap.size)) I ∧ HM h μ (hput h b0 (.mp (.pair .bool k) v (itNew k v l))) (upd μ b0 w.heap.size) := by
  have hal := heap_alloc w (.mapIter (some q) c #[] c)
  have hq' := (hal.2 q (Array.getElem?_eq_some_iff.1 hq).1).trans hq
  obtain ⟨h2, h3, h4⟩ := R.layO hb hh (.mapIter (some q) c #[] c) trivial (.mp (.pair .bool k) v (itNew k v l)) (show MpAt _ _ _ _ (.pair .bool k) v _ from
    ⟨w.heap.size, q, es, c, c, c, #[], upd_same _ _ _, hal.1, hi, hq', ItD.new hd⟩)
  refine ⟨.ptr b0 0 w.heap.size ⟨.mp (.pair .bool k) v (itNew k v l), ?_, by simp, fun _ => upd_same _ _ _⟩, h2, h3, h4⟩
  rw [hput_get _ h b0 b0 hb, if_pos rfl]

theorem und_map (hE : EnvOK E) {t : TypeId} (hm : isMapUD (E.ti t).ud = true) : ∃ k v, E.P.underlying t = some (.map k v) := by
  cases hud : (E.ti t).ud with
  | map k v =>
    have := hE.und t (kn_map hud)
    rw [hud] at this
    exact ⟨k, v, this⟩
  | _ => rw [hud] at hm; cases hm

theorem op_range (hE : EnvOK E) (R : RelH w I μ h) (G : GOK g h) (hb : b0 ≤ h.length) (hh : h[b0]? = none ∨ h[b0]? = some .hole) {t : TypeId} {x : Operand} {vs : List AV} (hv : Reps w I h μ ρ (opnds E ⟨dst, .range t x, ty, pos, aft, gd⟩) vs)
    (hf : fCore E ⟨dst, .range t x, ty, pos, aft, gd⟩ vs g b0 = some fr) : OpOK E ⟨dst, .range t x, ty, pos, aft, gd⟩ ρ w I h μ fr := by
  match vs, hv with
  | [m], hv =>
    obtain ⟨hm, _⟩ := hv
    cases m with
    | mptr b =>
      simp only [fCore] at hf
      split at hf
      · rename_i kt vt l hgb
        obtain ⟨hck, hf⟩ := chk_some hf
        simp only [Bool.and_eq_true, Bool.not_eq_true'] at hck
        cases hf
        obtain ⟨q, es, cl, e1, hbb, hμ, hq, _, hmd⟩ := map_at R G hck.1.2 hm hgb
        obtain ⟨k, v, hund⟩ := und_map hE hck.1.1
        have hne : b ≠ b0 := fun e => by rw [e, Nat.beq_refl] at hck; exact absurd hck.2 (by simp)
        obtain ⟨I1, R1, F1, M1, hI⟩ := R.freezeMap hbb hμ
        have hlen : b ≤ h.length := by
          have := (List.getElem?_eq_some_iff.1 hbb).1
          omega
        obtain ⟨r1, r2, r3, r4⟩ := R1.newIt (b0 := b0) (k := kt) (v := vt) (l := l) (by
            have := hput_len .gone h b hlen
            omega) (by rw [hput_get _ h b b0 hlen, if_neg (Ne.symm hne)]; exact hh) hI hq hmd
        refine ⟨_, _, _, I1, _, run_v (s := Instr.range t (ρ x)) (by rw [e1]; exact run_range_map w t k v q es cl hund hq), .inl rfl, r1, r2, F1.trans r3, M1.trans r4⟩
      · cases hf
    | fmap kt vt l =>
      simp only [fCore] at hf
      obtain ⟨hck, hf⟩ := chk_some hf
      cases hf
      obtain ⟨k, v, hund⟩ := und_map hE hck
      generalize hq : ρ x = q at hm
      cases hm with
      | fmap _ _ _ q es cl hi hg hd =>
        obtain ⟨r1, r2, r3, r4⟩ := R.newIt hb hh (k := kt) (v := vt) (l := l) hi hg hd
        exact ⟨_, _, _, I, _, run_v (s := Instr.range t (ρ x)) (by rw [hq]; exact run_range_map w t k v q es cl hund hg), .inl rfl, r1, r2, r3, r4⟩
    | _ => simp [fCore] at hf

theorem op_entry (R : RelH w I μ h) (G : GOK g h) {x : Operand} {vs : List AV} (hv : Reps w I h μ ρ (opnds E ⟨dst, .entry x, ty, pos, aft, gd⟩) vs)
    (hf : fCore E ⟨dst, .entry x, ty, pos, aft, gd⟩ vs g b0 = some fr) : OpOK E ⟨dst, .entry x, ty, pos, aft, gd⟩ ρ w I h μ fr := by
  match vs, hv with
  | [m], hv =>
    obtain ⟨hm, _⟩ := hv
    cases m with
    | ptr b j =>
      cases j with
      | succ j => simp [fCore] at hf
      | zero =>
        simp only [fCore] at hf
        split at hf
        · rename_i kt vt l hgb
          split at hf
          · rename_i y r
            split at hf
            · rename_i hy
              obtain ⟨hck, hf⟩ := chk_some hf
              simp only [Bool.and_eq_true] at hck
              cases hf
              have hb := G.some hgb (by simp)
              obtain ⟨r', q, es, c, since, c0, seen, h1, h2, h3, h4, i1, i2, i3, i4, i5, i6, i7, i8⟩ := (show MpAt w I μ b (.pair .bool kt) vt _ from R.blk b _ hb)
              obtain ⟨e, he, d1, d2, s0, rfl⟩ := i8 y rfl hy
              subst i2
              generalize hq : ρ x = u at hm
              cases hm with
              | ptr _ _ rr hp =>
                obtain ⟨z, hz, _, hp2⟩ := hp
                rw [hb] at hz; cases hz
                have := hp2 (by simp)
                rw [this] at h1; cases h1
                refine .quiet R rfl _ (run_v (s := Instr.entry (ρ x)) (by rw [hq]; exact run_entry_at w r' q since s0 es c0 e h2 h4 he i4)) ?_
                refine .tup _ _ rfl fun j a b h1 h2 => ?_
                match j with
                | 0 => simp at h1 h2; subst h1; subst h2; exact d_rep hck.1 d1
                | 1 => simp at h1 h2; subst h1; subst h2; exact el_rep hck.2 d2
                | j + 2 => simp at h1
            · cases hf
          · cases hf
        · cases hf
    | _ => simp [fCore] at hf

theorem op_mapUpdate (hE : EnvOK E) (R : RelH w I μ h) (G : GOK g h) {t : TypeId} {x i y : Operand} {vs : List AV} (hv : Reps w I h μ ρ (opnds E ⟨dst, .mapUpdate t x i y, ty, pos, aft, gd⟩) vs)
    (hf : fCore E ⟨dst, .mapUpdate t x i y, ty, pos, aft, gd⟩ vs g b0 = some fr) : OpOK E ⟨dst, .mapUpdate t x i y, ty, pos, aft, gd⟩ ρ w I h μ fr := by
  match vs, hv with
  | [m, c, o], hv =>
    obtain ⟨hm, hc, ho, _⟩ := hv
    cases m with
    | mptr b =>
      simp only [fCore, updateA] at hf
      split at hf
      · rename_i k v kt vt l hud hgb
        obtain ⟨c1, hf⟩ := chk_some hf
        obtain ⟨q, es, cl, e1, hb, hμ, hq, hpw, hmd⟩ := map_at R G (sameUD_key c1) hm hgb
        have hund : E.P.underlying t = some (.map k v) := by
          have := hE.und t (kn_map hud)
          rw [hud] at this
          exact this
        obtain ⟨d, hd, hkd⟩ := keyD_of (hE.und k (kn_same c1)) c1
        split at hf
        · rename_i n a hn ha
          cases hf
          have hkn := scal_d hc hn
          have han := el_d ho ha
          have hik := keyD_is hkd hkn
          have hset := heap_set (w := w) (o' := .map #[] 0) hq
          have key : ∃ es' cl', (Instr.mapUpdate t (ρ x) (ρ i) (ρ y)).run E.P w = .ok () { w with heap := w.heap.setIfInBounds q (.map es' cl') } ∧ PW kt vt es'.toList (mset kt vt n a l) ∧ (∀ e ∈ es'.toList, e.born < cl') ∧ (es'.toList.map (·.born)).Nodup := by
            rcases find_abs (vt := vt) hkd hkn es.toList l 0 hpw with ⟨f1, f2, f3, f4⟩ | ⟨j, e, z, f1, f2, f3, f4, f5, f6, f7⟩
            · refine ⟨es.push { key := ρ i, val := ρ y, born := cl }, cl + 1, ?_, ?_, ?_, ?_⟩
              rotate_left 2
              · intro e he
                simp only [Array.toList_push, List.mem_append, List.mem_singleton] at he
                rcases he with he | rfl
                · exact Nat.lt_succ_of_lt (hmd.2.2.1 e he)
                · exact Nat.lt_succ_self cl
              · simp only [Array.toList_push, List.map_append, List.map_cons, List.map_nil]
                refine List.nodup_append.2 ⟨hmd.2.2.2, by simp, ?_⟩
                intro a ha b hb
                simp only [List.mem_singleton] at hb
                obtain ⟨e, he, rfl⟩ := List.mem_map.1 ha
                have := hmd.2.2.1 e he
                omega
              · rw [e1]
                simp [Instr.mapUpdate, run_underlying hund, Go.MapKept.run_getObj_map hq, run_checkKey hd hik, run_findKey hd f2, run_setObj_map _ hq, Result.andThen]
              · rw [f4]
                refine ⟨by simp [hpw.1], fun m e' x' g1 g2 => ?_⟩
                simp only [Array.toList_push] at g1
                rcases Nat.lt_trichotomy m es.toList.length with h1 | h1 | h1
                · rw [List.getElem?_append_left h1] at g1
                  rw [List.getElem?_append_left (by rw [← hpw.1]; exact h1)] at g2
                  exact hpw.2 m e' x' g1 g2
                · subst h1
                  rw [List.getElem?_append_right (Nat.le_refl _)] at g1
                  rw [List.getElem?_append_right (by rw [hpw.1]; exact Nat.le_refl _)] at g2
                  simp [hpw.1] at g1 g2
                  subst g1; subst g2
                  exact ⟨hkn, han⟩
                · rw [List.getElem?_eq_none (by simp at h1 ⊢; omega)] at g1
                  cases g1
            · have hj : es[j]? = some e := by simpa using f1
              have hborn : (es.modify j fun e => { e with key := ρ i, val := ρ y }).toList.map (·.born) = es.toList.map (·.born) := by
                apply List.ext_getElem?
                intro m
                rw [List.getElem?_map, List.getElem?_map, Array.getElem?_toList, Array.getElem?_modify, Array.getElem?_toList]
                by_cases hjm : j = m
                · subst hjm; rw [if_pos rfl]; cases es[j]? <;> rfl
                · rw [if_neg hjm]
              refine ⟨es.modify j fun e => { e with key := ρ i, val := ρ y }, cl, ?_, ?_, ?_, by rw [hborn]; exact hmd.2.2.2⟩
              rotate_left 2
              · intro e he
                have : e.born ∈ (es.modify j fun e => { e with key := ρ i, val := ρ y }).toList.map (·.born) := List.mem_map.2 ⟨e, he, rfl⟩
                rw [hborn] at this
                obtain ⟨e0, he0, h0⟩ := List.mem_map.1 this
                rw [← h0]
                exact hmd.2.2.1 e0 he0
              · rw [e1]
                simp [Instr.mapUpdate, run_underlying hund, Go.MapKept.run_getObj_map hq, run_checkKey hd hik, run_findKey hd f3, hj, ← f6, run_keyThatStays hik, run_setObj_map _ hq, Result.andThen]
              · rw [f7]
                refine ⟨by simpa using hpw.1, fun m e' x' g1 g2 => ?_⟩
                rw [Array.getElem?_toList, Array.getElem?_modify] at g1
                rw [List.getElem?_set] at g2
                by_cases hjm : j = m
                · subst hjm
                  rw [if_pos rfl, hj] at g1
                  have hjl : j < l.length := (List.getElem?_eq_some_iff.1 f2).1
                  rw [if_pos rfl, if_pos hjl] at g2
                  simp at g1 g2
                  subst g1; subst g2
                  have := hpw.2 j e z f1 f2
                  refine ⟨?_, han⟩
                  first | exact this.1 | (simp only; rw [f6]; exact this.1)
                · rw [if_neg hjm] at g1 g2
                  exact hpw.2 m e' x' (by simpa using g1) g2
          obtain ⟨es', cl', hrun, hpw', hst', hnd'⟩ := key
          have hset := heap_set (w := w) (o' := .map es' cl') hq
          obtain ⟨r1, r2, r3⟩ := R.writeMap (w' := { w with heap := w.heap.setIfInBounds q (.map es' cl') }) hb hμ hq hset.1 hset.2 rfl rfl rfl (by simp) (sameUD_key c1) ⟨by simpa using hpw'.1, fun m e' x' g1 g2 => hpw'.2 m e' x' (by simpa using g1) g2, hst', hnd'⟩
          exact ⟨undef, _, _, I, μ, run_u hrun, .inr ⟨rfl, rfl⟩, .junk _, r1, r2, r3⟩
        · cases hf
      · cases hf
    | _ => simp [fCore] at hf
theorem op_insert (hE : EnvOK E) (R : RelH w I μ h) (G : GOK g h) {t : TypeId} {x i y : Operand} {vs : List AV} (hv : Reps w I h μ ρ (opnds E ⟨dst, .insert t x i y, ty, pos, aft, gd⟩) vs)
    (hf : fCore E ⟨dst, .insert t x i y, ty, pos, aft, gd⟩ vs g b0 = some fr) : OpOK E ⟨dst, .insert t x i y, ty, pos, aft, gd⟩ ρ w I h μ fr := by
  match vs, hv with
  | [m, c, o], hv =>
    obtain ⟨hm, hc, ho, _⟩ := hv
    cases m with
    | mptr b =>
      simp only [fCore, updateA] at hf
      split at hf
      · rename_i k v kt vt l hud hgb
        obtain ⟨c1, hf⟩ := chk_some hf
        obtain ⟨q, es, cl, e1, hb, hμ, hq, hpw, hmd⟩ := map_at R G (sameUD_key c1) hm hgb
        have hund : E.P.underlying t = some (.map k v) := by
          have := hE.und t (kn_map hud)
          rw [hud] at this
          exact this
        obtain ⟨d, hd, hkd⟩ := keyD_of (hE.und k (kn_same c1)) c1
        split at hf
        · rename_i n a hn ha
          cases hf
          have hkn := scal_d hc hn
          have han := el_d ho ha
          have hik := keyD_is hkd hkn
          have hset := heap_set (w := w) (o' := .map #[] 0) hq
          have key : ∃ es' cl', (Instr.mapUpdate t (ρ x) (ρ i) (ρ y)).run E.P w = .ok () { w with heap := w.heap.setIfInBounds q (.map es' cl') } ∧ PW kt vt es'.toList (mset kt vt n a l) ∧ (∀ e ∈ es'.toList, e.born < cl') ∧ (es'.toList.map (·.born)).Nodup := by
            rcases find_abs (vt := vt) hkd hkn es.toList l 0 hpw with ⟨f1, f2, f3, f4⟩ | ⟨j, e, z, f1, f2, f3, f4, f5, f6, f7⟩
            · refine ⟨es.push { key := ρ i, val := ρ y, born := cl }, cl + 1, ?_, ?_, ?_, ?_⟩
              rotate_left 2
              · intro e he
                simp only [Array.toList_push, List.mem_append, List.mem_singleton] at he
                rcases he with he | rfl
                · exact Nat.lt_succ_of_lt (hmd.2.2.1 e he)
                · exact Nat.lt_succ_self cl
              · simp only [Array.toList_push, List.map_append, List.map_cons, List.map_nil]
                refine List.nodup_append.2 ⟨hmd.2.2.2, by simp, ?_⟩
                intro a ha b hb
                simp only [List.mem_singleton] at hb
                obtain ⟨e, he, rfl⟩ := List.mem_map.1 ha
                have := hmd.2.2.1 e he
                omega
              · rw [e1]
                simp [Instr.mapUpdate, run_underlying hund, Go.MapKept.run_getObj_map hq, run_checkKey hd hik, run_findKey hd f2, run_setObj_map _ hq, Result.andThen]
              · rw [f4]
                refine ⟨by simp [hpw.1], fun m e' x' g1 g2 => ?_⟩
                simp only [Array.toList_push] at g1
                rcases Nat.lt_trichotomy m es.toList.length with h1 | h1 | h1
                · rw [List.getElem?_append_left h1] at g1
                  rw [List.getElem?_append_left (by rw [← hpw.1]; exact h1)] at g2
                  exact hpw.2 m e' x' g1 g2
                · subst h1
                  rw [List.getElem?_append_right (Nat.le_refl _)] at g1
                  rw [List.getElem?_append_right (by rw [hpw.1]; exact Nat.le_refl _)] at g2
                  simp [hpw.1] at g1 g2
                  subst g1; subst g2
                  exact ⟨hkn, han⟩
                · rw [List.getElem?_eq_none (by simp at h1 ⊢; omega)] at g1
                  cases g1
            · have hj : es[j]? = some e := by simpa using f1
              have hborn : (es.modify j fun e => { e with key := ρ i, val := ρ y }).toList.map (·.born) = es.toList.map (·.born) := by
                apply List.ext_getElem?
                intro m
                rw [List.getElem?_map, List.getElem?_map, Array.getElem?_toList, Array.getElem?_modify, Array.getElem?_toList]
                by_cases hjm : j = m
                · subst hjm; rw [if_pos rfl]; cases es[j]? <;> rfl
                · rw [if_neg hjm]
              refine ⟨es.modify j fun e => { e with key := ρ i, val := ρ y }, cl, ?_, ?_, ?_, by rw [hborn]; exact hmd.2.2.2⟩
              rotate_left 2
              · intro e he
                have : e.born ∈ (es.modify j fun e => { e with key := ρ i, val := ρ y }).toList.map (·.born) := List.mem_map.2 ⟨e, he, rfl⟩
                rw [hborn] at this
                obtain ⟨e0, he0, h0⟩ := List.mem_map.1 this
                rw [← h0]
                exact hmd.2.2.1 e0 he0
              · rw [e1]
                simp [Instr.mapUpdate, run_underlying hund, Go.MapKept.run_getObj_map hq, run_checkKey hd hik, run_findKey hd f3, hj, ← f6, run_keyThatStays hik, run_setObj_map _ hq, Result.andThen]
              · rw [f7]
                refine ⟨by simpa using hpw.1, fun m e' x' g1 g2 => ?_⟩
                rw [Array.getElem?_toList, Array.getElem?_modify] at g1
                rw [List.getElem?_set] at g2
                by_cases hjm : j = m
                · subst hjm
                  rw [if_pos rfl, hj] at g1
                  have hjl : j < l.length := (List.getElem?_eq_some_iff.1 f2).1
                  rw [if_pos rfl, if_pos hjl] at g2
                  simp at g1 g2
                  subst g1; subst g2
                  have := hpw.2 j e z f1 f2
                  refine ⟨?_, han⟩
                  first | exact this.1 | (simp only; rw [f6]; exact this.1)
                · rw [if_neg hjm] at g1 g2
                  exact hpw.2 m e' x' (by simpa using g1) g2
          obtain ⟨es', cl', hrun, hpw', hst', hnd'⟩ := key
          have hset := heap_set (w := w) (o' := .map es' cl') hq
          obtain ⟨r1, r2, r3⟩ := R.writeMap (w' := { w with heap := w.heap.setIfInBounds q (.map es' cl') }) hb hμ hq hset.1 hset.2 rfl rfl rfl (by simp) (sameUD_key c1) ⟨by simpa using hpw'.1, fun m e' x' g1 g2 => hpw'.2 m e' x' (by simpa using g1) g2, hst', hnd'⟩
          exact ⟨undef, _, _, I, μ, run_u hrun, .inr ⟨rfl, rfl⟩, .junk _, r1, r2, r3⟩
        · cases hf
      · cases hf
    | _ => simp [fCore] at hf
end
end Go.AM
