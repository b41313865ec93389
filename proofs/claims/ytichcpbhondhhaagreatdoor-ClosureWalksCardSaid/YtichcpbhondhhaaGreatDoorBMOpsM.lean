/-
 AM, part 15b: maps: made, looked up, written.
-/
import Derived.MapKept
import Derived.Test.YtichcpbhondhhaaGreatDoorBMOpsB
namespace Go.AM
set_option linter.unusedSectionVars false
variable [Lay]
open Go.MapKept
theorem scal_d {w : World} {I : Nat → Nat → Prop} {h : Heap} {μ : Nat → Option Nat} {t : Ty} {v : Value} {x : AV} {n : t.den} (r : Rep w I h μ v x) (hs : scal t x = some n) : ScalD t n v := by
 cases t <;> cases x <;> simp [scal] at hs
 ·split at hs
  ·rename_i e _
   subst e
   simp at hs
   subst hs
   cases r; rfl
  ·cases hs
 ·subst hs; cases r; rfl
 ·subst hs; cases r; rfl
 ·subst hs; cases r; rfl
 ·subst hs; cases r; rfl
theorem d_rep {w : World} {I : Nat → Nat → Prop} {h : Heap} {μ : Nat → Option Nat} {t : Ty} {v : Value} {n : t.den} (hs : isScal t = true) (r : ScalD t n v) : Rep w I h μ v (scalAV t n) := by
 cases t <;> simp [isScal] at hs
 ·obtain rfl := r; exact .int _ _
 ·obtain rfl := r; exact .bool _
 ·obtain rfl := r; exact .str _
def keyD (kt : Ty) (d : TypeDesc) : Prop := match kt with
 | .int k => d = .int k
 | .str => d = .string
 | _ => False
theorem keyD_of {P : Program} {t : TypeId} {ud : UD} {kt : Ty} (hu : UDok P t ud) (hs : sameUD ud kt = true) : ∃ d, P.underlying t = some d ∧ keyD kt d := by
 cases ud <;> cases kt <;> simp [sameUD] at hs
 ·subst hs; exact ⟨_, hu, rfl⟩
 ·exact ⟨_, hu, rfl⟩
theorem keyD_is {kt : Ty} {d : TypeDesc} {n : kt.den} {v : Value} (hd : keyD kt d) (hv : ScalD kt n v) : IsKey d v := by
 cases kt <;> simp only [keyD] at hd
 ·subst hd; obtain rfl := hv; rfl
 ·subst hd; obtain rfl := hv; trivial
theorem keyB_same {kt : Ty} {d : TypeDesc} {n m : kt.den} {v u : Value} (hd : keyD kt d) (hv : ScalD kt n v) (hu : ScalD kt m u) : Instr.sameNow d v u = some (keyB kt n m) ∧ (keyB kt n m = true → v = u) := by
 cases kt <;> simp only [keyD] at hd
 ·subst hd; obtain rfl := hv; obtain rfl := hu
  refine ⟨by simp [Instr.sameNow, keyB], fun h => ?_⟩
  have h : ((n : Int) == m) = true := h
  have e : (n : Int) = m := by simpa using h
  rw [e]
 ·subst hd; obtain rfl := hv; obtain rfl := hu
  have key : ((⟨(n : Str).toArray⟩ : ByteArray) == ⟨(m : Str).toArray⟩) = ((n : Str) == m) := by
   rw [Bool.eq_iff_iff, bytes_beq]
   constructor
   ·intro e
    injection e with e
    have : (n : Str) = m := by simpa using congrArg Array.toList e
    simpa using this
   ·intro e
    have : (n : Str) = m := by simpa using e
    rw [this]
  refine ⟨by simp only [Instr.sameNow, key]; rfl, fun h => ?_⟩
  have h : ((n : Str) == m) = true := h
  have e : (n : Str) = m := by simpa using h
  rw [e]
def PW (kt vt : Ty) (es : List MapEntry) (l : List (kt.den × vt.den)) : Prop :=
 es.length = l.length ∧ ∀ (n : Nat) (e : MapEntry) (x : kt.den × vt.den), es[n]? = some e → l[n]? = some x → ScalD kt x.1 e.key ∧ ScalD vt x.2 e.val
theorem find_abs {kt vt : Ty} {d : TypeDesc} {n : kt.den} {k : Value} (hd : keyD kt d) (hk : ScalD kt n k) : ∀ (es : List MapEntry) (l : List (kt.den × vt.den)) (i : Nat), PW kt vt es l →
  (mhas kt vt n l = false ∧ Instr.findNow d k es i = some none ∧ mget kt vt n l = vt.zero ∧ ∀ y, mset kt vt n y l = l ++ [(n, y)]) ∨
  (∃ j e x, es[j]? = some e ∧ l[j]? = some x ∧ Instr.findNow d k es i = some (some (i + j, e.val)) ∧ mhas kt vt n l = true ∧ mget kt vt n l = x.2 ∧ k = e.key ∧ ∀ y, mset kt vt n y l = l.set j (x.1, y))
 | [], [], i, _ => .inl ⟨rfl, rfl, rfl, fun _ => rfl⟩
 | [], _ :: _, _, h => by simp [PW] at h
 | _ :: _, [], _, h => by simp [PW] at h
 | e :: es, (a, b) :: l, i, h => by
  obtain ⟨hl, hp⟩ := h
  obtain ⟨h1, h2⟩ := hp 0 e (a, b) rfl rfl
  obtain ⟨s1, s2⟩ := keyB_same hd hk h1
  cases hq : keyB kt n a with
  | true =>
   rw [hq] at s1 s2
   refine .inr ⟨0, e, (a, b), rfl, rfl, by simp [Instr.findNow, s1], by simp [mhas, hq], by simp [mget, hq], s2 rfl, fun y => by simp [mset, hq]⟩
  | false =>
   rw [hq] at s1
   have ih := find_abs (vt := vt) hd hk es l (i + 1) ⟨by simpa using hl, fun m e' x' e1 e2 => hp (m + 1) e' x' (by simpa using e1) (by simpa using e2)⟩
   rcases ih with ⟨i1, i2, i3, i4⟩ | ⟨j, e', x, i1, i2, i3, i4, i5, i6, i7⟩
   ·exact .inl ⟨by simp [mhas, hq, i1], by simp [Instr.findNow, s1, i2], by simp [mget, hq, i3], fun y => by simp [mset, hq, i4]⟩
   ·exact .inr ⟨j + 1, e', x, by simpa using i1, by simpa using i2, by simp [Instr.findNow, s1, i3]; omega, by simp [mhas, hq, i4], by simp [mget, hq, i5], i6, fun y => by simp [mset, hq, i7]⟩
section
variable {E : Env} {w : World} {I : Nat → Nat → Prop} {h : Heap} {μ : Nat → Option Nat} {ρ : Operand → Value} {g : Nat → AB} {b0 : Nat} {fr : FR}
variable {dst : Option Tmp} {ty : TypeId} {pos : String} {aft : Array Edge} {gd : Option (Nat × Bool)}
theorem op_makeMap (R : RelH w I μ h) (hb : b0 ≤ h.length) (hh : h[b0]? = none ∨ h[b0]? = some .hole) {t : TypeId} {r : Option Operand} {vs : List AV}
  (hf : fCore E ⟨dst, .makeMap t r, ty, pos, aft, gd⟩ vs g b0 = some fr) : OpOK E ⟨dst, .makeMap t r, ty, pos, aft, gd⟩ ρ w I h μ fr := by
 cases r with
 | some r => simp [fCore] at hf
 | none =>
  simp only [fCore] at hf
  split at hf
  ·split at hf
   ·rename_i kt vt _ _
    obtain ⟨_, hf⟩ := chk_some hf
    cases hf
    have hal := heap_alloc w (.map #[] 0)
    obtain ⟨h2, h3, h4⟩ := R.layO hb hh (.map #[] 0) trivial (.mp kt vt []) ⟨w.heap.size, #[], 0, upd_same _ _ _, hal.1, rfl, fun n e x e1 _ => by simp at e1⟩
    refine ⟨_, _, _, I, _, run_v (s := Instr.makeMap t none) (v := .map (some w.heap.size)) (w' := w.alloc (.map #[] 0)) rfl, .inl rfl, ?_, h2, h3, h4⟩
    refine .mptr b0 w.heap.size ⟨.mp kt vt [], ?_, by simp, fun _ => upd_same _ _ _⟩
    show (hput h b0 (.mp kt vt []))[b0]? = _
    rw [hput_get _ h b0 b0 hb, if_pos rfl]
   ·cases hf
  ·cases hf
theorem kn_map {ti : TI} {k v : TypeId} (h : ti.ud = .map k v) : ti.kn = true := by simp [TI.kn, h, UD.isOther]
theorem kn_same {ti : TI} {kt : Ty} (h : sameUD ti.ud kt = true) : ti.kn = true := by
 cases hq : ti.ud <;> rw [hq] at h <;> cases kt <;> simp [sameUD] at h <;> simp [TI.kn, hq, UD.isOther]
theorem map_at (R : RelH w I μ h) (G : GOK g h) {b : Nat} {kt vt : Ty} {l : List (kt.den × vt.den)} {v : Value} (hv : Rep w I h μ v (.mptr b)) (hgb : g b = .mp kt vt l) :
  ∃ q es c, v = .map (some q) ∧ h[b]? = some (.mp kt vt l) ∧ μ b = some q ∧ w.heap[q]? = some (.map es c) ∧ PW kt vt es.toList l := by
 have hb := G.some hgb (by simp)
 cases hv with
 | mptr _ q hp =>
  obtain ⟨x, hx, _, h2⟩ := hp
  rw [hb] at hx; cases hx
  obtain ⟨q', es, c, k1, k2, k3, k4⟩ := R.blk b _ hb
  have k0 := h2 (by simp)
  rw [k0] at k1; cases k1
  exact ⟨q, es, c, rfl, hb, k0, k2, by simpa using k3, fun n e x e1 e2 => k4 n e x (by simpa using e1) e2⟩
theorem op_lookup (hE : EnvOK E) (R : RelH w I μ h) (G : GOK g h) {t : TypeId} {x i : Operand} {ok : Bool} {vs : List AV} (hv : Reps w I h μ ρ (opnds E ⟨dst, .lookup t x i ok, ty, pos, aft, gd⟩) vs)
  (hf : fCore E ⟨dst, .lookup t x i ok, ty, pos, aft, gd⟩ vs g b0 = some fr) : OpOK E ⟨dst, .lookup t x i ok, ty, pos, aft, gd⟩ ρ w I h μ fr := by
 match vs, hv with
 | [m, c], hv =>
  obtain ⟨hm, hc, _⟩ := hv
  cases m with
  | mptr b =>
   simp only [fCore, lookupA] at hf
   split at hf
   ·rename_i k v kt vt l hud hgb
    obtain ⟨hck, hf⟩ := chk_some hf
    simp only [Bool.and_eq_true] at hck
    obtain ⟨⟨c1, c2⟩, c3⟩ := hck
    obtain ⟨q, es, cl, e1, hb, hμ, hq, hpw⟩ := map_at R G hm hgb
    have hund : E.P.underlying t = some (.map k v) := by
     have := hE.und t (kn_map hud)
     rw [hud] at this
     exact this
    obtain ⟨d, hd, hkd⟩ := keyD_of (hE.und k (kn_same c1)) c1
    split at hf
    ·rename_i n hn
     have hkn := scal_d hc hn
     have hik := keyD_is hkd hkn
     have hvt : (E.ti v).ty = some vt := by
      unfold tyIs at c3
      split at c3
      ·rename_i u hu; rw [hu, of_decide_eq_true c3]
      ·cases c3
     obtain ⟨iv, z, z1, z2, z3⟩ := hE.zsc v vt hvt c2
     have hzero : (zeroValue v).run E.P w = .ok z w := by simp [zeroValue, typeInfo, z1, z2]
     have key : ∃ u : Value, (Instr.lookup t (ρ x) (ρ i) ok).run E.P w = .ok (if ok then .tuple #[u, .bool (mhas kt vt n l)] else u) w ∧ ScalD vt (mget kt vt n l) u := by
      rcases find_abs (vt := vt) hkd hkn es.toList l 0 hpw with ⟨f1, f2, f3, _⟩ | ⟨j, e, y, f1, f2, f3, f4, f5, _, _⟩
      ·refine ⟨z, ?_, by rw [f3]; exact z3⟩
       rw [e1, f1]
       simp [Instr.lookup, run_underlying hund, Go.MapKept.run_getObj_map hq, run_checkKey hd hik, run_findKey hd f2, hzero, Result.andThen]
      ·refine ⟨e.val, ?_, by rw [f5]; exact (hpw.2 j e y f1 f2).2⟩
       rw [e1, f4]
       simp [Instr.lookup, run_underlying hund, Go.MapKept.run_getObj_map hq, run_checkKey hd hik, run_findKey hd f3, Result.andThen]
     obtain ⟨u, hrun, hu⟩ := key
     cases ok with
     | true =>
      cases hf
      refine .quiet R rfl _ (run_v hrun) ?_
      refine .tup _ _ rfl fun j a b h1 h2 => ?_
      match j with
      | 0 => simp at h1 h2; subst h1; subst h2; exact d_rep c2 hu
      | 1 => simp at h1 h2; subst h1; subst h2; exact .bool _
      | j + 2 => simp at h1
     | false =>
      cases hf
      exact .quiet R rfl _ (run_v hrun) (d_rep c2 hu)
    ·cases hf
   ·cases hf
  | _ => simp [fCore] at hf
theorem op_mapUpdate (hE : EnvOK E) (R : RelH w I μ h) (G : GOK g h) {t : TypeId} {x i y : Operand} {vs : List AV} (hv : Reps w I h μ ρ (opnds E ⟨dst, .mapUpdate t x i y, ty, pos, aft, gd⟩) vs)
  (hf : fCore E ⟨dst, .mapUpdate t x i y, ty, pos, aft, gd⟩ vs g b0 = some fr) : OpOK E ⟨dst, .mapUpdate t x i y, ty, pos, aft, gd⟩ ρ w I h μ fr := by
 match vs, hv with
 | [m, c, o], hv =>
  obtain ⟨hm, hc, ho, _⟩ := hv
  cases m with
  | mptr b =>
   simp only [fCore, updateA] at hf
   split at hf
   ·rename_i k v kt vt l hud hgb
    obtain ⟨c1, hf⟩ := chk_some hf
    obtain ⟨q, es, cl, e1, hb, hμ, hq, hpw⟩ := map_at R G hm hgb
    have hund : E.P.underlying t = some (.map k v) := by
     have := hE.und t (kn_map hud)
     rw [hud] at this
     exact this
    obtain ⟨d, hd, hkd⟩ := keyD_of (hE.und k (kn_same c1)) c1
    split at hf
    ·rename_i n a hn ha
     cases hf
     have hkn := scal_d hc hn
     have han := scal_d ho ha
     have hik := keyD_is hkd hkn
     have hset := heap_set (w := w) (o' := .map #[] 0) hq
     have key : ∃ es' cl', (Instr.mapUpdate t (ρ x) (ρ i) (ρ y)).run E.P w = .ok () { w with heap := w.heap.setIfInBounds q (.map es' cl') } ∧ PW kt vt es'.toList (mset kt vt n a l) := by
      rcases find_abs (vt := vt) hkd hkn es.toList l 0 hpw with ⟨f1, f2, f3, f4⟩ | ⟨j, e, z, f1, f2, f3, f4, f5, f6, f7⟩
      ·refine ⟨es.push { key := ρ i, val := ρ y, born := cl }, cl + 1, ?_, ?_⟩
       ·rw [e1]
        simp [Instr.mapUpdate, run_underlying hund, Go.MapKept.run_getObj_map hq, run_checkKey hd hik, run_findKey hd f2, run_setObj_map _ hq, Result.andThen]
       ·rw [f4]
        refine ⟨by simp [hpw.1], fun m e' x' g1 g2 => ?_⟩
        simp only [Array.toList_push] at g1
        rcases Nat.lt_trichotomy m es.toList.length with h1 | h1 | h1
        ·rw [List.getElem?_append_left h1] at g1
         rw [List.getElem?_append_left (by rw [← hpw.1]; exact h1)] at g2
         exact hpw.2 m e' x' g1 g2
        ·subst h1
         rw [List.getElem?_append_right (Nat.le_refl _)] at g1
         rw [List.getElem?_append_right (by rw [hpw.1]; exact Nat.le_refl _)] at g2
         simp [hpw.1] at g1 g2
         subst g1; subst g2
         exact ⟨hkn, han⟩
        ·rw [List.getElem?_eq_none (by simp at h1 ⊢; omega)] at g1
         cases g1
      ·have hj : es[j]? = some e := by simpa using f1
       refine ⟨es.modify j fun e => { e with key := ρ i, val := ρ y }, cl, ?_, ?_⟩
       ·rw [e1]
        simp [Instr.mapUpdate, run_underlying hund, Go.MapKept.run_getObj_map hq, run_checkKey hd hik, run_findKey hd f3, hj, ← f6, run_keyThatStays hik, run_setObj_map _ hq, Result.andThen]
       ·rw [f7]
        refine ⟨by simpa using hpw.1, fun m e' x' g1 g2 => ?_⟩
        rw [Array.getElem?_toList, Array.getElem?_modify] at g1
        rw [List.getElem?_set] at g2
        by_cases hjm : j = m
        ·subst hjm
         rw [if_pos rfl, hj] at g1
         have hjl : j < l.length := (List.getElem?_eq_some_iff.1 f2).1
         rw [if_pos rfl, if_pos hjl] at g2
         simp at g1 g2
         subst g1; subst g2
         have := hpw.2 j e z f1 f2
         refine ⟨?_, han⟩
         first | exact this.1 | (simp only; rw [f6]; exact this.1)
        ·rw [if_neg hjm] at g1 g2
         exact hpw.2 m e' x' (by simpa using g1) g2
     obtain ⟨es', cl', hrun, hpw'⟩ := key
     have hset := heap_set (w := w) (o' := .map es' cl') hq
     obtain ⟨r1, r2, r3⟩ := R.writeMap (w' := { w with heap := w.heap.setIfInBounds q (.map es' cl') }) hb hμ hq hset.1 hset.2 rfl rfl rfl (by simp) (by simpa using hpw'.1) (fun m e' x' g1 g2 => hpw'.2 m e' x' (by simpa using g1) g2)
     exact ⟨undef, _, _, I, μ, run_u hrun, .inr ⟨rfl, rfl⟩, .junk _, r1, r2, r3⟩
    ·cases hf
   ·cases hf
  | _ => simp [fCore] at hf
end
end Go.AM
