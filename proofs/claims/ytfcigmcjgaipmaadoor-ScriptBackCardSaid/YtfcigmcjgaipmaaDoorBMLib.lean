/-
  BM, part 40: contracts of the library's functions (laid elsewhere, over the machine's worlds) as entries.
-/
import Derived.Test.YtfcigmcjgaipmaaDoorBMDefer
import Derived.Test.YtfcigmcjgaipmaaDoorBMHex
import Derived.Below
import Derived.Sort.Grow
import Derived.Deep.Draws
import Derived.Lib.LaidTab
import Derived.Lib.IndexMore
import Derived.Lib.ItoaNum
import Derived.Lib.Join
import Derived.Lib.Repeat
import Derived.Lib.Split
import Derived.Lib.SplitLaws
import Derived.Lib.SlTrimSet
namespace Go.AM
set_option linter.unusedSectionVars false
variable [Lay]
open Go.RowKit Go.Sort

section
variable {E : Env} {w w' : World} {I : Nat → Nat → Prop} {h : Heap} {μ : Nat → Option Nat}

/-- What is laid behind all that was there changes nothing. -/
theorem RelH.below (R : RelH w I μ h) (b : Below w.heap.size w w') : RelH w' I μ h ∧ Fr w (Wr h μ) I w' (Wr h μ) I := by
  have F : Fr w (Wr h μ) I w' (Wr h μ) I :=
    ⟨b.os, b.tape, b.output, b.size, fun q hq _ => b.block q hq, fun q vs e fz hq hv => ⟨vs, (b.block q hq).trans hv, rfl, fun _ _ => rfl⟩, fun q hq hg x hx => by rw [b.block q hq] at hx; exact hg x hx,
      fun q o hw => .inl hw, fun _ _ h => h, fun q o hi => .inl hi⟩
  refine ⟨⟨R.inj, fun i x q hi lx hq => Nat.lt_of_lt_of_le (R.lt i x q hi lx hq) b.size, fun i x hi => ?_, R.disj, fun q o hi => Nat.lt_of_lt_of_le (R.ilt q o hi) b.size, R.laid.step R.disj R.ilt F⟩, F⟩
  have hc := R.keptI F
  cases x with
  | hole => trivial
  | gone => trivial
  | _ => exact RepB.mono (HM.refl h μ) F.shape hc F.im (fun _ => rfl) (fun q hq => b.block q (R.lt i _ q hi trivial hq)) (R.blk i _ hi)

theorem below_drewN (k : Nat) : Below w.heap.size w (w.drewN k) := ⟨rfl, rfl, rfl, Nat.le_refl _, fun _ _ => rfl⟩

/-- A call that hands out a datum and changes nothing that was there. -/
theorem ACall.ofLib {f : FuncId} {args : List AV} {r : AV} (en : Enters E.P f)
    (H : ∀ (w : World) (I : Nat → Nat → Prop) (μ : Nat → Option Nat) (vs : Array Value), RelH w I μ h → CRep w I h μ vs.toList args → Calls E.P f vs w fun e w' => ∃ v, e = .returned v ∧ Rep w' I h μ v r ∧ Below w.heap.size w w') :
    ACall E f args h (fun r' h' => r' = .ret r ∧ h' = h) := by
  unfold ACall
  refine ⟨en, fun w I μ vs R hv => (H w I μ vs R hv).mono ?_⟩
  rintro e w' ⟨v, rfl, hr, hb⟩
  obtain ⟨R', F⟩ := R.below hb
  exact ⟨.ret r, h, I, μ, ⟨rfl, rfl⟩, hr, R', F, HM.refl _ _⟩

/-- What an entry says. -/
def EntS (E : Env) (f : FuncId) (ins : List Sh) (hin : List BSh) (outs : List FA) (G : (tpair (Sh.ty.tyL ins) (tyH hin)).den → Option (dAlts (tysF outs))) : Prop := ∀ x y, G x = some y → EntP E f ins hin outs x y

theorem args1 {w : World} {I : Nat → Nat → Prop} {h : Heap} {μ : Nat → Option Nat} {vs : Array Value} {x : AV} (c : CRep w I h μ vs.toList [x]) : ∃ v, vs = #[v] ∧ Rep w I h μ v x := by
  obtain ⟨l⟩ := vs
  match l, c with
  | [v], c => exact ⟨v, rfl, c.2 0 v x rfl rfl⟩
  | [], c => exact absurd c.1 (by simp)
  | _ :: _ :: _, c => exact absurd c.1 (by simp)
theorem args2 {w : World} {I : Nat → Nat → Prop} {h : Heap} {μ : Nat → Option Nat} {vs : Array Value} {x y : AV} (c : CRep w I h μ vs.toList [x, y]) : ∃ v u, vs = #[v, u] ∧ Rep w I h μ v x ∧ Rep w I h μ u y := by
  obtain ⟨l⟩ := vs
  match l, c with
  | [v, u], c => exact ⟨v, u, rfl, c.2 0 v x rfl rfl, c.2 1 u y rfl rfl⟩
  | [], c => exact absurd c.1 (by simp)
  | [_], c => exact absurd c.1 (by simp)
  | _ :: _ :: _ :: _, c => exact absurd c.1 (by simp)
theorem tup3 {vs : List Value} {x y z : AV} (hx : ∀ v ∈ vs[0]?, Rep w I h μ v x) (hy : ∀ v ∈ vs[1]?, Rep w I h μ v y) (hz : ∀ v ∈ vs[2]?, Rep w I h μ v z) (hl : vs.length = 3) : Rep w I h μ (.tuple vs.toArray) (.tup [x, y, z]) := by
  refine .tup _ _ (by simpa using hl) fun i v c e1 e2 => ?_
  match i with
  | 0 => cases e2; exact hx v (by simpa using e1)
  | 1 => cases e2; exact hy v (by simpa using e1)
  | 2 => cases e2; exact hz v (by simpa using e1)
  | n + 3 => simp at e2

/-! ### strings.Cut -/
noncomputable def lib_Cut : Str × Str → Option (Str × Str × Bool) := fun (s, sep) =>
  if s.length < 4294967281 then some (Lib.cut s sep) else none
theorem a_strings_Cut {f g : FuncId} (en : Enters E.P f) (hg : g ∈ Lay.ints) (s sep : Str) (hs : s.length < 4294967281)
    (c : ∀ (s sep : ByteArray) (m : Int) (w : World), s.size < 4294967281 → w.cell? ⟨g, 0, none⟩ = some (.int .i64 m) →
      Calls E.P f #[.string s, .string sep] w fun e w' => e = .returned (.tuple #[.string ⟨(Lib.cut s.data.toList sep.data.toList).1.toArray⟩, .string ⟨(Lib.cut s.data.toList sep.data.toList).2.1.toArray⟩, .bool (Lib.cut s.data.toList sep.data.toList).2.2]) ∧ ∃ n, w' = w.drewN n) :
    ACall E f [.str s, .str sep] [] fun r h' => r = .ret (.tup [.str (Lib.cut s sep).1, .str (Lib.cut s sep).2.1, .bool (Lib.cut s sep).2.2]) ∧ h' = [] := by
  refine ACall.ofLib en fun w I μ vs R hv => ?_
  obtain ⟨v, u, rfl, h1, h2⟩ := args2 hv
  obtain rfl := rep_str h1
  obtain rfl := rep_str h2
  obtain ⟨m, hm, _⟩ := R.laid.2 g hg
  refine (c ⟨s.toArray⟩ ⟨sep.toArray⟩ m w (show s.toArray.size < _ by rw [List.size_toArray]; exact hs) hm).mono ?_
  rintro e w' ⟨rfl, n, rfl⟩
  refine ⟨_, rfl, ?_, below_drewN n⟩
  exact tup3 (vs := [_, _, _]) (by rintro v ⟨⟩; exact .str _) (by rintro v ⟨⟩; exact .str _) (by rintro v ⟨⟩; exact .bool _) rfl
theorem k_strings_Cut {f g : FuncId} (en : Enters E.P f) (hg : g ∈ Lay.ints)
    (c : ∀ (s sep : ByteArray) (m : Int) (w : World), s.size < 4294967281 → w.cell? ⟨g, 0, none⟩ = some (.int .i64 m) →
      Calls E.P f #[.string s, .string sep] w fun e w' => e = .returned (.tuple #[.string ⟨(Lib.cut s.data.toList sep.data.toList).1.toArray⟩, .string ⟨(Lib.cut s.data.toList sep.data.toList).2.1.toArray⟩, .bool (Lib.cut s.data.toList sep.data.toList).2.2]) ∧ ∃ n, w' = w.drewN n) :
    EntS E f [.d .str, .d .str] [] [⟨false, ⟨[(0, .tup [.d .str, .d .str, .d .bool])], []⟩⟩] lib_Cut := by
  intro x y hy
  change (if List.length x.1 < 4294967281 then some (Lib.cut x.1 x.2) else none) = some y at hy
  split at hy
  · rename_i hs
    cases hy
    exact a_strings_Cut en hg x.1 x.2 hs c
  · cases hy

/-! ### strconv.Itoa -/
noncomputable def lib_Itoa : Int → Option Str := fun n => if -9223372036854775808 ≤ n ∧ n ≤ 9223372036854775807 then some (Lib.itoa n) else none
/-! ### strings.Join -/
noncomputable def lib_Join : List Str × Str → Option Str := fun (l, sep) =>
  if l.length ≤ 140737488355328 ∧ (Lib.join l sep).length ≤ 140737488355328 then some (Lib.join l sep) else none
theorem str_cells {t : List Str} {ad : Option Addr} {n cap : Nat} (hr : RD w I (.sl .str) t [.slice ad n cap]) :
    n = t.length ∧ t.length ≤ cap ∧ (t ≠ [] → ∃ g o, ad = some ⟨g, o, none⟩ ∧ ∀ (j : Nat) (x : Str), t[j]? = some x → w.cell? ⟨g, o + j, none⟩ = some (.string ⟨x.toArray⟩)) := by
  cases hr with
  | sl _ _ _ _ cs hcap hel hat =>
    refine ⟨rfl, hcap, fun h0 => ?_⟩
    obtain ⟨g, o, ha, hc⟩ := hat (List.length_pos_iff.2 h0)
    refine ⟨g, o, ha, fun j x hj => ?_⟩
    obtain ⟨hlt, he⟩ := List.getElem?_eq_some_iff.1 hj
    have hr := hel j hlt
    have h1 : cs j = [.string ⟨x.toArray⟩] := by
      clear hc
      rw [he] at hr
      generalize cs j = q at hr
      cases hr
      rfl
    have := (hc j hlt 0 _ (by rw [h1]; rfl)).1
    simpa [Ty.sz] using this
theorem a_strings_Join {f : FuncId} (en : Enters E.P f) (l : List Str) (sep : Str) (hN : l.length ≤ 140737488355328) (hlen : (Lib.join l sep).length ≤ 140737488355328)
    (c0 : ∀ (a : Option Addr) (c : Nat) (sep : ByteArray) (w : World), Calls E.P f #[.slice a 0 c, .string sep] w fun e w' => e = .returned (.string ⟨#[]⟩) ∧ w' = w)
    (c : ∀ (bk o c : Nat) (xs : List ByteArray) (sep : ByteArray) (w : World), (∀ (j : Nat) x, xs[j]? = some x → w.cell? ⟨bk, o + j, none⟩ = some (.string x)) → bk < w.heap.size → xs.length ≤ 140737488355328 → xs.length ≤ c →
      (Lib.join (xs.map (·.data.toList)) sep.data.toList).length ≤ 140737488355328 →
      Calls E.P f #[.slice (some ⟨bk, o, none⟩) xs.length c, .string sep] w fun e w' => e = .returned (.string ⟨(Lib.join (xs.map (·.data.toList)) sep.data.toList).toArray⟩) ∧ Below w.heap.size w w') :
    ACall E f [.sl .str l false, .str sep] [] fun r h' => r = .ret (.str (Lib.join l sep)) ∧ h' = [] := by
  refine ACall.ofLib en fun w I μ vs R hv => ?_
  obtain ⟨v, u, rfl, h1, h2⟩ := args2 hv
  obtain rfl := rep_str h2
  cases h1 with
  | sl _ _ _ a n cap hr _ =>
    obtain ⟨rfl, hcap, hat⟩ := str_cells hr
    by_cases h0 : l = []
    · subst h0
      refine (c0 a cap ⟨sep.toArray⟩ w).mono ?_
      rintro e w' ⟨rfl, rfl⟩
      exact ⟨_, rfl, .str _, .refl _ _⟩
    · obtain ⟨g, o, rfl, hc⟩ := hat h0
      have hmap : (l.map fun x => (⟨x.toArray⟩ : ByteArray)).map (·.data.toList) = l := by simp [List.map_map, Function.comp_def]
      have key := c g o cap (l.map fun x => ⟨x.toArray⟩) ⟨sep.toArray⟩ w (fun j x hj => by
        rw [List.getElem?_map] at hj
        cases hq : l[j]? with
        | none => rw [hq] at hj; cases hj
        | some y => rw [hq] at hj; cases hj; exact hc j y hq) (by
        obtain ⟨x, hx⟩ : ∃ x, l[0]? = some x := by cases l with
          | nil => exact absurd rfl h0
          | cons x r => exact ⟨x, rfl⟩
        have := hc 0 x hx
        unfold World.cell? at this
        simp only [Option.isSome_none, Bool.false_eq_true, if_false] at this
        cases hb : w.heap[g]? with
        | none => rw [hb] at this; cases this
        | some _ => exact (Array.getElem?_eq_some_iff.1 hb).1) (by simpa using hN) (by simpa using hcap) (by rw [hmap]; exact hlen)
      rw [hmap, List.length_map] at key
      refine key.mono ?_
      rintro e w' ⟨rfl, hb⟩
      exact ⟨_, rfl, .str _, hb⟩
theorem k_strings_Join {f : FuncId} (en : Enters E.P f)
    (c0 : ∀ (a : Option Addr) (c : Nat) (sep : ByteArray) (w : World), Calls E.P f #[.slice a 0 c, .string sep] w fun e w' => e = .returned (.string ⟨#[]⟩) ∧ w' = w)
    (c : ∀ (bk o c : Nat) (xs : List ByteArray) (sep : ByteArray) (w : World), (∀ (j : Nat) x, xs[j]? = some x → w.cell? ⟨bk, o + j, none⟩ = some (.string x)) → bk < w.heap.size → xs.length ≤ 140737488355328 → xs.length ≤ c →
      (Lib.join (xs.map (·.data.toList)) sep.data.toList).length ≤ 140737488355328 →
      Calls E.P f #[.slice (some ⟨bk, o, none⟩) xs.length c, .string sep] w fun e w' => e = .returned (.string ⟨(Lib.join (xs.map (·.data.toList)) sep.data.toList).toArray⟩) ∧ Below w.heap.size w w') :
    EntS E f [.d (.sl .str), .d .str] [] [⟨false, ⟨[(0, .d .str)], []⟩⟩] lib_Join := by
  intro x y hy
  change (if List.length x.1 ≤ 140737488355328 ∧ (Lib.join x.1 x.2).length ≤ 140737488355328 then some (Lib.join x.1 x.2) else none) = some y at hy
  split at hy
  · rename_i hs
    cases hy
    exact a_strings_Join en x.1 x.2 hs.1 hs.2 c0 c
  · cases hy

/-! ### strings.TrimLeft at an ASCII cutset -/
/-! ### slices.Clone -/
/-! ### slices.Delete -/
/-! ### octet.Hex (proved at each program by a walk over the shelf's builder), strings.IndexByte -/
noncomputable def lib_Hex : Str → Option Str := fun s => if s.length ≤ 35184372088832 then some (hexS s) else none
theorem k_octet_Hex {f : FuncId} (en : Enters E.P f)
    (c : ∀ (s : ByteArray) (w : World), s.size ≤ 35184372088832 → Calls E.P f #[.string s] w fun e w' => e = .returned (.string ⟨(hexS s.data.toList).toArray⟩) ∧ Below w.heap.size w w') :
    EntS E f [.d .str] [] [⟨false, ⟨[(0, .d .str)], []⟩⟩] lib_Hex := by
  intro (s : Str) y hy
  change (if List.length s ≤ 35184372088832 then some (hexS s) else none) = some y at hy
  split at hy
  · rename_i hs
    cases hy
    have := ACall.ofLib (h := []) (args := [.str s]) (r := .str (hexS s)) en fun w I μ vs R hv => by
      obtain ⟨v, rfl, h1⟩ := args1 hv
      obtain rfl := rep_str h1
      refine (c ⟨s.toArray⟩ w (show s.toArray.size ≤ _ by rw [List.size_toArray]; exact hs)).mono ?_
      rintro e w' ⟨rfl, hb⟩
      exact ⟨_, rfl, .str _, hb⟩
    exact this
  · cases hy
noncomputable def lib_IndexByte : Str × Int → Option Int := fun (s, c) => some (Lib.indexByte s c.toNat.toUInt8)
theorem k_strings_IndexByte {f : FuncId} (en : Enters E.P f)
    (c : ∀ (s : ByteArray) (c : Int) (w : World), Calls E.P f #[.string s, .int .u8 c] w fun e w' => e = .returned (.int .i64 (Lib.indexByte s.data.toList c.toNat.toUInt8)) ∧ w' = w) :
    EntS E f [.d .str, .d (.int .u8)] [] [⟨false, ⟨[(0, .d (.int .i64))], []⟩⟩] lib_IndexByte := by
  intro x y hy
  change some (Lib.indexByte (x.1 : Str) ((x.2 : Int).toNat.toUInt8)) = some y at hy
  cases hy
  have := ACall.ofLib (h := []) (args := [.str x.1, .int .u8 x.2]) (r := .int .i64 (Lib.indexByte (x.1 : Str) ((x.2 : Int).toNat.toUInt8))) en fun w I μ vs R hv => by
    obtain ⟨v, u, rfl, h1, h2⟩ := args2 hv
    obtain rfl := rep_str h1
    obtain rfl := rep_int h2
    refine (c ⟨(x.1 : Str).toArray⟩ x.2 w).mono ?_
    rintro e w' ⟨rfl, rfl⟩
    exact ⟨_, rfl, .int _ _, Below.refl _ _⟩
  exact this
/-- A call that hands out a new row of one's own. -/
theorem ACall.ofNewRow {f : FuncId} {args : List AV} {t : Ty} {l : List t.den} (en : Enters E.P f)
    (H : ∀ (w : World) (I : Nat → Nat → Prop) (μ : Nat → Option Nat) (vs : Array Value), RelH w I μ [] → CRep w I [] μ vs.toList args → Calls E.P f vs w fun e w' => ∃ (w1 : World) (cs : Array Value) (ty : TypeId) (cap : Nat),
      Below w.heap.size w w1 ∧ w' = w1.alloc (.cells cs ty (0, 0)) ∧ e = .returned (.slice (some ⟨w1.heap.size, 0, none⟩) l.length cap) ∧ l.length ≤ cap ∧ cap * t.sz ≤ cs.size ∧
      ∀ k (hk : k < l.length), RD w' I t l[k] ((cs.toList.drop (k * t.sz)).take t.sz)) :
    ACall E f args [] (fun r' h' => r' = .ret (.own t 0 false) ∧ h' = [.arr t l true]) := by
  unfold ACall
  refine ⟨en, fun w I μ vs R hv => (H w I μ vs R hv).mono ?_⟩
  rintro e w' ⟨w1, cs, ty, cap, hb, rfl, rfl, hc1, hc2, hrd⟩
  obtain ⟨R1, F1⟩ := R.below hb
  have hal : (w1.alloc (.cells cs ty (0, 0))).heap[w1.heap.size]? = some (.cells cs ty (0, 0)) := (MapKept.heap_alloc w1 _).1
  have hB : RepB (w1.alloc (.cells cs ty (0, 0))) I (hput [] 0 (.arr t l true)) (upd μ 0 w1.heap.size) 0 (.arr t l true) :=
    .inr ⟨w1.heap.size, cs, ty, upd_same _ _ _, ⟨_, hal, .inl rfl⟩, Nat.le_trans (Nat.mul_le_mul_right _ hc1) hc2, hrd, fun h => by cases h⟩
  obtain ⟨R2, F2, M2⟩ := R1.lay (b0 := 0) (Nat.zero_le _) (.inl rfl) cs ty (.arr t l true) hB
  refine ⟨.ret (.own t 0 false), [.arr t l true], I, upd μ 0 w1.heap.size, ⟨rfl, rfl⟩, ?_, R2, F1.trans F2, M2⟩
  refine .own t 0 false _ _ _ ⟨.arr t l true, rfl, by simp, ?_⟩
  intro t' l' fr e
  cases e
  exact ⟨rfl, rfl, hc1, fun h => by simp at h, .inr ⟨w1.heap.size, cs, ty, upd_same _ _ _, rfl, ⟨_, hal, .inl rfl⟩, hc2⟩⟩
/-- A map that is handed out, and written no more. -/
theorem ACall.fmap {f : FuncId} {args : List AV} {k v : Ty} {l : List (k.den × v.den)} (hk : isKey k = true) (c : ACall E f args [] (fun r h' => r = .ret (.mptr 0) ∧ h' = [.mp k v l])) :
    ACall E f args [] (fun r h' => r = .ret (.fmap k v l) ∧ h' = []) := by
  unfold ACall at c ⊢
  obtain ⟨en, c⟩ := c
  refine ⟨en, fun w I μ vs R hv => (c w I μ vs R hv).mono ?_⟩
  rintro e w' ⟨r, h', I', μ', ⟨rfl, rfl⟩, he, R', F, M⟩
  cases e with
  | returned u =>
    cases he with
    | mptr _ g hp =>
      obtain ⟨x, hx, _, h2⟩ := hp
      have hx : some (AB.mp k v l) = some x := hx
      cases hx
      have hg := h2 (by simp)
      have hm : MpAt w' I' μ' 0 k v l := R'.blk 0 _ rfl
      rw [MpAt.of hk] at hm
      obtain ⟨g', es, cl, k1, k2, k3⟩ := hm
      rw [hg] at k1; cases k1
      obtain ⟨I2, R2, F2, M2, hI⟩ := R'.freezeMap (i := 0) rfl hg
      have F3 := F.trans F2
      refine ⟨.ret (.fmap k v l), [], I2, μ', ⟨rfl, rfl⟩, .fmap k v l g es cl hI k2 k3, ?_, ?_, ?_⟩
      · refine ⟨fun i j x y g hi => by simp at hi, fun i x g hi => by simp at hi, fun i x hi => by simp at hi, ?_, R2.ilt, R2.laid⟩
        rintro q o _ ⟨i, _, hx⟩
        rcases hx with ⟨_, hx⟩ | ⟨_, _, hx⟩ | ⟨_, _, hx, _⟩ | ⟨_, _, _, hx⟩ <;> simp at hx
      · refine ⟨F3.os, F3.tape, F3.output, F3.size, F3.same, F3.part, F3.nf, ?_, F3.im, F3.im'⟩
        rintro q o ⟨i, _, hx⟩
        rcases hx with ⟨_, hx⟩ | ⟨_, _, hx⟩ | ⟨_, _, hx, _⟩ | ⟨_, _, _, hx⟩ <;> simp at hx
      · exact ⟨fun b x hb => by simp at hb, fun b x y hb => by simp at hb⟩
  | _ => exact he.elim
/-- A row that is handed out, and written no more. -/
theorem ACall.frzRow {f : FuncId} {args : List AV} {t : Ty} {l : List t.den} (c : ACall E f args [] (fun r h' => r = .ret (.own t 0 false) ∧ h' = [.arr t l true])) :
    ACall E f args [] (fun r h' => r = .ret (.sl t l false) ∧ h' = []) := by
  unfold ACall at c ⊢
  obtain ⟨en, c⟩ := c
  refine ⟨en, fun w I μ vs R hv => (c w I μ vs R hv).mono ?_⟩
  rintro e w' ⟨r, h', I', μ', ⟨rfl, rfl⟩, he, R', F, M⟩
  cases e with
  | returned u =>
    have he : Rep w' I' [.arr t l true] μ' u (.own t 0 false) := he
    obtain ⟨I2, R2, F2, M2, _⟩ := R'.freeze (i := 0) rfl
    have F3 := F.trans F2
    have he2 := he.step R' F2 M2
    have hr := res_rep R2 (g := fun _ => .arr t l false) he2 (fun b hb t' l' fr e => by
      cases e
      have : b = 0 := by simpa [AV.cells, ownsOf] using hb
      subst this
      rfl)
    have er : res (fun _ => AB.arr t l false) (.own t 0 false) = .sl t l false := by simp [res, res1]
    rw [er] at hr
    refine ⟨.ret (.sl t l false), [], I2, μ', ⟨rfl, rfl⟩, ?_, ?_, ?_, ?_⟩
    · cases hr with
      | sl _ _ _ a n cap hr hf => exact .sl t l false a n cap hr hf
    · refine ⟨fun i j x y g hi => by simp at hi, fun i x g hi => by simp at hi, fun i x hi => by simp at hi, ?_, R2.ilt, R2.laid⟩
      rintro q o _ ⟨i, _, hx⟩
      rcases hx with ⟨_, hx⟩ | ⟨_, _, hx⟩ | ⟨_, _, hx, _⟩ | ⟨_, _, _, hx⟩ <;> simp at hx
    · refine ⟨F3.os, F3.tape, F3.output, F3.size, F3.same, F3.part, F3.nf, ?_, F3.im, F3.im'⟩
      rintro q o ⟨i, _, hx⟩
      rcases hx with ⟨_, hx⟩ | ⟨_, _, hx⟩ | ⟨_, _, hx, _⟩ | ⟨_, _, _, hx⟩ <;> simp at hx
    · exact ⟨fun b x hb => by simp at hb, fun b x y hb => by simp at hb⟩
  | _ => exact he.elim
/-- A row of texts. -/
theorem rd_texts {w : World} {I : Nat → Nat → Prop} (l : List Str) : ∀ k (hk : k < l.length), RD w I .str l[k] ((((l.map fun x => Value.string ⟨x.toArray⟩).toArray.toList).drop (k * Ty.str.sz)).take Ty.str.sz) := by
  intro k hk
  have e : ((((l.map fun x => Value.string ⟨x.toArray⟩).toArray.toList).drop (k * Ty.str.sz)).take Ty.str.sz) = [Value.string ⟨l[k].toArray⟩] := by
    simp only [Ty.sz, Nat.mul_one]
    rw [List.drop_eq_getElem_cons (by simpa using hk)]
    simp
  rw [e]
  exact .str _

/-! ### strings.Repeat, strings.Split, strings.CutPrefix -/
noncomputable def lib_Repeat : Str × Int → Option Str := fun (s, n) => if 0 ≤ n ∧ n ≤ 9223372036854775807 ∧ s.length * n.toNat ≤ 140737488355328 then some (Lib.repeatL s n.toNat) else none
theorem k_strings_Repeat {f : FuncId} (en : Enters E.P f)
    (c : ∀ (s : ByteArray) (c : Nat) (w : World), c ≤ 9223372036854775807 → s.size * c ≤ 140737488355328 → Calls E.P f #[.string s, .int .i64 c] w fun e w' => e = .returned (.string ⟨(Lib.repeatL s.data.toList c).toArray⟩) ∧ Below w.heap.size w w') :
    EntS E f [.d .str, .d (.int .i64)] [] [⟨false, ⟨[(0, .d .str)], []⟩⟩] lib_Repeat := by
  intro (q : Str × Int) (y : Str) hy
  obtain ⟨s, n⟩ := q
  change (if 0 ≤ n ∧ n ≤ 9223372036854775807 ∧ List.length s * n.toNat ≤ 140737488355328 then some (Lib.repeatL s n.toNat) else none) = some y at hy
  split at hy
  · rename_i hs
    cases hy
    obtain ⟨n, rfl⟩ := Int.eq_ofNat_of_zero_le hs.1
    have := ACall.ofLib (h := []) (args := [.str s, .int .i64 (n : Int)]) (r := .str (Lib.repeatL s n)) en fun w I μ vs R hv => by
      obtain ⟨v, u, rfl, h1, h2⟩ := args2 hv
      obtain rfl := rep_str h1
      obtain rfl := rep_int h2
      refine (c ⟨s.toArray⟩ n w (by omega) (show s.toArray.size * n ≤ _ by rw [List.size_toArray]; exact hs.2.2)).mono ?_
      rintro e w' ⟨rfl, hb⟩
      exact ⟨_, rfl, .str _, hb⟩
    exact this
  · cases hy
noncomputable def lib_Split : Str × Str → Option (List Str) := fun (s, sep) => if s.length < 4294967281 ∧ 1 ≤ sep.length then some (Lib.split s sep) else none
theorem k_strings_Split {f g : FuncId} {ty : TypeId} (en : Enters E.P f) (hg : g ∈ Lay.ints)
    (c : ∀ (s sep : ByteArray) (m : Int) (w : World), s.size < 4294967281 → w.cell? ⟨g, 0, none⟩ = some (.int .i64 m) → 1 ≤ sep.size →
      Calls E.P f #[.string s, .string sep] w fun e w' => e = .returned (.slice (some ⟨w.heap.size, 0, none⟩) (Lib.countB s sep + 1) (Lib.countB s sep + 1)) ∧ w' = w.alloc (.cells ((Lib.splitB sep 0 (Lib.countB s sep) s).map Value.string).toArray ty)) :
    EntS E f [.d .str, .d .str] [] [⟨false, ⟨[(0, .d (.sl .str))], []⟩⟩] lib_Split := by
  intro (q : Str × Str) (y : List Str) hy
  obtain ⟨s, sep⟩ := q
  change (if List.length s < 4294967281 ∧ 1 ≤ List.length sep then some (Lib.split s sep) else none) = some y at hy
  split at hy
  · rename_i hs
    cases hy
    have hd : (Lib.splitB ⟨sep.toArray⟩ 0 (Lib.countB ⟨s.toArray⟩ ⟨sep.toArray⟩) ⟨s.toArray⟩).map (·.data.toList) = Lib.split s sep := by rw [Lib.splitB_data]; rfl
    have hlen : (Lib.split s sep).length = Lib.countB ⟨s.toArray⟩ ⟨sep.toArray⟩ + 1 := by
      rw [← hd, List.length_map, Lib.splitB_all _ (show 1 ≤ sep.toArray.size by rw [List.size_toArray]; exact hs.2) 0 _ _ rfl]
    have hmap : (Lib.split s sep).map (fun x => Value.string ⟨x.toArray⟩) = (Lib.splitB ⟨sep.toArray⟩ 0 (Lib.countB ⟨s.toArray⟩ ⟨sep.toArray⟩) ⟨s.toArray⟩).map Value.string := by
      rw [← hd, List.map_map]; exact List.map_congr_left fun x _ => rfl
    have := ACall.ofNewRow (args := [.str s, .str sep]) (t := .str) (l := Lib.split s sep) en fun w I μ vs R hv => by
      obtain ⟨v, u, rfl, h1, h2⟩ := args2 hv
      obtain rfl := rep_str h1
      obtain rfl := rep_str h2
      obtain ⟨m, hm, _⟩ := R.laid.2 g hg
      refine (c ⟨s.toArray⟩ ⟨sep.toArray⟩ m w (show s.toArray.size < _ by rw [List.size_toArray]; exact hs.1) hm (show 1 ≤ sep.toArray.size by rw [List.size_toArray]; exact hs.2)).mono ?_
      rintro e w' ⟨rfl, rfl⟩
      refine ⟨w, _, ty, Lib.countB ⟨s.toArray⟩ ⟨sep.toArray⟩ + 1, Below.refl _ _, rfl, by rw [hlen], by rw [hlen]; exact Nat.le_refl _, by rw [← hmap]; simp [Ty.sz, hlen], ?_⟩
      rw [← hmap]
      exact rd_texts _
    exact ACall.frzRow this
  · cases hy
noncomputable def lib_CutPrefix : Str × Str → Option (Str × Bool) := fun (s, p) => some (Lib.trimPrefix s p, Lib.hasPrefix s p)
theorem k_strings_CutPrefix {f : FuncId} (en : Enters E.P f)
    (c : ∀ (s p : ByteArray) (w : World), Calls E.P f #[.string s, .string p] w fun e w' => e = .returned (.tuple #[.string ⟨(Lib.trimPrefix s.data.toList p.data.toList).toArray⟩, .bool (Lib.hasPrefix s.data.toList p.data.toList)]) ∧ w' = w) :
    EntS E f [.d .str, .d .str] [] [⟨false, ⟨[(0, .tup [.d .str, .d .bool])], []⟩⟩] lib_CutPrefix := by
  intro x y hy
  change some (Lib.trimPrefix (x.1 : Str) (x.2 : Str), Lib.hasPrefix (x.1 : Str) (x.2 : Str)) = some y at hy
  cases hy
  have := ACall.ofLib (h := []) (args := [.str x.1, .str x.2]) (r := .tup [.str (Lib.trimPrefix (x.1 : Str) (x.2 : Str)), .bool (Lib.hasPrefix (x.1 : Str) (x.2 : Str))]) en fun w I μ vs R hv => by
    obtain ⟨v, u, rfl, h1, h2⟩ := args2 hv
    obtain rfl := rep_str h1
    obtain rfl := rep_str h2
    refine (c ⟨(x.1 : Str).toArray⟩ ⟨(x.2 : Str).toArray⟩ w).mono ?_
    rintro e w' ⟨rfl, rfl⟩
    exact ⟨_, rfl, .tup _ _ rfl (fun i v c e1 e2 => by
      match i with
      | 0 => cases e1; cases e2; exact .str _
      | 1 => cases e1; cases e2; exact .bool _
      | n + 2 => simp at e2), Below.refl _ _⟩
  exact this
end
end Go.AM
