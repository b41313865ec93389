/-
  AM, part 3: when a world bears an abstract state: data that is read ('RD'), values ('Rep'), blocks ('RelH'), what may have turned ('Fr').
-/
import Derived.Below
import Derived.Laws.CopyRow
import Derived.Laws.Rows
import Derived.Maps.RangeRun
import Derived.Test.YtfcigmcjgaipmaaDoorBMInterp
namespace Go.AM

/-- Data of a type, read out of cells that nobody writes any more (I). -/
inductive RD (w : World) (I : Nat → Nat → Prop) : (t : Ty) → t.den → List Value → Prop where
  | unit : RD w I .unit () []
  | int (k : IntKind) (n : Int) : RD w I (.int k) n [.int k n]
  | bool (b : Bool) : RD w I .bool b [.bool b]
  | str (l : Str) : RD w I .str l [.string ⟨l.toArray⟩]
  | pair (a b : Ty) (x : a.den) (y : b.den) (cs ds : List Value) (hx : RD w I a x cs) (hy : RD w I b y ds) : RD w I (.pair a b) (x, y) (cs ++ ds)
  | sl (t : Ty) (l : List t.den) (a : Option Addr) (cap : Nat) (cs : Nat → List Value) (hcap : l.length ≤ cap) (hel : ∀ i (h : i < l.length), RD w I t l[i] (cs i))
      (hat : 0 < l.length → ∃ g o, a = some ⟨g, o, none⟩ ∧ ∀ i, i < l.length → ∀ j u, (cs i)[j]? = some u → w.cell? ⟨g, o + (i * t.sz + j), none⟩ = some u ∧ I g (o + (i * t.sz + j))) :
      RD w I (.sl t) l [.slice a l.length cap]
  | val (k n : Int) (s : Str) (li : List GVal) (lm : List Str) (cs ds : List Value) (hi : RD w I (.sl .val) li cs) (hm : RD w I (.sl .str) lm ds) :
      RD w I .val (.mk k n s li lm) ([.int .i64 k, .int .i64 n, .string ⟨s.toArray⟩] ++ cs ++ ds)

theorem RD.len {w : World} {I : Nat → Nat → Prop} {t : Ty} {x : t.den} {cs : List Value} (h : RD w I t x cs) : cs.length = t.sz := by
  induction h with
  | unit => rfl
  | int => rfl
  | bool => rfl
  | str => rfl
  | pair a b x y cs ds hx hy ihx ihy => rw [List.length_append, ihx, ihy]; rfl
  | sl => rfl
  | val k n s li lm cs ds hi hm ihi ihm => simp [ihi, ihm, Ty.sz]

theorem RD.one {w : World} {I : Nat → Nat → Prop} {t : Ty} {x : t.den} {cs : List Value} (h : RD w I t x cs) : ∀ u ∈ cs, u.oneCell' = true := by
  induction h with
  | unit => intro u hu; cases hu
  | int => intro u hu; rw [List.mem_singleton.1 hu]; rfl
  | bool => intro u hu; rw [List.mem_singleton.1 hu]; rfl
  | str => intro u hu; rw [List.mem_singleton.1 hu]; rfl
  | pair a b x y cs ds hx hy ihx ihy =>
    intro u hu
    rcases List.mem_append.1 hu with hu | hu
    · exact ihx u hu
    · exact ihy u hu
  | sl => intro u hu; rw [List.mem_singleton.1 hu]; rfl
  | val k n s li lm cs ds hi hm ihi ihm =>
    intro u hu
    rcases List.mem_append.1 hu with hu | hu
    · rcases List.mem_append.1 hu with hu | hu
      · simp at hu
        rcases hu with rfl | rfl | rfl <;> rfl
      · exact ihi u hu
    · exact ihm u hu

/-- What was read reads so where its cells are as they were. -/
theorem RD.mono {w w' : World} {I I' : Nat → Nat → Prop} (hc : ∀ g o u, I g o → w.cell? ⟨g, o, none⟩ = some u → w'.cell? ⟨g, o, none⟩ = some u) (hI : ∀ g o, I g o → I' g o)
    {t : Ty} {x : t.den} {cs : List Value} (h : RD w I t x cs) : RD w' I' t x cs := by
  induction h with
  | unit => exact .unit
  | int k n => exact .int k n
  | bool b => exact .bool b
  | str l => exact .str l
  | pair a b x y cs ds hx hy ihx ihy => exact .pair a b x y cs ds ihx ihy
  | sl t l a cap cs hcap hel hat ih =>
    refine .sl t l a cap cs hcap ih fun h0 => ?_
    obtain ⟨g, o, ha, hr⟩ := hat h0
    refine ⟨g, o, ha, fun i hi j u hu => ?_⟩
    obtain ⟨h1, h2⟩ := hr i hi j u hu
    exact ⟨hc _ _ _ h2 h1, hI _ _ h2⟩
  | val k n s li lm cs ds hi hm ihi ihm => exact .val k n s li lm cs ds ihi ihm

/-- A row of cells, of which none that is there may not be written. -/
def CellsAt (w : World) (g : Nat) (vs : Array Value) (e : TypeId) : Prop := ∃ fz : Nat × Nat, w.heap[g]? = some (.cells vs e fz) ∧ (fz = (0, 0) ∨ vs.size ≤ fz.1)
theorem CellsAt.of {w : World} {g : Nat} {vs : Array Value} {e : TypeId} (h : w.heap[g]? = some (.cells vs e (0, 0))) : CellsAt w g vs e := ⟨_, h, .inl rfl⟩
theorem CellsAt.eq {w w' : World} {g : Nat} {vs : Array Value} {e : TypeId} (h : CellsAt w g vs e) (he : w'.heap[g]? = w.heap[g]?) : CellsAt w' g vs e := by
  obtain ⟨fz, h, hz⟩ := h
  exact ⟨fz, he.trans h, hz⟩
theorem CellsAt.lt {w : World} {g : Nat} {vs : Array Value} {e : TypeId} (h : CellsAt w g vs e) : g < w.heap.size := by
  obtain ⟨fz, h, _⟩ := h
  exact (Array.getElem?_eq_some_iff.1 h).1
/-- A slice over a block of one's own. -/
def OwnAt (w : World) (h : Heap) (μ : Nat → Option Nat) (t : Ty) (b : Nat) (full : Bool) (a : Option Addr) (n cap : Nat) : Prop :=
  ∃ x, h[b]? = some x ∧ x ≠ .hole ∧ ∀ t' l fr, x = .arr t' l fr → t' = t ∧ n = l.length ∧ n ≤ cap ∧ (full = true → cap = n) ∧
    ((n = 0 ∧ cap = 0) ∨ ∃ g vs e, μ b = some g ∧ a = some ⟨g, 0, none⟩ ∧ CellsAt w g vs e ∧ cap * t.sz ≤ vs.size)

/-- A plain datum is a value. -/
def ScalD : (t : Ty) → t.den → Value → Prop
  | .int k, n, v => v = .int k n
  | .str, s, v => v = .string ⟨(s : Str).toArray⟩
  | .bool, b, v => v = .bool b
  | _, _, _ => False
def FlatD : (t : Ty) → t.den → List Value → Prop
  | .pair a b, x, cs => ∃ c1 c2, cs = c1 ++ c2 ∧ FlatD a x.1 c1 ∧ FlatD b x.2 c2
  | t, x, cs => ∃ v, cs = [v] ∧ ScalD t x v
/-- An element of a map. -/
def ElD : (t : Ty) → t.den → Value → Prop
  | .pair a b, x, v => ∃ vs : Array Value, v = .agg vs ∧ FlatD (.pair a b) x vs.toList
  | t, x, v => ScalD t x v

/-- Entries of a map, and their stamps. -/
def MapD (k v : Ty) (es : Array MapEntry) (c : Nat) (l : List (k.den × v.den)) : Prop :=
  es.size = l.length ∧ (∀ (n : Nat) (e : MapEntry) (x : k.den × v.den), es[n]? = some e → l[n]? = some x → ScalD k x.1 e.key ∧ ElD v x.2 e.val) ∧
  (∀ e ∈ es.toList, e.born < c) ∧ (es.toList.map (·.born)).Nodup
/-- A range over it, so far. -/
def ItD (k v : Ty) (es : Array MapEntry) (c since c0 : Nat) (seen : Array Nat) (l : List ((Bool × k.den) × v.den)) : Prop :=
  (∀ e ∈ es.toList, e.born < since) ∧ c0 = c ∧ since ≤ c ∧ (es.toList.map (·.born)).Nodup ∧ (leftOf es seen).size = l.tail.length ∧ l ≠ [] ∧
  (∀ (n : Nat) (e : MapEntry) (x : (Bool × k.den) × v.den), (leftOf es seen)[n]? = some e → l.tail[n]? = some x → ScalD k x.1.2 e.key ∧ ElD v x.2 e.val) ∧
  (∀ x ∈ l.head?, x.1.1 = true → ∃ e ∈ es.toList, ScalD k x.1.2 e.key ∧ ElD v x.2 e.val ∧ ∃ s0 : Array Nat, seen = s0.push e.born)

/-- A pointer's block. -/
def PtrAt (h : Heap) (μ : Nat → Option Nat) (b g : Nat) : Prop := ∃ x, h[b]? = some x ∧ x ≠ .hole ∧ (x ≠ .gone → μ b = some g)

inductive Rep (w : World) (I : Nat → Nat → Prop) (h : Heap) (μ : Nat → Option Nat) : Value → AV → Prop where
  | junk (v : Value) : Rep w I h μ v .junk
  | t : Rep w I h μ (.bool true) .t
  | f : Rep w I h μ (.bool false) .f
  | bool (b : Bool) : Rep w I h μ (.bool b) (.bool b)
  | int (k : IntKind) (n : Int) : Rep w I h μ (.int k n) (.int k n)
  | str (l : Str) : Rep w I h μ (.string ⟨l.toArray⟩) (.str l)
  | nilsl : Rep w I h μ (.slice none 0 0) .nilsl
  | sl (t : Ty) (l : List t.den) (full : Bool) (a : Option Addr) (n cap : Nat) (hr : RD w I (.sl t) l [.slice a n cap]) (hf : full = true → cap = n) : Rep w I h μ (.slice a n cap) (.sl t l full)
  | own (t : Ty) (b : Nat) (full : Bool) (a : Option Addr) (n cap : Nat) (ho : OwnAt w h μ t b full a n cap) : Rep w I h μ (.slice a n cap) (.own t b full)
  | ptr (b j g : Nat) (hp : PtrAt h μ b g) : Rep w I h μ (.pointer (some ⟨g, j, none⟩)) (.ptr b j)
  | eptr (t : Ty) (b i j g : Nat) (hp : PtrAt h μ b g) : Rep w I h μ (.pointer (some ⟨g, i * t.sz + j, none⟩)) (.eptr t b i j)
  | iptr (t : Ty) (x : t.den) (j g o : Nat) (cs : List Value) (hr : RD w I t x cs) (hc : ∀ (k : Nat) (u : Value), cs[k]? = some u → w.cell? ⟨g, o + k, none⟩ = some u ∧ I g (o + k)) :
      Rep w I h μ (.pointer (some ⟨g, o + j, none⟩)) (.iptr t x j)
  | nilptr : Rep w I h μ (.pointer none) .nilptr
  | agg (vs : Array Value) (cs : List AV) (hl : vs.size = cs.length) (hc : ∀ (i : Nat) (v : Value) (c : AV), vs[i]? = some v → cs[i]? = some c → Rep w I h μ v c) : Rep w I h μ (.agg vs) (.agg cs)
  | tup (vs : Array Value) (cs : List AV) (hl : vs.size = cs.length) (hc : ∀ (i : Nat) (v : Value) (c : AV), vs[i]? = some v → cs[i]? = some c → Rep w I h μ v c) : Rep w I h μ (.tuple vs) (.tup cs)
  | fn (f : Fn) (as cs : Array Value) (xs ys : List AV) (ha : as.size = xs.length) (hb : cs.size = ys.length) (h1 : ∀ (i : Nat) (v : Value) (c : AV), as[i]? = some v → xs[i]? = some c → Rep w I h μ v c)
      (h2 : ∀ (i : Nat) (v : Value) (c : AV), cs[i]? = some v → ys[i]? = some c → Rep w I h μ v c) : Rep w I h μ (.func f as cs) (.fn f xs ys)
  | nilfn : Rep w I h μ .nilFunc .nilfn
  | iface (t : TypeId) (v : Value) (x : AV) (hv : Rep w I h μ v x) : Rep w I h μ (.iface t v) (.iface t x)
  | niliface : Rep w I h μ .nilIface .niliface
  | mptr (b g : Nat) (hp : PtrAt h μ b g) : Rep w I h μ (.map (some g)) (.mptr b)
  | fmap (k v : Ty) (l : List (k.den × v.den)) (g : Nat) (es : Array MapEntry) (c : Nat) (hi : ∀ o, I g o) (hg : w.heap[g]? = some (.map es c)) (hd : MapD k v es c l) : Rep w I h μ (.map (some g)) (.fmap k v l)

/-- The cells that may be written. -/
def Wr (h : Heap) (μ : Nat → Option Nat) (g o : Nat) : Prop :=
  ∃ i, μ i = some g ∧ ((∃ cs, h[i]? = some (.var cs)) ∨ (∃ t l, h[i]? = some (.arr t l true)) ∨ (∃ t l, h[i]? = some (.arr t l false) ∧ l.length * t.sz ≤ o) ∨ (∃ k v l, h[i]? = some (.mp k v l)))

def live : AB → Prop
  | .var _ => True
  | .arr _ _ _ => True
  | .mp _ _ _ => True
  | _ => False

/-- A map; or, its key marked, a range over one that is written no more. -/
def MpAt (w : World) (I : Nat → Nat → Prop) (μ : Nat → Option Nat) (i : Nat) : (k v : Ty) → List (k.den × v.den) → Prop
  | .pair .bool k, v, l => ∃ r q es c since c0 seen, μ i = some r ∧ w.heap[r]? = some (.mapIter (some q) since seen c0) ∧ (∀ o, I q o) ∧ w.heap[q]? = some (.map es c) ∧ ItD k v es c since c0 seen l
  | k, v, l => ∃ g es c, μ i = some g ∧ w.heap[g]? = some (.map es c) ∧ MapD k v es c l
theorem MpAt.of {w : World} {I : Nat → Nat → Prop} {μ : Nat → Option Nat} {i : Nat} {k v : Ty} {l : List (k.den × v.den)} (hk : isKey k = true) : MpAt w I μ i k v l = ∃ g es c, μ i = some g ∧ w.heap[g]? = some (.map es c) ∧ MapD k v es c l := by
  cases k <;> first | rfl | cases hk
theorem MpAt.mono {w w' : World} {I I' : Nat → Nat → Prop} {μ μ' : Nat → Option Nat} {i i' : Nat} {k v : Ty} {l : List (k.den × v.den)} (hmu : μ' i' = μ i) (hb : ∀ g, μ i = some g → w'.heap[g]? = w.heap[g]?)
    (hI : ∀ g o, I g o → I' g o) (hf : ∀ g, (∀ o, I g o) → w'.heap[g]? = w.heap[g]?) (r : MpAt w I μ i k v l) : MpAt w' I' μ' i' k v l := by
  have key : ∀ {k v : Ty} {l : List (k.den × v.den)}, (∃ g es c, μ i = some g ∧ w.heap[g]? = some (.map es c) ∧ MapD k v es c l) → ∃ g es c, μ' i' = some g ∧ w'.heap[g]? = some (.map es c) ∧ MapD k v es c l := by
    rintro k v l ⟨g, es, c, h1, h2, h3⟩
    exact ⟨g, es, c, hmu.trans h1, (hb g h1).trans h2, h3⟩
  cases k with
  | pair a b =>
    cases a with
    | bool =>
      obtain ⟨r, q, es, c, since, c0, seen, h1, h2, h3, h4, h5⟩ := r
      exact ⟨r, q, es, c, since, c0, seen, hmu.trans h1, (hb r h1).trans h2, fun o => hI _ _ (h3 o), (hf q h3).trans h4, h5⟩
    | _ => exact key r
  | _ => exact key r
def RepB (w : World) (I : Nat → Nat → Prop) (h : Heap) (μ : Nat → Option Nat) (i : Nat) : AB → Prop
  | .hole => True
  | .gone => True
  | .var cs => ∃ g vs e, μ i = some g ∧ w.heap[g]? = some (.cells vs e (0, 0)) ∧ vs.size = cs.length ∧ ∀ (k : Nat) (v : Value) (c : AV), vs[k]? = some v → cs[k]? = some c → Rep w I h μ v c
  | .arr t l fr => l = [] ∨ ∃ g vs e, μ i = some g ∧ CellsAt w g vs e ∧ l.length * t.sz ≤ vs.size ∧
      (∀ k (hk : k < l.length), RD w I t l[k] ((vs.toList.drop (k * t.sz)).take t.sz)) ∧ (fr = false → ∀ o, o < l.length * t.sz → I g o)
  | .mp k v l => MpAt w I μ i k v l

/-- What the program's package-level tables hold, for ever. -/
class Lay where
  cells : List (Nat × List Value)
  /-- Variables that hold some number. -/
  ints : List Nat
def LayOK [Lay] (w : World) (I : Nat → Nat → Prop) : Prop :=
  (∀ p ∈ Lay.cells, (∃ e fz, w.heap[p.1]? = some (.cells p.2.toArray e fz)) ∧ ∀ i, i < p.2.length → I p.1 i) ∧
  ∀ g ∈ Lay.ints, ∃ m, w.cell? ⟨g, 0, none⟩ = some (.int .i64 m) ∧ I g 0
set_option linter.unusedSectionVars false
variable [Lay]

structure RelH (w : World) (I : Nat → Nat → Prop) (μ : Nat → Option Nat) (h : Heap) : Prop where
  inj : ∀ (i j : Nat) (x y : AB) (g : Nat), h[i]? = some x → h[j]? = some y → live x → live y → μ i = some g → μ j = some g → i = j
  lt : ∀ (i : Nat) (x : AB) (g : Nat), h[i]? = some x → live x → μ i = some g → g < w.heap.size
  blk : ∀ (i : Nat) (x : AB), h[i]? = some x → RepB w I h μ i x
  disj : ∀ g o, I g o → ¬ Wr h μ g o
  ilt : ∀ g o, I g o → g < w.heap.size
  laid : LayOK w I

/-- No part of it may not be written. -/
def NF : Obj → Prop
  | .cells _ _ fz => fz = (0, 0)
  | _ => True

/-- What may have turned. -/
structure Fr (w : World) (W I : Nat → Nat → Prop) (w' : World) (W' I' : Nat → Nat → Prop) : Prop where
  os : w'.os = w.os
  tape : w'.tape = w.tape
  output : w'.output = w.output
  size : w.heap.size ≤ w'.heap.size
  same : ∀ g, g < w.heap.size → (∀ o, ¬ W g o) → w'.heap[g]? = w.heap[g]?
  part : ∀ (g : Nat) (vs : Array Value) (e : TypeId) (fz : Nat × Nat), g < w.heap.size → w.heap[g]? = some (.cells vs e fz) → ∃ vs', w'.heap[g]? = some (.cells vs' e fz) ∧ vs'.size = vs.size ∧ ∀ o, ¬ W g o → vs'[o]? = vs[o]?
  nf : ∀ g : Nat, g < w.heap.size → (∀ x, w.heap[g]? = some x → NF x) → ∀ x, w'.heap[g]? = some x → NF x
  wr : ∀ g o, W' g o → W g o ∨ w.heap.size ≤ g
  im : ∀ g o, I g o → I' g o
  im' : ∀ g o, I' g o → I g o ∨ W g o ∨ w.heap.size ≤ g

theorem Fr.refl (w : World) (W I : Nat → Nat → Prop) : Fr w W I w W I :=
  ⟨rfl, rfl, rfl, Nat.le_refl _, fun _ _ _ => rfl, fun _ vs _ _ _ h => ⟨vs, h, rfl, fun _ _ => rfl⟩, fun _ _ hh => hh, fun _ _ h => .inl h, fun _ _ h => h, fun _ _ h => .inl h⟩

theorem Fr.trans {w w1 w2 : World} {W I W1 I1 W2 I2 : Nat → Nat → Prop} (h : Fr w W I w1 W1 I1) (k : Fr w1 W1 I1 w2 W2 I2) : Fr w W I w2 W2 I2 where
  os := k.os.trans h.os
  tape := k.tape.trans h.tape
  output := k.output.trans h.output
  size := Nat.le_trans h.size k.size
  same := fun g hg hn => (k.same g (Nat.lt_of_lt_of_le hg h.size) (fun o ho => (h.wr g o ho).elim (hn o) (fun hle => absurd hg (Nat.not_lt.2 hle)))).trans (h.same g hg hn)
  part := fun g vs e fz hg hv => by
    obtain ⟨vs1, h1, h2, h3⟩ := h.part g vs e fz hg hv
    obtain ⟨vs2, k1, k2, k3⟩ := k.part g vs1 e fz (Nat.lt_of_lt_of_le hg h.size) h1
    refine ⟨vs2, k1, k2.trans h2, fun o ho => (k3 o fun hw => ?_).trans (h3 o ho)⟩
    exact (h.wr g o hw).elim ho (fun hle => absurd hg (Nat.not_lt.2 hle))
  nf := fun g hlt hg => k.nf g (Nat.lt_of_lt_of_le hlt h.size) (h.nf g hlt hg)
  wr := fun g o hw => (k.wr g o hw).elim (fun h1 => h.wr g o h1) (fun hle => .inr (Nat.le_trans h.size hle))
  im := fun g o hi => k.im g o (h.im g o hi)
  im' := fun g o hi => (k.im' g o hi).elim (fun h1 => h.im' g o h1) (fun h1 => h1.elim (fun h2 => (h.wr g o h2).elim (fun h3 => .inr (.inl h3)) (fun h3 => .inr (.inr h3))) (fun hle => .inr (.inr (Nat.le_trans h.size hle))))

/-- A cell that may not be written is as it was. -/
theorem Fr.cell {w w' : World} {W I W' I' : Nat → Nat → Prop} (h : Fr w W I w' W' I') {g o : Nat} (hn : ¬ W g o) (hg : g < w.heap.size) {u : Value} (hu : w.cell? ⟨g, o, none⟩ = some u) :
    w'.cell? ⟨g, o, none⟩ = some u := by
  unfold World.cell? at hu ⊢
  simp only [Option.isSome_none, Bool.false_eq_true, if_false] at hu ⊢
  cases hb : w.heap[g]? with
  | none => rw [hb] at hu; cases hu
  | some x =>
    rw [hb] at hu
    cases x with
    | cells vs e fz =>
      obtain ⟨vs', h1, _, h3⟩ := h.part g vs e fz hg hb
      rw [h1]
      simp only at hu ⊢
      rw [h3 o hn]
      exact hu
    | _ => cases hu

theorem LayOK.step {w w' : World} {W I W' I' : Nat → Nat → Prop} (l : LayOK w I) (hd : ∀ g o, I g o → ¬ W g o) (hlt : ∀ g o, I g o → g < w.heap.size) (F : Fr w W I w' W' I') : LayOK w' I' :=
  ⟨fun p hp => by
    obtain ⟨⟨e, fz, h1⟩, h2⟩ := l.1 p hp
    obtain ⟨vs', h3, h4, h5⟩ := F.part p.1 p.2.toArray e fz (Array.getElem?_eq_some_iff.1 h1).1 h1
    refine ⟨⟨e, fz, ?_⟩, fun i hi => F.im _ _ (h2 i hi)⟩
    rw [h3]
    congr 2
    refine Array.ext_getElem? fun i => ?_
    by_cases hi : i < p.2.length
    · exact h5 i (hd _ _ (h2 i hi))
    · rw [Array.getElem?_eq_none (by rw [h4]; simpa using hi), Array.getElem?_eq_none (by simpa using hi)],
  fun g hg => let ⟨m, h1, h2⟩ := l.2 g hg; ⟨m, F.cell (hd _ _ h2) (hlt _ _ h2) h1, F.im _ _ h2⟩⟩

/-- Blocks by their numbers: those that were there stay, but that an array may be gone. -/
def keptB : AB → AB → Prop
  | .hole, _ => True
  | .gone, y => y = .gone
  | .var _, y => ∃ cs, y = .var cs
  | .arr t l _, y => y = .gone ∨ ∃ l' fr, y = .arr t l' fr ∧ l'.length = l.length
  | .mp k v _, y => y = .gone ∨ ∃ l, y = .mp k v l

structure HM (h : Heap) (μ : Nat → Option Nat) (h' : Heap) (μ' : Nat → Option Nat) : Prop where
  kept : ∀ (b : Nat) (x : AB), h[b]? = some x → ∃ y, h'[b]? = some y ∧ keptB x y
  mu : ∀ (b : Nat) (x y : AB), h[b]? = some x → h'[b]? = some y → live x → live y → μ' b = μ b

theorem HM.refl (h : Heap) (μ : Nat → Option Nat) : HM h μ h μ :=
  ⟨fun b x hb => ⟨x, hb, by cases x with
    | hole => trivial
    | gone => rfl
    | var cs => exact ⟨cs, rfl⟩
    | arr t l fr => exact .inr ⟨l, fr, rfl, rfl⟩
    | mp k v l => exact .inr ⟨l, rfl⟩⟩, fun _ _ _ _ _ _ _ => rfl⟩

theorem keptB.trans {x y z : AB} (h : keptB x y) (k : keptB y z) : keptB x z := by
  cases x with
  | hole => trivial
  | gone => obtain rfl := h; exact k
  | var cs => obtain ⟨cs', rfl⟩ := h; exact k
  | mp _ _ l =>
    rcases h with rfl | ⟨l', rfl⟩
    · exact .inl k
    · exact k
  | arr t l fr =>
    rcases h with rfl | ⟨l', fr', rfl, hl⟩
    · exact .inl k
    · rcases k with rfl | ⟨l2, fr2, rfl, hl2⟩
      · exact .inl rfl
      · exact .inr ⟨l2, fr2, rfl, hl2.trans hl⟩

theorem keptB.mid {x y z : AB} (h : keptB x y) (k : keptB y z) (hx : live x) (hz : live z) : live y := by
  cases x with
  | hole => cases hx
  | gone => cases hx
  | var cs => obtain ⟨cs', rfl⟩ := h; trivial
  | mp _ _ l =>
    rcases h with rfl | ⟨l', rfl⟩
    · obtain rfl := k; cases hz
    · trivial
  | arr t l fr =>
    rcases h with rfl | ⟨l', fr', rfl, hl⟩
    · obtain rfl := k; cases hz
    · trivial

theorem HM.trans {h h1 h2 : Heap} {μ μ1 μ2 : Nat → Option Nat} (a : HM h μ h1 μ1) (b : HM h1 μ1 h2 μ2) : HM h μ h2 μ2 := by
  refine ⟨fun i x hx => ?_, fun i x z hx hz lx lz => ?_⟩
  · obtain ⟨y, hy, ky⟩ := a.kept i x hx
    obtain ⟨z, hz, kz⟩ := b.kept i y hy
    exact ⟨z, hz, ky.trans kz⟩
  · obtain ⟨y, hy, ky⟩ := a.kept i x hx
    obtain ⟨z', hz', kz⟩ := b.kept i y hy
    rw [hz] at hz'
    injection hz' with hz'
    subst hz'
    have ly := ky.mid kz lx lz
    exact (b.mu i y z hy hz ly lz).trans (a.mu i x y hx hy lx ly)

theorem keptB.ne_hole {x y : AB} (h : keptB x y) (hx : x ≠ .hole) : y ≠ .hole := by
  cases x with
  | hole => exact absurd rfl hx
  | gone => obtain rfl := h; simp
  | var cs => obtain ⟨cs', rfl⟩ := h; simp
  | mp _ _ l => rcases h with rfl | ⟨l', rfl⟩ <;> simp
  | arr t l fr => rcases h with rfl | ⟨l', fr', rfl, _⟩ <;> simp

theorem live_of_ne {x : AB} (h1 : x ≠ .hole) (h2 : x ≠ .gone) : live x := by
  cases x with
  | hole => exact absurd rfl h1
  | gone => exact absurd rfl h2
  | var => trivial
  | arr => trivial
  | mp => trivial

theorem PtrAt.mono {h h' : Heap} {μ μ' : Nat → Option Nat} (m : HM h μ h' μ') {b g : Nat} (p : PtrAt h μ b g) : PtrAt h' μ' b g := by
  obtain ⟨x, hx, h1, h2⟩ := p
  obtain ⟨y, hy, k⟩ := m.kept b x hx
  refine ⟨y, hy, k.ne_hole h1, fun hg => ?_⟩
  have ly := live_of_ne (k.ne_hole h1) hg
  have hxg : x ≠ .gone := by
    rintro rfl
    obtain rfl := k
    exact hg rfl
  rw [m.mu b x y hx hy (live_of_ne h1 hxg) ly]
  exact h2 hxg

theorem OwnAt.mono {w w' : World} {h h' : Heap} {μ μ' : Nat → Option Nat} (m : HM h μ h' μ')
    (hs : ∀ (g : Nat) (vs : Array Value) (e : TypeId), CellsAt w g vs e → ∃ vs', CellsAt w' g vs' e ∧ vs'.size = vs.size)
    {t : Ty} {b : Nat} {full : Bool} {a : Option Addr} {n cap : Nat} (p : OwnAt w h μ t b full a n cap) : OwnAt w' h' μ' t b full a n cap := by
  obtain ⟨x, hx, h1, h2⟩ := p
  obtain ⟨y, hy, k⟩ := m.kept b x hx
  refine ⟨y, hy, k.ne_hole h1, ?_⟩
  rintro t' l' fr' rfl
  cases x with
  | hole => exact absurd rfl h1
  | gone => cases k
  | var cs => obtain ⟨cs', hc⟩ := k; cases hc
  | mp _ _ l => rcases k with hc | ⟨l', hc⟩ <;> cases hc
  | arr t0 l0 fr0 =>
    rcases k with hk | ⟨l2, fr2, hk, hl⟩
    · cases hk
    · cases hk
      obtain ⟨rfl, e2, e3, e4, e5⟩ := h2 _ _ _ rfl
      refine ⟨rfl, e2.trans hl.symm, e3, e4, ?_⟩
      rcases e5 with e5 | ⟨g, vs, e, f1, f2, f3, f4⟩
      · exact .inl e5
      · obtain ⟨vs', q1, q2⟩ := hs g vs e f3
        exact .inr ⟨g, vs', e, (m.mu b _ _ hx hy trivial trivial).trans f1, f2, q1, by omega⟩

/-- What nobody writes any more stays. -/
def KeptI (w : World) (I : Nat → Nat → Prop) (w' : World) : Prop :=
  (∀ g o u, I g o → w.cell? ⟨g, o, none⟩ = some u → w'.cell? ⟨g, o, none⟩ = some u) ∧ ∀ g, (∀ o, I g o) → w'.heap[g]? = w.heap[g]?

/-- A value means what it meant. -/
theorem Rep.mono {w w' : World} {I I' : Nat → Nat → Prop} {h h' : Heap} {μ μ' : Nat → Option Nat} (m : HM h μ h' μ')
    (hs : ∀ (g : Nat) (vs : Array Value) (e : TypeId), CellsAt w g vs e → ∃ vs', CellsAt w' g vs' e ∧ vs'.size = vs.size)
    (hcc : KeptI w I w') (hI : ∀ g o, I g o → I' g o)
    {v : Value} {x : AV} (r : Rep w I h μ v x) : Rep w' I' h' μ' v x := by
  have hc := hcc.1
  induction r with
  | junk v => exact .junk v
  | t => exact .t
  | f => exact .f
  | bool b => exact .bool b
  | int k n => exact .int k n
  | str l => exact .str l
  | nilsl => exact .nilsl
  | sl t l full a n cap hr hf => exact .sl t l full a n cap (hr.mono hc hI) hf
  | own t b full a n cap ho => exact .own t b full a n cap (ho.mono m hs)
  | ptr b j g hp => exact .ptr b j g (hp.mono m)
  | eptr t b i j g hp => exact .eptr t b i j g (hp.mono m)
  | iptr t x j g o cs hr hcs => exact .iptr t x j g o cs (hr.mono hc hI) (fun k u hu => ⟨hc _ _ _ (hcs k u hu).2 (hcs k u hu).1, hI _ _ (hcs k u hu).2⟩)
  | nilptr => exact .nilptr
  | agg vs cs hl hcs ih => exact .agg vs cs hl ih
  | tup vs cs hl hcs ih => exact .tup vs cs hl ih
  | fn f as cs xs ys ha hb h1 h2 ih1 ih2 => exact .fn f as cs xs ys ha hb ih1 ih2
  | nilfn => exact .nilfn
  | iface t v x hv ih => exact .iface t v x ih
  | niliface => exact .niliface
  | mptr b g hp => exact .mptr b g (hp.mono m)
  | fmap k v l g es c hi hg hd => exact .fmap k v l g es c (fun o => hI _ _ (hi o)) ((hcc.2 g hi).trans hg) hd

theorem RelH.cell {w w' : World} {I I' : Nat → Nat → Prop} {h h' : Heap} {μ μ' : Nat → Option Nat} (R : RelH w I μ h) (f : Fr w (Wr h μ) I w' (Wr h' μ') I') :
    ∀ g o u, I g o → w.cell? ⟨g, o, none⟩ = some u → w'.cell? ⟨g, o, none⟩ = some u :=
  fun g o _u hi hu => f.cell (R.disj g o hi) (R.ilt g o hi) hu

theorem RelH.keptI {w w' : World} {I I' : Nat → Nat → Prop} {h h' : Heap} {μ μ' : Nat → Option Nat} (R : RelH w I μ h) (f : Fr w (Wr h μ) I w' (Wr h' μ') I') : KeptI w I w' :=
  ⟨R.cell f, fun g hi => f.same g (R.ilt g 0 (hi 0)) fun o => R.disj g o (hi o)⟩

theorem Fr.shape {w w' : World} {W I W' I' : Nat → Nat → Prop} (f : Fr w W I w' W' I') :
    ∀ (g : Nat) (vs : Array Value) (e : TypeId), CellsAt w g vs e → ∃ vs', CellsAt w' g vs' e ∧ vs'.size = vs.size := by
  intro g vs e hg
  have hlt := hg.lt
  obtain ⟨fz, hg, hz⟩ := hg
  obtain ⟨vs', h1, h2, _⟩ := f.part g vs e _ hlt hg
  exact ⟨vs', ⟨fz, h1, by rw [h2]; exact hz⟩, h2⟩

theorem Rep.step {w w' : World} {I I' : Nat → Nat → Prop} {h h' : Heap} {μ μ' : Nat → Option Nat} (R : RelH w I μ h) (f : Fr w (Wr h μ) I w' (Wr h' μ') I') (m : HM h μ h' μ')
    {v : Value} {x : AV} (r : Rep w I h μ v x) : Rep w' I' h' μ' v x := r.mono m f.shape (R.keptI f) f.im

end Go.AM
