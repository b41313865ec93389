/-
  AM, part 18: a state seen as another one: slots forgotten, blocks dropped, numbered anew, frozen; empty slices as arrays of one's own.
-/
import Derived.Test.YtfcigmcjgaipmaaDoorBMCode
namespace Go.AM
set_option linter.unusedSectionVars false
variable [Lay] [Dfr]

/-- What a new block is: one of the old ones; an empty array; an array that is told no more. -/
inductive Src where
  | old (m : Nat)
  | emp (t : Ty) (fr : Bool)
  | no (m : Nat)
def goneB : AB → Bool
  | .arr _ _ _ => true
  | .gone => true
  | _ => false

def tellSl (t' : Ty) (l' : List t'.den) (f' : Bool) (t : Ty) (l : List t.den) (f : Bool) : Prop :=
  match decEq t' t with
  | isTrue e => (e ▸ l') = l ∧ (f' = f ∨ f = false)
  | isFalse _ => False
/-- May x be told as y? (What names no block.) -/
def tell1 (x : AV) : AV → Prop
  | .bool b => match x with | .t => b = true | .f => b = false | .bool a => a = b | _ => False
  | .t => match x with | .t => True | .bool a => a = true | _ => False
  | .f => match x with | .f => True | .bool a => a = false | _ => False
  | .int k n => match x with | .int k' n' => k' = k ∧ n' = n | _ => False
  | .str l => match x with | .str l' => l' = l | _ => False
  | .sl t l f => match x with | .sl t' l' f' => tellSl t' l' f' t l f | .nilsl => l = [] | _ => False
  | _ => False

/-- May x be taken for y? (ρ: what each new block is.) -/
def viewV (ρ : List Src) (x : AV) : AV → Prop
  | .junk => True
  | .own t k f => match ρ[k]? with
    | some (.old m) => x = .own t m f ∨ (f = false ∧ x = .own t m true)
    | some (.emp t2 _) => t2 = t ∧ f = false ∧ (match x with | .nilsl => True | .sl t' l f' => t' = t ∧ l.length = 0 ∧ f' = true | _ => False)
    | _ => False
  | .ptr k j => match ρ[k]? with
    | some (.old m) => x = .ptr m j
    | _ => False
  | .eptr t k i j => match ρ[k]? with
    | some (.old m) => x = .eptr t m i j
    | _ => False
  | .mptr k => match ρ[k]? with
    | some (.old m) => x = .mptr m
    | _ => False
  | .agg ys => match x with | .agg xs => viewL ρ xs ys | _ => False
  | .tup ys => match x with | .tup xs => viewL ρ xs ys | _ => False
  | .fn f as cs => match x with | .fn f' as' cs' => f' = f ∧ viewL ρ as' as ∧ viewL ρ cs' cs | _ => False
  | .iface t v => match x with | .iface t' v' => t' = t ∧ viewV ρ v' v | _ => False
  | .bool b => tell1 x (.bool b)
  | .t => tell1 x .t
  | .f => tell1 x .f
  | .int k n => tell1 x (.int k n)
  | .str l => tell1 x (.str l)
  | .sl t l f => tell1 x (.sl t l f)
  | y => x = y
where viewL (ρ : List Src) (xs : List AV) : List AV → Prop
  | [] => match xs with | [] => True | _ => False
  | y :: ys => match xs with
    | x :: xs => viewV ρ x y ∧ viewL ρ xs ys
    | [] => False

def viewB (ρ : List Src) (x : AB) : AB → Prop
  | .hole => x = .hole
  | .gone => True
  | .var ys => match x with | .var xs => viewV.viewL ρ xs ys | _ => False
  | .arr t l fr => x = .arr t l fr
  | .mp k v l => x = .mp k v l

def viewH (ρ : List Src) (h : Heap) : List Src → Heap → Prop
  | [], [] => True
  | .old m :: r, y :: h' => viewB ρ (hget h m) y ∧ viewH ρ h r h'
  | .emp t fr :: r, y :: h' => y = .arr t [] fr ∧ viewH ρ h r h'
  | .no m :: r, y :: h' => (y = .gone ∧ goneB (hget h m) = true) ∧ viewH ρ h r h'
  | _, _ => False

def viewS (ρ : List Src) (s : Slots) : Slots → Prop
  | [] => True
  | (i, y) :: r => viewV ρ (lkp i s) y ∧ viewS ρ s r

def baseB : Nat → Nat → List Src → Heap → Bool
  | 0, _, _, _ => true
  | n + 1, k, .old m :: r, y :: h' => Nat.beq m k && (match y with | .gone => false | .hole => false | _ => true) && baseB n (k + 1) r h'
  | n + 1, k, .no m :: r, _ :: h' => Nat.beq m k && baseB n (k + 1) r h'
  | _, _, _, _ => false

def inB (m : Nat) : List Src → Bool
  | [] => false
  | .old k :: r => Nat.beq k m || inB m r
  | .emp _ _ :: r => inB m r
  | .no _ :: r => inB m r
def nodupB : List Src → Bool
  | [] => true
  | .emp _ _ :: r => nodupB r
  | .no _ :: r => nodupB r
  | .old m :: r => !inB m r && nodupB r

/-- The state (s, h), the blocks fz frozen, may be seen as (s', h'). -/
def View (n0 : Nat) (fz : List Nat) (ρ : List Src) (s : Slots) (h : Heap) (s' : Slots) (h' : Heap) : Prop :=
  (baseB n0 0 ρ h' && nodupB ρ) = true ∧ viewH ρ (hputs h (frz (hget h) fz)) ρ h' ∧ viewS ρ s s'

section
variable {F : Fp} {w w0 : World} {I I0 : Nat → Nat → Prop} {h h0 h' : Heap} {μ μ0 : Nat → Option Nat} {a : Act} {s s' : Slots} {ρ : List Src}

theorem viewH_get : ∀ {r : List Src} {h' : Heap}, viewH ρ h r h' → r.length = h'.length ∧
    (∀ (k m : Nat), r[k]? = some (.old m) → ∃ y, h'[k]? = some y ∧ viewB ρ (hget h m) y) ∧ (∀ (k : Nat) (t : Ty) (fr : Bool), r[k]? = some (.emp t fr) → h'[k]? = some (.arr t [] fr)) ∧
    (∀ (k m : Nat), r[k]? = some (.no m) → h'[k]? = some .gone ∧ goneB (hget h m) = true)
  | [], [], _ => ⟨rfl, fun k m h1 => by simp at h1, fun k t fr h1 => by simp at h1, fun k m h1 => by simp at h1⟩
  | .old m :: r, y :: h', hv => by
    obtain ⟨h1, h2, h3, h4⟩ := viewH_get hv.2
    refine ⟨by simp [h1], fun k m' e => ?_, fun k t fr e => ?_, fun k m' e => ?_⟩
    · cases k with
      | zero => simp at e; subst e; exact ⟨y, rfl, hv.1⟩
      | succ k => exact h2 k m' (by simpa using e)
    · cases k with
      | zero => simp at e
      | succ k => exact h3 k t fr (by simpa using e)
    · cases k with
      | zero => simp at e
      | succ k => exact h4 k m' (by simpa using e)
  | .emp t0 fr0 :: r, y :: h', hv => by
    obtain ⟨h1, h2, h3, h4⟩ := viewH_get hv.2
    refine ⟨by simp [h1], fun k m' e => ?_, fun k t fr e => ?_, fun k m' e => ?_⟩
    · cases k with
      | zero => simp at e
      | succ k => exact h2 k m' (by simpa using e)
    · cases k with
      | zero => simp at e; obtain ⟨rfl, rfl⟩ := e; rw [hv.1]; rfl
      | succ k => exact h3 k t fr (by simpa using e)
    · cases k with
      | zero => simp at e
      | succ k => exact h4 k m' (by simpa using e)
  | .no m0 :: r, y :: h', hv => by
    obtain ⟨h1, h2, h3, h4⟩ := viewH_get hv.2
    refine ⟨by simp [h1], fun k m' e => ?_, fun k t fr e => ?_, fun k m' e => ?_⟩
    · cases k with
      | zero => simp at e
      | succ k => exact h2 k m' (by simpa using e)
    · cases k with
      | zero => simp at e
      | succ k => exact h3 k t fr (by simpa using e)
    · cases k with
      | zero => simp at e; subst e; rw [hv.1.1]; exact ⟨rfl, hv.1.2⟩
      | succ k => exact h4 k m' (by simpa using e)
  | [], _ :: _, hv => hv.elim
  | .old _ :: _, [], hv => hv.elim
  | .emp _ _ :: _, [], hv => hv.elim
  | .no _ :: _, [], hv => hv.elim

theorem inB_get : ∀ {r : List Src} {m k : Nat}, r[k]? = some (.old m) → inB m r = true
  | [], _, _, h1 => by simp at h1
  | .old m' :: r, m, k, h1 => by
    cases k with
    | zero => simp at h1; subst h1; simp [inB]
    | succ k => simp [inB, inB_get (r := r) (k := k) (by simpa using h1)]
  | .emp t _ :: r, m, k, h1 => by
    cases k with
    | zero => simp at h1
    | succ k => exact inB_get (r := r) (k := k) (by simpa using h1)
  | .no _ :: r, m, k, h1 => by
    cases k with
    | zero => simp at h1
    | succ k => exact inB_get (r := r) (k := k) (by simpa using h1)

theorem nodupB_get : ∀ {r : List Src}, nodupB r = true → ∀ (i j m : Nat), r[i]? = some (.old m) → r[j]? = some (.old m) → i = j
  | [], _, i, j, m, h1, _ => by simp at h1
  | .emp _ _ :: r, hn, i, j, m, h1, h2 => by
    cases i with
    | zero => simp at h1
    | succ i =>
      cases j with
      | zero => simp at h2
      | succ j =>
        have := nodupB_get (r := r) hn i j m (by simpa using h1) (by simpa using h2)
        omega
  | .no _ :: r, hn, i, j, m, h1, h2 => by
    cases i with
    | zero => simp at h1
    | succ i =>
      cases j with
      | zero => simp at h2
      | succ j =>
        have := nodupB_get (r := r) hn i j m (by simpa using h1) (by simpa using h2)
        omega
  | .old m' :: r, hn, i, j, m, h1, h2 => by
    simp only [nodupB, Bool.and_eq_true, Bool.not_eq_true'] at hn
    have hnot : ∀ k : Nat, r[k]? ≠ some (.old m') := by
      intro k hk
      rw [inB_get hk] at hn
      exact absurd hn.1 (by simp)
    cases i with
    | zero =>
      cases j with
      | zero => rfl
      | succ j =>
        simp at h1 h2
        subst h1
        exact absurd h2 (hnot j)
    | succ i =>
      cases j with
      | zero =>
        simp at h1 h2
        subst h2
        exact absurd h1 (hnot i)
      | succ j =>
        have := nodupB_get (r := r) hn.2 i j m (by simpa using h1) (by simpa using h2)
        omega

theorem baseB_get : ∀ {n k : Nat} {r : List Src} {h' : Heap}, baseB n k r h' = true → ∀ i, i < n → (r[i]? = some (.old (k + i)) ∧ ∃ y, h'[i]? = some y ∧ live y) ∨ r[i]? = some (.no (k + i))
  | 0, _, _, _, _, i, hi => by omega
  | n + 1, k, .old m :: r, y :: h', hb, i, hi => by
    simp only [baseB, Bool.and_eq_true] at hb
    obtain ⟨⟨h1, h2⟩, h3⟩ := hb
    have h1 : m = k := Nat.eq_of_beq_eq_true h1
    cases i with
    | zero =>
      refine .inl ⟨by simp [h1], y, rfl, ?_⟩
      cases y with
      | hole => cases h2
      | gone => cases h2
      | var => trivial
      | arr => trivial
      | mp => trivial
    | succ i =>
      have := baseB_get (n := n) (k := k + 1) h3 i (by omega)
      simpa [Nat.add_assoc, Nat.add_comm 1 i] using this
  | n + 1, k, .no m :: r, y :: h', hb, i, hi => by
    simp only [baseB, Bool.and_eq_true] at hb
    obtain ⟨h1, h3⟩ := hb
    have h1 : m = k := Nat.eq_of_beq_eq_true h1
    cases i with
    | zero => exact .inr (by simp [h1])
    | succ i =>
      have := baseB_get (n := n) (k := k + 1) h3 i (by omega)
      simpa [Nat.add_assoc, Nat.add_comm 1 i] using this
  | n + 1, k, [], _, hb, _, _ => by simp [baseB] at hb
  | n + 1, k, .emp _ _ :: _, _, hb, _, _ => by simp [baseB] at hb
  | n + 1, k, .old _ :: _, [], hb, _, _ => by simp [baseB] at hb
  | n + 1, k, .no _ :: _, [], hb, _, _ => by simp [baseB] at hb

/-- The new numbers. -/
def nuOf (ρ : List Src) (μ : Nat → Option Nat) : Nat → Option Nat := fun k => match ρ[k]? with | some (.old m) => μ m | _ => none

/-- What the view of the blocks gives. -/
structure HV (ρ : List Src) (h h' : Heap) : Prop where
  len : ρ.length = h'.length
  old : ∀ (k m : Nat), ρ[k]? = some (.old m) → ∃ y, h'[k]? = some y ∧ viewB ρ (hget h m) y
  emp : ∀ (k : Nat) (t : Ty) (fr : Bool), ρ[k]? = some (.emp t fr) → h'[k]? = some (.arr t [] fr)

theorem HV.ptr (V : HV ρ h h') {k m g : Nat} (hk : ρ[k]? = some (.old m)) (hp : PtrAt h μ m g) : PtrAt h' (nuOf ρ μ) k g := by
  obtain ⟨x, hx, h1, h2⟩ := hp
  obtain ⟨y, hy, hv⟩ := V.old k m hk
  rw [hget_eq hx] at hv
  refine ⟨y, hy, ?_, fun hg => ?_⟩
  · rintro rfl
    exact h1 hv
  · simp only [nuOf, hk]
    refine h2 ?_
    rintro rfl
    cases y with
    | hole => cases hv
    | gone => exact hg rfl
    | var => exact hv
    | arr => cases hv
    | mp => cases hv

theorem HV.own (V : HV ρ h h') {k m : Nat} {t : Ty} {full : Bool} {a : Option Addr} {n cap : Nat} (hk : ρ[k]? = some (.old m)) (ho : OwnAt w h μ t m full a n cap) : OwnAt w h' (nuOf ρ μ) t k full a n cap := by
  obtain ⟨x, hx, h1, h2⟩ := ho
  obtain ⟨y, hy, hv⟩ := V.old k m hk
  rw [hget_eq hx] at hv
  refine ⟨y, hy, ?_, ?_⟩
  · rintro rfl
    exact h1 hv
  · rintro t' l fr rfl
    obtain ⟨e1, e2, e3, e4, e5⟩ := h2 t' l fr hv
    refine ⟨e1, e2, e3, e4, ?_⟩
    rcases e5 with e5 | ⟨g, vs, e, f1, f2, f3, f4⟩
    · exact .inl e5
    · exact .inr ⟨g, vs, e, by simp only [nuOf, hk]; exact f1, f2, f3, f4⟩

theorem tell1_refl (v : AV) (hs : (match v with | .bool _ => True | .t => True | .f => True | .int _ _ => True | .str _ => True | .sl _ _ _ => True | _ => False)) : tell1 v v := by
  cases v <;> first | exact hs.elim | trivial | rfl | exact ⟨rfl, rfl⟩ | skip
  rename_i t l f
  show tellSl t l f t l f
  unfold tellSl
  split
  · rename_i e _
    exact ⟨rfl, .inl rfl⟩
  · rename_i ne _
    exact ne rfl

theorem tell_rep {h' : Heap} {μ' : Nat → Option Nat} {v : Value} {x y : AV} (ht : tell1 x y) (r : Rep w I h μ v x) : Rep w I h' μ' v y := by
  cases y with
  | bool b =>
    simp only [tell1] at ht
    split at ht
    · cases r; subst ht; exact .bool _
    · cases r; subst ht; exact .bool _
    · cases r; subst ht; exact .bool _
    · exact ht.elim
  | t =>
    simp only [tell1] at ht
    split at ht
    · cases r; exact .t
    · cases r; subst ht; exact .t
    · exact ht.elim
  | f =>
    simp only [tell1] at ht
    split at ht
    · cases r; exact .f
    · cases r; subst ht; exact .f
    · exact ht.elim
  | int k n =>
    simp only [tell1] at ht
    split at ht
    · cases r; obtain ⟨rfl, rfl⟩ := ht; exact .int _ _
    · exact ht.elim
  | str l =>
    simp only [tell1] at ht
    split at ht
    · cases r; subst ht; exact .str _
    · exact ht.elim
  | sl t l f =>
    simp only [tell1] at ht
    split at ht
    · unfold tellSl at ht
      split at ht
      · rename_i e _
        subst e
        obtain ⟨rfl, hf⟩ := ht
        cases r with
        | sl _ _ f' a n cap hr hf' =>
          refine .sl _ _ f a n cap hr fun h1 => ?_
          rcases hf with hf | hf
          · exact hf' (hf.trans h1)
          · rw [h1] at hf; cases hf
      · exact ht.elim
    · cases r
      subst ht
      exact .sl t [] f none 0 0 (.sl _ [] none 0 (fun _ => []) (Nat.zero_le _) (fun i hi => by simp at hi) (fun h0 => by simp at h0)) (fun _ => rfl)
    · exact ht.elim
  | _ => exact ht.elim

/-- A value that is taken for another one, by its kind. -/
inductive VC (ρ : List Src) : AV → AV → Prop where
  | tell (x y : AV) (ht : tell1 x y) : VC ρ x y
  | junk (x : AV) : VC ρ x .junk
  | same (x : AV) (hs : (match x with | .own _ _ _ => False | .ptr _ _ => False | .eptr _ _ _ _ => False | .agg _ => False | .tup _ => False | .fn _ _ _ => False | .iface _ _ => False | .mptr _ => False | _ => True)) : VC ρ x x
  | own (t : Ty) (k m : Nat) (f : Bool) (hk : ρ[k]? = some (.old m)) : VC ρ (.own t m f) (.own t k f)
  | ownW (t : Ty) (k m : Nat) (hk : ρ[k]? = some (.old m)) : VC ρ (.own t m true) (.own t k false)
  | nil (t : Ty) (k : Nat) (fr : Bool) (hk : ρ[k]? = some (.emp t fr)) : VC ρ .nilsl (.own t k false)
  | emp (t : Ty) (k : Nat) (fr : Bool) (l : List t.den) (hl : l.length = 0) (hk : ρ[k]? = some (.emp t fr)) : VC ρ (.sl t l true) (.own t k false)
  | ptr (k m j : Nat) (hk : ρ[k]? = some (.old m)) : VC ρ (.ptr m j) (.ptr k j)
  | eptr (t : Ty) (k m i j : Nat) (hk : ρ[k]? = some (.old m)) : VC ρ (.eptr t m i j) (.eptr t k i j)
  | mptr (k m : Nat) (hk : ρ[k]? = some (.old m)) : VC ρ (.mptr m) (.mptr k)
  | agg (xs ys : List AV) (hl : xs.length = ys.length) (hv : ∀ (i : Nat) (x y : AV), xs[i]? = some x → ys[i]? = some y → viewV ρ x y) : VC ρ (.agg xs) (.agg ys)
  | tup (xs ys : List AV) (hl : xs.length = ys.length) (hv : ∀ (i : Nat) (x y : AV), xs[i]? = some x → ys[i]? = some y → viewV ρ x y) : VC ρ (.tup xs) (.tup ys)
  | fn (f : Fn) (as cs as' cs' : List AV) (hl : as.length = as'.length) (hv : ∀ (i : Nat) (x y : AV), as[i]? = some x → as'[i]? = some y → viewV ρ x y) (hl2 : cs.length = cs'.length)
      (hv2 : ∀ (i : Nat) (x y : AV), cs[i]? = some x → cs'[i]? = some y → viewV ρ x y) : VC ρ (.fn f as cs) (.fn f as' cs')
  | iface (t : TypeId) (v v' : AV) (hv : viewV ρ v v') : VC ρ (.iface t v) (.iface t v')

theorem viewL_get : ∀ (ys xs : List AV), viewV.viewL ρ xs ys → xs.length = ys.length ∧ ∀ (i : Nat) (x y : AV), xs[i]? = some x → ys[i]? = some y → viewV ρ x y
  | [], [], _ => ⟨rfl, fun i x y h1 => by simp at h1⟩
  | y :: ys, x :: xs, hv => by
    simp only [viewV.viewL] at hv
    obtain ⟨h1, h2⟩ := viewL_get ys xs hv.2
    refine ⟨by simp [h1], fun i x' y' e1 e2 => ?_⟩
    cases i with
    | zero => simp at e1 e2; subst e1; subst e2; exact hv.1
    | succ i => exact h2 i x' y' (by simpa using e1) (by simpa using e2)
  | [], _ :: _, hv => by simp [viewV.viewL] at hv
  | _ :: _, [], hv => by simp [viewV.viewL] at hv

theorem viewV_vc {x y : AV} (hv : viewV ρ x y) : VC ρ x y := by
  cases y with
  | junk => exact .junk x
  | own t k f =>
    unfold viewV at hv
    split at hv
    · rename_i m hk
      rcases hv with rfl | ⟨rfl, rfl⟩
      · exact .own t k m f hk
      · exact .ownW t k m hk
    · rename_i t2 fr hk
      obtain ⟨rfl, rfl, hx⟩ := hv
      split at hx
      · exact .nil _ k fr hk
      · obtain ⟨rfl, hl, rfl⟩ := hx
        exact .emp _ k fr _ hl hk
      · exact hx.elim
    · exact hv.elim
  | ptr k j =>
    unfold viewV at hv
    split at hv
    · rename_i m hk; subst hv; exact .ptr k m j hk
    · exact hv.elim
  | eptr t k i j =>
    unfold viewV at hv
    split at hv
    · rename_i m hk; subst hv; exact .eptr t k m i j hk
    · exact hv.elim
  | mptr k =>
    unfold viewV at hv
    split at hv
    · rename_i m hk; subst hv; exact .mptr k m hk
    · exact hv.elim
  | agg ys =>
    unfold viewV at hv
    split at hv
    · obtain ⟨h1, h2⟩ := viewL_get _ _ hv; exact .agg _ _ h1 h2
    · exact hv.elim
  | tup ys =>
    unfold viewV at hv
    split at hv
    · obtain ⟨h1, h2⟩ := viewL_get _ _ hv; exact .tup _ _ h1 h2
    · exact hv.elim
  | fn f as cs =>
    unfold viewV at hv
    split at hv
    · obtain ⟨rfl, ha, hb⟩ := hv
      obtain ⟨h1, h2⟩ := viewL_get _ _ ha
      obtain ⟨h3, h4⟩ := viewL_get _ _ hb
      exact .fn _ _ _ _ _ h1 h2 h3 h4
    · exact hv.elim
  | iface t v =>
    unfold viewV at hv
    split at hv
    · obtain ⟨rfl, hv⟩ := hv; exact .iface _ _ _ hv
    · exact hv.elim
  | bool b => unfold viewV at hv; exact .tell _ _ hv
  | t => unfold viewV at hv; exact .tell _ _ hv
  | f => unfold viewV at hv; exact .tell _ _ hv
  | int k n => unfold viewV at hv; exact .tell _ _ hv
  | str l => unfold viewV at hv; exact .tell _ _ hv
  | sl t l f => unfold viewV at hv; exact .tell _ _ hv
  | _ => unfold viewV at hv; subst hv; exact .same _ trivial

theorem HV.rep (V : HV ρ h h') {v : Value} {x : AV} (r : Rep w I h μ v x) : ∀ {y : AV}, viewV ρ x y → Rep w I h' (nuOf ρ μ) v y := by
  have lists : ∀ {xs ys : List AV} (vs : Array Value), vs.size = xs.length → (∀ (i : Nat) (v : Value) (c : AV), vs[i]? = some v → xs[i]? = some c → ∀ {y : AV}, viewV ρ c y → Rep w I h' (nuOf ρ μ) v y) →
      xs.length = ys.length → (∀ (i : Nat) (x y : AV), xs[i]? = some x → ys[i]? = some y → viewV ρ x y) → ∀ (i : Nat) (v : Value) (c : AV), vs[i]? = some v → ys[i]? = some c → Rep w I h' (nuOf ρ μ) v c := by
    intro xs ys vs hl hc hxy hv i v c e1 e2
    have hi : i < xs.length := by
      have := (List.getElem?_eq_some_iff.1 e2).1
      omega
    have e3 : xs[i]? = some xs[i] := List.getElem?_eq_getElem hi
    exact hc i v _ e1 e3 (hv i _ c e3 e2)
  induction r with
  | agg vs cs hl hc ih =>
    intro y hv
    cases viewV_vc hv with
    | tell _ _ ht => exact tell_rep (w := w) (I := I) (h := h) (μ := μ) ht (.agg vs cs hl hc)
    | junk => exact .junk _
    | same _ hs => exact hs.elim
    | agg _ ys hl' hv' => exact .agg vs ys (hl.trans hl') (lists vs hl ih hl' hv')
  | tup vs cs hl hc ih =>
    intro y hv
    cases viewV_vc hv with
    | tell _ _ ht => exact tell_rep (w := w) (I := I) (h := h) (μ := μ) ht (.tup vs cs hl hc)
    | junk => exact .junk _
    | same _ hs => exact hs.elim
    | tup _ ys hl' hv' => exact .tup vs ys (hl.trans hl') (lists vs hl ih hl' hv')
  | fn f as cs xs ys ha hb h1 h2 ih1 ih2 =>
    intro y hv
    cases viewV_vc hv with
    | tell _ _ ht => exact tell_rep (w := w) (I := I) (h := h) (μ := μ) ht (.fn f as cs xs ys ha hb h1 h2)
    | junk => exact .junk _
    | same _ hs => exact hs.elim
    | fn _ _ _ as' cs' hl hv1 hl2 hv2 => exact .fn f as cs as' cs' (ha.trans hl) (hb.trans hl2) (lists as ha ih1 hl hv1) (lists cs hb ih2 hl2 hv2)
  | iface t v x hx ih =>
    intro y hv
    cases viewV_vc hv with
    | tell _ _ ht => exact tell_rep (w := w) (I := I) (h := h) (μ := μ) ht (.iface t v x hx)
    | junk => exact .junk _
    | same _ hs => exact hs.elim
    | iface _ _ v' hv' => exact .iface t v v' (ih hv')
  | ptr b j g hp =>
    intro y hv
    cases viewV_vc hv with
    | tell _ _ ht => exact tell_rep (w := w) (I := I) (h := h) (μ := μ) ht (.ptr b j g hp)
    | junk => exact .junk _
    | same _ hs => exact hs.elim
    | ptr k _ _ hk => exact .ptr k j g (V.ptr hk hp)
  | mptr b g hp =>
    intro y hv
    cases viewV_vc hv with
    | tell _ _ ht => exact tell_rep (w := w) (I := I) (h := h) (μ := μ) ht (.mptr b g hp)
    | junk => exact .junk _
    | same _ hs => exact hs.elim
    | mptr k _ hk => exact .mptr k g (V.ptr hk hp)
  | eptr t b i j g hp =>
    intro y hv
    cases viewV_vc hv with
    | tell _ _ ht => exact tell_rep (w := w) (I := I) (h := h) (μ := μ) ht (.eptr t b i j g hp)
    | junk => exact .junk _
    | same _ hs => exact hs.elim
    | eptr _ k _ _ _ hk => exact .eptr t k i j g (V.ptr hk hp)
  | own t b full a n cap ho =>
    intro y hv
    cases viewV_vc hv with
    | tell _ _ ht => exact tell_rep (w := w) (I := I) (h := h) (μ := μ) ht (.own t b full a n cap ho)
    | junk => exact .junk _
    | same _ hs => exact hs.elim
    | own _ k _ _ hk => exact .own t k full a n cap (V.own hk ho)
    | ownW _ k _ hk =>
      obtain ⟨x, h1, h2, h3⟩ := V.own hk ho
      refine .own t k false a n cap ⟨x, h1, h2, fun t' l fr e => ?_⟩
      obtain ⟨q1, q2, q3, _, q5⟩ := h3 t' l fr e
      exact ⟨q1, q2, q3, fun hf => (by cases hf), q5⟩
  | nilsl =>
    intro y hv
    cases viewV_vc hv with
    | tell _ _ ht => exact tell_rep (w := w) (I := I) (h := h) (μ := μ) ht (.nilsl)
    | junk => exact .junk _
    | same _ hs => exact .nilsl
    | nil t k fr0 hk =>
      refine .own t k false none 0 0 ⟨_, V.emp k t fr0 hk, by simp, fun t' l fr e => ?_⟩
      cases e
      exact ⟨rfl, rfl, Nat.le_refl _, fun hf => (by cases hf), .inl ⟨rfl, rfl⟩⟩
  | sl t l full a n cap hr hf =>
    intro y hv
    cases viewV_vc hv with
    | tell _ _ ht => exact tell_rep (w := w) (I := I) (h := h) (μ := μ) ht (.sl t l full a n cap hr hf)
    | junk => exact .junk _
    | same _ hs => exact .sl t l full a n cap hr hf
    | emp _ k fr0 _ hl hk =>
      have hn : n = l.length := by cases hr; rfl
      have hcap : cap = 0 := by rw [hf rfl, hn, hl]
      subst hcap
      have hn0 : n = 0 := hn.trans hl
      subst hn0
      refine .own t k false a 0 0 ⟨_, V.emp k t fr0 hk, by simp, fun t' l' fr e => ?_⟩
      cases e
      exact ⟨rfl, rfl, Nat.le_refl _, fun hf => (by cases hf), .inl ⟨rfl, rfl⟩⟩
  | junk v =>
    intro y hv
    cases viewV_vc hv with
    | tell _ _ ht => exact tell_rep (w := w) (I := I) (h := h) (μ := μ) ht (.junk v)
    | junk => exact .junk _
    | same _ hs => exact .junk _
  | iptr t x j g o cs hr hc =>
    intro y hv
    cases viewV_vc hv with
    | tell _ _ ht => exact tell_rep (w := w) (I := I) (h := h) (μ := μ) ht (.iptr t x j g o cs hr hc)
    | junk => exact .junk _
    | same _ hs => exact .iptr t x j g o cs hr hc
  | fmap k v l g es c hi hg hd =>
    intro y hv
    cases viewV_vc hv with
    | tell _ _ ht => exact tell_rep (w := w) (I := I) (h := h) (μ := μ) ht (.fmap k v l g es c hi hg hd)
    | junk => exact .junk _
    | same _ hs => exact .fmap k v l g es c hi hg hd
  | t => intro y hv; cases viewV_vc hv with
    | tell _ _ ht => exact tell_rep (w := w) (I := I) (h := h) (μ := μ) ht (.t)
    | junk => exact .junk _
    | same _ hs => exact .t
  | f => intro y hv; cases viewV_vc hv with
    | tell _ _ ht => exact tell_rep (w := w) (I := I) (h := h) (μ := μ) ht (.f)
    | junk => exact .junk _
    | same _ hs => exact .f
  | bool b => intro y hv; cases viewV_vc hv with
    | tell _ _ ht => exact tell_rep (w := w) (I := I) (h := h) (μ := μ) ht (.bool b)
    | junk => exact .junk _
    | same _ hs => exact .bool b
  | int k n => intro y hv; cases viewV_vc hv with
    | tell _ _ ht => exact tell_rep (w := w) (I := I) (h := h) (μ := μ) ht (.int k n)
    | junk => exact .junk _
    | same _ hs => exact .int k n
  | str l => intro y hv; cases viewV_vc hv with
    | tell _ _ ht => exact tell_rep (w := w) (I := I) (h := h) (μ := μ) ht (.str l)
    | junk => exact .junk _
    | same _ hs => exact .str l
  | nilptr => intro y hv; cases viewV_vc hv with
    | tell _ _ ht => exact tell_rep (w := w) (I := I) (h := h) (μ := μ) ht (.nilptr)
    | junk => exact .junk _
    | same _ hs => exact .nilptr
  | nilfn => intro y hv; cases viewV_vc hv with
    | tell _ _ ht => exact tell_rep (w := w) (I := I) (h := h) (μ := μ) ht (.nilfn)
    | junk => exact .junk _
    | same _ hs => exact .nilfn
  | niliface => intro y hv; cases viewV_vc hv with
    | tell _ _ ht => exact tell_rep (w := w) (I := I) (h := h) (μ := μ) ht (.niliface)
    | junk => exact .junk _
    | same _ hs => exact .niliface

theorem viewS_get : ∀ {s' : Slots}, viewS ρ s s' → ∀ i, lkp i s' = .junk ∨ viewV ρ (lkp i s) (lkp i s')
  | [], _, i => .inl rfl
  | (j, y) :: r, hv, i => by
    simp only [lkp]
    cases hb : Nat.beq i j with
    | true =>
      obtain rfl := Nat.eq_of_beq_eq_true hb
      exact .inr hv.1
    | false => exact viewS_get hv.2 i

theorem viewB_live {x y : AB} (hv : viewB ρ x y) (ly : live y) : live x := by
  cases y with
  | hole => cases ly
  | gone => cases ly
  | var ys => cases x <;> first | trivial | exact hv.elim
  | arr t l f => obtain rfl := hv; trivial
  | mp k v l => obtain rfl := hv; trivial

theorem hget_live {b : Nat} (hl : live (hget h b)) : h[b]? = some (hget h b) := hget_some rfl (by intro e; rw [e] at hl; cases hl)

/-- The blocks that may be seen as other ones bear them. -/
theorem view_rel {h1 : Heap} (R : RelH w I μ h1) (hH : viewH ρ h1 ρ h') (hnd : nodupB ρ = true) : RelH w I (nuOf ρ μ) h' ∧ (∀ q o, Wr h' (nuOf ρ μ) q o → Wr h1 μ q o) ∧ HV ρ h1 h' := by
  obtain ⟨hlen, hold, hemp, hnon⟩ := viewH_get hH
  have HVh : HV ρ h1 h' := ⟨hlen, hold, hemp⟩
  -- where a block of the new ones comes from
  have src : ∀ (i : Nat) (y : AB), h'[i]? = some y → live y → (∃ m, ρ[i]? = some (.old m) ∧ h1[m]? = some (hget h1 m) ∧ viewB ρ (hget h1 m) y) ∨ (∃ t fr, ρ[i]? = some (.emp t fr) ∧ y = .arr t [] fr) := by
    intro i y hy ly
    have hi : i < ρ.length := by
      have := (List.getElem?_eq_some_iff.1 hy).1
      omega
    cases hq : ρ[i]? with
    | none => rw [List.getElem?_eq_getElem hi] at hq; cases hq
    | some q =>
      cases q with
      | old m =>
        left
        obtain ⟨y', hy', hv⟩ := hold i m hq
        rw [hy] at hy'; cases hy'
        exact ⟨m, rfl, hget_live (viewB_live hv ly), hv⟩
      | emp t fr =>
        right
        have := hemp i t fr hq
        rw [hy] at this; cases this
        exact ⟨t, _, rfl, rfl⟩
      | no m =>
        have := (hnon i m hq).1
        rw [hy] at this; cases this
        exact ly.elim
  have hWr : ∀ q o, Wr h' (nuOf ρ μ) q o → Wr h1 μ q o := by
    rintro q o ⟨i, hi, hx⟩
    have : ∃ y, h'[i]? = some y ∧ live y := by
      rcases hx with ⟨cs, hx⟩ | ⟨t', l', hx⟩ | ⟨t', l', hx, _⟩ | ⟨_, _, _, hx⟩
      · exact ⟨_, hx, trivial⟩
      · exact ⟨_, hx, trivial⟩
      · exact ⟨_, hx, trivial⟩
      · exact ⟨_, hx, trivial⟩
    obtain ⟨y, hy, ly⟩ := this
    rcases src i y hy ly with ⟨m, hm, hm2, hv⟩ | ⟨t, _, hm, _⟩
    · simp only [nuOf, hm] at hi
      refine ⟨m, hi, ?_⟩
      rw [hm2]
      rcases hx with ⟨cs, hx⟩ | ⟨t', l', hx⟩ | ⟨t', l', hx, ho⟩ | ⟨_, _, _, hx⟩ <;> rw [hy] at hx <;> cases hx
      · generalize hget h1 m = x at hv
        cases x <;> first | exact .inl ⟨_, rfl⟩ | exact hv.elim
      · have hv : hget h1 m = _ := hv
        rw [hv]; exact .inr (.inl ⟨_, _, rfl⟩)
      · have hv : hget h1 m = _ := hv
        rw [hv]; exact .inr (.inr (.inl ⟨_, _, rfl, ho⟩))
      · have hv : hget h1 m = _ := hv
        rw [hv]; exact .inr (.inr (.inr ⟨_, _, _, rfl⟩))
    · simp only [nuOf, hm] at hi; cases hi
  refine ⟨⟨?_, ?_, ?_, fun q o hi hw => R.disj q o hi (hWr q o hw), R.ilt, R.laid⟩, hWr, HVh⟩
  · intro i j x y g hi hj lx ly gi gj
    rcases src i x hi lx with ⟨m, hm, hm2, hv⟩ | ⟨t, _, hm, _⟩
    · rcases src j y hj ly with ⟨m', hm', hm2', hv'⟩ | ⟨t, _, hm', _⟩
      · simp only [nuOf, hm] at gi
        simp only [nuOf, hm'] at gj
        have := R.inj m m' _ _ g hm2 hm2' (viewB_live hv lx) (viewB_live hv' ly) gi gj
        subst this
        exact nodupB_get hnd i j m hm hm'
      · simp only [nuOf, hm'] at gj; cases gj
    · simp only [nuOf, hm] at gi; cases gi
  · intro i x g hi lx gi
    rcases src i x hi lx with ⟨m, hm, hm2, hv⟩ | ⟨t, _, hm, _⟩
    · simp only [nuOf, hm] at gi
      exact R.lt m _ g hm2 (viewB_live hv lx) gi
    · simp only [nuOf, hm] at gi; cases gi
  · intro i y hy
    cases y with
    | hole => trivial
    | gone => trivial
    | var ys =>
      rcases src i _ hy trivial with ⟨m, hm, hm2, hv⟩ | ⟨t, _, hm, he⟩
      · have hb := R.blk m _ hm2
        generalize hget h1 m = x at hv hb
        cases x with
        | var xs =>
          obtain ⟨g, vs, e, h1', h2, h3, h4⟩ := hb
          obtain ⟨e1, e2⟩ := viewL_get ys xs hv
          refine ⟨g, vs, e, by simp only [nuOf, hm]; exact h1', h2, h3.trans e1, fun k v c hvk hck => ?_⟩
          have hk : k < xs.length := by
            have := (List.getElem?_eq_some_iff.1 hck).1
            omega
          have e3 : xs[k]? = some xs[k] := List.getElem?_eq_getElem hk
          exact HVh.rep (h4 k v _ hvk e3) (e2 k _ c e3 hck)
        | _ => exact hv.elim
      · cases he
    | arr t l f =>
      rcases src i _ hy trivial with ⟨m, hm, hm2, hv⟩ | ⟨t', _, hm, he⟩
      · have hb := R.blk m _ hm2
        have hv : hget h1 m = .arr t l f := hv
        rw [hv] at hb
        rcases hb with hb | ⟨g, vs, e, h1', h2⟩
        · exact .inl hb
        · exact .inr ⟨g, vs, e, by simp only [nuOf, hm]; exact h1', h2⟩
      · cases he; exact .inl rfl
    | mp k v l =>
      rcases src i _ hy trivial with ⟨m, hm, hm2, hv⟩ | ⟨t', _, hm, he⟩
      · have hb := R.blk m _ hm2
        have hv : hget h1 m = .mp k v l := hv
        rw [hv] at hb
        exact MpAt.mono (by simp only [nuOf, hm]) (fun _ _ => rfl) (fun _ _ h => h) (fun _ _ => rfl) hb
      · cases he

/-- A state that may be seen as another one bears it. -/
theorem View.sr2 {fz : List Nat} (S : SR F w0 I0 μ0 h0 w I μ h a s) (hn0 : h0.length = F.n0) (V : View F.n0 fz ρ s h s' h') : ∃ I' μ', SR F w0 I0 μ0 h0 w I' μ' h' a s' ∧ ∀ g o, I g o → I' g o := by
  obtain ⟨hB, hH, hS⟩ := V
  simp only [Bool.and_eq_true] at hB
  obtain ⟨hbase, hnd⟩ := hB
  obtain ⟨I1, R1, F1, M1, _, _, _⟩ := frz_ok fz I h S.rel (show GOKf (hget h) h from fun b => .inl rfl)
  have S1 := S.step R1 F1 M1
  have hII := F1.im
  clear R1 F1 M1
  generalize hputs h (frz (hget h) fz) = h1 at S1 hH
  obtain ⟨R2, hWr, HVh⟩ := view_rel S1.rel hH hnd
  obtain ⟨_, hold, _, hnon⟩ := viewH_get hH
  refine ⟨I1, nuOf ρ μ, ⟨R2, ?_, ?_, ?_, S1.nt, S1.nd⟩, hII⟩
  · exact ⟨S1.fr.os, S1.fr.tape, S1.fr.output, S1.fr.size, S1.fr.same, S1.fr.part, S1.fr.nf, fun q o hw => S1.fr.wr q o (hWr q o hw), S1.fr.im, S1.fr.im'⟩
  · have base : ∀ b, b < h0.length → (ρ[b]? = some (.old b) ∧ ∃ y, h'[b]? = some y ∧ live y ∧ h1[b]? = some (hget h1 b) ∧ viewB ρ (hget h1 b) y) ∨ (h'[b]? = some .gone ∧ goneB (hget h1 b) = true) := by
      intro b hb
      rcases baseB_get hbase b (by omega) with ⟨e1, y, hy, ly⟩ | e1
      · rw [Nat.zero_add] at e1
        obtain ⟨y', hy', hv⟩ := hold b b e1
        rw [hy] at hy'; cases hy'
        exact .inl ⟨e1, y, hy, ly, hget_live (viewB_live hv ly), hv⟩
      · rw [Nat.zero_add] at e1
        exact .inr (hnon b b e1)
    refine ⟨fun b x hx => ?_, fun b x y hx hy lx ly => ?_⟩
    · have hb : b < h0.length := (List.getElem?_eq_some_iff.1 hx).1
      rcases base b hb with ⟨e1, y, hy, ly, hz, hv⟩ | ⟨hy, hg⟩
      case inr =>
        refine ⟨_, hy, ?_⟩
        obtain ⟨z, hz', k⟩ := S1.hm.kept b x hx
        have hz0 : hget h1 b = z := hget_eq hz'
        rw [hz0] at hg
        cases x with
        | hole => trivial
        | gone => rfl
        | var cs => obtain ⟨cs', rfl⟩ := k; cases hg
        | mp kt vt l => exact .inl rfl
        | arr t l f => exact .inl rfl
      refine ⟨y, hy, ?_⟩
      obtain ⟨z, hz', k⟩ := S1.hm.kept b x hx
      rw [hz] at hz'; injection hz' with hz'
      rw [hz'] at hv
      cases x with
      | hole => trivial
      | gone =>
        obtain rfl := k
        cases y with
        | hole => cases ly
        | gone => rfl
        | var => exact hv.elim
        | arr => cases hv
        | mp => cases hv
      | var cs =>
        obtain ⟨cs', rfl⟩ := k
        cases y with
        | hole => cases ly
        | gone => cases ly
        | var ys => exact ⟨ys, rfl⟩
        | arr => cases hv
        | mp => cases hv
      | mp kt vt l =>
        rcases k with rfl | ⟨l', rfl⟩
        · cases y with
          | hole => cases ly
          | gone => cases ly
          | var => exact hv.elim
          | arr => cases hv
          | mp => cases hv
        · cases y with
          | hole => cases ly
          | gone => cases ly
          | var => exact hv.elim
          | arr => cases hv
          | mp => cases hv; exact .inr ⟨_, rfl⟩
      | arr t l f =>
        rcases k with rfl | ⟨l', f', rfl, hl⟩
        · cases y with
          | hole => cases ly
          | gone => cases ly
          | var => exact hv.elim
          | arr => cases hv
          | mp => cases hv
        · cases y with
          | hole => cases ly
          | gone => cases ly
          | var => exact hv.elim
          | arr => cases hv; exact .inr ⟨_, _, rfl, hl⟩
          | mp => cases hv
    · have hb : b < h0.length := (List.getElem?_eq_some_iff.1 hx).1
      rcases base b hb with ⟨e1, y', hy', ly', hz, hv⟩ | ⟨hy', hg⟩
      case inr => rw [hy] at hy'; cases hy'; exact ly.elim
      rw [hy] at hy'; cases hy'
      have := S1.hm.mu b x _ hx hz lx (viewB_live hv ly)
      simp only [nuOf, e1]
      exact this
  · intro i
    rcases viewS_get hS i with e | e
    · rw [e]; exact .junk _
    · exact HVh.rep (S1.slots i) e
theorem View.sr {fz : List Nat} (S : SR F w0 I0 μ0 h0 w I μ h a s) (hn0 : h0.length = F.n0) (V : View F.n0 fz ρ s h s' h') : ∃ I' μ', SR F w0 I0 μ0 h0 w I' μ' h' a s' := by
  obtain ⟨I', μ', S', _⟩ := V.sr2 S hn0
  exact ⟨I', μ', S'⟩
end
end Go.AM
