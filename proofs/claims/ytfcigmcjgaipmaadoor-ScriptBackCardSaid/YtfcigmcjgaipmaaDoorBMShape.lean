/-
  BM, part 29: shapes: what is fixed of a state, and the data that it holds besides.
-/
import Derived.Test.YtfcigmcjgaipmaaDoorBMTree2
namespace Go.AM
set_option linter.unusedSectionVars false
variable [Lay]

/-- The same value, laid together anew. -/
def GVal.re (v : GVal) : GVal := .mk v.kind v.n v.s v.items v.names
@[simp] theorem GVal.re_eq (v : GVal) : v.re = v := by cases v; rfl

/-! ### pairs of data, without the empty ones -/

def tpair : Ty → Ty → Ty
  | .unit, b => b
  | a, .unit => a
  | a, b => .pair a b
def tmk (a b : Ty) : a.den → b.den → (tpair a b).den := by
  cases a <;> cases b <;> first | exact fun _ y => y | exact fun x _ => x | exact fun x y => (x, y)
def tfst (a b : Ty) : (tpair a b).den → a.den := by
  cases a <;> cases b <;> first | exact fun _ => () | exact fun x => x | exact fun x => x.1
def tsnd (a b : Ty) : (tpair a b).den → b.den := by
  cases a <;> cases b <;> first | exact fun x => x | exact fun _ => () | exact fun x => x.2
theorem tfst_mk (a b : Ty) (x : a.den) (y : b.den) : tfst a b (tmk a b x y) = x := by cases a <;> cases b <;> rfl
theorem tsnd_mk (a b : Ty) (x : a.den) (y : b.den) : tsnd a b (tmk a b x y) = y := by cases a <;> cases b <;> rfl

/-! ### shapes -/

inductive Sh where
  | d (t : Ty)
  | fx (v : AV)
  | agg (l : List Sh)
  | tup (l : List Sh)
  | fn (f : Fn) (a c : List Sh)
  | iface (t : TypeId) (s : Sh)
  | ep (t : Ty) (k j : Nat)
  | ip (t : Ty) (j : Nat)
  | fm (k v : Ty)
  | fs (t : Ty)

def Sh.ty : Sh → Ty
  | .d t => t
  | .fx _ => .unit
  | .agg l => tyL l
  | .tup l => tyL l
  | .fn _ a c => tpair (tyL a) (tyL c)
  | .iface _ s => s.ty
  | .ep _ _ _ => .int .i64
  | .ip t _ => t
  | .fm k v => .sl (.pair k v)
  | .fs t => .pair (.sl t) .bool
where tyL : List Sh → Ty
  | [] => .unit
  | s :: r => tpair s.ty (tyL r)

def avOf : (t : Ty) → t.den → AV
  | .unit, _ => .agg []
  | .int k, n => .int k n
  | .bool, b => .bool b
  | .str, s => .str s
  | .pair a b, x => .agg (cellsOf (.pair a b) x)
  | .sl t, l => .sl t l false
  | .val, v => .agg (cellsOf .val v)

def encS : (s : Sh) → s.ty.den → AV
  | .d t, x => avOf t x
  | .fx v, _ => v
  | .agg l, x => .agg (encL l x)
  | .tup l, x => .tup (encL l x)
  | .fn f a c, x => .fn f (encL a (tfst _ _ x)) (encL c (tsnd _ _ x))
  | .iface t s, x => .iface t (encS s x)
  | .ep t k j, x => .eptr t k (Int.toNat x) j
  | .ip t j, x => .iptr t x j
  | .fm k v, x => .fmap k v x
  | .fs t, x => .sl t x.1 x.2
where encL : (l : List Sh) → (Sh.ty.tyL l).den → List AV
  | [], _ => []
  | s :: r, x => encS s (tfst _ _ x) :: encL r (tsnd _ _ x)

inductive BSh where
  | var (l : List Sh)
  | arr (t : Ty) (fr : Bool)
  | mp (k v : Ty)
  | gone
  | dat (t : Ty)
def BSh.ty : BSh → Ty
  | .var l => Sh.ty.tyL l
  | .arr t _ => .sl t
  | .mp k v => .sl (.pair k v)
  | .gone => .unit
  | .dat t => t
def encB : (b : BSh) → b.ty.den → AB
  | .var l, x => .var (encS.encL l x)
  | .arr t fr, x => .arr t x fr
  | .mp k v, x => .mp k v x
  | .gone, _ => .gone
  | .dat t, x => .var (cellsOf t x)
def tyH : List BSh → Ty
  | [] => .unit
  | b :: r => tpair b.ty (tyH r)
def encH : (l : List BSh) → (tyH l).den → Heap
  | [], _ => []
  | b :: r, x => encB b (tfst _ _ x) :: encH r (tsnd _ _ x)

structure SS where
  sl : List (Nat × Sh)
  hp : List BSh
def tyS : List (Nat × Sh) → Ty
  | [] => .unit
  | p :: r => tpair p.2.ty (tyS r)
def encSl : (l : List (Nat × Sh)) → (tyS l).den → Slots
  | [], _ => []
  | p :: r, x => (p.1, encS p.2 (tfst _ _ x)) :: encSl r (tsnd _ _ x)
def SS.ty (S : SS) : Ty := tpair (tyS S.sl) (tyH S.hp)
def SS.slots (S : SS) (x : S.ty.den) : Slots := encSl S.sl (tfst _ _ x)
def SS.heap (S : SS) (x : S.ty.den) : Heap := encH S.hp (tsnd _ _ x)

/-! ### the data of a value, at a shape -/

def decV : (t : Ty) → AV → Option t.den
  | .unit, .agg [] => some ()
  | .int k, .int k' n => match decEq k' k with | isTrue _ => some n | isFalse _ => none
  | .bool, .t => some true
  | .bool, .f => some false
  | .bool, .bool b => some b
  | .str, .str s => some s
  | .sl t, .sl t' l _ => match decEq t' t with | isTrue e => some (e ▸ l) | isFalse _ => none
  | .sl _, .nilsl => some []
  | .pair a b, .agg cs => decAll (.pair a b) cs
  | .val, .agg cs => decAll .val cs
  | _, _ => none

def leB : Bool → Bool → Bool
  | false, _ => true
  | true, b => b
theorem leB_or : ∀ {f f' : Bool}, leB f f' = true → f' = f ∨ (f = false ∧ f' = true)
  | false, false, _ => .inl rfl
  | false, true, _ => .inr ⟨rfl, rfl⟩
  | true, true, _ => .inl rfl
def isOld (m : Nat) : Option Src → Bool
  | some (.old k) => Nat.beq k m
  | _ => false
/-- Is x just v, but for blocks' numbers? -/
def fxB (ρ : List Src) : AV → AV → Bool
  | .junk, _ => true
  | .nilsl, .nilsl => true
  | .nilptr, .nilptr => true
  | .nilfn, .nilfn => true
  | .niliface, .niliface => true
  | .t, .t => true
  | .f, .f => true
  | .int k n, .int k' n' => decide (k' = k) && decide (n' = n)
  | .sl _ [] _, .nilsl => true
  | .sl t [] f, .sl t' [] f' => decide (t' = t) && (match f, f' with | false, _ => true | true, true => true | true, false => false)
  | .ptr k j, .ptr m j' => isOld m ρ[k]? && Nat.beq j' j
  | .mptr k, .mptr m => isOld m ρ[k]?
  | .own t k f, .own t' m f' => isOld m ρ[k]? && decide (t' = t) && leB f f'
  | .own t k false, .sl t' [] true => decide (t' = t) && (match ρ[k]? with | some (.emp t2 _) => decide (t2 = t) | _ => false)
  | .own t k false, .nilsl => (match ρ[k]? with | some (.emp t2 _) => decide (t2 = t) | _ => false)
  | _, _ => false
def fnB : Fn → Fn → Bool
  | .func f, .func g => Nat.beq f g
  | _, _ => false

def aggOf : AV → Option (List AV)
  | .agg vs => some vs
  | _ => none
def tupCs : AV → Option (List AV)
  | .tup vs => some vs
  | _ => none
def fnOf : AV → Option (Fn × List AV × List AV)
  | .fn f a c => some (f, a, c)
  | _ => none
def ifOf : AV → Option (TypeId × AV)
  | .iface t v => some (t, v)
  | _ => none
def epOf (ρ : List Src) (t : Ty) (k j : Nat) : AV → Option Nat
  | .eptr t' m i j' => match isOld m ρ[k]? && decide (t' = t) && Nat.beq j' j with | true => some i | false => none
  | _ => none
def ipOf (t : Ty) (j : Nat) : AV → Option t.den
  | .iptr t' x j' => match decEq t' t, Nat.beq j' j with | isTrue e, true => some (e ▸ x) | _, _ => none
  | _ => none
def fmOf (k v : Ty) : AV → Option (List (k.den × v.den))
  | .fmap k' v' l => match decEq k' k, decEq v' v with | isTrue e, isTrue e' => some (e ▸ e' ▸ l) | _, _ => none
  | _ => none
def fsOf (t : Ty) : AV → Option (List t.den × Bool)
  | .sl t' l f => match decEq t' t with | isTrue e => some (e ▸ l, f) | isFalse _ => none
  | _ => none
def decS (ρ : List Src) : (s : Sh) → AV → Option s.ty.den
  | .d t, x => decV t x
  | .fx v, x => match fxB ρ v x with | true => some () | false => none
  | .agg l, x => match aggOf x with | some vs => decL ρ l vs | none => none
  | .tup l, x => match tupCs x with | some vs => decL ρ l vs | none => none
  | .fn f a c, x => match fnOf x with
    | some (f', xa, xc) => match fnB f' f, decL ρ a xa, decL ρ c xc with
      | true, some u, some v => some (tmk _ _ u v)
      | _, _, _ => none
    | none => none
  | .iface t s, x => match ifOf x with
    | some (t', v) => match Nat.beq t' t with | true => decS ρ s v | false => none
    | none => none
  | .ep t k j, x => match epOf ρ t k j x with | some i => some (i : Int) | none => none
  | .ip t j, x => ipOf t j x
  | .fm k v, x => fmOf k v x
  | .fs t, x => fsOf t x
where decL (ρ : List Src) : (l : List Sh) → List AV → Option (Sh.ty.tyL l).den
  | [], vs => match vs with | [] => some () | _ => none
  | s :: r, vs => match vs with
    | v :: vs => match decS ρ s v, decL ρ r vs with | some u, some w => some (tmk _ _ u w) | _, _ => none
    | [] => none

def varOf : AB → Option (List AV)
  | .var cs => some cs
  | _ => none
def arrOf (t : Ty) (fr : Bool) : AB → Option (List t.den)
  | .arr t' l fr' => match decEq t' t, fr, fr' with
    | isTrue e, true, true => some (e ▸ l)
    | isTrue e, false, false => some (e ▸ l)
    | _, _, _ => none
  | _ => none
def mpOf (k v : Ty) : AB → Option (List (k.den × v.den))
  | .mp k' v' l => match decEq k' k, decEq v' v with | isTrue e, isTrue e' => some (e ▸ e' ▸ l) | _, _ => none
  | _ => none
def decB (ρ : List Src) : (b : BSh) → AB → Option b.ty.den
  | .var l, x => match varOf x with | some cs => decS.decL ρ l cs | none => none
  | .arr t fr, x => arrOf t fr x
  | .mp k v, x => mpOf k v x
  | .gone, _ => some ()
  | .dat t, x => match varOf x with | some cs => decAll t cs | none => none
def decH (ρ : List Src) (h : Heap) : (l : List BSh) → List Src → Option (tyH l).den
  | [], [] => some ()
  | b :: r, .old m :: q => match decB ρ b (hget h m), decH ρ h r q with | some u, some w => some (tmk _ _ u w) | _, _ => none
  | b :: r, .emp t fr :: q => match (match b with | .arr _ _ => true | _ => false), decB ρ b (.arr t [] fr), decH ρ h r q with | true, some u, some w => some (tmk _ _ u w) | _, _, _ => none
  | b :: r, .no m :: q => match (match b with | .gone => goneB (hget h m) | _ => false), decB ρ b .gone, decH ρ h r q with | true, some u, some w => some (tmk _ _ u w) | _, _, _ => none
  | _, _ => none
def decSl (ρ : List Src) (s : Slots) : (l : List (Nat × Sh)) → Option (tyS l).den
  | [] => some ()
  | p :: r => match decS ρ p.2 (lkp p.1 s), decSl ρ s r with | some u, some w => some (tmk _ _ u w) | _, _ => none

/-! ### what each block is -/

def srcS : Sh → AV → List (Nat × Src)
  | .fx (.ptr k _), .ptr m _ => [(k, .old m)]
  | .fx (.mptr k), .mptr m => [(k, .old m)]
  | .ep _ k _, .eptr _ m _ _ => [(k, .old m)]
  | .fx (.own _ k _), .own _ m _ => [(k, .old m)]
  | .fx (.own t k _), _ => [(k, .emp t true)]
  | .agg l, .agg vs => srcL l vs
  | .tup l, .tup vs => srcL l vs
  | .fn _ a c, .fn _ xa xc => srcL a xa ++ srcL c xc
  | .iface _ s, .iface _ v => srcS s v
  | _, _ => []
where srcL : List Sh → List AV → List (Nat × Src)
  | s :: r, v :: vs => srcS s v ++ srcL r vs
  | _, _ => []
def srcB : BSh → AB → List (Nat × Src)
  | .var l, .var cs => srcS.srcL l cs
  | _, _ => []
def srcSl (s : Slots) : List (Nat × Sh) → List (Nat × Src)
  | [] => []
  | p :: r => srcS p.2 (lkp p.1 s) ++ srcSl s r
def lookS (k : Nat) : List (Nat × Src) → Option Src
  | [] => none
  | (j, x) :: r => match Nat.beq j k with | true => some x | false => lookS k r
/-- n0: so many blocks are what they were. -/
def rhoB (n0 : Nat) (h : Heap) : Nat → List BSh → List (Nat × Src) → Option (List Src)
  | _, [], _ => some []
  | k, b :: r, acc =>
    match (match Nat.blt k n0 with | true => some (match b with | .gone => Src.no k | _ => Src.old k) | false => lookS k acc) with
    | some (.old m) => match rhoB n0 h (k + 1) r (acc ++ srcB b (hget h m)) with | some q => some (.old m :: q) | none => none
    | some (.emp t _) => match rhoB n0 h (k + 1) r acc with | some q => some (.emp t (match b with | .arr _ fr => fr | _ => true) :: q) | none => none
    | some (.no m) => match rhoB n0 h (k + 1) r acc with | some q => some (.no m :: q) | none => none
    | none => none

def frB : Option BSh → Bool
  | some (.arr _ false) => true
  | _ => false
/-- The blocks whose rows are wanted as data, or frozen. -/
def fzS (hp : List BSh) : Sh → AV → List Nat
  | .d _, v => ownsOf v.cells
  | .fx (.own _ k _), .own _ m _ => match frB hp[k]? with | true => [m] | false => []
  | .agg l, .agg vs => fzL l vs
  | .tup l, .tup vs => fzL l vs
  | .fn _ a c, .fn _ xa xc => fzL a xa ++ fzL c xc
  | .iface _ s, .iface _ v => fzS hp s v
  | _, _ => []
where fzL : List Sh → List AV → List Nat
  | s :: r, v :: vs => fzS hp s v ++ fzL r vs
  | _, _ => []
def fzSl (hp : List BSh) (s : Slots) : List (Nat × Sh) → List Nat
  | [] => []
  | p :: r => fzS hp p.2 (lkp p.1 s) ++ fzSl hp s r
/-- Those that are wanted as data alone. -/
def daS : Sh → AV → List Nat
  | .d _, v => ownsOf v.cells
  | .agg l, .agg vs => daL l vs
  | .tup l, .tup vs => daL l vs
  | .fn _ a c, .fn _ xa xc => daL a xa ++ daL c xc
  | .iface _ s, .iface _ v => daS s v
  | _, _ => []
where daL : List Sh → List AV → List Nat
  | s :: r, v :: vs => daS s v ++ daL r vs
  | _, _ => []

def resF (fz : List Nat) (g : Nat → AB) (v : AV) : AV :=
  match (ownsOf v.cells).all fun b => fz.any (Nat.beq b) with
  | true => res g v
  | false => v
def resSl (g : Nat → AB) (s : Slots) : List (Nat × Sh) → Slots
  | [] => []
  | p :: r => (p.1, resF (daS p.2 (lkp p.1 s)) g (lkp p.1 s)) :: resSl g s r

/-- The data of a state, at a shape. -/
def decSt0 (n0 : Nat) (S : SS) (s : Slots) (h : Heap) : Option S.ty.den :=
  match rhoB n0 h 0 S.hp (srcSl s S.sl) with
  | none => none
  | some ρ =>
    match nodupB ρ, decSl ρ s S.sl, decH ρ h S.hp ρ with
    | true, some u, some w =>
      match baseB n0 0 ρ (encH S.hp w) with
      | true => some (tmk _ _ u w)
      | false => none
    | _, _, _ => none
/-- The same in blocks. -/
def fzB (hp : List BSh) : BSh → AB → List Nat
  | .var l, .var cs => fzS.fzL hp l cs
  | .dat _, .var cs => ownsOf cs
  | _, _ => []
def daB : BSh → AB → List Nat
  | .var l, .var cs => daS.daL l cs
  | .dat _, .var cs => ownsOf cs
  | _, _ => []
def fzHp (hp : List BSh) (h : Heap) : List Src → List BSh → List Nat
  | .old m :: q, b :: r => fzB hp b (hget h m) ++ fzHp hp h q r
  | _ :: q, _ :: r => fzHp hp h q r
  | _, _ => []
def resHp (h : Heap) : List Src → List BSh → List (Nat × AB)
  | .old m :: q, b :: r => match hget h m, daB b (hget h m) with
    | .var cs, x :: xs => (m, .var (cs.map (resF (x :: xs) (hget h)))) :: resHp h q r
    | _, _ => resHp h q r
  | _ :: q, _ :: r => resHp h q r
  | _, _ => []
/-- Rows that are wanted as data are frozen first. -/
def decSt (n0 : Nat) (S : SS) (s : Slots) (h : Heap) : Option S.ty.den :=
  match rhoB n0 h 0 S.hp (srcSl s S.sl) with
  | none => none
  | some ρ => decSt0 n0 S (resSl (hget h) s S.sl) (hputs (hputs h (frz (hget h) (fzSl S.hp s S.sl ++ fzHp S.hp h ρ S.hp))) (resHp h ρ S.hp))

section
variable {ρ : List Src}

theorem tellSl_cast {t' t : Ty} (e : t' = t) (l : List t'.den) (f : Bool) : tellSl t' l f t (e ▸ l) false := by
  subst e
  unfold tellSl
  split
  · exact ⟨rfl, .inr rfl⟩
  · rename_i hn _; exact absurd rfl hn

theorem viewL_app : ∀ {p q p' q' : List AV}, viewV.viewL ρ p q → viewV.viewL ρ p' q' → viewV.viewL ρ (p ++ p') (q ++ q')
  | [], [], _, _, _, h => h
  | _ :: _, _ :: _, _, _, h1, h2 => ⟨h1.1, viewL_app h1.2 h2⟩
  | [], _ :: _, _, _, h, _ => h.elim
  | _ :: _, [], _, _, h, _ => h.elim

theorem dec_view : ∀ (t : Ty) (cs : List AV) (x : t.den) (r : List AV), dec t cs = some (x, r) → ∃ q, cs = q ++ r ∧ viewV.viewL ρ q (cellsOf t x) := by
  intro t
  induction t with
  | unit =>
    intro cs x r h
    simp only [dec] at h
    injection h with h; injection h with h1 h2
    exact ⟨[], by simp [h2], trivial⟩
  | int k =>
    intro cs x r h
    cases cs with
    | nil => simp [dec] at h
    | cons v vs =>
      cases v <;> simp [dec] at h
      obtain ⟨rfl, rfl, rfl⟩ := h
      exact ⟨[_], rfl, ⟨rfl, rfl⟩, trivial⟩
  | bool =>
    intro cs x r h
    cases cs with
    | nil => simp [dec] at h
    | cons v vs =>
      cases v <;> simp [dec] at h <;> obtain ⟨rfl, rfl⟩ := h
      · exact ⟨[_], rfl, rfl, trivial⟩
      · exact ⟨[_], rfl, rfl, trivial⟩
      · exact ⟨[_], rfl, rfl, trivial⟩
  | str =>
    intro cs x r h
    cases cs with
    | nil => simp [dec] at h
    | cons v vs =>
      cases v <;> simp [dec] at h
      obtain ⟨rfl, rfl⟩ := h
      exact ⟨[_], rfl, rfl, trivial⟩
  | sl t _ =>
    intro cs x r h
    cases cs with
    | nil => simp [dec] at h
    | cons v vs =>
      cases v <;> simp [dec] at h
      · obtain ⟨rfl, rfl⟩ := h
        exact ⟨[_], rfl, rfl, trivial⟩
      · obtain ⟨⟨e, rfl⟩, rfl⟩ := h
        exact ⟨[_], rfl, tellSl_cast e _ _, trivial⟩
  | pair a b iha ihb =>
    intro cs x r h
    simp only [dec] at h
    split at h
    · rename_i u q hu
      split at h
      · rename_i v q' hv
        injection h with h; injection h with h1 h2
        subst h1 h2
        obtain ⟨p1, e1, v1⟩ := iha _ _ _ hu
        obtain ⟨p2, e2, v2⟩ := ihb _ _ _ hv
        exact ⟨p1 ++ p2, by rw [e1, e2, List.append_assoc], viewL_app v1 v2⟩
      · cases h
    · cases h
  | val =>
    intro cs x r h
    match cs, h with
    | .int k1 k :: .int k2 n :: .str q :: i :: m :: r0, h =>
      simp only [dec] at h
      split at h
      · rename_i hk
        obtain ⟨rfl, rfl⟩ := hk
        split at h
        · rename_i li lm hi hm
          injection h with h; injection h with h1 h2
          subst h1 h2
          refine ⟨[.int .i64 k, .int .i64 n, .str q, i, m], rfl, ⟨rfl, rfl⟩, ⟨rfl, rfl⟩, rfl, ?_, ?_, trivial⟩
          · split at hi
            · cases hi; exact tellSl_cast (t' := .val) (t := .val) rfl _ _
            · cases hi; exact rfl
            · cases hi
          · split at hm
            · cases hm; exact tellSl_cast (t' := .str) (t := .str) rfl _ _
            · cases hm; exact rfl
            · cases hm
        · cases h
      · cases h

theorem decAll_view {t : Ty} {cs : List AV} {x : t.den} (h : decAll t cs = some x) : viewV.viewL ρ cs (cellsOf t x) := by
  unfold decAll at h
  split at h
  · rename_i y hd
    injection h with h
    subst h
    obtain ⟨q, e, hv⟩ := dec_view (ρ := ρ) t cs _ _ hd
    rw [e, List.append_nil]
    exact hv
  · cases h

theorem decV_view {t : Ty} {v : AV} {x : t.den} (h : decV t v = some x) : viewV ρ v (avOf t x) := by
  match t, v, x, h with
  | .unit, .agg [], _, _ => exact trivial
  | .int k, .int k' n, x, h =>
    simp only [decV] at h
    split at h
    · rename_i e _; injection h with h; subst h; exact ⟨e, rfl⟩
    · cases h
  | .bool, .t, x, h => injection h with h; exact h.symm
  | .bool, .f, x, h => injection h with h; exact h.symm
  | .bool, .bool b, x, h => injection h with h
  | .str, .str q, x, h => injection h with h
  | .sl t, .sl t' l f, x, h =>
    simp only [decV] at h
    split at h
    · rename_i e _; injection h with h; subst h; exact tellSl_cast e _ _
    · cases h
  | .sl t, .nilsl, x, h => injection h with h; exact h.symm
  | .pair a b, .agg cs, x, h => exact decAll_view h
  | .val, .agg cs, x, h => exact decAll_view h

theorem isOld_eq {m : Nat} {o : Option Src} (h : isOld m o = true) : o = some (.old m) := by
  unfold isOld at h
  split at h
  · rw [Nat.eq_of_beq_eq_true h]
  · cases h

theorem fxB_view {v x : AV} (h : fxB ρ v x = true) : viewV ρ x v := by
  unfold fxB at h
  split at h
  · exact (by unfold viewV; trivial)
  all_goals first
    | (rfl; done)
    | (cases h; done)
    | (simp only [Bool.and_eq_true, decide_eq_true_eq] at h; exact h)
    | skip
  · simp only [Bool.and_eq_true, decide_eq_true_eq] at h
    obtain ⟨e, h⟩ := h
    subst e
    show tellSl _ _ _ _ _ _
    unfold tellSl
    split
    · rename_i e _
      refine ⟨by cases e; rfl, ?_⟩
      split at h
      · exact .inr rfl
      · exact .inl rfl
      · cases h
    · rename_i hn _; exact hn rfl
  · simp only [Bool.and_eq_true] at h
    simp only [viewV, isOld_eq h.1, Nat.eq_of_beq_eq_true h.2]
  · simp only [viewV, isOld_eq h]
  · simp only [Bool.and_eq_true, decide_eq_true_eq] at h
    simp only [viewV, isOld_eq h.1.1, h.1.2]
    rcases leB_or h.2 with e | ⟨e, e'⟩
    · exact .inl (by rw [e])
    · exact .inr ⟨e, by rw [e']⟩
  · simp only [Bool.and_eq_true, decide_eq_true_eq] at h
    have h2 := h.2
    split at h2
    · rename_i t2 he
      simp only [viewV, he]
      refine ⟨of_decide_eq_true h2, trivial, h.1, ?_, ?_⟩ <;> first | trivial | rfl
    · cases h2
  · split at h
    · rename_i t2 he
      simp only [viewV, he]
      refine ⟨of_decide_eq_true h, ?_, ?_⟩ <;> first | trivial | rfl
    · cases h

theorem fnB_eq {f g : Fn} (h : fnB f g = true) : f = g := by
  unfold fnB at h
  split at h
  · rw [Nat.eq_of_beq_eq_true h]
  · cases h

theorem aggOf_eq {v : AV} {vs : List AV} (h : aggOf v = some vs) : v = .agg vs := by
  unfold aggOf at h
  split at h
  · injection h with h; rw [h]
  · cases h
theorem tupCs_eq {v : AV} {vs : List AV} (h : tupCs v = some vs) : v = .tup vs := by
  unfold tupCs at h
  split at h
  · injection h with h; rw [h]
  · cases h
theorem fnOf_eq {v : AV} {f : Fn} {a c : List AV} (h : fnOf v = some (f, a, c)) : v = .fn f a c := by
  unfold fnOf at h
  split at h
  · injection h with h; injection h with h1 h2; injection h2 with h2 h3; rw [h1, h2, h3]
  · cases h
theorem ifOf_eq {v x : AV} {t : TypeId} (h : ifOf v = some (t, x)) : v = .iface t x := by
  unfold ifOf at h
  split at h
  · injection h with h; injection h with h1 h2; rw [h1, h2]
  · cases h
theorem epOf_eq {t : Ty} {k j i : Nat} {v : AV} (h : epOf ρ t k j v = some i) : viewV ρ v (.eptr t k (Int.toNat (i : Int)) j) := by
  unfold epOf at h
  split at h
  · split at h
    · rename_i hb
      injection h with h
      subst h
      simp only [Bool.and_eq_true, decide_eq_true_eq] at hb
      simp only [viewV, isOld_eq hb.1.1, hb.1.2, Nat.eq_of_beq_eq_true hb.2, Int.toNat_natCast]
    · cases h
  · cases h
theorem ipOf_eq {t : Ty} {j : Nat} {v : AV} {x : t.den} (h : ipOf t j v = some x) : v = .iptr t x j := by
  unfold ipOf at h
  split at h
  · split at h
    · rename_i e _ hb; injection h with h; subst e; subst h; rw [Nat.eq_of_beq_eq_true hb]
    · cases h
  · cases h
theorem fmOf_eq {v : AV} {k u : Ty} {l : List (k.den × u.den)} (h : fmOf k u v = some l) : v = .fmap k u l := by
  unfold fmOf at h
  split at h
  · split at h
    · rename_i e e' _ _; injection h with h; subst e; subst e'; subst h; rfl
    · cases h
  · cases h
theorem fsOf_eq {v : AV} {t : Ty} {l : List t.den × Bool} (h : fsOf t v = some l) : v = .sl t l.1 l.2 := by
  unfold fsOf at h
  split at h
  · split at h
    · rename_i e _; injection h with h; subst e; subst h; rfl
    · cases h
  · cases h
theorem varOf_eq {z : AB} {cs : List AV} (h : varOf z = some cs) : z = .var cs := by
  unfold varOf at h
  split at h
  · injection h with h; rw [h]
  · cases h
theorem arrOf_eq {z : AB} {t : Ty} {fr : Bool} {l : List t.den} (h : arrOf t fr z = some l) : z = .arr t l fr := by
  unfold arrOf at h
  split at h
  · split at h
    · rename_i e _; injection h with h; subst e; subst h; rfl
    · rename_i e _; injection h with h; subst e; subst h; rfl
    · cases h
  · cases h
theorem mpOf_eq {z : AB} {k v : Ty} {l : List (k.den × v.den)} (h : mpOf k v z = some l) : z = .mp k v l := by
  unfold mpOf at h
  split at h
  · split at h
    · rename_i e e' _ _; injection h with h; subst e; subst e'; subst h; rfl
    · cases h
  · cases h

mutual
theorem decS_view : ∀ (s : Sh) (v : AV) (x : s.ty.den), decS ρ s v = some x → viewV ρ v (encS s x)
  | .d t, v, x, h => decV_view h
  | .fx w, v, x, h => by
    unfold decS at h
    split at h
    · rename_i hb; exact fxB_view hb
    · cases h
  | .agg l, v, x, h => by
    unfold decS at h
    split at h
    · rename_i vs hv; rw [aggOf_eq hv]; exact decL_view l vs x h
    · cases h
  | .tup l, v, x, h => by
    unfold decS at h
    split at h
    · rename_i vs hv; rw [tupCs_eq hv]; exact decL_view l vs x h
    · cases h
  | .fn f a c, v, x, h => by
    unfold decS at h
    split at h
    · rename_i f' xa xc hv
      rw [fnOf_eq hv]
      split at h
      · rename_i u w hf hu hw
        injection h with h
        subst h
        refine ⟨fnB_eq hf, ?_, ?_⟩
        · rw [tfst_mk]; exact decL_view _ _ _ hu
        · rw [tsnd_mk]; exact decL_view _ _ _ hw
      · cases h
    · cases h
  | .iface t s, v, x, h => by
    unfold decS at h
    split at h
    · rename_i t' w hv
      rw [ifOf_eq hv]
      split at h
      · rename_i ht
        exact ⟨Nat.eq_of_beq_eq_true ht, decS_view _ _ _ h⟩
      · cases h
    · cases h
  | .fm k u, v, x, h => by
    have h : fmOf k u v = some x := h
    rw [fmOf_eq h]
    exact rfl
  | .fs t, v, x, h => by
    have h : fsOf t v = some x := h
    rw [fsOf_eq h]
    exact tell1_refl (.sl t x.1 x.2) trivial
  | .ep t k j, v, x, h => by
    unfold decS at h
    split at h
    · rename_i i hi
      injection h with h
      subst h
      exact epOf_eq hi
    · cases h
  | .ip t j, v, x, h => by
    have h : ipOf t j v = some x := h
    rw [ipOf_eq h]
    unfold encS viewV
    rfl
theorem decL_view : ∀ (l : List Sh) (vs : List AV) (x : (Sh.ty.tyL l).den), decS.decL ρ l vs = some x → viewV.viewL ρ vs (encS.encL l x)
  | [], vs, x, h => by
    unfold decS.decL at h
    split at h
    · exact trivial
    · cases h
  | s :: r, vs, x, h => by
    unfold decS.decL at h
    split at h
    · split at h
      · rename_i u w hu hw
        injection h with h
        subst h
        refine ⟨?_, ?_⟩
        · rw [tfst_mk]; exact decS_view _ _ _ hu
        · rw [tsnd_mk]; exact decL_view _ _ _ hw
      · cases h
    · cases h
end

theorem decB_view {b : BSh} {z : AB} {x : b.ty.den} (h : decB ρ b z = some x) : viewB ρ z (encB b x) := by
  cases b with
  | var l =>
    have h : (match varOf z with | some cs => decS.decL ρ l cs | none => none) = some x := h
    cases hz : varOf z with
    | some cs => rw [hz] at h; rw [varOf_eq hz]; exact decL_view _ _ _ h
    | none => rw [hz] at h; cases h
  | arr t fr => exact arrOf_eq h
  | mp k v => exact mpOf_eq h
  | gone => exact trivial
  | dat t =>
    have h : (match varOf z with | some cs => decAll t cs | none => none) = some x := h
    cases hz : varOf z with
    | some cs => rw [hz] at h; rw [varOf_eq hz]; exact decAll_view h
    | none => rw [hz] at h; cases h

theorem decH_view {h : Heap} : ∀ (l : List BSh) (r : List Src) (x : (tyH l).den), decH ρ h l r = some x → viewH ρ h r (encH l x)
  | [], [], _, _ => trivial
  | [], _ :: _, _, hd => by unfold decH at hd; cases hd
  | _ :: _, [], _, hd => by unfold decH at hd; cases hd
  | b :: l, .old m :: r, x, hd => by
    unfold decH at hd
    split at hd
    · rename_i u w hu hw
      injection hd with hd
      subst hd
      refine ⟨?_, ?_⟩
      · rw [tfst_mk]; exact decB_view hu
      · rw [tsnd_mk]; exact decH_view _ _ _ hw
    · cases hd
  | b :: l, .emp t fr :: r, x, hd => by
    unfold decH at hd
    split at hd
    · rename_i u w hg hu hw
      injection hd with hd
      subst hd
      refine ⟨?_, ?_⟩
      · rw [tfst_mk]
        cases b with
        | var l => cases hg
        | arr t2 fr => exact (decB_view (b := .arr t2 fr) hu).symm
        | mp k v => cases hg
        | gone => cases hg
        | dat t => cases hg
      · rw [tsnd_mk]; exact decH_view _ _ _ hw
    · cases hd
  | b :: l, .no m :: r, x, hd => by
    unfold decH at hd
    split at hd
    · rename_i u w hg hu hw
      injection hd with hd
      subst hd
      refine ⟨?_, ?_⟩
      · cases b with
        | gone => exact ⟨rfl, hg⟩
        | var l => cases hg
        | arr t2 fr => cases hg
        | mp k v => cases hg
        | dat t => cases hg
      · rw [tsnd_mk]; exact decH_view _ _ _ hw
    · cases hd
theorem decSl_view {s : Slots} : ∀ (l : List (Nat × Sh)) (x : (tyS l).den), decSl ρ s l = some x → viewS ρ s (encSl l x)
  | [], _, _ => trivial
  | p :: l, x, hd => by
    simp only [decSl] at hd
    split at hd
    · rename_i u w hu hw
      injection hd with hd
      subst hd
      refine ⟨?_, ?_⟩
      · rw [tfst_mk]; exact decS_view _ _ _ hu
      · rw [tsnd_mk]; exact decSl_view _ _ hw
    · cases hd
end
end Go.AM
