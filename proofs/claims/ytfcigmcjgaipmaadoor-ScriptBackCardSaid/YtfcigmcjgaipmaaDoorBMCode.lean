/-
  AM, part 17: calls, and what must hold for a piece of code ('aCode'); it is sound.
-/
import Derived.Test.YtfcigmcjgaipmaaDoorBMCore
import Derived.Laws.Cover3
namespace Go.AM
set_option linter.unusedSectionVars false
/-- What is put off in the activation. -/
class Dfr where
  ds : List Deferred
instance noDfr : Dfr := ⟨[]⟩
variable [Lay]

inductive AX where
  | normal
  | exit (id : Nat)
  | ret
  | panic (v : AV)

inductive ARes where
  | ret (v : AV)
  | panic (v : AV)

/-- How a call ended. -/
def ERep (w : World) (I : Nat → Nat → Prop) (h : Heap) (μ : Nat → Option Nat) : Ending → ARes → Prop
  | .returned v, .ret x => Rep w I h μ v x
  | .panicked chain, .panic x => ∃ v, chain = [{ v, recovered := false }] ∧ Rep w I h μ v x
  | _, _ => False

def CPost (w : World) (I : Nat → Nat → Prop) (μ : Nat → Option Nat) (h : Heap) (Q : ARes → Heap → Prop) (e : Ending) (w' : World) : Prop :=
  ∃ r h' I' μ', Q r h' ∧ ERep w' I' h' μ' e r ∧ RelH w' I' μ' h' ∧ Fr w (Wr h μ) I w' (Wr h' μ') I' ∧ HM h μ h' μ'

def Enters (P : Program) (f : FuncId) : Prop := ∃ fn, P.funcs[f]? = some fn ∧ fn.body.isSome = true ∧ (fn.name == "runtime.NumGoroutine") = false

/-- A call, over values without addresses. -/
@[irreducible] def ACall (E : Env) (f : FuncId) (args : List AV) (h : Heap) (Q : ARes → Heap → Prop) : Prop :=
  Enters E.P f ∧ ∀ (w : World) (I : Nat → Nat → Prop) (μ : Nat → Option Nat) (vs : Array Value), RelH w I μ h → CRep w I h μ vs.toList args → Calls E.P f vs w (CPost w I μ h Q)

theorem ACall.mono {E : Env} {f : FuncId} {args : List AV} {h : Heap} {Q Q' : ARes → Heap → Prop} (c : ACall E f args h Q) (hq : ∀ r h', Q r h' → Q' r h') : ACall E f args h Q' := by
  unfold ACall at c ⊢
  exact ⟨c.1, fun w I μ vs R hv => (c.2 w I μ vs R hv).mono fun e w' ⟨r, h', I', μ', h1, h2⟩ => ⟨r, h', I', μ', hq _ _ h1, h2⟩⟩

/-- Two ways, as a test says. -/
@[irreducible] def aIf (b : Bool) (p q : Prop) : Prop := (b = true → p) ∧ (b = false → q)
theorem aIf_mk {b : Bool} {p q : Prop} (hp : b = true → p) (hq : b = false → q) : aIf b p q := by unfold aIf; exact ⟨hp, hq⟩
theorem aIf_get {b : Bool} {p q : Prop} (h : aIf b p q) : (b = true → p) ∧ (b = false → q) := by unfold aIf at h; exact h

section
universe u
variable {α : Sort u}
/-- A value, its outermost sign laid open. -/
def nfV (v : AV) (K : AV → α) : α :=
  match v with
  | .junk => K .junk
  | .t => K .t
  | .f => K .f
  | .bool b => K (.bool b)
  | .int k n => K (.int k n)
  | .str s => K (.str s)
  | .nilsl => K .nilsl
  | .sl t l f => K (.sl t l f)
  | .own t b f => K (.own t b f)
  | .ptr b j => K (.ptr b j)
  | .eptr t b i j => K (.eptr t b i j)
  | .iptr t x j => K (.iptr t x j)
  | .nilptr => K .nilptr
  | .agg cs => K (.agg cs)
  | .tup vs => K (.tup vs)
  | .fn f a c => K (.fn f a c)
  | .nilfn => K .nilfn
  | .iface t v => K (.iface t v)
  | .niliface => K .niliface
  | .mptr b => K (.mptr b)
  | .fmap k v l => K (.fmap k v l)
theorem nfV_eq (v : AV) (K : AV → α) : nfV v K = K v := by cases v <;> rfl
def nfL (l : List AV) (K : List AV → α) : α :=
  match l with
  | [] => K []
  | v :: r => nfV v fun v => nfL r fun r => K (v :: r)
theorem nfL_eq : ∀ (l : List AV) (K : List AV → α), nfL l K = K l
  | [], _ => rfl
  | v :: r, K => by simp only [nfL, nfV_eq, nfL_eq r]
def nfVV (v : AV) (K : AV → α) : α :=
  match v with
  | .agg cs => nfL cs fun cs => K (.agg cs)
  | .tup cs => nfL cs fun cs => K (.tup cs)
  | .fn f a c => nfL a fun a => nfL c fun c => K (.fn f a c)
  | v => nfV v K
theorem nfVV_eq (v : AV) (K : AV → α) : nfVV v K = K v := by cases v <;> simp only [nfVV, nfV_eq, nfL_eq]
def nfLL (l : List AV) (K : List AV → α) : α :=
  match l with
  | [] => K []
  | v :: r => nfVV v fun v => nfLL r fun r => K (v :: r)
theorem nfLL_eq : ∀ (l : List AV) (K : List AV → α), nfLL l K = K l
  | [], _ => rfl
  | v :: r, K => by simp only [nfLL, nfVV_eq, nfLL_eq r]
/-- A result: a tuple's parts laid open too. -/
def nfR (v : AV) (K : AV → α) : α :=
  match v with
  | .tup cs => nfLL cs fun cs => K (.tup cs)
  | v => nfVV v K
theorem nfR_eq (v : AV) (K : AV → α) : nfR v K = K v := by cases v <;> simp only [nfR, nfVV_eq, nfLL_eq]
def nfB (b : AB) (K : AB → α) : α :=
  match b with
  | .hole => K .hole
  | .gone => K .gone
  | .var cs => nfL cs fun cs => K (.var cs)
  | .arr t l f => K (.arr t l f)
  | .mp k v l => K (.mp k v l)
theorem nfB_eq (b : AB) (K : AB → α) : nfB b K = K b := by cases b <;> simp only [nfB, nfL_eq]
def nfH (h : Heap) (K : Heap → α) : α :=
  match h with
  | [] => K []
  | b :: r => nfB b fun b => nfH r fun r => K (b :: r)
theorem nfH_eq : ∀ (h : Heap) (K : Heap → α), nfH h K = K h
  | [], _ => rfl
  | b :: r, K => by simp only [nfH, nfB_eq, nfH_eq r]
/-- A small number as a numeral. -/
def nfN (n : Nat) (K : Nat → α) : α :=
  match n with
  | 0 => K 0 | 1 => K 1 | 2 => K 2 | 3 => K 3 | 4 => K 4 | 5 => K 5 | 6 => K 6 | 7 => K 7 | 8 => K 8 | 9 => K 9
  | 10 => K 10 | 11 => K 11 | 12 => K 12 | 13 => K 13 | 14 => K 14 | 15 => K 15 | 16 => K 16 | 17 => K 17 | 18 => K 18 | 19 => K 19
  | 20 => K 20 | 21 => K 21 | 22 => K 22 | 23 => K 23 | 24 => K 24 | 25 => K 25 | 26 => K 26 | 27 => K 27 | 28 => K 28 | 29 => K 29
  | n => K n
theorem nfN_eq (n : Nat) (K : Nat → α) : nfN n K = K n := by unfold nfN; split <;> rfl

end
def argsA (E : Env) (s : Slots) : List Operand → List TypeId → List AV
  | x :: xs, t :: ts => ev E s t x :: argsA E s xs ts
  | _, _ => []

def guardOf (ops : List Oper) (s : Slots) (j : Nat) : Option (Nat × AV) :=
  match ops[j]? with
  | some o => match o.dst with
    | some d => some (d, lkp d s)
    | none => none
  | none => none

def undefA : AV := .tup []

/-- How many slots the frame has; how many blocks were there at its start; may a state be told anew where ways meet? -/
structure Fp where
  nt : Nat
  n0 : Nat
  jn : Bool

def kput (F : Fp) (d : Option Nat) (v : AV) (s : Slots) (h : Heap) (K : Slots → Heap → Prop) : Prop :=
  match d with
  | some d => match Nat.blt d F.nt with
    | true => K ((d, v) :: s) h
    | false => False
  | none => K s h

/-- What a call leads to. -/
def aRes (F : Fp) (d : Option Nat) (s : Slots) (K : Slots → Heap → Prop) (X : AV → Slots → Heap → Prop) (r : ARes) (h : Heap) : Prop :=
  match r with
  | .ret v => nfR v fun v => nfH h fun h => kput F d v s h K
  | .panic v => X v s h

def eqNeg : BinOp → Option Bool
  | .eql => some false
  | .neq => some true
  | _ => none
/-- Is a slice nil? That is not told of it, but that one with elements is not: whether it is asked for its being none, and how long it is. -/
def nilT (E : Env) (o : Oper) (s : Slots) (h : Heap) : Option (Bool × Nat) :=
  match o.op with
  | .binOp op t x (.const (.slice none 0 0)) _ =>
    match eqNeg op, (E.ti t).ud, ev E s t x with
    | some neg, .slice _, .sl _ l _ => some (neg, l.length)
    | some neg, .slice _, .nilsl => some (neg, 0)
    | some neg, .slice _, .own _ b _ => match hget h b with
      | .arr _ l _ => some (neg, l.length)
      | _ => none
    | _, _, _ => none
  | _ => none

/-- The step of a range over a map: its iterator's block. -/
def nextT (E : Env) (o : Oper) (s : Slots) : Option Nat :=
  match o.op with
  | .next x false => match ev E s 0 x with
    | .ptr b 0 => some b
    | _ => none
  | _ => none
def aStepIt (F : Fp) (d : Option Nat) (s : Slots) (h : Heap) (K : Slots → Heap → Prop) (b : Nat) (x : AB) : Prop :=
  match x with
  | .mp (.pair .bool k) v l => (l.tail = [] → kput F d (.tup [.f]) s h K) ∧ ∀ j, j < l.tail.length → kput F d (.tup [.t, .junk, .junk]) s (hput h b (.mp (.pair .bool k) v (itPut k v l j))) K
  | _ => False

/-- One operation. -/
def aOper (E : Env) (F : Fp) (o : Oper) (s : Slots) (h : Heap) (K : Slots → Heap → Prop) (X : AV → Slots → Heap → Prop) : Prop :=
  match o.op with
  | .call { callee := .value fv, args := as, argTypes := ts } =>
    match Nat.beq as.size ts.size, ev E s 0 fv with
    | true, .fn (.func g) a c =>
      match E.raw.contains g with
      | true => nfLL (a ++ (argsA E s as.toList ts.toList ++ c)) fun vs => ACall E g vs h (aRes F o.dst s K X)
      | false => nfLL (a ++ (argsA E s as.toList ts.toList ++ c)) fun vs => nfLL (vs.map (res (hget h))) fun ws =>
        nfH (hputs h (frz (hget h) (ownsOfVs vs))) fun h => ACall E g ws h (aRes F o.dst s K X)
    | _, _ => False
  | .panic x => match ev E s 0 x with
    | .iface t v => X (.iface t v) s h
    | _ => False
  | _ =>
    nfN h.length fun b0 => match fOp E o s h b0 with
    | some ⟨v, ws, cs⟩ => andL cs (nfVV v fun v => nfH (hputs h ws) fun h => kput F o.dst v s h K)
    | none => match nilT E o s h with
      | some (neg, n) => ∀ b : Bool, (b = true → n = 0) → kput F o.dst (.bool (neg ^^ b)) s h K
      | none => match nextT E o s with
        | some b => aStepIt F o.dst s h K b (hget h b)
        | none => False

/-- An array's place by a number that is not known: each in turn. -/
def splitIx (E : Env) (s : Slots) (o : Oper) : Option (Nat × IntKind × Int × Nat) :=
  match o.op with
  | .indexAddr t x (.tmp d) => match (E.ti t).ud, ev E s 0 x, lkp d s with
    | .array n _, .ptr _ _, .int k z => match Nat.ble n 16 with | true => some (d, k, z, n) | false => none
    | _, _, _ => none
  | .index t _ (.tmp d) => match (E.ti t).ud, lkp d s with
    | .array n _, .int k z => match Nat.ble n 16 with | true => some (d, k, z, n) | false => none
    | _, _ => none
  | _ => none
def aSplit (z : Int) (f : Int → Prop) : Nat → Prop
  | 0 => False
  | n + 1 => aIf (decide (z = Int.ofNat n)) (f (Int.ofNat n)) (aSplit z f n)
theorem aSplit_get {z : Int} {f : Int → Prop} : ∀ {n : Nat}, aSplit z f n → f z
  | 0, h => h.elim
  | n + 1, h => by
    obtain ⟨h1, h2⟩ := aIf_get h
    cases hb : decide (z = Int.ofNat n) with
    | true => have e := of_decide_eq_true hb; have := h1 hb; rw [← e] at this; exact this
    | false => exact aSplit_get (h2 hb)
def aOpS (E : Env) (F : Fp) (o : Oper) (s : Slots) (h : Heap) (K : Slots → Heap → Prop) (X : AV → Slots → Heap → Prop) : Prop :=
  match splitIx E s o with
  | none => aOper E F o s h K X
  | some (d, k, z, n) => aSplit z (fun j => aOper E F o ((d, .int k j) :: s) h K X) n
theorem splitIx_lkp {E : Env} {s : Slots} {o : Oper} {d : Nat} {k : IntKind} {z : Int} {n : Nat} (h : splitIx E s o = some (d, k, z, n)) : lkp d s = .int k z := by
  unfold splitIx at h
  split at h
  · split at h
    · split at h
      · cases h; assumption
      · cases h
    · cases h
  · split at h
    · split at h
      · cases h; assumption
      · cases h
    · cases h
  · cases h

def aOps (E : Env) (F : Fp) (ops : List Oper) (K : Slots → Heap → Prop) (X : AV → Slots → Heap → Prop) : List Oper → Slots → Heap → Prop
  | [], s, h => K s h
  | o :: r, s, h =>
    match o.guard with
    | none => aOpS E F o s h (aOps E F ops K X r) X
    | some (j, want) =>
      match guardOf ops s j with
      | some (d, v) =>
        match v, want with
        | .t, true => aOpS E F o s h (aOps E F ops K X r) X
        | .f, false => aOpS E F o s h (aOps E F ops K X r) X
        | .bool b, true => aIf b (aOpS E F o ((d, .t) :: s) h (aOps E F ops K X r) X) (kput F o.dst undefA ((d, .f) :: s) h (aOps E F ops K X r))
        | .bool b, false => aIf b (kput F o.dst undefA ((d, .t) :: s) h (aOps E F ops K X r)) (aOpS E F o ((d, .f) :: s) h (aOps E F ops K X r) X)
        | .t, false => kput F o.dst undefA s h (aOps E F ops K X r)
        | .f, true => kput F o.dst undefA s h (aOps E F ops K X r)
        | .tup [], _ => kput F o.dst undefA s h (aOps E F ops K X r)
        | _, _ => False
      | none => False

section
variable {E : Env} {F : Fp} {w w0 : World} {I I0 : Nat → Nat → Prop} {h h0 : Heap} {μ μ0 : Nat → Option Nat} {a : Act} {s : Slots}

variable [Dfr]
/-- The machine's state bears the abstract one; what was there at the start. -/
structure SR (F : Fp) (w0 : World) (I0 : Nat → Nat → Prop) (μ0 : Nat → Option Nat) (h0 : Heap) (w : World) (I : Nat → Nat → Prop) (μ : Nat → Option Nat) (h : Heap) (a : Act) (s : Slots) : Prop where
  rel : RelH w I μ h
  fr : Fr w0 (Wr h0 μ0) I0 w (Wr h μ) I
  hm : HM h0 μ0 h μ
  slots : SRep w I h μ a s
  nt : a.tmps.size = F.nt
  nd : a.defers = Dfr.ds

/-- One step on. -/
theorem SR.step {w' : World} {I' : Nat → Nat → Prop} {μ' : Nat → Option Nat} {h' : Heap} (S : SR F w0 I0 μ0 h0 w I μ h a s) (R' : RelH w' I' μ' h') (f : Fr w (Wr h μ) I w' (Wr h' μ') I') (m : HM h μ h' μ') :
    SR F w0 I0 μ0 h0 w' I' μ' h' a s :=
  ⟨R', S.fr.trans f, S.hm.trans m, fun i => (S.slots i).step S.rel f m, S.nt, S.nd⟩

theorem SR.put {d : Nat} {v : Value} {x : AV} (S : SR F w0 I0 μ0 h0 w I μ h a s) (hd : d < F.nt) (r : Rep w I h μ v x) : SR F w0 I0 μ0 h0 w I μ h (a.put (some d) v) ((d, x) :: s) := by
  refine ⟨S.rel, S.fr, S.hm, fun i => ?_, by simp [Act.put, S.nt], S.nd⟩
  simp only [Act.put, lkp]
  cases hb : Nat.beq i d with
  | true =>
    obtain rfl := Nat.eq_of_beq_eq_true hb
    simp only
    have : i < a.tmps.size := by rw [S.nt]; exact hd
    simpa [Array.getD_eq_getD_getElem?, this] using r
  | false =>
    have hne : d ≠ i := by
      rintro rfl
      rw [Nat.beq_refl] at hb
      cases hb
    simp only
    have e : (a.tmps.setIfInBounds d v).getD i undef = a.tmps.getD i undef := by
      simp only [Array.getD_eq_getD_getElem?, Array.getElem?_setIfInBounds_ne hne]
    rw [e]
    exact S.slots i

theorem SR.over {d : Nat} {x : AV} (S : SR F w0 I0 μ0 h0 w I μ h a s) (r : Rep w I h μ (a.tmps.getD d undef) x) : SR F w0 I0 μ0 h0 w I μ h a ((d, x) :: s) := by
  refine ⟨S.rel, S.fr, S.hm, fun i => ?_, S.nt, S.nd⟩
  simp only [lkp]
  cases hb : Nat.beq i d with
  | true => obtain rfl := Nat.eq_of_beq_eq_true hb; exact r
  | false => exact S.slots i

/-- Where a run of operations leads to. -/
def OQ' (F : Fp) (w0 : World) (I0 : Nat → Nat → Prop) (μ0 : Nat → Option Nat) (h0 : Heap) (K : Slots → Heap → Prop) (X : AV → Slots → Heap → Prop) (e : Exit) (a : Act) (w : World) : Prop :=
  ∃ I μ h s, SR F w0 I0 μ0 h0 w I μ h a s ∧ ((e = .normal ∧ K s h) ∨ ∃ v x, e = .panic [{ v, recovered := false }] ∧ Rep w I h μ v x ∧ X x s h)

theorem andM_get : ∀ {cs : List DP} {p : Prop}, andM cs p → (∀ c ∈ cs, c.p) ∧ p
  | [], p, h => ⟨fun _ hc => by simp at hc, h⟩
  | c :: cs, p, h => by
    obtain ⟨h1, h2⟩ := andM_get h.2
    refine ⟨fun d hd => ?_, h2⟩
    rcases List.mem_cons.1 hd with e | e
    · subst e; exact h.1
    · exact h1 d e
theorem andL_get {cs : List DP} {p : Prop} (h : andL cs p) : (∀ c ∈ cs, c.p) ∧ p := by
  apply andM_get
  unfold andL at h
  split at h <;> exact h

theorem kput_sound {d : Option Nat} {v : Value} {x : AV} {K : Slots → Heap → Prop} (S : SR F w0 I0 μ0 h0 w I μ h a s) (r : Rep w I h μ v x) (hk : kput F d x s h K) :
    ∃ s', SR F w0 I0 μ0 h0 w I μ h (a.put d v) s' ∧ K s' h := by
  unfold kput at hk
  cases d with
  | none => exact ⟨s, S, hk⟩
  | some d =>
    simp only at hk
    cases hb : Nat.blt d F.nt with
    | true =>
      rw [hb] at hk
      have hd : d < F.nt := by simp only [Nat.blt, Nat.ble_eq] at hb; omega
      exact ⟨_, S.put hd r, hk⟩
    | false => rw [hb] at hk; exact hk.elim

theorem argsA_rep (hs : SRep w I h μ a s) : ∀ (xs : List Operand) (ts : List TypeId), xs.length = ts.length → CRep w I h μ (xs.map a.eval) (argsA E s xs ts)
  | [], [], _ => CRep.nil
  | x :: xs, t :: ts, hl => CRep.cons (ev_rep hs t x) (argsA_rep hs xs ts (by simpa using hl))
  | [], _ :: _, hl => by simp at hl
  | _ :: _, [], hl => by simp at hl

theorem CRep.app {v1 v2 : List Value} {x1 x2 : List AV} (r1 : CRep w I h μ v1 x1) (r2 : CRep w I h μ v2 x2) : CRep w I h μ (v1 ++ v2) (x1 ++ x2) := by
  refine ⟨by simp [r1.1, r2.1], fun k v c e1 e2 => ?_⟩
  by_cases hk : k < v1.length
  · rw [List.getElem?_append_left hk] at e1
    rw [List.getElem?_append_left (by rw [← r1.1]; exact hk)] at e2
    exact r1.2 k v c e1 e2
  · rw [List.getElem?_append_right (by omega)] at e1
    rw [List.getElem?_append_right (by rw [← r1.1]; omega)] at e2
    rw [← r1.1] at e2
    exact r2.2 _ v c e1 e2

theorem CRep.step' {w' : World} {I' : Nat → Nat → Prop} {μ' : Nat → Option Nat} {h' : Heap} {vs : List Value} {as : List AV} (r : CRep w I h μ vs as) (R : RelH w I μ h) (f : Fr w (Wr h μ) I w' (Wr h' μ') I') (m : HM h μ h' μ') : CRep w' I' h' μ' vs as :=
  ⟨r.1, fun k v c e1 e2 => (r.2 k v c e1 e2).step R f m⟩

theorem exec_call {P : Program} {dst : Option Tmp} {ty : TypeId} {pos : String} {aft : Array Edge} {gd : Option (Nat × Bool)} {fv : Operand} {as : Array Operand} {ts : Array TypeId} {g : FuncId} {fa fc : Array Value}
    (hfv : a.eval fv = .func (.func g) fa fc) (hent : Enters P g) :
    (execOp a.eval ⟨dst, .call { callee := .value fv, args := as, argTypes := ts }, ty, pos, aft, gd⟩).run P w = .ok (.enter g (fa ++ as.map a.eval ++ fc)) w := by
  obtain ⟨fn, h1, h2, h3⟩ := hent
  show (do let d ← resolve a.eval { callee := .value fv, args := as, argTypes := ts } ty; invoke d.target d.args : Sem Next).run P w = _
  have hr : (resolve a.eval { callee := .value fv, args := as, argTypes := ts } ty).run P w = .ok { target := .fn (.func g) fc, args := fa ++ as.map a.eval } w := by
    show (Deferred.ofValue (a.eval fv) (as.map a.eval)).run P w = _
    rw [hfv]; rfl
  rw [Sem.run_bind, hr]
  show (callFunc g (fa ++ as.map a.eval ++ fc)).run P w = _
  unfold callFunc
  have hbn : fn.body.isNone = false := by cases hb : fn.body <;> simp_all
  simp only [Sem.run_bind, run_program, Result.andThen_ok, h1, h3, hbn, Bool.false_eq_true, if_false, Sem.run_pure]

theorem res_rep (R : RelH w I μ h) {g : Nat → AB} {v : Value} {x : AV} (r : Rep w I h μ v x) (hfz : ∀ b ∈ ownsOf x.cells, ∀ t l fr, g b = .arr t l fr → h[b]? = some (.arr t l false)) : Rep w I h μ v (res g x) := by
  have key : ∀ c : AV, c ∈ x.cells → ∀ t b full, c = .own t b full → ∀ t' l fr, g b = .arr t' l fr → h[b]? = some (.arr t' l false) := by
    intro c hc t b full e
    subst e
    exact hfz b (mem_ownsOf _ _ _ _ hc)
  cases x with
  | agg cs =>
    cases r with
    | agg vs _ hl hc =>
      refine .agg vs _ (by simpa using hl) fun k v c e1 e2 => ?_
      rw [List.getElem?_map] at e2
      cases hq : cs[k]? with
      | none => rw [hq] at e2; cases e2
      | some c0 =>
        rw [hq] at e2
        simp at e2
        subst e2
        exact res1_ok R (hc k v c0 e1 hq) (key c0 (List.mem_of_getElem? hq))
  | own t b full => exact res1_ok R r (key _ (by simp [AV.cells]))
  | _ => exact r

theorem nilT_sound (hE : EnvOK E) {o : Oper} {neg : Bool} {n : Nat} (S : SR F w0 I0 μ0 h0 w I μ h a s) (hn : nilT E o s h = some (neg, n)) :
    ∃ b : Bool, (b = true → n = 0) ∧ (execOp a.eval o).run E.P w = .ok (.value (.bool (neg ^^ b))) w := by
  obtain ⟨dst, op, ty, pos, aft, gd⟩ := o
  unfold nilT at hn
  simp only at hn
  split at hn
  · rename_i op t x u
    have go : ∀ {neg : Bool} {e : TypeId} {q : Option Addr} {l c : Nat}, eqNeg op = some neg → (E.ti t).ud = .slice e → a.eval x = .slice q l c →
        (execOp a.eval ⟨dst, .binOp op t x (.const (.slice none 0 0)) u, ty, pos, aft, gd⟩).run E.P w = .ok (.value (.bool (neg ^^ q.isNone))) w := by
      intro neg e q l c ho hud hx
      have hu := hE.und t (kn_ud (by rw [hud]; rfl))
      rw [hud] at hu
      have hy : a.eval (.const (.slice none 0 0)) = .slice none 0 0 := rfl
      have he := run_equal_slice_nil (P := E.P) w t e q l c hu
      unfold eqNeg at ho
      split at ho
      · cases ho
        refine run_bin (by rw [hx, hy]; rfl) ?_
        rw [hx, hy]
        show (do pure (Value.bool (← Op.equal t (.slice q l c) (.slice none 0 0))) : Sem Value).run E.P w = _
        rw [Sem.run_bind, he]
        simp
      · cases ho
        refine run_bin (by rw [hx, hy]; rfl) ?_
        rw [hx, hy]
        show (do pure (Value.bool (!(← Op.equal t (.slice q l c) (.slice none 0 0)))) : Sem Value).run E.P w = _
        rw [Sem.run_bind, he]
        simp
      · cases ho
    have r := ev_rep (E := E) S.slots t x
    split at hn
    · rename_i neg e t' l f ho hud hev
      cases hn
      rw [hev] at r
      generalize hq : a.eval x = q at r
      cases r with
      | sl _ _ _ ad m cap hr hf =>
        refine ⟨ad.isNone, fun hb => ?_, go ho hud hq⟩
        cases hr with
        | sl _ _ _ _ cs hcap hel hat =>
          cases hl : l.length with
          | zero => rfl
          | succ k =>
            obtain ⟨g, o, hg, _⟩ := hat (by omega)
            rw [hg] at hb
            cases hb
    · rename_i neg e ho hud hev
      cases hn
      rw [hev] at r
      generalize hq : a.eval x = q at r
      cases r
      exact ⟨true, fun _ => rfl, go ho hud hq⟩
    · rename_i neg e t' b f ho hud hev
      rw [hev] at r
      split at hn
      · rename_i t2 l f2 hb
        cases hn
        obtain ⟨ad, cap, hq, _, _, _, h5, _⟩ := own_len (show GOK (hget h) h from fun b => .inl rfl) r hb
        refine ⟨ad.isNone, fun hb => ?_, go ho hud hq⟩
        rcases h5 with ⟨h5, _⟩ | ⟨q, us, e', h6, h7, _⟩
        · exact h5
        · rw [h7] at hb; cases hb
      · cases hn
    · cases hn
  · cases hn

theorem next_sound {o : Oper} {b : Nat} {K : Slots → Heap → Prop} (S : SR F w0 I0 μ0 h0 w I μ h a s) (hn : nextT E o s = some b) (hk : aStepIt F o.dst s h K b (hget h b)) :
    ∃ v' w' h' μ' x, (execOp a.eval o).run E.P w = .ok (.value v') w' ∧ Rep w' I h' μ' v' x ∧ RelH w' I μ' h' ∧ Fr w (Wr h μ) I w' (Wr h' μ') I ∧ HM h μ h' μ' ∧ kput F o.dst x s h' K := by
  obtain ⟨dst, op, ty, pos, aft, gd⟩ := o
  unfold nextT at hn
  simp only at hn
  split at hn
  · rename_i x
    split at hn
    · rename_i b' hev
      injection hn with hn
      subst hn
      have r := ev_rep (E := E) S.slots 0 x
      rw [hev] at r
      unfold aStepIt at hk
      split at hk
      · rename_i k v l hb
        obtain ⟨v', w', x', h', μ', hrun, hr, hR, hF, hM, hx⟩ := S.rel.stepIt (ty := ty) r (hget_some hb (by simp))
        refine ⟨v', w', h', μ', x', ?_, hr, hR, hF, hM, ?_⟩
        · exact run_v hrun
        · rcases hx with ⟨he, rfl, rfl⟩ | ⟨j, hj, rfl, rfl⟩
          · exact hk.1 he
          · exact hk.2 j hj
      · exact hk.elim
    · cases hn
  · cases hn

theorem aOper_sound (hE : EnvOK E) {o : Oper} {K : Slots → Heap → Prop} {X : AV → Slots → Heap → Prop} {next : Act → World → Prop} {Q : Exit → Act → World → Prop}
    (S : SR F w0 I0 μ0 h0 w I μ h a s) (hk : aOper E F o s h K X)
    (hn : ∀ a w I μ h s, SR F w0 I0 μ0 h0 w I μ h a s → K s h → next a w)
    (hQ : ∀ a w I μ h s v x, SR F w0 I0 μ0 h0 w I μ h a s → Rep w I h μ v x → X x s h → Q (.panic [{ v, recovered := false }]) a w) : o.wp E.P a w next Q := by
  have plain : (∀ c, o.op ≠ .call c) ∨ (∃ b as ts, o.op = .call { callee := .builtin b, args := as, argTypes := ts }) ∨ (∃ r m as ts, o.op = .call { callee := .invoke r m, args := as, argTypes := ts }) →
      (nfN h.length fun b0 => match fOp E o s h b0 with
        | some ⟨v, ws, cs⟩ => andL cs (nfVV v fun v => nfH (hputs h ws) fun h => kput F o.dst v s h K)
        | none => match nilT E o s h with
          | some (neg, n) => ∀ b : Bool, (b = true → n = 0) → kput F o.dst (.bool (neg ^^ b)) s h K
          | none => match nextT E o s with
            | some b => aStepIt F o.dst s h K b (hget h b)
            | none => False) → o.wp E.P a w next Q := by
    intro _ hk
    rw [nfN_eq] at hk
    split at hk
    · rename_i v ws cs hf
      obtain ⟨hc, hk⟩ := andL_get hk
      rw [nfVV_eq, nfH_eq] at hk
      obtain ⟨v', nx, w', I', μ', hrun, hnx, hr, hR, hF, hM⟩ := fOp_sound hE S.rel (Nat.le_refl _) (.inl (by simp)) S.slots hf hc
      have S' := S.step hR hF hM
      obtain ⟨s', S'', hK⟩ := kput_sound S' hr hk
      unfold Oper.wp
      rw [hrun]
      rcases hnx with rfl | ⟨rfl, rfl⟩
      · exact hn _ _ _ _ _ _ S'' hK
      · exact hn _ _ _ _ _ _ S'' hK
    · split at hk
      · rename_i neg n hnt
        obtain ⟨b, hb, hrun⟩ := nilT_sound hE S hnt
        obtain ⟨s', S'', hK⟩ := kput_sound S (.bool _) (hk b hb)
        unfold Oper.wp
        rw [hrun]
        exact hn _ _ _ _ _ _ S'' hK
      · split at hk
        · rename_i b hnx
          obtain ⟨v', w', h', μ', x, hrun, hr, hR, hF, hM, hk⟩ := next_sound S hnx hk
          have S' := S.step hR hF hM
          obtain ⟨s', S'', hK⟩ := kput_sound S' hr hk
          unfold Oper.wp
          rw [hrun]
          exact hn _ _ _ _ _ _ S'' hK
        · exact hk.elim
  obtain ⟨dst, op, ty, pos, aft, gd⟩ := o
  cases op with
  | call c =>
    obtain ⟨cal, as, ts⟩ := c
    cases cal with
    | builtin b => exact plain (.inr (.inl ⟨b, as, ts, rfl⟩)) hk
    | invoke r m => exact plain (.inr (.inr ⟨r, m, as, ts, rfl⟩)) hk
    | value fv =>
      simp only [aOper] at hk
      split at hk
      · rename_i g xa xc hsz hev
        have hsz : as.size = ts.size := Nat.eq_of_beq_eq_true hsz
        have rf := ev_rep (E := E) S.slots 0 fv
        rw [hev] at rf
        obtain ⟨fa, fc, hfv, hcr⟩ : ∃ fa fc, a.eval fv = .func (.func g) fa fc ∧ CRep w I h μ (fa ++ as.map a.eval ++ fc).toList (xa ++ (argsA E s as.toList ts.toList ++ xc)) := by
          generalize hq : a.eval fv = q at rf
          cases rf with
          | fn _ fa fc _ _ ha hb h1 h2 =>
            refine ⟨fa, fc, rfl, ?_⟩
            have e1 : CRep w I h μ fa.toList xa := ⟨by simpa using ha, fun k v c e1 e2 => h1 k v c (by simpa using e1) e2⟩
            have e2 : CRep w I h μ fc.toList xc := ⟨by simpa using hb, fun k v c e1 e2 => h2 k v c (by simpa using e1) e2⟩
            have e3 := argsA_rep (E := E) S.slots as.toList ts.toList (by simpa using hsz)
            have := e1.app (e3.app e2)
            simpa [Array.toList_append] using this
        have fin : ∀ {vs : List AV} {w' : World} {I' : Nat → Nat → Prop} {μ' : Nat → Option Nat} {h' : Heap}, w' = w → SR F w0 I0 μ0 h0 w' I' μ' h' a s → CRep w' I' h' μ' (fa ++ as.map a.eval ++ fc).toList vs →
            ACall E g vs h' (aRes F dst s K X) → Oper.wp E.P ⟨dst, .call { callee := .value fv, args := as, argTypes := ts }, ty, pos, aft, gd⟩ a w next Q := by
          rintro vs w' I' μ' h' rfl S' hcr' hcall
          unfold ACall at hcall
          obtain ⟨hent, hcall⟩ := hcall
          unfold Oper.wp
          rw [exec_call hfv hent]
          rw [Oper.upon_enter]
          refine (hcall _ _ _ _ S'.rel hcr').mono fun e w2 hp => ?_
          obtain ⟨r, h2, I2, μ2, hq, he, hR2, hF2, hM2⟩ := hp
          have S2 := S'.step hR2 hF2 hM2
          cases e with
          | returned v =>
            cases r with
            | ret x =>
              simp only [aRes, nfR_eq, nfH_eq] at hq
              obtain ⟨s', S3, hK⟩ := kput_sound S2 he hq
              exact hn _ _ _ _ _ _ S3 hK
            | panic x => exact he.elim
          | panicked chain =>
            cases r with
            | ret x => exact he.elim
            | panic x =>
              obtain ⟨v, rfl, he⟩ := he
              exact hQ _ _ _ _ _ _ v x S2 he hq
          | outgrown => cases r <;> exact he.elim
        split at hk
        · rw [nfLL_eq] at hk
          exact fin rfl S hcr hk
        · rw [nfLL_eq, nfLL_eq, nfH_eq] at hk
          obtain ⟨I1, R1, F1, M1, _, hfz, _⟩ := frz_ok (ownsOfVs (xa ++ (argsA E s as.toList ts.toList ++ xc))) I h S.rel (show GOKf (hget h) h from fun b => .inl rfl)
          have S1 := S.step R1 F1 M1
          have hcr1 := hcr.step' S.rel F1 M1
          refine fin rfl S1 ⟨by simpa using hcr1.1, fun k v c e1 e2 => ?_⟩ hk
          rw [List.getElem?_map] at e2
          cases hq : (xa ++ (argsA E s as.toList ts.toList ++ xc))[k]? with
          | none => rw [hq] at e2; cases e2
          | some c0 =>
            rw [hq] at e2
            simp at e2
            subst e2
            refine res_rep R1 (hcr1.2 k v c0 e1 hq) fun b hb t l fr hg => hfz b ?_ t l fr hg
            exact mem_ownsOfVs _ c0 (List.mem_of_getElem? hq) b hb
      · exact hk.elim
  | panic x =>
    simp only [aOper] at hk
    split at hk
    · rename_i t v hev
      have r := ev_rep (E := E) S.slots 0 x
      rw [hev] at r
      generalize hq : a.eval x = q at r
      cases r with
      | iface _ u _ hu =>
        unfold Oper.wp
        have hrun : (execOp a.eval ⟨dst, .panic x, ty, pos, aft, gd⟩).run E.P w = .halt (.panic (.iface t u)) w := by
          show (do pure (Next.value (← Instr.panic (a.eval x))) : Sem Next).run E.P w = _
          rw [hq]
          rfl
        rw [hrun]
        exact hQ _ _ _ _ _ _ (.iface t u) (.iface t v) S (.iface t u v hu) hk
    · exact hk.elim
  | _ => exact plain (.inl (fun c => by simp)) hk

theorem guardOf_ok {ops : Array Oper} {j d : Nat} {x : AV} (S : SR F w0 I0 μ0 h0 w I μ h a s) (hg : guardOf ops.toList s j = some (d, x)) :
    yielded ops a.tmps j = (match a.tmps[d]? with | some (.bool b) => some b | _ => none) ∧ Rep w I h μ (a.tmps.getD d undef) x := by
  unfold guardOf at hg
  split at hg
  · rename_i o ho
    split at hg
    · rename_i d' hd
      cases hg
      refine ⟨?_, S.slots d⟩
      have ho' : ops[j]? = some o := by simpa using ho
      simp only [yielded, ho', Option.bind_some, hd]
      rfl
    · cases hg
  · cases hg

theorem getD_some {a : Act} {d : Nat} {b : Bool} (h : a.tmps.getD d undef = .bool b) : a.tmps[d]? = some (.bool b) := by
  rw [Array.getD_eq_getD_getElem?] at h
  cases hq : a.tmps[d]? with
  | none => rw [hq] at h; cases h
  | some v => rw [hq] at h; simp at h; rw [h]

theorem yielded_bool {ops : Array Oper} {j d : Nat} {x : AV} {b : Bool} (S : SR F w0 I0 μ0 h0 w I μ h a s) (hg : guardOf ops.toList s j = some (d, x)) (hx : bAnd x = some b) :
    yielded ops a.tmps j = some b ∧ a.tmps.getD d undef = .bool b := by
  obtain ⟨h1, h2⟩ := guardOf_ok S hg
  have h3 := rep_bool h2 hx
  rw [getD_some h3] at h1
  exact ⟨h1, h3⟩

theorem aOpS_sound (hE : EnvOK E) {o : Oper} {K : Slots → Heap → Prop} {X : AV → Slots → Heap → Prop} {next : Act → World → Prop} {Q : Exit → Act → World → Prop}
    (S : SR F w0 I0 μ0 h0 w I μ h a s) (hk : aOpS E F o s h K X)
    (hn : ∀ a w I μ h s, SR F w0 I0 μ0 h0 w I μ h a s → K s h → next a w)
    (hQ : ∀ a w I μ h s v x, SR F w0 I0 μ0 h0 w I μ h a s → Rep w I h μ v x → X x s h → Q (.panic [{ v, recovered := false }]) a w) : o.wp E.P a w next Q := by
  unfold aOpS at hk
  split at hk
  · exact aOper_sound hE S hk hn hQ
  · rename_i d k z n hs
    have hl := splitIx_lkp hs
    have := S.slots d
    rw [hl] at this
    exact aOper_sound hE (S.over this) (aSplit_get hk) hn hQ

/-- Operations, one behind the other in whatever list. -/
theorem aOps_sound (hE : EnvOK E) {ops : Array Oper} {K : Slots → Heap → Prop} {X : AV → Slots → Heap → Prop} : ∀ (l : List Oper) (a : Act) (w : World) (I : Nat → Nat → Prop) (μ : Nat → Option Nat) (h : Heap) (s : Slots),
    SR F w0 I0 μ0 h0 w I μ h a s → aOps E F ops.toList K X l s h → wpList E.P ops (OQ' F w0 I0 μ0 h0 K X) l a w
  | [], a, w, I, μ, h, s, S, hk => ⟨I, μ, h, s, S, .inl ⟨rfl, hk⟩⟩
  | o :: r, a, w, I, μ, h, s, S, hk => by
    have run : ∀ {s : Slots}, SR F w0 I0 μ0 h0 w I μ h a s → aOpS E F o s h (aOps E F ops.toList K X r) X → o.wp E.P a w (wpList E.P ops (OQ' F w0 I0 μ0 h0 K X) r) (OQ' F w0 I0 μ0 h0 K X) := by
      intro s S hk
      refine aOpS_sound hE S hk (fun a w I μ h s S hk => aOps_sound hE r a w I μ h s S hk) (fun a w I μ h s v x S hr hx => ⟨I, μ, h, s, S, .inr ⟨v, x, rfl, hr, hx⟩⟩)
    have skip : ∀ {s : Slots}, SR F w0 I0 μ0 h0 w I μ h a s → kput F o.dst undefA s h (aOps E F ops.toList K X r) → wpList E.P ops (OQ' F w0 I0 μ0 h0 K X) r (a.put o.dst undef) w := by
      intro s S hk
      obtain ⟨s', S', hK⟩ := kput_sound (v := undef) S (.tup #[] [] rfl (fun i v c h1 _ => by simp at h1)) hk
      exact aOps_sound hE r _ w I μ h s' S' hK
    have yes : Region.wanted o (yielded ops a.tmps) = true → o.wp E.P a w (wpList E.P ops (OQ' F w0 I0 μ0 h0 K X) r) (OQ' F w0 I0 μ0 h0 K X) → wpList E.P ops (OQ' F w0 I0 μ0 h0 K X) (o :: r) a w := by
      intro hw hwp
      unfold wpList
      rw [if_pos hw]
      exact .inl hwp
    have no : Region.wanted o (yielded ops a.tmps) = false → wpList E.P ops (OQ' F w0 I0 μ0 h0 K X) r (a.put o.dst undef) w → wpList E.P ops (OQ' F w0 I0 μ0 h0 K X) (o :: r) a w := by
      intro hw hwp
      unfold wpList
      rw [if_neg (by rw [hw]; simp)]
      exact hwp
    simp only [aOps] at hk
    split at hk
    · rename_i hg
      exact yes (by simp [Region.wanted, hg]) (run S hk)
    · rename_i j want hg
      have wanted : ∀ q, yielded ops a.tmps j = q → Region.wanted o (yielded ops a.tmps) = (q == some want) := by
        intro q hq
        simp only [Region.wanted, hg, hq]
      split at hk
      · rename_i d v hgo
        split at hk
        · obtain ⟨hy, _⟩ := yielded_bool S hgo rfl
          exact yes (by rw [wanted _ hy]; rfl) (run S hk)
        · obtain ⟨hy, _⟩ := yielded_bool S hgo rfl
          exact yes (by rw [wanted _ hy]; rfl) (run S hk)
        · rename_i b
          obtain ⟨hy, hv⟩ := yielded_bool (b := b) S hgo rfl
          obtain ⟨h1, h2⟩ := aIf_get hk
          cases b with
          | true => exact yes (by rw [wanted _ hy]; rfl) (run (S.over (by rw [hv]; exact .t)) (h1 rfl))
          | false => exact no (by rw [wanted _ hy]; rfl) (skip (S.over (by rw [hv]; exact .f)) (h2 rfl))
        · rename_i b
          obtain ⟨hy, hv⟩ := yielded_bool (b := b) S hgo rfl
          obtain ⟨h1, h2⟩ := aIf_get hk
          cases b with
          | true => exact no (by rw [wanted _ hy]; rfl) (skip (S.over (by rw [hv]; exact .t)) (h1 rfl))
          | false => exact yes (by rw [wanted _ hy]; rfl) (run (S.over (by rw [hv]; exact .f)) (h2 rfl))
        · obtain ⟨hy, _⟩ := yielded_bool S hgo rfl
          exact no (by rw [wanted _ hy]; rfl) (skip S hk)
        · obtain ⟨hy, _⟩ := yielded_bool S hgo rfl
          exact no (by rw [wanted _ hy]; rfl) (skip S hk)
        · obtain ⟨h1, h2⟩ := guardOf_ok S hgo
          have hy : yielded ops a.tmps j = none := by
            rw [h1]
            generalize hq : a.tmps.getD d undef = q at h2
            cases h2 with
            | tup vs _ hl hc =>
              rw [Array.getD_eq_getD_getElem?] at hq
              cases hq2 : a.tmps[d]? with
              | none => rfl
              | some v => rw [hq2] at hq; simp at hq; subst hq; rfl
          exact no (by rw [wanted _ hy]; rfl) (skip S hk)
        · exact hk.elim
      · exact hk.elim
end
end Go.AM
