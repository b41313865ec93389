/-
  AM, part 23: regions whose order is drawn: in whatever order, they come to what they come to one behind the other.
-/
import Derived.Orders
import Derived.Test.YtfcigmcjgaipmaaDoorBMLift
namespace Go.AM
set_option linter.unusedSectionVars false
variable [Lay] [Dfr]

/-- What an operation touches: slots and blocks. -/
structure Ft where
  rd : List Nat
  dst : Option Nat
  br : List Nat
  wb : List Nat

def tmpsOf : List Operand → List Nat
  | [] => []
  | .tmp t :: r => t :: tmpsOf r
  | _ :: r => tmpsOf r
def rdOf (E : Env) (ops : List Oper) (o : Oper) : List Nat :=
  tmpsOf ((opnds E o).map (·.2)) ++ (match o.op with | .call { callee := .value fv, .. } => tmpsOf [fv] | _ => []) ++
  (match o.guard with
   | some (j, _) => match ops[j]? with
     | some q => match q.dst with | some d => [d] | none => []
     | none => []
   | none => [])

def meetB : List Nat → List Nat → Bool
  | [], _ => false
  | x :: r, l => l.any (Nat.beq x) || meetB r l
def dstIn (d : Option Nat) (l : List Nat) : Bool := match d with | some d => l.any (Nat.beq d) | none => false
def dstEq (d e : Option Nat) : Bool := match d, e with | some d, some e => Nat.beq d e | _, _ => false

/-- Must two operations come in their order? -/
def clash (x y : Ft) : Bool :=
  dstIn x.dst y.rd || dstIn y.dst x.rd || dstEq x.dst y.dst || meetB x.wb y.br || meetB x.wb y.wb || meetB y.wb x.br

def bindL (o : Oper) : List Nat := (o.after.toList.filter (Region.binds .any)).map (·.on)
/-- Bits: which operations must have come. -/
def ancOf (acc : List Nat) : List Nat → Nat
  | [] => 0
  | e :: r => Nat.lor (Nat.lor (Nat.shiftLeft 1 e) (acc.getD e 0)) (ancOf acc r)
def ancs (acc : List Nat) : List Oper → List Nat
  | [] => acc
  | o :: r => ancs (acc ++ [ancOf acc (bindL o)]) r

def clashL (m : Nat) (y : Ft) : Nat → List Ft → Bool
  | _, [] => true
  | i, x :: r => (!(clash x y) || Nat.testBit m i) && clashL m y (i + 1) r
def clashesL (ms : List Nat) (all : List Ft) : Nat → List Ft → Bool
  | _, [] => true
  | j, y :: r => clashL (ms.getD j 0) y 0 (all.take j) && clashesL ms all (j + 1) r
def backL : Nat → List Oper → Bool
  | _, [] => true
  | i, o :: r => (bindL o).all (fun e => Nat.blt e i) && backL (i + 1) r

def dOK (ops : List Oper) (fts : List Ft) (B : Nat) : Bool :=
  backL 0 ops && clashesL (ancs [] ops) fts 0 fts && fts.all fun f => f.wb.all fun b => Nat.blt b B

/-- A call that comes to one thing, whatever else there is. -/
@[irreducible] def ICall (E : Env) (g : FuncId) (args : List AV) (br : List Nat) (h : Heap) (v : AV) (ws : List (Nat × AB)) : Prop :=
  ∀ h' : Heap, (∀ b ∈ br, hget h' b = hget h b) → ACall E g args h' (fun r h'' => r = .ret v ∧ h'' = hputs h' ws)

def allocs (o : Oper) : Bool :=
  match o.op with
  | .alloc _ => true
  | .box _ _ => true
  | .buildSlice _ _ _ => true
  | .makeSlice _ _ _ => true
  | .call { callee := .builtin .append, .. } => true
  | _ => false

def kputD (F : Fp) (d : Option Nat) (v : AV) (s : Slots) (K : Slots → Prop) : Prop :=
  match d with
  | some d => match Nat.blt d F.nt with
    | true => K ((d, v) :: s)
    | false => False
  | none => K s

/-- May an operation panic, in whatever order: all that writes comes ahead of it, and what stands behind it in the list comes behind it. -/
def pOK (E : Env) (ops : List Oper) (fs : List Ft) (o : Oper) (B : Nat) (h : Heap) : Bool :=
  backL 0 ops && dOK (ops.take (fs.length + 1)) (fs ++ [⟨rdOf E ops o, none, List.range B, []⟩]) B && Nat.ble h.length B && ((ancs [] ops).drop (fs.length + 1)).all fun m => Nat.testBit m fs.length

/-- One operation, in list order; what it touches is told. -/
def aOperD (E : Env) (F : Fp) (ops : List Oper) (B : Nat) (o : Oper) (s : Slots) (h : Heap) (K : Ft → Slots → Heap → Prop) (P : AV → Heap → Prop) : Prop :=
  match o.op with
  | .call { callee := .value fv, args := as, argTypes := ts } =>
    match Nat.beq as.size ts.size, ev E s 0 fv with
    | true, .fn (.func g) a c =>
      match E.raw.contains g with
      | true => nfLL (a ++ (argsA E s as.toList ts.toList ++ c)) fun vs => ∃ br v ws, ICall E g vs br h v ws ∧
          nfR v fun v => nfH (hputs h ws) fun h => kputD F o.dst v s fun s => K ⟨rdOf E ops o, o.dst, br, ws.map (·.1)⟩ s h
      | false => nfLL (a ++ (argsA E s as.toList ts.toList ++ c)) fun vs => nfLL (vs.map (res (hget h))) fun us =>
        nfH (hputs h (frz (hget h) (ownsOfVs vs))) fun h1 => (∃ br v ws, ICall E g us br h1 v ws ∧
          nfR v fun v => nfH (hputs h1 ws) fun h2 => kputD F o.dst v s fun s => K ⟨rdOf E ops o, o.dst, ownsOfVs vs ++ br, (frz (hget h) (ownsOfVs vs)).map (·.1) ++ ws.map (·.1)⟩ s h2) ∨
          (ownsOfVs vs = [] ∧ ∃ v h', ACall E g us h1 (fun r h'' => r = .panic v ∧ h'' = h') ∧ P v h')
    | _, _ => False
  | _ =>
    match allocs o with
    | true => nfN h.length fun b0 => match fOp E o s h b0 with
      | some ⟨v, ws, cs⟩ => andL cs (nfVV v fun v => nfH (hputs h ws) fun h' => kputD F o.dst v s fun s' => K ⟨rdOf E ops o, o.dst, refsOp o (evs E s (opnds E o)), b0 :: ws.map (·.1)⟩ s' h')
      | none => False
    | false => match fOp E o s h B with
      | some ⟨v, ws, cs⟩ => andL cs (nfVV v fun v => nfH (hputs h ws) fun h' => kputD F o.dst v s fun s' => K ⟨rdOf E ops o, o.dst, refsOp o (evs E s (opnds E o)), ws.map (·.1)⟩ s' h')
      | none => False

def drP (E : Env) (F : Fp) (ops : List Oper) (B : Nat) (X : AV → Heap → Prop) (o : Oper) (fts : List Ft) (h : Heap) (v : AV) (h' : Heap) : Prop :=
  match pOK E ops fts.reverse o B h && Nat.ble F.n0 h.length with
  | true => X v h'
  | false => False
def aDr (E : Env) (F : Fp) (ops : List Oper) (B : Nat) (K : Slots → Heap → Prop) (X : AV → Heap → Prop) : List Oper → List Ft → Slots → Heap → Prop
  | [], fts, s, h => match dOK ops fts.reverse B && Nat.ble h.length B with | true => K s h | false => False
  | o :: r, fts, s, h =>
    match o.guard with
    | none => aOperD E F ops B o s h (fun f => aDr E F ops B K X r (f :: fts)) (drP E F ops B X o fts h)
    | some (j, want) =>
      match guardOf ops s j with
      | some (d, v) =>
        match v, want with
        | .t, true => aOperD E F ops B o s h (fun f => aDr E F ops B K X r (f :: fts)) (drP E F ops B X o fts h)
        | .f, false => aOperD E F ops B o s h (fun f => aDr E F ops B K X r (f :: fts)) (drP E F ops B X o fts h)
        | .bool b, true => aIf b (aOperD E F ops B o ((d, .t) :: s) h (fun f => aDr E F ops B K X r (f :: fts)) (drP E F ops B X o fts h)) (kputD F o.dst undefA ((d, .f) :: s) fun s => aDr E F ops B K X r (⟨rdOf E ops o, o.dst, [], []⟩ :: fts) s h)
        | .bool b, false => aIf b (kputD F o.dst undefA ((d, .t) :: s) fun s => aDr E F ops B K X r (⟨rdOf E ops o, o.dst, [], []⟩ :: fts) s h) (aOperD E F ops B o ((d, .f) :: s) h (fun f => aDr E F ops B K X r (f :: fts)) (drP E F ops B X o fts h))
        | .t, false => kputD F o.dst undefA s fun s => aDr E F ops B K X r (⟨rdOf E ops o, o.dst, [], []⟩ :: fts) s h
        | .f, true => kputD F o.dst undefA s fun s => aDr E F ops B K X r (⟨rdOf E ops o, o.dst, [], []⟩ :: fts) s h
        | .tup [], _ => kputD F o.dst undefA s fun s => aDr E F ops B K X r (⟨rdOf E ops o, o.dst, [], []⟩ :: fts) s h
        | _, _ => False
      | none => False

section
variable {E : Env} {F : Fp} {w w' w0 : World} {I I' I0 : Nat → Nat → Prop} {h h0 h' h2 : Heap} {μ μ' μ0 : Nat → Option Nat} {a : Act} {s s' : Slots} {ops : Array Oper} {B : Nat}

/-! ### blocks by number -/

theorem hget_hput (v : AB) : ∀ (h : Heap) (b i : Nat), hget (hput h b v) i = if i = b then v else hget h i
  | [], 0, i => by cases i <;> simp [hput, hget]
  | [], b + 1, 0 => by simp [hput, hget]
  | [], b + 1, i + 1 => by
    have := hget_hput v [] b i
    simp only [hput, hget, List.getD_cons_succ] at *
    rw [this]
    simp
  | x :: r, 0, i => by cases i <;> simp [hput, hget]
  | x :: r, b + 1, 0 => by simp [hput, hget]
  | x :: r, b + 1, i + 1 => by
    have := hget_hput v r b i
    simp only [hput, hget, List.getD_cons_succ] at *
    rw [this]
    simp

theorem hget_hputs_ne : ∀ (ws : List (Nat × AB)) (h : Heap) (b : Nat), b ∉ ws.map (·.1) → hget (hputs h ws) b = hget h b
  | [], _, _, _ => rfl
  | (c, x) :: r, h, b, hb => by
    simp only [List.map_cons, List.mem_cons, not_or] at hb
    simp only [hputs]
    rw [hget_hputs_ne r _ b hb.2, hget_hput, if_neg hb.1]
theorem hget_hputs_eq : ∀ (ws : List (Nat × AB)) (h h' : Heap) (b : Nat), b ∈ ws.map (·.1) ∨ hget h b = hget h' b → hget (hputs h ws) b = hget (hputs h' ws) b
  | [], h, h', b, hb => by simpa [hputs] using hb
  | (c, x) :: r, h, h', b, hb => by
    simp only [hputs]
    apply hget_hputs_eq r
    rw [hget_hput, hget_hput]
    by_cases e : b = c
    · right; simp [e]
    · simp only [List.map_cons, List.mem_cons] at hb
      rcases hb with (hb | hb) | hb
      · exact absurd hb e
      · exact .inl hb
      · right; simp [e, hb]

theorem hputs_len : ∀ (ws : List (Nat × AB)) (h : Heap), (∀ p ∈ ws, p.1 < h.length) → (hputs h ws).length = h.length
  | [], _, _ => rfl
  | (c, x) :: r, h, hb => by
    simp only [hputs]
    have h1 := hput_lt x h c (hb (c, x) (by simp))
    rw [hputs_len r _ fun p hp => by rw [h1]; exact hb p (by simp [hp]), h1]

/-! ### holes -/

theorem Rep.holes (H : ∀ (b : Nat) (x : AB), h[b]? = some x → x ≠ .hole → h'[b]? = some x) {v : Value} {x : AV} (r : Rep w I h μ v x) : Rep w I h' μ v x := by
  have own : ∀ {t : Ty} {b : Nat} {full : Bool} {a : Option Addr} {m cap : Nat}, OwnAt w h μ t b full a m cap → OwnAt w h' μ t b full a m cap := by
    rintro t b full a m cap ⟨x, hx, h1, h2⟩
    exact ⟨x, H b x hx h1, h1, h2⟩
  have ptr : ∀ {b g : Nat}, PtrAt h μ b g → PtrAt h' μ b g := by
    rintro b g ⟨x, hx, h1, h2⟩
    exact ⟨x, H b x hx h1, h1, h2⟩
  induction r with
  | junk v => exact .junk v
  | t => exact .t
  | f => exact .f
  | bool b => exact .bool b
  | int k n => exact .int k n
  | str l => exact .str l
  | nilsl => exact .nilsl
  | sl t l full a n cap hr hf => exact .sl t l full a n cap hr hf
  | own t b full a n cap ho => exact .own t b full a n cap (own ho)
  | ptr b j g hp => exact .ptr b j g (ptr hp)
  | eptr t b i j g hp => exact .eptr t b i j g (ptr hp)
  | iptr t x j g o cs hr hcs => exact .iptr t x j g o cs hr hcs
  | nilptr => exact .nilptr
  | agg vs cs hl hcs ih => exact .agg vs cs hl ih
  | tup vs cs hl hcs ih => exact .tup vs cs hl ih
  | fn f as cs xs ys ha hb h1 h2 ih1 ih2 => exact .fn f as cs xs ys ha hb ih1 ih2
  | nilfn => exact .nilfn
  | iface t v x hv ih => exact .iface t v x ih
  | niliface => exact .niliface
  | mptr b g hp => exact .mptr b g (ptr hp)
  | fmap k v l g es c hi hg hd => exact .fmap k v l g es c hi hg hd

theorem Wr.holes (H : ∀ (b : Nat) (x : AB), h[b]? = some x → x ≠ .hole → h'[b]? = some x) {g o : Nat} (hw : Wr h μ g o) : Wr h' μ g o := by
  obtain ⟨i, hi, hx⟩ := hw
  refine ⟨i, hi, ?_⟩
  rcases hx with ⟨cs, hx⟩ | ⟨t, l, hx⟩ | ⟨t, l, hx, ho⟩ | ⟨kt, vt, l, hx⟩
  · exact .inl ⟨cs, H _ _ hx (by simp)⟩
  · exact .inr (.inl ⟨t, l, H _ _ hx (by simp)⟩)
  · exact .inr (.inr (.inl ⟨t, l, H _ _ hx (by simp), ho⟩))
  · exact .inr (.inr (.inr ⟨kt, vt, l, H _ _ hx (by simp)⟩))

theorem RelH.holes (H : ∀ (b : Nat) (x : AB), h[b]? = some x → x ≠ .hole → h'[b]? = some x) (H' : ∀ (b : Nat) (x : AB), h'[b]? = some x → x ≠ .hole → h[b]? = some x) (R : RelH w I μ h) : RelH w I μ h' := by
  have nl : ∀ {x : AB}, live x → x ≠ .hole := by rintro x l rfl; exact l
  refine ⟨fun i j x y g hi hj lx ly => R.inj i j x y g (H' i x hi (nl lx)) (H' j y hj (nl ly)) lx ly, fun i x g hi lx => R.lt i x g (H' i x hi (nl lx)) lx, fun i x hi => ?_, fun g o hi hw => R.disj g o hi (hw.holes H'), R.ilt, R.laid⟩
  cases x with
  | hole => trivial
  | gone => trivial
  | var cs =>
    obtain ⟨g, vs, e, h1, h2, h3, h4⟩ := R.blk i _ (H' i _ hi (by simp))
    exact ⟨g, vs, e, h1, h2, h3, fun k v c hv hc => (h4 k v c hv hc).holes H⟩
  | arr t l f => exact R.blk i _ (H' i _ hi (by simp))
  | mp kt vt l => exact R.blk i _ (H' i _ hi (by simp))

/-! ### what an operation needs, and what it does -/

def JOK (E : Env) (ops : Array Oper) (F : Fp) (B : Nat) (o : Oper) (s : Slots) (h : Heap) (v : AV) (ws : List (Nat × AB)) (f : Ft) : Prop :=
  (∀ d, o.dst = some d → d < F.nt) ∧ f.dst = o.dst ∧ (∀ p ∈ ws, p.1 ∈ f.wb) ∧
  ∀ (h2 : Heap) (w : World) (I : Nat → Nat → Prop) (μ : Nat → Option Nat) (a : Act), RelH w I μ h2 → h2.length = B → h.length ≤ B → (∀ b, b ∈ f.br ∨ b ∈ f.wb → hget h2 b = hget h b) → a.defers = Dfr.ds →
    (∀ d ∈ f.rd, Rep w I h2 μ (a.tmps.getD d undef) (lkp d s)) → ∀ (next : Act → World → Prop) (Q : Exit → Act → World → Prop),
    (∀ v' w' I' μ', Rep w' I' (hputs h2 ws) μ' v' v → RelH w' I' μ' (hputs h2 ws) → Fr w (Wr h2 μ) I w' (Wr (hputs h2 ws) μ') I' → HM h2 μ (hputs h2 ws) μ' → next (a.put o.dst v') w') →
    if Region.wanted o (yielded ops a.tmps) then o.wp E.P a w next Q ∨ (o.asks E.P a w ∧ LetsOut Q) else next (a.put o.dst undef) w

def restr (s : Slots) : List Nat → Slots
  | [] => []
  | d :: r => (d, lkp d s) :: restr s r
theorem lkp_restr (s : Slots) : ∀ (l : List Nat) (d : Nat), d ∈ l → lkp d (restr s l) = lkp d s
  | x :: r, d, hd => by
    simp only [restr, lkp]
    cases hb : Nat.beq d x with
    | true => obtain rfl := Nat.eq_of_beq_eq_true hb; rfl
    | false =>
      refine lkp_restr s r d ?_
      rcases List.mem_cons.1 hd with e | e
      · subst e; rw [Nat.beq_refl] at hb; cases hb
      · exact e
theorem lkp_restr_or (s : Slots) : ∀ (l : List Nat) (d : Nat), lkp d (restr s l) = .junk ∨ d ∈ l
  | [], d => .inl rfl
  | x :: r, d => by
    simp only [restr, lkp]
    cases hb : Nat.beq d x with
    | true => obtain rfl := Nat.eq_of_beq_eq_true hb; exact .inr (by simp)
    | false => exact (lkp_restr_or s r d).imp id fun h => by simp [h]

theorem ev_congr {s s' : Slots} {x : Operand} {t : TypeId} (hx : ∀ d, x = .tmp d → lkp d s' = lkp d s) : ev E s' t x = ev E s t x := by
  cases x with
  | tmp d => exact hx d rfl
  | _ => rfl
theorem evs_congr {s s' : Slots} : ∀ {l : List (TypeId × Operand)}, (∀ d, d ∈ tmpsOf (l.map (·.2)) → lkp d s' = lkp d s) → evs E s' l = evs E s l
  | [], _ => rfl
  | (t, x) :: r, hl => by
    simp only [evs]
    rw [ev_congr (fun d hd => hl d (by subst hd; simp [tmpsOf])), evs_congr (l := r) fun d hd => hl d (by cases x <;> simp [tmpsOf, hd])]
theorem argsA_congr {s s' : Slots} : ∀ {xs : List Operand} {ts : List TypeId}, (∀ d, d ∈ tmpsOf (((xs.zip ts).map fun p => ((p.2, p.1) : TypeId × Operand)).map (·.2)) → lkp d s' = lkp d s) → argsA E s' xs ts = argsA E s xs ts
  | x :: xs, t :: ts, hl => by
    simp only [argsA]
    rw [ev_congr (fun d hd => hl d (by subst hd; simp [tmpsOf])), argsA_congr (xs := xs) (ts := ts) fun d hd => hl d (by cases x <;> simp [tmpsOf] at hd ⊢ <;> simp [hd])]
  | [], _, _ => by cases ‹List TypeId› <;> rfl
  | _ :: _, [], _ => rfl

theorem viewOf_congr {h h2 : Heap} : ∀ {l : List Nat}, (∀ b ∈ l, hget h2 b = hget h b) → viewOf h2 l = viewOf h l
  | [], _ => rfl
  | b :: r, hl => by simp only [viewOf]; rw [hl b (by simp), viewOf_congr fun c hc => hl c (by simp [hc])]

theorem frz_congr {h h2 : Heap} : ∀ {l : List Nat}, (∀ b ∈ l, hget h2 b = hget h b) → frz (hget h2) l = frz (hget h) l
  | [], _ => rfl
  | b :: r, hl => by simp only [frz]; rw [hl b (by simp), frz_congr fun c hc => hl c (by simp [hc])]

theorem restr_srep {l : List Nat} (hr : ∀ d ∈ l, Rep w I h μ (a.tmps.getD d undef) (lkp d s)) : SRep w I h μ a (restr s l) := by
  intro i
  rcases lkp_restr_or s l i with e | e
  · rw [e]; exact .junk _
  · rw [lkp_restr s l i e]; exact hr i e

theorem guard_rd {o : Oper} {j : Nat} {want : Bool} {d : Nat} {x : AV} (hg : o.guard = some (j, want)) (hgo : guardOf ops.toList s j = some (d, x)) : d ∈ rdOf E ops.toList o ∧ x = lkp d s ∧ ∀ tmps : Array Value, yielded ops tmps j = (match tmps[d]? with | some (.bool b) => some b | _ => none) := by
  unfold guardOf at hgo
  split at hgo
  · rename_i q hq
    split at hgo
    · rename_i d' hd
      cases hgo
      refine ⟨?_, rfl, fun tmps => ?_⟩
      · simp only [rdOf, hg, hq, hd]; simp
      · have ho' : ops[j]? = some q := by simpa using hq
        simp only [yielded, ho', Option.bind_some, hd]
        rfl
    · cases hgo
  · cases hgo

/-- A plain operation. -/
theorem jok_plain (hE : EnvOK E) {o : Oper} {b0 : Nat} {fr : FR} {wb : List Nat} (hf : fOp E o s h b0 = some fr) (hc : ∀ c ∈ fr.cs, c.p) (hd : ∀ d, o.dst = some d → d < F.nt)
    (hwant : ∀ a : Act, (∀ w I μ h2, (∀ d ∈ rdOf E ops.toList o, Rep w I h2 μ (a.tmps.getD d undef) (lkp d s)) → Region.wanted o (yielded ops a.tmps) = true))
    (hb : (b0 = h.length ∧ b0 ∈ wb) ∨ b0 = B) (hws : ∀ p ∈ fr.ws, p.1 ∈ wb) : JOK E ops F B o s h fr.v fr.ws ⟨rdOf E ops.toList o, o.dst, refsOp o (evs E s (opnds E o)), wb⟩ := by
  refine ⟨hd, rfl, hws, fun h2 w I μ a R hl hle hag hnd hr next Q hn => ?_⟩
  rw [if_pos (hwant a w I μ h2 hr)]
  refine .inl ?_
  have hs := restr_srep (s := s) (a := a) hr
  have e1 : evs E (restr s (rdOf E ops.toList o)) (opnds E o) = evs E s (opnds E o) := evs_congr fun d hd => lkp_restr s _ d (by simp only [rdOf, List.mem_append]; exact .inl (.inl hd))
  have hf' : fOp E o (restr s (rdOf E ops.toList o)) h2 b0 = some fr := by
    unfold fOp at hf ⊢
    rw [e1, viewOf_congr (h := h) fun b hb => hag b (.inl hb)]
    exact hf
  have hhole : b0 ≤ h2.length ∧ (h2[b0]? = none ∨ h2[b0]? = some .hole) := by
    rcases hb with ⟨e, hm⟩ | e
    · refine ⟨by omega, ?_⟩
      have := hag b0 (.inr hm)
      rw [e] at this ⊢
      have e0 : hget h h.length = .hole := by simp [hget]
      rw [e0] at this
      cases hq : h2[h.length]? with
      | none => exact .inl rfl
      | some y =>
        right
        have := hget_eq hq
        simp_all
    · exact ⟨by omega, .inl (List.getElem?_eq_none_iff.2 (by omega))⟩
  obtain ⟨v', nx, w', I', μ', hrun, hnx, hrep, hR, hF, hM⟩ := fOp_sound hE R hhole.1 hhole.2 hs hf' hc
  unfold Oper.wp
  rw [hrun]
  rcases hnx with rfl | ⟨rfl, rfl⟩
  · exact hn _ _ _ _ hrep hR hF hM
  · exact hn _ _ _ _ hrep hR hF hM

/-- An operation that is not wanted. -/
theorem jok_skip {o : Oper} (hd : ∀ d, o.dst = some d → d < F.nt)
    (hwant : ∀ a : Act, (∀ w I μ h2, (∀ d ∈ rdOf E ops.toList o, Rep w I h2 μ (a.tmps.getD d undef) (lkp d s)) → Region.wanted o (yielded ops a.tmps) = false)) :
    JOK E ops F B o s h undefA [] ⟨rdOf E ops.toList o, o.dst, [], []⟩ := by
  refine ⟨hd, rfl, fun p hp => by simp at hp, fun h2 w I μ a R hl hle hag hnd hr next Q hn => ?_⟩
  rw [if_neg (by rw [hwant a w I μ h2 hr]; simp)]
  exact hn undef w I μ (.tup #[] [] rfl (fun i v c h1 _ => by simp at h1)) R (Fr.refl _ _ _) (HM.refl _ _)

/-- A call that comes to one thing. -/
theorem jok_call {dst : Option Tmp} {ty : TypeId} {pos : String} {aft : Array Edge} {gd : Option (Nat × Bool)} {fv : Operand} {as : Array Operand} {ts : Array TypeId} {g : FuncId} {xa xc us : List AV} {br owns : List Nat} {v : AV} {ws : List (Nat × AB)} (hd : ∀ d, dst = some d → d < F.nt)
    (hwant : ∀ a : Act, (∀ w I μ h2, (∀ d ∈ rdOf E ops.toList ⟨dst, .call { callee := .value fv, args := as, argTypes := ts }, ty, pos, aft, gd⟩, Rep w I h2 μ (a.tmps.getD d undef) (lkp d s)) → Region.wanted ⟨dst, .call { callee := .value fv, args := as, argTypes := ts }, ty, pos, aft, gd⟩ (yielded ops a.tmps) = true))
    (hsz : as.size = ts.size) (hev : ev E s 0 fv = .fn (.func g) xa xc)
    (hus : (owns = [] ∧ us = xa ++ (argsA E s as.toList ts.toList ++ xc)) ∨ (owns = ownsOfVs (xa ++ (argsA E s as.toList ts.toList ++ xc)) ∧ us = (xa ++ (argsA E s as.toList ts.toList ++ xc)).map (res (hget h))))
    (hcall : ICall E g us br (hputs h (frz (hget h) owns)) v ws) :
    JOK E ops F B ⟨dst, .call { callee := .value fv, args := as, argTypes := ts }, ty, pos, aft, gd⟩ s h v (frz (hget h) owns ++ ws)
      ⟨rdOf E ops.toList ⟨dst, .call { callee := .value fv, args := as, argTypes := ts }, ty, pos, aft, gd⟩, dst, owns ++ br, (frz (hget h) owns).map (·.1) ++ ws.map (·.1)⟩ := by
  refine ⟨hd, rfl, fun p hp => ?_, fun h2 w I μ a R hl hle hag hnd hr next Q hn => ?_⟩
  · rcases List.mem_append.1 hp with hp | hp
    · exact List.mem_append_left _ (List.mem_map.2 ⟨p, hp, rfl⟩)
    · exact List.mem_append_right _ (List.mem_map.2 ⟨p, hp, rfl⟩)
  rw [if_pos (hwant a w I μ h2 hr)]
  refine .inl ?_
  have hs := restr_srep (s := s) (a := a) hr
  generalize hrd : rdOf E ops.toList ⟨dst, .call { callee := .value fv, args := as, argTypes := ts }, ty, pos, aft, gd⟩ = rd at hs hr
  have inrd : ∀ d, (d ∈ tmpsOf [fv] ∨ d ∈ tmpsOf (((as.toList.zip ts.toList).map fun p => ((p.2, p.1) : TypeId × Operand)).map (·.2))) → d ∈ rd := by
    intro d hd
    rw [← hrd]
    simp only [rdOf, List.mem_append, opnds]
    rcases hd with hd | hd
    · exact .inl (.inr hd)
    · exact .inl (.inl hd)
  have e1 : ev E (restr s rd) 0 fv = .fn (.func g) xa xc := by
    rw [ev_congr (s := s) fun d hd => lkp_restr s _ d (inrd d (.inl (by subst hd; simp [tmpsOf])))]
    exact hev
  have e2 : argsA E (restr s rd) as.toList ts.toList = argsA E s as.toList ts.toList := argsA_congr fun d hd => lkp_restr s _ d (inrd d (.inr hd))
  have rf := ev_rep (E := E) hs 0 fv
  rw [e1] at rf
  obtain ⟨fa, fc, hfv, hcr⟩ : ∃ fa fc, a.eval fv = .func (.func g) fa fc ∧ CRep w I h2 μ (fa ++ as.map a.eval ++ fc).toList (xa ++ (argsA E s as.toList ts.toList ++ xc)) := by
    generalize hq : a.eval fv = q at rf
    cases rf with
    | fn _ fa fc _ _ ha hb h1 h2 =>
      refine ⟨fa, fc, rfl, ?_⟩
      have e1 : CRep w I _ μ fa.toList xa := ⟨by simpa using ha, fun k v c e1 e2 => h1 k v c (by simpa using e1) e2⟩
      have e2' : CRep w I _ μ fc.toList xc := ⟨by simpa using hb, fun k v c e1 e2 => h2 k v c (by simpa using e1) e2⟩
      have e3 := argsA_rep (E := E) hs as.toList ts.toList (by simpa using hsz)
      rw [e2] at e3
      have := e1.app (e3.app e2')
      simpa [Array.toList_append] using this
  have hfz : frz (hget h2) owns = frz (hget h) owns := frz_congr fun b hb => hag b (.inl (List.mem_append_left _ hb))
  obtain ⟨I1, R1, F1, M1, _, hfzd, _⟩ := frz_ok owns I h2 R (show GOKf (hget h2) h2 from fun b => .inl rfl)
  rw [hfz] at R1 F1 M1 hfzd
  have hcr1 := hcr.step' R F1 M1
  have hcr2 : CRep w I1 (hputs h2 (frz (hget h) owns)) μ (fa ++ as.map a.eval ++ fc).toList us := by
    rcases hus with ⟨rfl, rfl⟩ | ⟨ho, rfl⟩
    · exact hcr1
    · refine ⟨by simpa using hcr1.1, fun k v c e1 e2 => ?_⟩
      rw [List.getElem?_map] at e2
      cases hq : (xa ++ (argsA E s as.toList ts.toList ++ xc))[k]? with
      | none => rw [hq] at e2; cases e2
      | some c0 =>
        rw [hq] at e2
        simp at e2
        subst e2
        refine res_rep R1 (hcr1.2 k v c0 e1 hq) fun b hb t l fr hg => hfzd b ?_ t l fr ?_
        · rw [ho]; exact mem_ownsOfVs _ c0 (List.mem_of_getElem? hq) b hb
        · rw [hag b (.inl (List.mem_append_left _ (by rw [ho]; exact mem_ownsOfVs _ c0 (List.mem_of_getElem? hq) b hb)))]; exact hg
  unfold ICall at hcall
  have hcall := hcall (hputs h2 (frz (hget h) owns)) fun b hb => hget_hputs_eq _ _ _ b (.inr (hag b (.inl (List.mem_append_right _ hb))))
  unfold ACall at hcall
  obtain ⟨hent, hcall⟩ := hcall
  unfold Oper.wp
  rw [exec_call hfv hent]
  rw [Oper.upon_enter]
  refine (hcall _ _ _ _ R1 hcr2).mono fun e w2 hp => ?_
  obtain ⟨r, h3, I2, μ2, ⟨rfl, rfl⟩, he, hR2, hF2, hM2⟩ := hp
  rw [← hputs_app] at he hR2 hF2 hM2
  cases e with
  | returned v' => exact hn v' w2 I2 μ2 he hR2 (F1.trans hF2) (M1.trans hM2)
  | panicked chain => exact he.elim
  | outgrown => exact he.elim

/-- A panic in a drawn region. -/
def PJ (E : Env) (ops : Array Oper) (o : Oper) (s : Slots) (h : Heap) (X : AV → Heap → Prop) : Prop :=
  ∀ (w : World) (I : Nat → Nat → Prop) (μ : Nat → Option Nat) (a : Act), RelH w I μ h → (∀ d ∈ rdOf E ops.toList o, Rep w I h μ (a.tmps.getD d undef) (lkp d s)) → ∀ (next : Act → World → Prop) (Q : Exit → Act → World → Prop),
    (∀ v' x w' I' μ' h', Rep w' I' h' μ' v' x → RelH w' I' μ' h' → Fr w (Wr h μ) I w' (Wr h' μ') I' → HM h μ h' μ' → X x h' → Q (.panic [{ v := v', recovered := false }]) a w') →
    if Region.wanted o (yielded ops a.tmps) then o.wp E.P a w next Q ∨ (o.asks E.P a w ∧ LetsOut Q) else next (a.put o.dst undef) w
theorem pj_call {dst : Option Tmp} {ty : TypeId} {pos : String} {aft : Array Edge} {gd : Option (Nat × Bool)} {fv : Operand} {as : Array Operand} {ts : Array TypeId} {g : FuncId} {xa xc : List AV} {v : AV} {h' : Heap} {X : AV → Heap → Prop}
    (hwant : ∀ a : Act, (∀ w I μ h2, (∀ d ∈ rdOf E ops.toList ⟨dst, .call { callee := .value fv, args := as, argTypes := ts }, ty, pos, aft, gd⟩, Rep w I h2 μ (a.tmps.getD d undef) (lkp d s)) → Region.wanted ⟨dst, .call { callee := .value fv, args := as, argTypes := ts }, ty, pos, aft, gd⟩ (yielded ops a.tmps) = true))
    (hsz : as.size = ts.size) (hev : ev E s 0 fv = .fn (.func g) xa xc) (hown : ownsOfVs (xa ++ (argsA E s as.toList ts.toList ++ xc)) = [])
    (hcall : ACall E g ((xa ++ (argsA E s as.toList ts.toList ++ xc)).map (res (hget h))) (hputs h (frz (hget h) (ownsOfVs (xa ++ (argsA E s as.toList ts.toList ++ xc))))) (fun r h'' => r = .panic v ∧ h'' = h')) (hX : X v h') :
    PJ E ops ⟨dst, .call { callee := .value fv, args := as, argTypes := ts }, ty, pos, aft, gd⟩ s h X := by
  intro w I μ a R hr next Q hn
  rw [if_pos (hwant a w I μ h hr)]
  refine .inl ?_
  rw [hown] at hcall
  have hcall : ACall E g ((xa ++ (argsA E s as.toList ts.toList ++ xc)).map (res (hget h))) h (fun r h'' => r = .panic v ∧ h'' = h') := hcall
  have hs := restr_srep (s := s) (a := a) hr
  generalize hrd : rdOf E ops.toList ⟨dst, .call { callee := .value fv, args := as, argTypes := ts }, ty, pos, aft, gd⟩ = rd at hs hr
  have inrd : ∀ d, (d ∈ tmpsOf [fv] ∨ d ∈ tmpsOf (((as.toList.zip ts.toList).map fun p => ((p.2, p.1) : TypeId × Operand)).map (·.2))) → d ∈ rd := by
    intro d hd
    rw [← hrd]
    simp only [rdOf, List.mem_append, opnds]
    rcases hd with hd | hd
    · exact .inl (.inr hd)
    · exact .inl (.inl hd)
  have e1 : ev E (restr s rd) 0 fv = .fn (.func g) xa xc := by
    rw [ev_congr (s := s) fun d hd => lkp_restr s _ d (inrd d (.inl (by subst hd; simp [tmpsOf])))]
    exact hev
  have e2 : argsA E (restr s rd) as.toList ts.toList = argsA E s as.toList ts.toList := argsA_congr fun d hd => lkp_restr s _ d (inrd d (.inr hd))
  have rf := ev_rep (E := E) hs 0 fv
  rw [e1] at rf
  obtain ⟨fa, fc, hfv, hcr⟩ : ∃ fa fc, a.eval fv = .func (.func g) fa fc ∧ CRep w I h μ (fa ++ as.map a.eval ++ fc).toList (xa ++ (argsA E s as.toList ts.toList ++ xc)) := by
    generalize hq : a.eval fv = q at rf
    cases rf with
    | fn _ fa fc _ _ ha hb h1 h2 =>
      refine ⟨fa, fc, rfl, ?_⟩
      have e1 : CRep w I _ μ fa.toList xa := ⟨by simpa using ha, fun k v c e1 e2 => h1 k v c (by simpa using e1) e2⟩
      have e2' : CRep w I _ μ fc.toList xc := ⟨by simpa using hb, fun k v c e1 e2 => h2 k v c (by simpa using e1) e2⟩
      have e3 := argsA_rep (E := E) hs as.toList ts.toList (by simpa using hsz)
      rw [e2] at e3
      have := e1.app (e3.app e2')
      simpa [Array.toList_append] using this
  have hcr2 : CRep w I h μ (fa ++ as.map a.eval ++ fc).toList ((xa ++ (argsA E s as.toList ts.toList ++ xc)).map (res (hget h))) := by
    refine ⟨by simpa using hcr.1, fun k v c e1 e2 => ?_⟩
    rw [List.getElem?_map] at e2
    cases hq : (xa ++ (argsA E s as.toList ts.toList ++ xc))[k]? with
    | none => rw [hq] at e2; cases e2
    | some c0 =>
      rw [hq] at e2
      simp at e2
      subst e2
      refine res_rep R (hcr.2 k v c0 e1 hq) fun b hb => ?_
      have := mem_ownsOfVs _ c0 (List.mem_of_getElem? hq) b hb
      rw [hown] at this
      cases this
  unfold ACall at hcall
  obtain ⟨hent, hcall⟩ := hcall
  unfold Oper.wp
  rw [exec_call hfv hent]
  rw [Oper.upon_enter]
  refine (hcall _ _ _ _ R hcr2).mono fun e w2 hp => ?_
  obtain ⟨r, h3, I2, μ2, ⟨rfl, rfl⟩, he, hR2, hF2, hM2⟩ := hp
  cases e with
  | returned v' => exact he.elim
  | panicked chain =>
    obtain ⟨v', rfl, he⟩ := he
    exact hn v' v w2 I2 μ2 _ he hR2 hF2 hM2 hX
  | outgrown => exact he.elim

theorem aOperD_ok (hE : EnvOK E) {o : Oper} {K : Ft → Slots → Heap → Prop} {P : AV → Heap → Prop} (hk : aOperD E F ops.toList B o s h K P)
    (hwant : ∀ a : Act, (∀ w I μ h2, (∀ d ∈ rdOf E ops.toList o, Rep w I h2 μ (a.tmps.getD d undef) (lkp d s)) → Region.wanted o (yielded ops a.tmps) = true)) :
    (∃ v ws f, JOK E ops F B o s h v ws f ∧ K f (sput s o.dst v) (hputs h ws)) ∨ (PJ E ops o s h P ∧ ∃ v h', P v h') := by
  have kp : ∀ {d : Option Nat} {v : AV} {K : Slots → Prop}, kputD F d v s K → (∀ e, d = some e → e < F.nt) ∧ K (sput s d v) := by
    intro d v K hk
    unfold kputD at hk
    cases d with
    | none => exact ⟨fun e he => (by cases he), hk⟩
    | some d =>
      simp only at hk
      cases hb : Nat.blt d F.nt with
      | true =>
        rw [hb] at hk
        refine ⟨fun e he => ?_, hk⟩
        cases he
        simp only [Nat.blt, Nat.ble_eq] at hb
        omega
      | false => rw [hb] at hk; exact hk.elim
  have plain : (match allocs o with
      | true => nfN h.length fun b0 => match fOp E o s h b0 with
        | some ⟨v, ws, cs⟩ => andL cs (nfVV v fun v => nfH (hputs h ws) fun h' => kputD F o.dst v s fun s' => K ⟨rdOf E ops.toList o, o.dst, refsOp o (evs E s (opnds E o)), b0 :: ws.map (·.1)⟩ s' h')
        | none => False
      | false => match fOp E o s h B with
        | some ⟨v, ws, cs⟩ => andL cs (nfVV v fun v => nfH (hputs h ws) fun h' => kputD F o.dst v s fun s' => K ⟨rdOf E ops.toList o, o.dst, refsOp o (evs E s (opnds E o)), ws.map (·.1)⟩ s' h')
        | none => False) → ∃ v ws f, JOK E ops F B o s h v ws f ∧ K f (sput s o.dst v) (hputs h ws) := by
    intro hk
    split at hk
    · rw [nfN_eq] at hk
      split at hk
      · rename_i v ws cs hf
        obtain ⟨hc, hk⟩ := andL_get hk
        rw [nfVV_eq, nfH_eq] at hk
        obtain ⟨hd, hk⟩ := kp hk
        exact ⟨v, ws, _, jok_plain hE hf hc hd hwant (.inl ⟨rfl, by simp⟩) (fun p hp => List.mem_cons_of_mem _ (List.mem_map.2 ⟨p, hp, rfl⟩)), hk⟩
      · exact hk.elim
    · split at hk
      · rename_i v ws cs hf
        obtain ⟨hc, hk⟩ := andL_get hk
        rw [nfVV_eq, nfH_eq] at hk
        obtain ⟨hd, hk⟩ := kp hk
        exact ⟨v, ws, _, jok_plain hE hf hc hd hwant (.inr rfl) (fun p hp => List.mem_map.2 ⟨p, hp, rfl⟩), hk⟩
      · exact hk.elim
  obtain ⟨dst, op, ty, pos, aft, gd⟩ := o
  cases op with
  | call c =>
    obtain ⟨cal, as, ts⟩ := c
    cases cal with
    | builtin b => exact .inl (plain hk)
    | invoke r m => exact .inl (plain hk)
    | value fv =>
      simp only [aOperD] at hk
      split at hk
      · rename_i g xa xc hsz hev
        have hsz : as.size = ts.size := Nat.eq_of_beq_eq_true hsz
        split at hk
        · rw [nfLL_eq] at hk
          obtain ⟨br, v, ws, hcall, hk⟩ := hk
          rw [nfR_eq, nfH_eq] at hk
          obtain ⟨hd, hk⟩ := kp hk
          exact .inl ⟨v, ws, _, jok_call (owns := []) (br := br) hd hwant hsz hev (.inl ⟨rfl, rfl⟩) hcall, hk⟩
        · rw [nfLL_eq, nfLL_eq, nfH_eq] at hk
          rcases hk with ⟨br, v, ws, hcall, hk⟩ | ⟨hown, v, h', hcall, hP⟩
          case inr => exact .inr ⟨pj_call hwant hsz hev hown hcall hP, v, h', hP⟩
          rw [nfR_eq, nfH_eq] at hk
          obtain ⟨hd, hk⟩ := kp hk
          refine .inl ⟨v, _, _, jok_call (br := br) hd hwant hsz hev (.inr ⟨rfl, rfl⟩) hcall, ?_⟩
          rw [hputs_app]
          exact hk
      · exact hk.elim
  | _ => exact .inl (plain hk)

structure St where
  o : Oper
  s : Slots
  h : Heap
  v : AV
  ws : List (Nat × AB)
  f : Ft

/-- Slots that are told more sharply. -/
def RefS (s s' : Slots) : Prop := ∀ (w : World) (I : Nat → Nat → Prop) (h : Heap) (μ : Nat → Option Nat) (d : Nat) (x : Value), Rep w I h μ x (lkp d s) → Rep w I h μ x (lkp d s')

inductive Run (E : Env) (ops : Array Oper) (F : Fp) (B : Nat) : List Oper → Slots → Heap → List St → Slots → Heap → Prop where
  | nil (s : Slots) (h : Heap) : Run E ops F B [] s h [] s h
  | cons (o : Oper) (r : List Oper) (s s' : Slots) (h : Heap) (v : AV) (ws : List (Nat × AB)) (f : Ft) (sts : List St) (sf : Slots) (hf : Heap) (href : RefS s s') (hj : JOK E ops F B o s' h v ws f)
      (hr : Run E ops F B r (sput s' o.dst v) (hputs h ws) sts sf hf) : Run E ops F B (o :: r) s h (⟨o, s', h, v, ws, f⟩ :: sts) sf hf

theorem refS_refl (s : Slots) : RefS s s := fun _ _ _ _ _ _ r => r
theorem refS_bool {d : Nat} {b : Bool} {x : AV} (hl : lkp d s = .bool b) (hx : (b = true ∧ x = .t) ∨ (b = false ∧ x = .f)) : RefS s ((d, x) :: s) := by
  intro w I h μ e v r
  simp only [lkp]
  cases hb : Nat.beq e d with
  | true =>
    obtain rfl := Nat.eq_of_beq_eq_true hb
    rw [hl] at r
    have hv := rep_bool r rfl
    rcases hx with ⟨rfl, rfl⟩ | ⟨rfl, rfl⟩
    · rw [hv]; exact .t
    · rw [hv]; exact .f
  | false => exact r

/-- A run up to a panic. -/
def PRun (E : Env) (ops : Array Oper) (F : Fp) (B : Nat) (X : AV → Heap → Prop) (l : List Oper) (fts : List Ft) (s : Slots) (h : Heap) : Prop :=
  ∃ (l1 : List Oper) (o : Oper) (r : List Oper) (sts : List St) (sf : Slots) (hf : Heap) (s' : Slots), l = l1 ++ o :: r ∧ Run E ops F B l1 s h sts sf hf ∧ RefS sf s' ∧ PJ E ops o s' hf X ∧ pOK E ops.toList (fts.reverse ++ sts.map (·.f)) o B hf = true ∧ F.n0 ≤ hf.length
theorem PRun.cons {E : Env} {ops : Array Oper} {F : Fp} {B : Nat} {X : AV → Heap → Prop} {o : Oper} {r : List Oper} {fts : List Ft} {s s' : Slots} {h : Heap} {v : AV} {ws : List (Nat × AB)} {f : Ft} (href : RefS s s') (hj : JOK E ops F B o s' h v ws f)
    (p : PRun E ops F B X r (f :: fts) (sput s' o.dst v) (hputs h ws)) : PRun E ops F B X (o :: r) fts s h := by
  obtain ⟨l1, o', r', sts, sf, hf, s2, rfl, h1, h2, h3, h4, h5⟩ := p
  exact ⟨o :: l1, o', r', _, sf, hf, s2, rfl, .cons o l1 s s' h v ws f sts sf hf href hj h1, h2, h3, by simpa using h4, h5⟩

theorem aDr_run (hE : EnvOK E) {K : Slots → Heap → Prop} {X : AV → Heap → Prop} : ∀ (l : List Oper) (fts : List Ft) (s : Slots) (h : Heap), aDr E F ops.toList B K X l fts s h →
    (∃ sts sf hf, Run E ops F B l s h sts sf hf ∧ dOK ops.toList (fts.reverse ++ sts.map (·.f)) B = true ∧ hf.length ≤ B ∧ K sf hf) ∨ PRun E ops F B X l fts s h
  | [], fts, s, h, hk => by
    simp only [aDr] at hk
    split at hk
    · rename_i hb
      simp only [Bool.and_eq_true] at hb
      exact .inl ⟨[], s, h, .nil s h, by simpa using hb.1, by simpa using hb.2, hk⟩
    · exact hk.elim
  | o :: r, fts, s, h, hk => by
    -- it runs
    have run : ∀ {s' : Slots}, RefS s s' → aOperD E F ops.toList B o s' h (fun f => aDr E F ops.toList B K X r (f :: fts)) (drP E F ops.toList B X o fts h) →
        (∀ a : Act, (∀ w I μ h2, (∀ d ∈ rdOf E ops.toList o, Rep w I h2 μ (a.tmps.getD d undef) (lkp d s')) → Region.wanted o (yielded ops a.tmps) = true)) →
        (∃ sts sf hf, Run E ops F B (o :: r) s h sts sf hf ∧ dOK ops.toList (fts.reverse ++ sts.map (·.f)) B = true ∧ hf.length ≤ B ∧ K sf hf) ∨ PRun E ops F B X (o :: r) fts s h := by
      intro s' hr hk hw
      rcases aOperD_ok hE hk hw with ⟨v, ws, f, hj, hk⟩ | ⟨hp, v0, k0, hP0⟩
      · rcases aDr_run hE r _ _ _ hk with ⟨sts, sf, hf, h1, h2, h3, h4⟩ | hp
        · exact .inl ⟨_, sf, hf, .cons o r s s' h v ws f sts sf hf hr hj h1, by simpa using h2, h3, h4⟩
        · exact .inr (hp.cons hr hj)
      · refine .inr ?_
        have hb : (pOK E ops.toList fts.reverse o B h && Nat.ble F.n0 h.length) = true := by
          unfold drP at hP0
          split at hP0
          · assumption
          · exact hP0.elim
        refine ⟨[], o, r, [], s, h, s', rfl, .nil s h, hr, fun w I μ a R hrd next Q hn => hp w I μ a R hrd next Q fun v' x w' I' μ' h' q1 q2 q3 q4 q5 => hn v' x w' I' μ' h' q1 q2 q3 q4 ?_, ?_, ?_⟩
        · unfold drP at q5
          rw [hb] at q5
          exact q5
        · simp only [Bool.and_eq_true] at hb
          simpa using hb.1
        · simp only [Bool.and_eq_true] at hb
          exact Nat.le_of_ble_eq_true hb.2
    have skip : ∀ {s' : Slots}, RefS s s' → (kputD F o.dst undefA s' fun s => aDr E F ops.toList B K X r (⟨rdOf E ops.toList o, o.dst, [], []⟩ :: fts) s h) →
        (∀ a : Act, (∀ w I μ h2, (∀ d ∈ rdOf E ops.toList o, Rep w I h2 μ (a.tmps.getD d undef) (lkp d s')) → Region.wanted o (yielded ops a.tmps) = false)) →
        (∃ sts sf hf, Run E ops F B (o :: r) s h sts sf hf ∧ dOK ops.toList (fts.reverse ++ sts.map (·.f)) B = true ∧ hf.length ≤ B ∧ K sf hf) ∨ PRun E ops F B X (o :: r) fts s h := by
      intro s' hr hk hw
      have hk' : (∀ d, o.dst = some d → d < F.nt) ∧ aDr E F ops.toList B K X r (⟨rdOf E ops.toList o, o.dst, [], []⟩ :: fts) (sput s' o.dst undefA) h := by
        unfold kputD at hk
        cases hd : o.dst with
        | none => rw [hd] at hk; exact ⟨fun e he => (by cases he), hk⟩
        | some d =>
          rw [hd] at hk
          simp only at hk
          cases hb : Nat.blt d F.nt with
          | true =>
            rw [hb] at hk
            refine ⟨fun e he => ?_, hk⟩
            have he : some d = some e := he
            injection he with he
            subst he
            exact Nat.le_of_ble_eq_true hb
          | false => rw [hb] at hk; exact hk.elim
      rcases aDr_run hE r _ _ _ hk'.2 with ⟨sts, sf, hf, h1, h2, h3, h4⟩ | hp
      · exact .inl ⟨_, sf, hf, .cons o r s s' h undefA [] _ sts sf hf hr (jok_skip hk'.1 hw) h1, by simpa using h2, h3, h4⟩
      · exact .inr (hp.cons hr (jok_skip hk'.1 hw))
    simp only [aDr] at hk
    split at hk
    · rename_i hg
      exact run (refS_refl s) hk fun a _ => by simp [Region.wanted, hg]
    · rename_i j want hg
      split at hk
      · rename_i d v hgo
        obtain ⟨hrd, hv, hy⟩ := guard_rd (E := E) hg hgo
        -- what the guard says, by what its slot bears
        have says : ∀ {s' : Slots} {c : Bool} (x : AV), bAnd x = some c → lkp d s' = x → ∀ a : Act, (∀ w I μ h2, (∀ e ∈ rdOf E ops.toList o, Rep w I h2 μ (a.tmps.getD e undef) (lkp e s')) → Region.wanted o (yielded ops a.tmps) = (some c == some want)) := by
          intro s' c x hx hl a w I μ h2 hr
          have h3 := rep_bool (hl ▸ hr d hrd) hx
          have h4 := hy a.tmps
          rw [getD_some h3] at h4
          simp only [Region.wanted, hg, h4]
        have hl0 : ∀ (x : AV), lkp d ((d, x) :: s) = x := fun x => by simp [lkp]
        split at hk
        · exact run (refS_refl s) hk (says .t rfl hv.symm)
        · exact run (refS_refl s) hk (says .f rfl hv.symm)
        · rename_i b
          obtain ⟨h1, h2⟩ := aIf_get hk
          cases hb : b with
          | true => exact run (refS_bool hv.symm (.inl ⟨hb, rfl⟩)) (h1 hb) (says .t rfl (hl0 _))
          | false => exact skip (refS_bool hv.symm (.inr ⟨hb, rfl⟩)) (h2 hb) (says .f rfl (hl0 _))
        · rename_i b
          obtain ⟨h1, h2⟩ := aIf_get hk
          cases hb : b with
          | true => exact skip (refS_bool hv.symm (.inl ⟨hb, rfl⟩)) (h1 hb) (says .t rfl (hl0 _))
          | false => exact run (refS_bool hv.symm (.inr ⟨hb, rfl⟩)) (h2 hb) (says .f rfl (hl0 _))
        · exact skip (refS_refl s) hk (says .t rfl hv.symm)
        · exact skip (refS_refl s) hk (says .f rfl hv.symm)
        · refine skip (refS_refl s) hk fun a w I μ h2 hr => ?_
          have h3 := hr d hrd
          rw [← hv] at h3
          have h4 := hy a.tmps
          have : yielded ops a.tmps j = none := by
            rw [h4]
            generalize hq : a.tmps.getD d undef = q at h3
            cases h3 with
            | tup vs _ hl hc =>
              rw [Array.getD_eq_getD_getElem?] at hq
              cases hq2 : a.tmps[d]? with
              | none => rfl
              | some v => rw [hq2] at hq; simp at hq; subst hq; rfl
          simp only [Region.wanted, hg, this]
          rfl
        · exact hk.elim
      · exact hk.elim
end
end Go.AM
