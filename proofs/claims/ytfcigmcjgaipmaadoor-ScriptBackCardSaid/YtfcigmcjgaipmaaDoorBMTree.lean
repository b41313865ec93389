/-
  BM, part 27: what a piece of code comes to, as a tree: tests, conditions, calls, cuts (a loop, or where ways meet), ends. What holds of the tree holds of the code.
-/
import Derived.Test.YtfcigmcjgaipmaaDoorBMUse
namespace Go.AM
set_option linter.unusedSectionVars false
variable [Lay]

inductive Tr where
  | fail (why : Nat)
  | chk (c : DP) (t : Tr)
  | ite (b : Bool) (t e : Tr)
  | call (g : FuncId) (args : List AV) (h : Heap) (K : ARes → Heap → Tr)
  | icall (g : FuncId) (args : List AV) (h : Heap) (K : List Nat → AV → List (Nat × AB) → Tr) (X : AV → Heap → Tr)
  | cut (k : Nat) (s : Slots) (h : Heap) (K : AX → Slots → Heap → Tr)
  | pick (n : Nat) (K : Nat → Tr)
  | out (e : AX) (s : Slots) (h : Heap)

def kputT (F : Fp) (d : Option Nat) (v : AV) (s : Slots) (h : Heap) (K : Slots → Heap → Tr) : Tr :=
  match d with
  | some d => match Nat.blt d F.nt with
    | true => K ((d, v) :: s) h
    | false => .fail 1
  | none => K s h
def resT (F : Fp) (d : Option Nat) (s : Slots) (K : Slots → Heap → Tr) (X : AV → Slots → Heap → Tr) (r : ARes) (h : Heap) : Tr :=
  match r with
  | .ret v => nfR v fun v => nfH h fun h => kputT F d v s h K
  | .panic v => nfVV v fun v => X v s h
def chks : List DP → Tr → Tr
  | [], t => t
  | c :: r, t => .chk c (chks r t)

/-- A range over a map goes on, or is over. -/
def tNext (F : Fp) (d : Option Nat) (s : Slots) (h : Heap) (K : Slots → Heap → Tr) (b : Nat) (x : AB) : Tr :=
  match x with
  | .mp (.pair .bool k) v l => .ite l.tail.isEmpty (kputT F d (.tup [.f]) s h K) (.pick l.tail.length fun j => nfH (hput h b (.mp (.pair .bool k) v (itPut k v l j))) fun h => kputT F d (.tup [.t, .junk, .junk]) s h K)
  | _ => .fail 33

/-- One operation. -/
def tOper (E : Env) (F : Fp) (o : Oper) (s : Slots) (h : Heap) (K : Slots → Heap → Tr) (X : AV → Slots → Heap → Tr) : Tr :=
  match o.op with
  | .call { callee := .value fv, args := as, argTypes := ts } =>
    match Nat.beq as.size ts.size, ev E s 0 fv with
    | true, .fn (.func g) a c =>
      match E.raw.contains g with
      | true => nfLL (a ++ (argsA E s as.toList ts.toList ++ c)) fun vs => .call g vs h (resT F o.dst s K X)
      | false => nfLL (a ++ (argsA E s as.toList ts.toList ++ c)) fun vs => nfLL (vs.map (res (hget h))) fun ws =>
        nfH (hputs h (frz (hget h) (ownsOfVs vs))) fun h => .call g ws h (resT F o.dst s K X)
    | _, _ => .fail (1000 * o.dst.getD 999 + 2)
  | .panic x => match ev E s 0 x with
    | .iface t v => X (.iface t v) s h
    | _ => .fail (1000 * o.dst.getD 999 + 17)
  | _ =>
    nfN h.length fun b0 => match fOp E o s h b0 with
    | some ⟨v, ws, cs⟩ => chks cs (nfVV v fun v => nfH (hputs h ws) fun h => kputT F o.dst v s h K)
    | none => match nextT E o s with
      | some b => tNext F o.dst s h K b (hget h b)
      | none => .fail (1000 * o.dst.getD 999 + 3)

def tSplit (z : Int) (f : Int → Tr) : Nat → Tr
  | 0 => .fail 18
  | n + 1 => .ite (decide (z = Int.ofNat n)) (f (Int.ofNat n)) (tSplit z f n)
def tOpS (E : Env) (F : Fp) (o : Oper) (s : Slots) (h : Heap) (K : Slots → Heap → Tr) (X : AV → Slots → Heap → Tr) : Tr :=
  match splitIx E s o with
  | none => tOper E F o s h K X
  | some (d, k, z, n) => tSplit z (fun j => tOper E F o ((d, .int k j) :: s) h K X) n
def tOps (E : Env) (F : Fp) (ops : List Oper) (K : Slots → Heap → Tr) (X : AV → Slots → Heap → Tr) : List Oper → Slots → Heap → Tr
  | [], s, h => K s h
  | o :: r, s, h =>
    match o.guard with
    | none => tOpS E F o s h (tOps E F ops K X r) X
    | some (j, want) =>
      match guardOf ops s j with
      | some (d, v) =>
        match v, want with
        | .t, true => tOpS E F o s h (tOps E F ops K X r) X
        | .f, false => tOpS E F o s h (tOps E F ops K X r) X
        | .bool b, true => .ite b (tOpS E F o ((d, .t) :: s) h (tOps E F ops K X r) X) (kputT F o.dst undefA ((d, .f) :: s) h (tOps E F ops K X r))
        | .bool b, false => .ite b (kputT F o.dst undefA ((d, .t) :: s) h (tOps E F ops K X r)) (tOpS E F o ((d, .f) :: s) h (tOps E F ops K X r) X)
        | .t, false => kputT F o.dst undefA s h (tOps E F ops K X r)
        | .f, true => kputT F o.dst undefA s h (tOps E F ops K X r)
        | .tup [], _ => kputT F o.dst undefA s h (tOps E F ops K X r)
        | _, _ => .fail 4
      | none => .fail 5

def kputDT (F : Fp) (d : Option Nat) (v : AV) (s : Slots) (K : Slots → Tr) : Tr :=
  match d with
  | some d => match Nat.blt d F.nt with
    | true => K ((d, v) :: s)
    | false => .fail 6
  | none => K s

def tOperD (E : Env) (F : Fp) (ops : List Oper) (B : Nat) (o : Oper) (s : Slots) (h : Heap) (K : Ft → Slots → Heap → Tr) (P : AV → Heap → Tr) : Tr :=
  match o.op with
  | .call { callee := .value fv, args := as, argTypes := ts } =>
    match Nat.beq as.size ts.size, ev E s 0 fv with
    | true, .fn (.func g) a c =>
      match E.raw.contains g with
      | true => nfLL (a ++ (argsA E s as.toList ts.toList ++ c)) fun vs => .icall g vs h (fun br v ws =>
          nfR v fun v => nfH (hputs h ws) fun h => kputDT F o.dst v s fun s => K ⟨rdOf E ops o, o.dst, br, ws.map (·.1)⟩ s h) fun _ _ => .fail 31
      | false => nfLL (a ++ (argsA E s as.toList ts.toList ++ c)) fun vs => nfLL (vs.map (res (hget h))) fun us =>
        nfH (hputs h (frz (hget h) (ownsOfVs vs))) fun h1 => .icall g us h1 (fun br v ws =>
          nfR v fun v => nfH (hputs h1 ws) fun h2 => kputDT F o.dst v s fun s => K ⟨rdOf E ops o, o.dst, ownsOfVs vs ++ br, (frz (hget h) (ownsOfVs vs)).map (·.1) ++ ws.map (·.1)⟩ s h2) fun v h' => match ownsOfVs vs with | [] => P v h' | _ => .fail 30
    | _, _ => .fail (1000 * o.dst.getD 999 + 7)
  | _ =>
    match allocs o with
    | true => nfN h.length fun b0 => match fOp E o s h b0 with
      | some ⟨v, ws, cs⟩ => chks cs (nfVV v fun v => nfH (hputs h ws) fun h' => kputDT F o.dst v s fun s' => K ⟨rdOf E ops o, o.dst, refsOp o (evs E s (opnds E o)), b0 :: ws.map (·.1)⟩ s' h')
      | none => .fail (1000 * o.dst.getD 999 + 8)
    | false => match fOp E o s h B with
      | some ⟨v, ws, cs⟩ => chks cs (nfVV v fun v => nfH (hputs h ws) fun h' => kputDT F o.dst v s fun s' => K ⟨rdOf E ops o, o.dst, refsOp o (evs E s (opnds E o)), ws.map (·.1)⟩ s' h')
      | none => .fail (1000 * o.dst.getD 999 + 9)

def drT (E : Env) (F : Fp) (ops : List Oper) (B : Nat) (X : AV → Heap → Tr) (o : Oper) (fts : List Ft) (h : Heap) (v : AV) (h' : Heap) : Tr :=
  match pOK E ops fts.reverse o B h && Nat.ble F.n0 h.length with
  | true => X v h'
  | false => .fail 32
def tDr (E : Env) (F : Fp) (ops : List Oper) (B : Nat) (K : Slots → Heap → Tr) (X : AV → Heap → Tr) : List Oper → List Ft → Slots → Heap → Tr
  | [], fts, s, h => match dOK ops fts.reverse B && Nat.ble h.length B with | true => K s h | false => .fail 10
  | o :: r, fts, s, h =>
    match o.guard with
    | none => tOperD E F ops B o s h (fun f => tDr E F ops B K X r (f :: fts)) (drT E F ops B X o fts h)
    | some (j, want) =>
      match guardOf ops s j with
      | some (d, v) =>
        match v, want with
        | .t, true => tOperD E F ops B o s h (fun f => tDr E F ops B K X r (f :: fts)) (drT E F ops B X o fts h)
        | .f, false => tOperD E F ops B o s h (fun f => tDr E F ops B K X r (f :: fts)) (drT E F ops B X o fts h)
        | .bool b, true => .ite b (tOperD E F ops B o ((d, .t) :: s) h (fun f => tDr E F ops B K X r (f :: fts)) (drT E F ops B X o fts h)) (kputDT F o.dst undefA ((d, .f) :: s) fun s => tDr E F ops B K X r (⟨rdOf E ops o, o.dst, [], []⟩ :: fts) s h)
        | .bool b, false => .ite b (kputDT F o.dst undefA ((d, .t) :: s) fun s => tDr E F ops B K X r (⟨rdOf E ops o, o.dst, [], []⟩ :: fts) s h) (tOperD E F ops B o ((d, .f) :: s) h (fun f => tDr E F ops B K X r (f :: fts)) (drT E F ops B X o fts h))
        | .t, false => kputDT F o.dst undefA s fun s => tDr E F ops B K X r (⟨rdOf E ops o, o.dst, [], []⟩ :: fts) s h
        | .f, true => kputDT F o.dst undefA s fun s => tDr E F ops B K X r (⟨rdOf E ops o, o.dst, [], []⟩ :: fts) s h
        | .tup [], _ => kputDT F o.dst undefA s fun s => tDr E F ops B K X r (⟨rdOf E ops o, o.dst, [], []⟩ :: fts) s h
        | _, _ => .fail 11
      | none => .fail 12

abbrev TK := AX → Slots → Heap → Tr
def seqT (K : TK) (next : Slots → Heap → Tr) (e : AX) (s : Slots) (h : Heap) : Tr :=
  match e with
  | .normal => next s h
  | .exit i => K (.exit i) s h
  | .ret => K .ret s h
  | .panic v => K (.panic v) s h
def blockT (id : Nat) (K : TK) (e : AX) (s : Slots) (h : Heap) : Tr :=
  match e with
  | .normal => K .normal s h
  | .exit i => match Nat.beq i id with | true => K .normal s h | false => K (.exit i) s h
  | .ret => K .ret s h
  | .panic v => K (.panic v) s h
def drawT (n0 : Nat) (K : Slots → Heap → Tr) (s : Slots) (h : Heap) : Tr := match Nat.ble n0 h.length with | true => K s h | false => .fail 13

/-- How many places for a cut there are: each loop, and where each second piece begins. -/
def nC : Code → Nat
  | .seq a b => 1 + nC a + nC b
  | .cond _ a b => nC a + nC b
  | .block _ c => nC c
  | .loop c => 1 + nC c
  | _ => 0
def unroll (f : TK → Slots → Heap → Tr) : Nat → TK → Slots → Heap → Tr
  | 0, _, _, _ => .fail 14
  | n + 1, K, s, h => f (seqT K (unroll f n K)) s h

/-- cuts: the numbers at which the tree is cut; n: how often other loops go round at most. -/
def tCode (E : Env) (F : Fp) (cuts : List Nat) (n : Nat) : Nat → Code → TK → Slots → Heap → Tr
  | _, .skip, K, s, h => K .normal s h
  | k, .seq a b, K, s, h => tCode E F cuts n (k + 1) a (seqT K (match cuts.contains k with | true => fun s h => .cut k s h K | false => tCode E F cuts n (k + 1 + nC a) b K)) s h
  | k, .cond c a b, K, s, h =>
    match ev E s 0 c with
    | .t => tCode E F cuts n k a K s h
    | .f => tCode E F cuts n (k + nC a) b K s h
    | .bool t => .ite t (tCode E F cuts n k a K s h) (tCode E F cuts n (k + nC a) b K s h)
    | _ => .fail 15
  | k, .block id c, K, s, h => tCode E F cuts n k c (blockT id K) s h
  | k, .loop c, K, s, h => match cuts.contains k with | true => .cut k s h K | false => unroll (tCode E F cuts n (k + 1) c) n K s h
  | _, .exit i, K, s, h => K (.exit i) s h
  | _, .ret, K, s, h => K .ret s h
  | _, .region _ ops false, K, s, h => tOps E F ops.toList (K .normal) (fun v => K (.panic v)) ops.toList s h
  | _, .region _ ops true, K, s, h => tDr E F ops.toList (h.length + ops.size) (drawT F.n0 (K .normal)) (fun v h => nfVV v fun v => nfH h fun h => K (.panic v) [] h) ops.toList [] s h
  | _, _, _, _, _ => .fail 16

/-- What stands at a number: a loop's round (true), or the piece behind a place where ways meet; the number of its first place. -/
def pieceAt : Nat → Nat → Code → Option (Bool × Nat × Code)
  | k, i, .seq a b => match Nat.beq k i with
    | true => some (false, i + 1 + nC a, b)
    | false => match Nat.blt k (i + 1 + nC a) with
      | true => pieceAt k (i + 1) a
      | false => pieceAt k (i + 1 + nC a) b
  | k, i, .cond _ a b => match Nat.blt k (i + nC a) with
    | true => pieceAt k i a
    | false => pieceAt k (i + nC a) b
  | k, i, .block _ c => pieceAt k i c
  | k, i, .loop c => match Nat.beq k i with
    | true => some (true, i + 1, c)
    | false => pieceAt k (i + 1) c
  | _, _, _ => none
def codeOf : Bool × Nat × Code → Code
  | (true, _, c) => .loop c
  | (false, _, c) => c

/-! ### what holds of a tree -/

def Tr.holds (E : Env) (CO : Nat → Slots → Heap → (AX → Slots → Heap → Prop) → Prop) (fin : AX → Slots → Heap → Prop) : Tr → Prop
  | .fail _ => False
  | .chk c t => c.p ∧ t.holds E CO fin
  | .ite b t e => aIf b (t.holds E CO fin) (e.holds E CO fin)
  | .call g args h K => ACall E g args h fun r h' => (K r h').holds E CO fin
  | .icall g args h K X => (∃ br v ws, ICall E g args br h v ws ∧ (K br v ws).holds E CO fin) ∨ ∃ v h', ACall E g args h (fun r h'' => r = .panic v ∧ h'' = h') ∧ (X v h').holds E CO fin
  | .cut k s h K => CO k s h fun e s h => (K e s h).holds E CO fin
  | .pick n K => ∀ j, j < n → (K j).holds E CO fin
  | .out e s h => fin e s h

section
variable {E : Env} {F : Fp} {CO : Nat → Slots → Heap → (AX → Slots → Heap → Prop) → Prop} {fin : AX → Slots → Heap → Prop}

theorem kputT_holds {d : Option Nat} {v : AV} {s : Slots} {h : Heap} {K : Slots → Heap → Tr} {Kp : Slots → Heap → Prop} (hK : ∀ s h, (K s h).holds E CO fin → Kp s h)
    (hh : (kputT F d v s h K).holds E CO fin) : kput F d v s h Kp := by
  unfold kputT at hh
  unfold kput
  split at hh
  · split at hh
    · rename_i hb; simp only [hb]; exact hK _ _ hh
    · exact hh.elim
  · exact hK _ _ hh
theorem kputDT_holds {d : Option Nat} {v : AV} {s : Slots} {K : Slots → Tr} {Kp : Slots → Prop} (hK : ∀ s, (K s).holds E CO fin → Kp s)
    (hh : (kputDT F d v s K).holds E CO fin) : kputD F d v s Kp := by
  unfold kputDT at hh
  unfold kputD
  split at hh
  · split at hh
    · rename_i hb; simp only [hb]; exact hK _ hh
    · exact hh.elim
  · exact hK _ hh
theorem chks_holds : ∀ {cs : List DP} {t : Tr} {p : Prop}, (t.holds E CO fin → p) → (chks cs t).holds E CO fin → andL cs p := by
  have key : ∀ {cs : List DP} {t : Tr} {p : Prop}, (t.holds E CO fin → p) → (chks cs t).holds E CO fin → andM cs p := by
    intro cs
    induction cs with
    | nil => intro t p hp hh; exact hp hh
    | cons c r ih => intro t p hp hh; exact ⟨hh.1, ih hp hh.2⟩
  intro cs t p hp hh
  have := key hp hh
  unfold andL
  split <;> exact this

theorem resT_holds {d : Option Nat} {s : Slots} {K : Slots → Heap → Tr} {X : AV → Slots → Heap → Tr} {Kp : Slots → Heap → Prop} {Xp : AV → Slots → Heap → Prop} (hK : ∀ s h, (K s h).holds E CO fin → Kp s h)
    (hX : ∀ v s h, (X v s h).holds E CO fin → Xp v s h) (r : ARes) (h : Heap) (hh : (resT F d s K X r h).holds E CO fin) : aRes F d s Kp Xp r h := by
  unfold resT at hh
  unfold aRes
  cases r with
  | ret v =>
    simp only [nfR_eq, nfH_eq] at hh ⊢
    exact kputT_holds hK hh
  | panic v =>
    simp only [nfVV_eq] at hh
    exact hX _ _ _ hh

theorem nilT_next {o : Oper} {s : Slots} {h : Heap} {b : Nat} (hb : nextT E o s = some b) : nilT E o s h = none := by
  unfold nextT at hb
  split at hb
  · rename_i ho
    unfold nilT
    rw [ho]
  · cases hb
theorem tNext_holds {d : Option Nat} {s : Slots} {h : Heap} {K : Slots → Heap → Tr} {Kp : Slots → Heap → Prop} {b : Nat} {x : AB} (hK : ∀ s h, (K s h).holds E CO fin → Kp s h)
    (hh : (tNext F d s h K b x).holds E CO fin) : aStepIt F d s h Kp b x := by
  unfold tNext at hh
  unfold aStepIt
  split at hh
  · rename_i k v l
    obtain ⟨h1, h2⟩ := aIf_get hh
    refine ⟨fun e => kputT_holds hK (h1 (by rw [e]; rfl)), fun j hj => ?_⟩
    have hne : l.tail.isEmpty = false := by
      cases ht : l.tail with
      | nil => rw [ht] at hj; cases hj
      | cons => rfl
    have := h2 hne j hj
    simp only [nfH_eq] at this
    exact kputT_holds hK this
  · exact hh.elim

theorem tOper_holds {o : Oper} {s : Slots} {h : Heap} {K : Slots → Heap → Tr} {X : AV → Slots → Heap → Tr} {Kp : Slots → Heap → Prop} {Xp : AV → Slots → Heap → Prop} (hK : ∀ s h, (K s h).holds E CO fin → Kp s h)
    (hX : ∀ v s h, (X v s h).holds E CO fin → Xp v s h) (hh : (tOper E F o s h K X).holds E CO fin) : aOper E F o s h Kp Xp := by
  unfold tOper at hh
  unfold aOper
  split at hh
  · rename_i ho
    simp only [ho]
    split at hh
    · rename_i hq1 hq2
      simp only [hq1, hq2]
      split at hh
      · rename_i hr
        simp only [hr]
        simp only [nfLL_eq] at hh ⊢
        exact ACall.mono hh fun r h' hq => resT_holds hK hX r h' hq
      · rename_i hr
        simp only [hr]
        simp only [nfLL_eq, nfH_eq] at hh ⊢
        exact ACall.mono hh fun r h' hq => resT_holds hK hX r h' hq
    · exact hh.elim
  · rename_i ho
    simp only [ho]
    split at hh
    · rename_i hq; simp only [hq]; exact hX _ _ _ hh
    · exact hh.elim
  · simp only [nfN_eq] at hh ⊢
    split at hh
    · rename_i he
      rw [he]
      refine chks_holds (fun hh => ?_) hh
      simp only [nfVV_eq, nfH_eq] at hh ⊢
      exact kputT_holds hK hh
    · rename_i he
      rw [he]
      split at hh
      · rename_i b hb
        simp only [nilT_next hb, hb]
        exact tNext_holds hK hh
      · exact hh.elim

theorem tSplit_holds {z : Int} {f : Int → Tr} {g : Int → Prop} (hf : ∀ j, (f j).holds E CO fin → g j) : ∀ {n : Nat}, (tSplit z f n).holds E CO fin → aSplit z g n
  | 0, h => h.elim
  | _ + 1, h => aIf_mk (fun e => hf _ ((aIf_get h).1 e)) (fun e => tSplit_holds hf ((aIf_get h).2 e))
theorem tOpS_holds {o : Oper} {s : Slots} {h : Heap} {K : Slots → Heap → Tr} {X : AV → Slots → Heap → Tr} {Kp : Slots → Heap → Prop} {Xp : AV → Slots → Heap → Prop} (hK : ∀ s h, (K s h).holds E CO fin → Kp s h)
    (hX : ∀ v s h, (X v s h).holds E CO fin → Xp v s h) (hh : (tOpS E F o s h K X).holds E CO fin) : aOpS E F o s h Kp Xp := by
  unfold tOpS at hh
  unfold aOpS
  split at hh
  · rename_i hs; rw [hs]; exact tOper_holds hK hX hh
  · rename_i hs; rw [hs]; exact tSplit_holds (fun j hj => tOper_holds hK hX hj) hh

theorem tOps_holds {ops : List Oper} {K : Slots → Heap → Tr} {X : AV → Slots → Heap → Tr} {Kp : Slots → Heap → Prop} {Xp : AV → Slots → Heap → Prop} (hK : ∀ s h, (K s h).holds E CO fin → Kp s h)
    (hX : ∀ v s h, (X v s h).holds E CO fin → Xp v s h) : ∀ (l : List Oper) (s : Slots) (h : Heap), (tOps E F ops K X l s h).holds E CO fin → aOps E F ops Kp Xp l s h := by
  intro l
  induction l with
  | nil => intro s h hh; exact hK _ _ hh
  | cons o r ih =>
    intro s h hh
    unfold tOps at hh
    unfold aOps
    split at hh
    · rename_i hg; rw [hg]; exact tOpS_holds ih hX hh
    · rename_i j want hg
      rw [hg]
      split at hh
      · rename_i d v hgo
        simp only [hgo]
        split at hh
        · exact tOpS_holds ih hX hh
        · exact tOpS_holds ih hX hh
        · obtain ⟨h1, h2⟩ := aIf_get hh
          exact aIf_mk (fun e => tOpS_holds ih hX (h1 e)) (fun e => kputT_holds ih (h2 e))
        · obtain ⟨h1, h2⟩ := aIf_get hh
          exact aIf_mk (fun e => kputT_holds ih (h1 e)) (fun e => tOpS_holds ih hX (h2 e))
        · exact kputT_holds ih hh
        · exact kputT_holds ih hh
        · exact kputT_holds ih hh
        · exact hh.elim
      · exact hh.elim

theorem tOperD_holds {ops : List Oper} {B : Nat} {o : Oper} {s : Slots} {h : Heap} {K : Ft → Slots → Heap → Tr} {Kp : Ft → Slots → Heap → Prop} {P : AV → Heap → Tr} {Pp : AV → Heap → Prop} (hP : ∀ v h, (P v h).holds E CO fin → Pp v h) (hK : ∀ f s h, (K f s h).holds E CO fin → Kp f s h)
    (hh : (tOperD E F ops B o s h K P).holds E CO fin) : aOperD E F ops B o s h Kp Pp := by
  unfold tOperD at hh
  unfold aOperD
  split at hh
  · rename_i ho
    simp only [ho]
    split at hh
    · rename_i hq1 hq2
      simp only [hq1, hq2]
      split at hh
      · rename_i hr
        simp only [hr]
        simp only [nfLL_eq] at hh ⊢
        rcases hh with ⟨br, v, ws, hi, hh⟩ | ⟨_, _, _, hh⟩
        case inr => exact hh.elim
        refine ⟨br, v, ws, hi, ?_⟩
        simp only [nfR_eq, nfH_eq] at hh ⊢
        exact kputDT_holds (fun s => hK _ s _) hh
      · rename_i hr
        simp only [hr]
        simp only [nfLL_eq, nfH_eq] at hh ⊢
        rcases hh with ⟨br, v, ws, hi, hh⟩ | ⟨v, h', hi, hh⟩
        case inr =>
          split at hh
          · rename_i hown
            exact .inr ⟨hown, v, h', hi, hP _ _ hh⟩
          · exact hh.elim
        refine .inl ⟨br, v, ws, hi, ?_⟩
        simp only [nfR_eq] at hh ⊢
        exact kputDT_holds (fun s => hK _ s _) hh
    · exact hh.elim
  · split at hh
    · rename_i ha
      simp only [ha]
      simp only [nfN_eq] at hh ⊢
      split at hh
      · rename_i he
        rw [he]
        refine chks_holds (fun hh => ?_) hh
        simp only [nfVV_eq, nfH_eq] at hh ⊢
        exact kputDT_holds (fun s => hK _ s _) hh
      · exact hh.elim
    · rename_i ha
      simp only [ha]
      split at hh
      · rename_i he
        rw [he]
        refine chks_holds (fun hh => ?_) hh
        simp only [nfVV_eq, nfH_eq] at hh ⊢
        exact kputDT_holds (fun s => hK _ s _) hh
      · exact hh.elim

theorem tDr_holds {ops : List Oper} {B : Nat} {K : Slots → Heap → Tr} {Kp : Slots → Heap → Prop} {X : AV → Heap → Tr} {Xp : AV → Heap → Prop} (hX : ∀ v h, (X v h).holds E CO fin → Xp v h) (hK : ∀ s h, (K s h).holds E CO fin → Kp s h) :
    ∀ (l : List Oper) (fts : List Ft) (s : Slots) (h : Heap), (tDr E F ops B K X l fts s h).holds E CO fin → aDr E F ops B Kp Xp l fts s h := by
  intro l
  have hP : ∀ o fts h v h', (drT E F ops B X o fts h v h').holds E CO fin → drP E F ops B Xp o fts h v h' := by
    intro o fts h v h' hh
    unfold drT at hh
    unfold drP
    split at hh
    · rename_i hb; rw [hb]; exact hX _ _ hh
    · exact hh.elim
  induction l with
  | nil =>
    intro fts s h hh
    unfold tDr at hh
    unfold aDr
    split at hh
    · rename_i hb; rw [hb]; exact hK _ _ hh
    · exact hh.elim
  | cons o r ih =>
    intro fts s h hh
    unfold tDr at hh
    unfold aDr
    split at hh
    · rename_i hg; rw [hg]; exact tOperD_holds (hP o fts h) (fun f s h => ih _ s h) hh
    · rename_i j want hg
      rw [hg]
      split at hh
      · rename_i d v hgo
        simp only [hgo]
        split at hh
        · exact tOperD_holds (hP o fts h) (fun f s h => ih _ s h) hh
        · exact tOperD_holds (hP o fts h) (fun f s h => ih _ s h) hh
        · obtain ⟨h1, h2⟩ := aIf_get hh
          exact aIf_mk (fun e => tOperD_holds (hP o fts h) (fun f s h => ih _ s h) (h1 e)) (fun e => kputDT_holds (fun s => ih _ s _) (h2 e))
        · obtain ⟨h1, h2⟩ := aIf_get hh
          exact aIf_mk (fun e => kputDT_holds (fun s => ih _ s _) (h1 e)) (fun e => tOperD_holds (hP o fts h) (fun f s h => ih _ s h) (h2 e))
        · exact kputDT_holds (fun s => ih _ s _) hh
        · exact kputDT_holds (fun s => ih _ s _) hh
        · exact kputDT_holds (fun s => ih _ s _) hh
        · exact hh.elim
      · exact hh.elim
end
end Go.AM
