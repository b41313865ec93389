/-
  AM, part 4: each operation is as the abstract machine says.
-/
import Derived.Laws.Entries
import Derived.Laws.Slices
import Derived.Laws.Cells
import Derived.Laws.CopyRow
import Derived.Test.YtfcigmcjgaipmaaDoorBMRel
namespace Go.AM
set_option linter.unusedSectionVars false
variable [Lay]

def UDok (P : Program) (t : TypeId) : UD → Prop
  | .int k => P.underlying t = some (.int k)
  | .bool => P.underlying t = some .bool
  | .str => P.underlying t = some .string
  | .slice e => P.underlying t = some (.slice e)
  | .array n e => P.underlying t = some (.array n e)
  | .ptr e => P.underlying t = some (.pointer e)
  | .struct fs => ∃ fields, P.underlying t = some (.struct fields) ∧ fields.toList.map (fun f => (f.type, f.offset)) = fs
  | .map k v => P.underlying t = some (.map k v)
  | .other => ∃ d, P.underlying t = some d ∧ (match d with | .struct _ => False | .array _ _ => False | _ => True)

/-- A zero's cells, as values without addresses. -/
def ZRep (z : Value) (zs : List AV) : Prop :=
  z.cells.size = zs.length ∧ ∀ (k : Nat) (v : Value) (c : AV), z.cells[k]? = some v → zs[k]? = some c → ∀ w I h μ, Rep w I h μ v c

structure EnvOK (E : Env) : Prop where
  mixed : E.P.follows .mixedOrders = true
  knows : ∀ t, (E.ti t).kn = true ∨ E.ti t = default
  info : ∀ t, (E.ti t).kn = true → ∃ i, E.P.info? t = some i ∧ i.size = (E.ti t).size ∧ i.bytes = (E.ti t).bytes
  und : ∀ t, (E.ti t).kn = true → UDok E.P t (E.ti t).ud
  flds : ∀ t fs, (E.ti t).ud = .struct fs → ∀ p ∈ fs, (E.ti p.1).kn = true
  zero : ∀ t, (E.ti t).kn = true → (E.ti t).zero.length = (E.ti t).size → ∃ i z, E.P.info? t = some i ∧ i.zero = some z ∧ ZRep z (E.ti t).zero
  sl : ∀ t u, (E.ti t).ty = some (.sl u) → ∃ e, (E.ti t).ud = .slice e ∧ (E.ti e).ty = some u
  ty : ∀ t u, (E.ti t).ty = some u → (E.ti t).size = u.sz ∧ (E.ti t).kn = true ∧ ∃ i z, E.P.info? t = some i ∧ i.zero = some z ∧ ∀ w I, RD w I u u.zero z.cells.toList
  zsc : ∀ t u, (E.ti t).ty = some u → isScal u = true → ∃ i z, E.P.info? t = some i ∧ i.zero = some z ∧ ScalD u u.zero z
  eqs : ∀ t, t ∈ E.eqs → ∀ w I h μ xs ys as bs b, Rep w I h μ (.agg xs) (.agg as) → Rep w I h μ (.agg ys) (.agg bs) → eqT E (E.ti t).ud as bs = some b →
    ∀ op : BinOp, (op = .eql ∨ op = .neq) → ∀ x y, (eqGuard op t x y (.agg xs) (.agg ys)).run E.P w = .ok () w ∧ (Op.equal t (.agg xs) (.agg ys)).run E.P w = .ok b w
  tabs : ∀ p ∈ E.tabs, (p.1, p.2.2.map (Value.int p.2.1)) ∈ Lay.cells

theorem kn_size {ti : TI} (h : ti.size ≤ 1000000) : ti.kn = true := by simp [TI.kn, h]
theorem kn_ud {ti : TI} (h : ti.ud.isOther = false) : ti.kn = true := by simp [TI.kn, h]
/-- Zeros that fit are a known type's. -/
theorem kn_zero {E : Env} (h : ∀ t, (E.ti t).kn = true ∨ E.ti t = default) {t : TypeId} (hz : (E.ti t).zero.length = (E.ti t).size) : (E.ti t).kn = true := by
  rcases h t with e | e
  · exact e
  · rw [e] at hz
    exact absurd hz (by decide)

/-- The blocks that an operation is told of are the state's. -/
def GOK (g : Nat → AB) (h : Heap) : Prop := ∀ b, g b = hget h b ∨ g b = .hole

theorem look_ok (h : Heap) (rs : List Nat) : GOK (look (viewOf h rs)) h := by
  intro b
  induction rs with
  | nil => exact .inr rfl
  | cons r rs ih =>
    simp only [viewOf, look]
    split
    · rename_i he
      have : b = r := (Nat.eq_of_beq_eq_true he).symm
      subst this
      exact .inl rfl
    · exact ih

theorem hget_some {h : Heap} {b : Nat} {x : AB} (hb : hget h b = x) (hx : x ≠ .hole) : h[b]? = some x := by
  unfold hget at hb
  rw [List.getD_eq_getElem?_getD] at hb
  cases hq : h[b]? with
  | none => rw [hq] at hb; exact absurd hb.symm hx
  | some y => rw [hq] at hb; simp at hb; rw [hb]

theorem GOK.some {g : Nat → AB} {h : Heap} (G : GOK g h) {b : Nat} {x : AB} (hb : g b = x) (hx : x ≠ .hole) : h[b]? = some x := by
  rcases G b with e | e
  · exact hget_some (e.symm.trans hb) hx
  · exact absurd (hb.symm.trans e) hx

def OpOK (E : Env) (o : Oper) (ρ : Operand → Value) (w : World) (I : Nat → Nat → Prop) (h : Heap) (μ : Nat → Option Nat) (fr : FR) : Prop :=
  ∃ v' nx w' I' μ', (execOp ρ o).run E.P w = .ok nx w' ∧ (nx = .value v' ∨ (nx = .skip ∧ v' = undef)) ∧ Rep w' I' (hputs h fr.ws) μ' v' fr.v ∧
    RelH w' I' μ' (hputs h fr.ws) ∧ Fr w (Wr h μ) I w' (Wr (hputs h fr.ws) μ') I' ∧ HM h μ (hputs h fr.ws) μ'

theorem OpOK.quiet {E : Env} {o : Oper} {ρ : Operand → Value} {w : World} {I : Nat → Nat → Prop} {h : Heap} {μ : Nat → Option Nat} {fr : FR} (R : RelH w I μ h) (hw : fr.ws = [])
    (v' : Value) (hr : (execOp ρ o).run E.P w = .ok (.value v') w) (hv : Rep w I h μ v' fr.v) : OpOK E o ρ w I h μ fr := by
  refine ⟨v', _, w, I, μ, hr, .inl rfl, ?_, ?_, ?_, ?_⟩ <;> rw [hw] <;> simp only [hputs]
  · exact hv
  · exact R
  · exact Fr.refl _ _ _
  · exact HM.refl _ _

/-! ### what values are -/
section
variable {w : World} {I : Nat → Nat → Prop} {h : Heap} {μ : Nat → Option Nat}

theorem rep_int {v : Value} {k : IntKind} {n : Int} (r : Rep w I h μ v (.int k n)) : v = .int k n := by cases r; rfl
theorem rep_bool {v : Value} {x : AV} {b : Bool} (r : Rep w I h μ v x) (hb : bAnd x = some b) : v = .bool b := by
  cases r <;> simp [bAnd] at hb <;> subst hb <;> rfl
theorem rep_str {v : Value} {s : Str} (r : Rep w I h μ v (.str s)) : v = .string ⟨s.toArray⟩ := by cases r; rfl

theorem chk_some {b : Bool} {r : Option FR} {fr : FR} (hc : chk b r = some fr) : b = true ∧ r = some fr := by
  cases b with
  | true => exact ⟨rfl, hc⟩
  | false => cases hc

theorem str_size (s : Str) : (⟨s.toArray⟩ : ByteArray).size = s.length := by simp [ByteArray.size]

/-- The cells of data, one by one. -/
theorem RD.rep {t : Ty} {x : t.den} {cs : List Value} (r : RD w I t x cs) : ∀ (k : Nat) (v : Value) (c : AV), cs[k]? = some v → (cellsOf t x)[k]? = some c → Rep w I h μ v c := by
  induction r with
  | unit => intro k v c hv _; simp at hv
  | int k n => intro i v c hv hc; cases i with
    | zero => simp [cellsOf] at hv hc; subst hv; subst hc; exact .int _ _
    | succ i => simp at hv
  | bool b => intro i v c hv hc; cases i with
    | zero => simp [cellsOf] at hv hc; subst hv; subst hc; exact .bool _
    | succ i => simp at hv
  | str l => intro i v c hv hc; cases i with
    | zero => simp [cellsOf] at hv hc; subst hv; subst hc; exact .str _
    | succ i => simp at hv
  | pair a b x y cs ds hx hy ihx ihy =>
    intro i v c hv hc
    have hl : cs.length = (cellsOf a x).length := by
      rw [hx.len]
      clear ihx ihy hv hc hy
      induction hx with
      | pair a b x y cs ds hx hy ihx ihy => simp [cellsOf, Ty.sz, ihx, ihy]
      | val => rfl
      | _ => rfl
    simp only [cellsOf] at hc
    by_cases hi : i < cs.length
    · rw [List.getElem?_append_left hi] at hv
      rw [List.getElem?_append_left (by omega)] at hc
      exact ihx i v c hv hc
    · rw [List.getElem?_append_right (by omega)] at hv
      rw [List.getElem?_append_right (by omega)] at hc
      rw [← hl] at hc
      exact ihy _ v c hv hc
  | sl t l a cap cs hcap hel hat ih =>
    intro i v c hv hc
    cases i with
    | zero =>
      simp [cellsOf] at hv hc
      subst hv; subst hc
      exact .sl t l false a _ cap (.sl t l a cap cs hcap hel hat) (fun e => by cases e)
    | succ i => simp at hv
  | val k n s li lm cs ds hi hm ihi ihm =>
    intro i v c hv hc
    obtain ⟨a, m, cap, rfl⟩ : ∃ a m cap, cs = [.slice a m cap] := by cases hi; exact ⟨_, _, _, rfl⟩
    obtain ⟨a2, m2, cap2, rfl⟩ : ∃ a m cap, ds = [.slice a m cap] := by cases hm; exact ⟨_, _, _, rfl⟩
    simp only [cellsOf, GVal.kind, GVal.n, GVal.s, GVal.items, GVal.names] at hc
    match i, hv, hc with
    | 0, hv, hc => simp at hv hc; subst hv; subst hc; exact .int _ _
    | 1, hv, hc => simp at hv hc; subst hv; subst hc; exact .int _ _
    | 2, hv, hc => simp at hv hc; subst hv; subst hc; exact .str _
    | 3, hv, hc => simp at hv hc; subst hv; subst hc; exact .sl .val li false _ _ _ hi (fun e => by cases e)
    | 4, hv, hc => simp at hv hc; subst hv; subst hc; exact .sl .str lm false _ _ _ hm (fun e => by cases e)
    | i + 5, hv, hc => simp at hv

theorem cellsOf_len (t : Ty) (x : t.den) : (cellsOf t x).length = t.sz := by
  induction t with
  | pair a b iha ihb => simp [cellsOf, Ty.sz, iha, ihb]
  | val => rfl
  | _ => rfl

/-- Cells that are read at an address, as one value of a type. -/
theorem load_ok {E : Env} (hE : EnvOK E) {t : TypeId} (hs : (E.ti t).kn = true) {a : Addr} {cs : List Value} {as : List AV} {fr : FR}
    (hl : cs.length = (E.ti t).size) (hla : as.length = cs.length) (hc : ∀ j v, cs[j]? = some v → w.cell? (a.add j) = some v)
    (hr : ∀ (k : Nat) (v : Value) (c : AV), cs[k]? = some v → as[k]? = some c → Rep w I h μ v c) (hf : asVal (E.ti t) as = some fr) :
    ∃ v, (Instr.loadAt t (.pointer (some a))).run E.P w = .ok v w ∧ fr.ws = [] ∧ fr.cs = [] ∧ Rep w I h μ v fr.v := by
  obtain ⟨i, hi, hsz, _⟩ := hE.info t hs
  have hu := hE.und t hs
  unfold asVal at hf
  cases hag : (E.ti t).ud.isAgg with
  | true =>
    rw [hag] at hf
    simp only [Option.some.injEq] at hf
    subst hf
    refine ⟨.agg cs.toArray, ?_, rfl, rfl, ?_⟩
    · have hlc := run_loadCells_list (P := E.P) w a cs hc
      rw [hl, ← hsz] at hlc
      have hagg : (isAgg t).run E.P w = .ok true w := by
        unfold isAgg
        revert hu hag
        cases (E.ti t).ud <;> simp [UDok, UD.isAgg]
        · intro h1; simp [run_underlying h1]
        · intro x h1 h2; simp [run_underlying h1]
      simp [Instr.loadAt, Instr.sureAddr, loadVar, hagg, sizeOf, typeInfo, hi, hlc]
    · refine .agg _ _ (by simp [hla]) fun k v c hv hcc => hr k v c (by simpa using hv) hcc
  | false =>
    rw [hag] at hf
    simp only at hf
    split at hf
    · rename_i v0
      simp only [Option.some.injEq] at hf
      subst hf
      have h1 : cs.length = 1 := by simpa using hla.symm
      match cs, h1 with
      | [u], _ =>
        refine ⟨u, ?_, rfl, rfl, hr 0 u v0 rfl rfl⟩
        have hagg : (isAgg t).run E.P w = .ok false w := by
          unfold isAgg
          revert hu hag
          cases (E.ti t).ud with
          | other =>
            rintro ⟨d, hd, hn⟩ _
            rw [Sem.run_bind, run_underlying hd]
            cases d <;> first | (exact hn.elim) | simp
          | _ => simp [UDok, UD.isAgg] <;> (intro h1; simp [run_underlying h1])
        have h0 := hc 0 u rfl
        rw [show a.add 0 = a from by simp [Addr.add]] at h0
        simp [Instr.loadAt, Instr.sureAddr, loadVar, hagg, h0]
    · cases hf
end
end Go.AM
