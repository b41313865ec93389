import Derived.Test.YtfhcedpnofidnaaWireA
namespace Go.Proofs.Try
open Go.AM

abbrev tNet : Ty := .pair (.sl tMsg) (.pair (.int .i64) (.int .i64))
abbrev netV (n : Net) : AV := .agg [.sl tMsg n.1 false, .int .i64 n.2.1, .int .i64 n.2.2]
abbrev msgV (m : Msg) : AV := .agg [.int .i64 m.1, .int .i64 m.2.1, .str m.2.2.1, .int .i64 m.2.2.2]
def okNet (n : Net) : Prop := n.1.length ≤ 9223372036854775807
def goodNet (n : Net) : Bool := rightNet n.1 n.2.1 n.2.2

theorem c12' (n : Net) (hl : okNet n) : ACall E 12 [netV n] [] (fun r h' => r = .ret (.bool (goodNet n)) ∧ h' = []) := c12 n.1 n.2.1 n.2.2 hl

set_option maxRecDepth 100000 in
theorem c18 (l : List Msg) (f : Bool) (hl : l.length ≤ 9223372036854775807) : ACall E 18 [.sl tMsg l f] [] (fun r h' => r = .ret (.sl tMsg l true) ∧ h' = []) := by
  refine ACall.body envOK func18 rfl rfl rfl ?_
  repeat' ((conv => whnf); refine And.intro (by omega) ?_)
  conv => whnf
  refine ⟨[], _, _, ?_, rfl, rfl⟩
  repeat' (first | exact trivial | exact rfl | exact .inl rfl | refine And.intro ?_ ?_)
  · simp
  · exact .inl (by simp)

def passNet (n : Net) (t : Int) : Net × Int :=
  if goodNet n = false ∨ t < 0 then (([], 0, 0), 1) else ((n.1, n.2.1, n.2.2 + min t (1099511627776 - n.2.2)), 0)

theorem goodNet_iff (n : Net) : goodNet n = true ↔ n.1.length ≤ 32 ∧ 0 ≤ n.2.1 ∧ n.2.1 ≤ 1099511627776 ∧ 0 ≤ n.2.2 ∧ n.2.2 ≤ 1099511627776 ∧ n.1.any (badMsg n.2.1 n.2.2) = false := by
  simp only [goodNet, rightNet, Bool.and_eq_true, decide_eq_true_eq, Bool.not_eq_true', and_assoc]

set_option maxRecDepth 100000 in
theorem c15 (n : Net) (t : Int) (hl : okNet n) (ht : -9223372036854775808 ≤ t ∧ t ≤ 9223372036854775807) : ACall E 15 [netV n, .int .i64 t] []
    (fun r h' => r = .ret (.tup [netV (passNet n t).1, .int .i64 (passNet n t).2]) ∧ h' = []) := by
  refine ACall.body envOK func15 rfl rfl rfl ?_
  conv => whnf
  refine ACall.use0 (c12' n hl) rfl ?_
  conv => whnf
  refine aIf_mk (fun h => ?_) (fun h => ?_)
  · have e : passNet n t = (([], 0, 0), 1) := by simp at h; simp [passNet, h]
    rw [e]
    conv => whnf
    refine ⟨[], _, _, ?_, rfl, rfl⟩
    repeat' (first | exact trivial | exact rfl | exact .inr rfl | refine And.intro ?_ ?_)
  · conv => whnf
    have hg : goodNet n = true := by simpa using h
    refine aIf_dec (fun h2 => ?_) (fun h2 => ?_)
    · have e : passNet n t = (([], 0, 0), 1) := by simp [passNet, h2]
      rw [e]
      conv => whnf
      refine ⟨[], _, _, ?_, rfl, rfl⟩
      repeat' (first | exact trivial | exact rfl | exact .inr rfl | refine And.intro ?_ ?_)
    · have e : passNet n t = ((n.1, n.2.1, n.2.2 + min t (1099511627776 - n.2.2)), 0) := by simp [passNet, h2, hg]
      rw [e]
      obtain ⟨g1, g2, g3, g4, g5, g6⟩ := (goodNet_iff n).1 hg
      conv => whnf
      refine ⟨[], _, _, ?_, rfl, rfl⟩
      repeat' (first | exact trivial | exact rfl | exact .inl rfl | refine And.intro ?_ ?_)
      have e2 : IntKind.i64.wrap (1099511627776 - n.2.2) = 1099511627776 - n.2.2 := i64_at rfl (by omega)
      show IntKind.i64.wrap (n.2.2 + min t (IntKind.i64.wrap (1099511627776 - n.2.2))) = _
      rw [e2]
      exact i64_at rfl (by omega)

/-- The places of messages that were sent so long ago. -/
def lateFrom (now t : Int) : Nat → List Msg → List Int
  | _, [] => []
  | i, m :: r => if now - m.2.2.2 ≥ t then (i : Int) :: lateFrom now t (i + 1) r else lateFrom now t (i + 1) r
theorem lateFrom_drop {now t : Int} {l : List Msg} {i : Nat} (hi : i < l.length) : lateFrom now t i (l.drop i) = if now - (elt tMsg l i).2.2.2 ≥ t then (i : Int) :: lateFrom now t (i + 1) (l.drop (i + 1)) else lateFrom now t (i + 1) (l.drop (i + 1)) := by
  rw [List.drop_eq_getElem_cons hi, lateFrom, eltM hi]
def lateNet (n : Net) (t : Int) : List Int := if goodNet n = false ∨ t < 0 then [] else lateFrom n.2.2 t 0 n.1

set_option maxRecDepth 100000 in
theorem c17 (n : Net) (t : Int) (hl : okNet n) (_ht : -9223372036854775808 ≤ t ∧ t ≤ 9223372036854775807) : ACall E 17 [netV n, .int .i64 t] []
    (fun r h' => r = .ret (.sl (.int .i64) (lateNet n t) false) ∧ h' = []) := by
  refine ACall.body envOK func17 rfl rfl rfl ?_
  conv => whnf
  refine ACall.use0 (c12' n hl) rfl ?_
  conv => whnf
  refine aIf_mk (fun h => ?_) (fun h => ?_)
  · have e : lateNet n t = [] := by simp at h; simp [lateNet, h]
    rw [e]
    conv => whnf
    refine ⟨[], _, _, ?_, rfl, rfl⟩
    repeat' (first | exact trivial | exact rfl | exact .inr rfl | refine And.intro ?_ ?_)
  · conv => whnf
    have hg : goodNet n = true := by simpa using h
    refine aIf_dec (fun h2 => ?_) (fun h2 => ?_)
    · have e : lateNet n t = [] := by simp [lateNet, h2]
      rw [e]
      conv => whnf
      refine ⟨[], _, _, ?_, rfl, rfl⟩
      repeat' (first | exact trivial | exact rfl | exact .inr rfl | refine And.intro ?_ ?_)
    · have e : lateNet n t = lateFrom n.2.2 t 0 n.1 := by simp [lateNet, h2, hg]
      rw [e]
      obtain ⟨g1, g2, g3, g4, g5, g6⟩ := (goodNet_iff n).1 hg
      conv => whnf
      refine ⟨Nat × List Int, ⟨fun x => x.1 ≤ n.1.length ∧ x.2.length ≤ x.1 ∧ lateFrom n.2.2 t 0 n.1 = x.2 ++ lateFrom n.2.2 t x.1 (n.1.drop x.1),
        fun x => ([(1, .int .i64 t), (2, .ptr 0 0), (5, .own (.int .i64) 1 false), (16, .sl tMsg n.1 false), (17, .int .i64 (n.1.length : Int)), (18, .int .i64 (x.1 : Int))], [.var [.sl tMsg n.1 false, .int .i64 n.2.1, .int .i64 n.2.2], .arr (.int .i64) x.2 true]), fun x => n.1.length - x.1⟩,
        (0, []), [], [.old 0, .emp (.int .i64)], ?_, ?_, fun x hx => ?_⟩
      · exact ⟨Nat.zero_le _, Nat.le_refl _, rfl⟩
      · repeat' (first | exact trivial | exact rfl | exact .inl rfl | refine And.intro ?_ ?_)
      · obtain ⟨hx1, hx2, hx3⟩ : x.1 ≤ n.1.length ∧ x.2.length ≤ x.1 ∧ lateFrom n.2.2 t 0 n.1 = x.2 ++ lateFrom n.2.2 t x.1 (n.1.drop x.1) := hx
        conv => whnf
        refine aIf_dec (fun h3 => ?_) (fun h3 => ?_)
        · conv => whnf
          refine And.intro (by omega) (And.intro (by omega) ?_)
          conv => whnf
          have e1 : ((x.1 : Int)).toNat = x.1 := by omega
          rw [e1]
          obtain ⟨b1, b2, b3, b4, b5, b6, b7⟩ := notBad_at (notBad g6 (i := x.1) (by omega))
          have hw : IntKind.i64.wrap (n.2.2 - (elt tMsg n.1 x.1).2.2.2) = n.2.2 - (elt tMsg n.1 x.1).2.2.2 := i64_at rfl (by omega)
          rw [hw]
          refine aIf_dec (fun h4 => ?_) (fun h4 => ?_)
          · conv => whnf
            refine And.intro (show sumOk (x.2.length + 1) 8 from ⟨by omega, by omega⟩) ?_
            conv => whnf
            refine ⟨(x.1 + 1, x.2 ++ [(x.1 : Int)]), [], [.old 0, .old 4], ⟨?_, ?_, ?_⟩, ?_, ?_⟩
            · show x.1 + 1 ≤ n.1.length
              omega
            · show (x.2 ++ [(x.1 : Int)]).length ≤ x.1 + 1
              simp; omega
            · show lateFrom n.2.2 t 0 n.1 = (x.2 ++ [(x.1 : Int)]) ++ lateFrom n.2.2 t (x.1 + 1) (n.1.drop (x.1 + 1))
              rw [hx3, lateFrom_drop (show x.1 < n.1.length by omega), if_pos h4]
              simp
            · show n.1.length - (x.1 + 1) < n.1.length - x.1
              omega
            · repeat' (first | exact trivial | exact rfl | exact .inl rfl | refine And.intro ?_ ?_)
              exact i64_at rfl (by omega)
          · conv => whnf
            refine ⟨(x.1 + 1, x.2), [], [.old 0, .old 1], ⟨?_, ?_, ?_⟩, ?_, ?_⟩
            · show x.1 + 1 ≤ n.1.length
              omega
            · show x.2.length ≤ x.1 + 1
              omega
            · show lateFrom n.2.2 t 0 n.1 = x.2 ++ lateFrom n.2.2 t (x.1 + 1) (n.1.drop (x.1 + 1))
              rw [hx3, lateFrom_drop (show x.1 < n.1.length by omega), if_neg h4]
            · show n.1.length - (x.1 + 1) < n.1.length - x.1
              omega
            · repeat' (first | exact trivial | exact rfl | exact .inl rfl | refine And.intro ?_ ?_)
              exact i64_at rfl (by omega)
        · conv => whnf
          have e2 : lateFrom n.2.2 t 0 n.1 = x.2 := by
            rw [hx3, List.drop_eq_nil_of_le (by omega)]
            simp [lateFrom]
          rw [e2]
          refine ⟨[], _, _, ?_, rfl, rfl⟩
          repeat' (first | exact trivial | exact rfl | exact .inl rfl | refine And.intro ?_ ?_)
end Go.Proofs.Try
