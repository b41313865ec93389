import Derived.Test.YtfhcedpnofidnaaWireF
namespace Go.Proofs.Try
open Go.AM

theorem send0 : sendN ([], 0, 0) 3 [120] = (([(1, 3, [120], 0)], 1, 0), 1, 0) := rfl
theorem take0 : takeN ([(1, 3, [120], 0)], 1, 0) 0 = ([], 1, 0) := rfl
theorem takem0 : takeM ([(1, 3, [120], 0)], 1, 0) 0 = (1, 3, [120], 0) := by
  show elt tMsg [(1, 3, [120], 0)] 0 = _
  rw [eltM (show 0 < 1 from Nat.zero_lt_one)]
  rfl
theorem there0 : thereC ([(1, 3, [120], 0)], 1, 0) 0 = 0 := rfl

set_option maxRecDepth 100000 in
theorem c11 : ACall E 11 [] [] (fun r h' => r = .ret (.bool true) ∧ h' = []) := by
  refine ACall.body envOK func11 rfl rfl rfl ?_
  conv => whnf
  refine ACall.use [] (c7 ([], 0, 0) 3 [120] (by simp [okNet]) (by simp)) rfl trivial (by repeat' (first | exact trivial | exact rfl | exact .inl rfl | (exact .inr rfl) | refine And.intro ?_ ?_)) ?_
  rw [send0]
  conv => whnf
  refine ACall.use0 (c8 _ 0 (by simp [okNet])) rfl ?_
  rw [take0, takem0, there0]
  repeat' ((conv => whnf); refine aIf_beq (fun h => ?_) (fun h => absurd rfl h))
  conv => whnf
  refine ⟨[], _, _, ?_, rfl, rfl⟩
  repeat' (first | exact trivial | exact rfl | exact .inl rfl | (exact .inr rfl) | refine And.intro ?_ ?_)

def cutM (m : Msg) : Msg := (m.1, m.2.1, m.2.2.1.take 4100, m.2.2.2)
def fewN (n : Net) : Net := ((n.1.take 34).map cutM, n.2.1, n.2.2)
theorem take_min {α : Type} {l : List α} {k : Nat} : List.take (min (l.length : Int) (k : Int)).toNat l = l.take k := by
  rcases Nat.le_total l.length k with h | h
  · rw [List.take_of_length_le h, List.take_of_length_le (by omega)]
  · congr 1; omega
def cutAt (L : List Msg) (i : Nat) : List Msg := (L.take i).map cutM ++ L.drop i
theorem cutAt_len {L : List Msg} {i : Nat} : (cutAt L i).length = L.length := by simp [cutAt]; omega
theorem cutAt_elt {L : List Msg} {i : Nat} (hi : i < L.length) : elt tMsg (cutAt L i) i = elt tMsg L i := by
  rw [eltM hi, eltM (show i < (cutAt L i).length by rw [cutAt_len]; exact hi)]
  simp only [cutAt]
  rw [List.getElem_append_right (by simp; omega)]
  simp [Nat.min_eq_left (Nat.le_of_lt hi)]
theorem cutAt_set {L : List Msg} {i : Nat} (hi : i < L.length) : (cutAt L i).set i (cutM (elt tMsg L i)) = cutAt L (i + 1) := by
  have e : L.drop i = elt tMsg L i :: L.drop (i + 1) := by rw [List.drop_eq_getElem_cons hi, eltM hi]
  have e2 : L.take (i + 1) = L.take i ++ [elt tMsg L i] := by rw [eltM hi, List.take_succ_eq_append_getElem hi]
  have e3 : ((L.take i).map cutM).length = i := by simp; omega
  simp only [cutAt]
  rw [e, e2, List.set_append_right _ _ (by omega), e3, Nat.sub_self, List.set_cons_zero]
  simp
theorem cutAt_end {L : List Msg} {i : Nat} (hi : L.length ≤ i) : cutAt L i = L.map cutM := by
  simp [cutAt, List.take_of_length_le hi, List.drop_of_length_le hi]
set_option maxRecDepth 100000 in
theorem c13 (n : Net) (_hl : okNet n) : ACall E 13 [netV n] [] (fun r h' => r = .ret (netV (fewN n)) ∧ h' = []) := by
  refine ACall.body envOK func13 rfl rfl rfl ?_
  conv => whnf
  repeat' (refine And.intro ?_ ?_; (first | omega | exact rfl | exact And.intro (by omega) (by omega) | exact Or.inr Nat.zero_lt_one))
  conv => whnf
  have e1 : (List.drop (Int.toNat 0) (List.take (min (↑n.fst.length) (34 : Int)).toNat n.fst)) = n.1.take 34 := by
    show List.take (min (↑n.fst.length) (34 : Int)).toNat n.fst = _
    exact take_min (k := 34)
  rw [e1]
  conv => whnf
  have hl34 : (n.1.take 34).length ≤ 34 := by simp; omega
  refine And.intro (show sumOk (0 + (n.1.take 34).length) 40 from ⟨by omega, by omega⟩) ?_
  conv => whnf
  refine ⟨Nat, ⟨fun i => i ≤ (n.1.take 34).length, fun i => ([(1, .ptr 0 0), (2, .ptr 1 0), (16, .own tMsg 2 false), (17, .int .i64 ((n.1.take 34).length : Int)), (18, .int .i64 (i : Int))],
    [.var [.own tMsg 2 false, .int .i64 n.2.1, .int .i64 n.2.2], .var [.sl tMsg [] true, .int .i64 0, .int .i64 0], .arr tMsg (cutAt (n.1.take 34) i) true]), fun i => (n.1.take 34).length - i⟩, 0, [], [.old 0, .old 1, .old 3], ?_, ?_, fun i hi => ?_⟩
  · exact Nat.zero_le _
  · repeat' (first | exact trivial | exact rfl | exact .inl rfl | (exact .inr rfl) | refine And.intro ?_ ?_)
  · replace hi : i ≤ (n.1.take 34).length := hi
    have hr : (cutAt (n.1.take 34) i).length = (n.1.take 34).length := cutAt_len
    conv => whnf
    first | refine aIf_dec (fun h => ?_) (fun h => ?_) | refine aIf_beq (fun h => ?_) (fun h => ?_) | refine aIf_bne (fun h => ?_) (fun h => ?_) | refine aIf_not (fun h => ?_) (fun h => ?_) | refine aIf_mk (fun h => ?_) (fun h => ?_)
    · conv => whnf
      repeat' (refine And.intro ?_ ?_; (first | omega | exact rfl | exact And.intro (by omega) (by omega) | exact Or.inr Nat.zero_lt_one))
      conv => whnf
      have e1 : ((i : Int)).toNat = i := by omega
      rw [e1, cutAt_elt (by omega)]
      conv => whnf
      have hlt : i < (cutAt (n.1.take 34) i).length := by omega
      refine And.intro hlt ?_
      conv => whnf
      repeat' (refine And.intro ?_ ?_; (first | omega | exact rfl | exact And.intro (by omega) (by omega) | exact Or.inr Nat.zero_lt_one))
      conv => whnf
      refine And.intro hlt ?_
      conv => whnf
      refine ⟨i + 1, [], [.old 0, .old 1, .old 2], ?_, ?_, ?_⟩
      · show i + 1 ≤ (n.1.take 34).length
        omega
      · show (n.1.take 34).length - (i + 1) < (n.1.take 34).length - i
        omega
      · repeat' (first | exact trivial | exact rfl | exact .inl rfl | (exact .inr rfl) | refine And.intro ?_ ?_)
        · refine congrArg (fun l => AB.arr tMsg l true) ?_
          show (cutAt (n.1.take 34) i).set ((i : Int)).toNat ((elt tMsg (cutAt (n.1.take 34) i) ((i : Int)).toNat).1, (elt tMsg (cutAt (n.1.take 34) i) ((i : Int)).toNat).2.1,
            List.take (min ((elt tMsg (n.1.take 34) i).2.2.1.length : Int) 4100).toNat (elt tMsg (n.1.take 34) i).2.2.1, (elt tMsg (cutAt (n.1.take 34) i) ((i : Int)).toNat).2.2.2) = _
          have e5 : List.take (min ((elt tMsg (n.1.take 34) i).2.2.1.length : Int) 4100).toNat (elt tMsg (n.1.take 34) i).2.2.1 = List.take 4100 (elt tMsg (n.1.take 34) i).2.2.1 := take_min (k := 4100)
          rw [e1, cutAt_elt (by omega), e5]
          exact cutAt_set (by omega)
        · exact i64_at rfl (by omega)
    · conv => whnf
      rw [cutAt_end (by omega)]
      refine ⟨[], _, _, ?_, rfl, rfl⟩
      repeat' (first | exact trivial | exact rfl | exact .inl rfl | (exact .inr rfl) | refine And.intro ?_ ?_)
end Go.Proofs.Try
