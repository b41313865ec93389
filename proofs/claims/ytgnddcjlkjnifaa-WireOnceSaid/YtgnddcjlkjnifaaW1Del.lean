import Derived.Test.YtgnddcjlkjnifaaW1Env
import Derived.Test.YtgnddcjlkjnifaaBMDel
import Derived.Shelf.RegionOpenPlain
import Derived.WalkKit
import Derived.Deep.LoopGhost
import Derived.Deep.RegionLaw
import Derived.Lib.Walk
import Derived.Lib.SliceRun
namespace Go.Proofs.Try
open Go.AM Go.RowKit Go.Lib Go.Shelf

set_option maxHeartbeats 4000000 in
set_option maxRecDepth 1000000 in
theorem del_flat (g n cap i j : Nat) (vs : Array Value) (e : TypeId) (w : World) (hga : CellsAt w g vs e) (hcap : n ≤ cap) (hroom : cap * 4 ≤ vs.size) (hij : i < j) (hj : j ≤ n)
    (hone : ∀ k v, k < n * 4 → vs[k]? = some v → v.oneCell' = true) (zc : Array Value) (hz : ∃ i z, prog.info? 33 = some i ∧ i.size = 4 ∧ i.zero = some z ∧ z.cells = zc) (hzc : zc.size = 4) (hzo : ∀ v ∈ zc.toList, v.oneCell' = true) (news zs : List Value) (hnews : news = (vs.toList.drop (j * 4)).take ((n - j) * 4)) (hzs : zs = (Builtin.zeroCells zc (j - i)).toList) :
    Calls prog 15 #[.slice (some ⟨g, 0, none⟩) n cap, .int .i64 i, .int .i64 j] w fun e w' => e = .returned (.slice (some ⟨g, 0, none⟩) (n - (j - i)) cap) ∧ w' = (w.drew.setCells g (i * 4) news).setCells g ((i + (n - j)) * 4) zs := by
  obtain ⟨⟨lo, hi⟩, hg, hfz⟩ := hga
  have hcell : ∀ k, w.drew.cell? ⟨g, k, none⟩ = vs[k]? := by
    intro k
    show w.cell? _ = _
    simp [World.cell?, hg]
  have hfrz : ∀ k, k < vs.size → w.drew.frozen? ⟨g, k, none⟩ = false := by
    intro k hk
    show w.frozen? _ = _
    unfold World.frozen?
    rw [hg]
    rcases hfz with hfz | hfz
    · cases hfz
      simp
    · have hfz : vs.size ≤ lo := hfz
      have : ¬ lo ≤ k := by omega
      simp only [this, decide_false, Bool.false_and]
  have hlen : news.length = (n - j) * 4 := by
    rw [hnews, List.length_take, List.length_drop]
    simp only [Array.length_toList]
    omega
  obtain ⟨A, hA, hsrc⟩ : ∃ A : Addr, (if cap = j then some (⟨g, 0, none⟩ : Addr) else some ⟨g, j * 4, none⟩) = some A ∧ Hid (∀ t u, news[t]? = some u → w.drew.cell? (A.add t) = some u) := by
    by_cases h : cap = j
    · refine ⟨⟨g, 0, none⟩, by simp [h], fun t u hu => ?_⟩
      have h0 : news.length = 0 := by rw [hlen]; omega
      rw [List.length_eq_zero_iff.1 h0] at hu
      simp at hu
    · refine ⟨⟨g, j * 4, none⟩, by simp [h], fun t u hu => ?_⟩
      rw [hnews, List.getElem?_take] at hu
      split at hu
      · rw [List.getElem?_drop] at hu
        rw [Addr.add_lit, hcell]
        simpa using hu
      · cases hu
  have s1 : Hid (news.length = (n - j) * 4) := hlen
  have s2 : Hid (∀ u ∈ news, u.oneCell' = true) := by
    intro u hu
    obtain ⟨t, ht⟩ := List.getElem?_of_mem hu
    rw [hnews, List.getElem?_take] at ht
    split at ht
    · rw [List.getElem?_drop] at ht
      exact hone (j * 4 + t) u (by omega) (by simpa using ht)
    · cases ht
  have s3 : Hid (∀ t, t < news.length → (w.drew.cell? ⟨g, 0 + i * 4 + t, none⟩).isSome = true ∧ w.drew.frozen? ⟨g, 0 + i * 4 + t, none⟩ = false) := by
    intro t ht
    rw [hlen] at ht
    refine ⟨?_, hfrz _ (by omega)⟩
    rw [hcell, Array.getElem?_eq_getElem (by omega)]
    rfl
  obtain ⟨W1, hW1⟩ : ∃ W1, W1 = w.drew.setCells g (0 + i * 4) news := ⟨_, rfl⟩
  have hcl : ∀ ty, (Builtin.clear_ #[24] ty #[.slice (some ⟨g, (i + (n - j)) * 4, none⟩) (n - (i + (n - j))) (cap - (i + (n - j)))]).run prog W1 = .ok (.tuple #[]) (W1.setCells g ((i + (n - j)) * 4) zs) := by
    intro ty
    have zl : zs.length = (j - i) * 4 := by rw [hzs]; simp [Builtin.zeroCells, hzc]
    have e1 : n - (i + (n - j)) = j - i := by omega
    have hc1 : ∀ t, t < zs.length → (W1.cell? ⟨g, (i + (n - j)) * 4 + t, none⟩).isSome = true := by
      intro t ht
      rw [hW1, World.cell?_setCells_out _ _ _ _ _ (fun _ _ => .inr (by simp only [hlen]; omega)), hcell, Array.getElem?_eq_getElem (by omega)]
      rfl
    have hf1 : ∀ t, t < zs.length → W1.frozen? ⟨g, (i + (n - j)) * 4 + t, none⟩ = false := by
      intro t ht
      rw [hW1, World.frozen?_setCells]
      exact hfrz _ (by omega)
    rw [hzs] at hc1 hf1 ⊢
    rw [e1]
    obtain ⟨i1, z, h1, h2, h3, h4⟩ := hz
    subst h4
    refine run_clearN W1 24 33 ty z underlying24 (fun w => by simp [zeroValue, typeInfo, h1, h3]) g _ (j - i) _ (by omega) ?_ hc1 hf1
    intro v hv
    simp only [Builtin.zeroCells, Array.toList_map, Array.toList_range, List.mem_map, List.mem_range] at hv
    obtain ⟨a, _, rfl⟩ := hv
    have hm : a % z.cells.size < z.cells.size := Nat.mod_lt _ (by omega)
    rw [getElem!_pos z.cells _ hm]
    exact hzo _ (by simp)
  have hW : Hid (W1 = w.drew.setCells g (0 + i * 4) news) := hW1
  clear hW1
  have hic : i ≤ cap := by omega
  have hjc : j ≤ cap := by omega
  clear hnews hlen
  obtain ⟨i0, _, hi0, hz1, _, _⟩ := hz
  have mixed : prog.follows .mixedOrders = true := envOK.mixed
  go_enter func15, ntmps15
  go_wp2_with fail
  go_region_law_o (refine step_append_room rfl (.tmp 22) (.tmp 25) 24 rfl 33 i0 4 underlying24 hi0 hz1 g 0 i cap (by simp [Act.eval, Act.put]) A (n - j) (cap - j) news (by simp [Act.eval, Act.put]) s1.out hsrc.out s2.out (by omega) s3.out ?_; rw [← hW.out])
  go_wp2
  go_ret
  refine ⟨by rw [show n - (j - i) = i + (n - j) by omega]; rfl, ?_⟩
  rw [hW.out, Nat.zero_add, hzs]
/-- A message. -/
abbrev tMsg : Ty := .pair (.int .i64) (.pair (.int .i64) (.pair .str (.int .i64)))

theorem cDel15 (l : List tMsg.den) (i j : Nat) (full : Bool) (hij : i < j) (hj : j ≤ l.length) :
    ACall E 15 [.own tMsg 0 full, .int .i64 i, .int .i64 j] [.arr tMsg l true] (fun r h' => r = .ret (.own tMsg 1 false) ∧ h' = [.gone, .arr tMsg (l.take i ++ l.drop j) true]) := by
  obtain ⟨_, _, i0, z, h1, h2, h3⟩ := envOK.ty 33 tMsg rfl
  have hr := h3 default (fun _ _ => False)
  refine ACall.delete tMsg z.cells ?_ (by simpa using hr.len) (fun g n cap i j vs e w h4 h5 h6 h7 h8 h9 => ?_) l i j full hij hj
  · exact ⟨_, func15, rfl, rfl⟩
  · obtain ⟨i1, h10, h11, _⟩ := envOK.info 33 rfl
    have h12 : some i0 = some i1 := h1.symm.trans h10
    injection h12 with h12
    subst h12
    exact del_flat g n cap i j vs e w h4 h5 h6 h7 h8 h9 z.cells ⟨i0, z, h1, h11, h2, rfl⟩ (by have := hr.len; rw [Array.length_toList] at this; exact this) hr.one _ _ rfl rfl
end Go.Proofs.Try
