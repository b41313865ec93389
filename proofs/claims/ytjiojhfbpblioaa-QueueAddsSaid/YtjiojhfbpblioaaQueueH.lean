import Derived.Test.YtjiojhfbpblioaaQueueG
namespace Go.Proofs.Try
open Go.AM

def renewN (q : Queue) (id token now span : Int) : Queue × Int := changeN q id (!([now, span].any out)) (lF token (fun _ => 0)) (lG token (renewG now span))
def markN (q : Queue) (id token point : Int) : Queue × Int := changeN q id true (lF token (markF point)) (lG token (markG point))
def doneN (q : Queue) (id token : Int) : Queue × Int := changeN q id true (lF token (fun _ => 0)) (lG token (stG 3))
def failN (q : Queue) (id token now : Int) (ever : Bool) : Queue × Int := changeN q id (!([now].any out)) (lF token (fun _ => 0)) (lG token (failG ever now))
def stopN (q : Queue) (id : Int) : Queue × Int := changeN q id true stopF stopG
def againN (q : Queue) (id : Int) : Queue × Int := changeN q id true (againF q) (againG q)

set_option maxRecDepth 100000 in
theorem c20 (q : Queue) (id token : Int) (hl : q.1.length ≤ 9223372036854775807) : ACall E 20 [queueV q, .int .i64 id, .int .i64 token] [] (fun r h' => r = .ret (.tup [queueV (doneN q id token).1, .int .i64 (doneN q id token).2]) ∧ h' = []) := by
  refine ACall.body envOK func20 rfl rfl rfl ?_
  conv => whnf
  refine ACall.use [] (c44d q id token true (fun _ => 0) (stG 3) hl (fun _ l i hi _ => c50 l i hi)) rfl trivial (by repeat' (first | exact trivial | exact rfl | exact .inl rfl | (exact .inr rfl) | refine And.intro ?_ ?_)) ?_
  conv => whnf
  refine ⟨[], _, _, ?_, rfl, rfl⟩
  repeat' (first | exact trivial | exact rfl | exact .inl rfl | (exact .inr rfl) | refine And.intro ?_ ?_)
set_option maxRecDepth 100000 in
theorem c17 (q : Queue) (id token point : Int) (hl : q.1.length ≤ 9223372036854775807) : ACall E 17 [queueV q, .int .i64 id, .int .i64 token, .int .i64 point] [] (fun r h' => r = .ret (.tup [queueV (markN q id token point).1, .int .i64 (markN q id token point).2]) ∧ h' = []) := by
  refine ACall.body envOK func17 rfl rfl rfl ?_
  conv => whnf
  refine ACall.use [1] (c44m q id token point true (markF point) (markG point) hl (fun _ l i hi _ => c46 point l i hi)) rfl (by repeat' (first | exact trivial | exact rfl | exact .inl rfl | refine And.intro ?_ ?_)) (by repeat' (first | exact trivial | exact rfl | exact .inl rfl | refine And.intro ?_ ?_)) ?_
  conv => whnf
  refine ⟨[], _, _, ?_, rfl, rfl⟩
  repeat' (first | exact trivial | exact rfl | exact .inl rfl | (exact .inr rfl) | refine And.intro ?_ ?_)
set_option maxRecDepth 100000 in
theorem c16 (q : Queue) (id token now span : Int) (hl : q.1.length ≤ 9223372036854775807) : ACall E 16 [queueV q, .int .i64 id, .int .i64 token, .int .i64 now, .int .i64 span] [] (fun r h' => r = .ret (.tup [queueV (renewN q id token now span).1, .int .i64 (renewN q id token now span).2]) ∧ h' = []) := by
  refine ACall.body envOK func16 rfl rfl rfl ?_
  conv => whnf
  refine ⟨_, _, _, ICall.use0 (c37 [now, span] true (by simp)) rfl, ?_⟩
  conv => whnf
  refine ⟨_, _, _, ICall.use [1, 2] (c44r q id token now span (!([now, span].any out)) (fun _ => 0) (renewG now span) hl (fun ht l i hi _ => by
    have h' : ([now, span].any out) = false := by simpa using ht
    simp only [List.any_cons, List.any_nil, Bool.or_false, Bool.or_eq_false_iff] at h'
    exact c45 now span l i hi (inT_of h'.1) (inT_of h'.2))) rfl (by repeat' (first | exact trivial | exact rfl | exact .inl rfl | refine And.intro ?_ ?_)) (by repeat' (first | exact trivial | exact rfl | exact .inl rfl | refine And.intro ?_ ?_)) rfl (fun _ => rfl), ?_⟩
  conv => whnf
  refine ⟨[], _, _, ?_, rfl, rfl⟩
  repeat' (first | exact trivial | exact rfl | exact .inl rfl | (exact .inr rfl) | refine And.intro ?_ ?_)
set_option maxRecDepth 100000 in
theorem c23 (q : Queue) (id token now : Int) (ever : Bool) (hl : q.1.length ≤ 9223372036854775807) : ACall E 23 [queueV q, .int .i64 id, .int .i64 token, .int .i64 now, .bool ever] [] (fun r h' => r = .ret (.tup [queueV (failN q id token now ever).1, .int .i64 (failN q id token now ever).2]) ∧ h' = []) := by
  refine ACall.body envOK func23 rfl rfl rfl ?_
  conv => whnf
  refine ⟨_, _, _, ICall.use0 (c37 [now] true (by simp)) rfl, ?_⟩
  conv => whnf
  refine ⟨_, _, _, ICall.use [2, 1] (c44f q id token ever now (!([now].any out)) (fun _ => 0) (failG ever now) hl (fun ht l i hi hm => by
    have h' : ([now].any out) = false := by simpa using ht
    simp only [List.any_cons, List.any_nil, Bool.or_false] at h'
    exact c53 ever now l i hi (inT_of h') (mayJ_iff hm).2.2.2.2.2.2.2.2.2.2)) rfl (by repeat' (first | exact trivial | exact rfl | exact .inl rfl | refine And.intro ?_ ?_)) (by repeat' (first | exact trivial | exact rfl | exact .inl rfl | refine And.intro ?_ ?_)) rfl (fun _ => rfl), ?_⟩
  conv => whnf
  refine ⟨[], _, _, ?_, rfl, rfl⟩
  repeat' (first | exact trivial | exact rfl | exact .inl rfl | (exact .inr rfl) | refine And.intro ?_ ?_)
set_option maxRecDepth 100000 in
theorem c21 (q : Queue) (id : Int) (hl : q.1.length ≤ 9223372036854775807) : ACall E 21 [queueV q, .int .i64 id] [] (fun r h' => r = .ret (.tup [queueV (stopN q id).1, .int .i64 (stopN q id).2]) ∧ h' = []) := by
  refine ACall.body envOK func21 rfl rfl rfl ?_
  conv => whnf
  refine ACall.use [] (c51s q id true stopF stopG hl (fun _ l i hi _ => c52 l i hi)) rfl trivial (by repeat' (first | exact trivial | exact rfl | exact .inl rfl | (exact .inr rfl) | refine And.intro ?_ ?_)) ?_
  conv => whnf
  refine ⟨[], _, _, ?_, rfl, rfl⟩
  repeat' (first | exact trivial | exact rfl | exact .inl rfl | (exact .inr rfl) | refine And.intro ?_ ?_)
set_option maxRecDepth 100000 in
theorem c24 (q : Queue) (id : Int) (hl : q.1.length ≤ 9223372036854775807) : ACall E 24 [queueV q, .int .i64 id] [] (fun r h' => r = .ret (.tup [queueV (againN q id).1, .int .i64 (againN q id).2]) ∧ h' = []) := by
  refine ACall.body envOK func24 rfl rfl rfl ?_
  conv => whnf
  refine ACall.use [0] (c51a q q id true (againF q) (againG q) hl (fun _ l i hi _ => c55 q l i hi hl)) rfl (by repeat' (first | exact trivial | exact rfl | exact .inl rfl | refine And.intro ?_ ?_)) (by repeat' (first | exact trivial | exact rfl | exact .inl rfl | refine And.intro ?_ ?_)) ?_
  conv => whnf
  refine ⟨[], _, _, ?_, rfl, rfl⟩
  repeat' (first | exact trivial | exact rfl | exact .inl rfl | (exact .inr rfl) | refine And.intro ?_ ?_)
end Go.Proofs.Try
