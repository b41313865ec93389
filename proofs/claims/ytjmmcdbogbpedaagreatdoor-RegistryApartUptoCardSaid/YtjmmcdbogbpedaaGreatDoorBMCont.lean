import Derived.Test.YtjmmcdbogbpedaaGreatDoorBa
namespace Go.AM
set_option linter.unusedVariables false
section
variable {A:Type} {B:A→Type}
def itO(F:(∀a,Option (B a))→∀a,Option (B a)):Nat→∀a,Option (B a)
 |0,_=>none
 |n+1,a=>F (itO F n) a
open Classical in
noncomputable def xw(F:(∀a,Option (B a))→∀a,Option (B a))(a:A):Option (B a):=
 if h: ∃n y,itO F n a=some y then some h.choose_spec.choose else none
theorem qhd{F:(∀a,Option (B a))→∀a,Option (B a)}{a:A}{y:B a}(h:xw F a=some y): ∃n,itO F n a=some y:=by
 unfold xw at h
 split at h
 ·rename_i he
  injection h with h
  exact⟨_,h▸he.choose_spec.choose_spec⟩
 ·cases h
theorem qbg{F:(∀a,Option (B a))→∀a,Option (B a)}{P: ∀a,B a→Prop}(step: ∀u,(∀a y,u a=some y→P a y)→∀a y,F u a=some y→P a y): ∀a y,xw F a=some y→P a y:=by
 intro a y h
 obtain⟨n,hn⟩:=qhd h
 have key: ∀n a y,itO F n a=some y→P a y:=by
  intro n
  induction n with
  |zero=>intro a y h;cases h
  |succ n ih=>intro a y h;exact step _ ih a y h
 exact key n a y hn
structure Cont {R:Type} (Φ:(∀a,Option (B a))→Option R):Prop where
 mono: ∀u v: ∀a,Option (B a),(∀a y,u a=some y→v a=some y)→∀r,Φ u=some r→Φ v=some r
 lim: ∀(u:Nat→∀a,Option (B a)),(∀n a y,u n a=some y→u (n+1) a=some y)→∀v: ∀a,Option (B a),(∀a y,v a=some y→∃n,u n a=some y)→∀r,Φ v=some r→∃n,Φ (u n)=some r
theorem qeu{u:Nat→∀a,Option (B a)}(hu: ∀n a y,u n a=some y→u (n+1) a=some y){n m:Nat}(h:n≤m){a:A}{y:B a}(hy:u n a=some y):u m a=some y:=by
 induction h with
 |refl=>exact hy
 |step _ ih=>exact hu _ _ _ ih
theorem qe7{F:(∀a,Option (B a))→∀a,Option (B a)}(hF: ∀a,Cont fun u=>F u a): ∀n a y,itO F n a=some y→itO F (n+1) a=some y
 |0,a,y,h=>by cases h
 |n+1,a,y,h=>(hF a).mono _ _ (qe7 hF n) y h
theorem k7{F:(∀a,Option (B a))→∀a,Option (B a)}(hF: ∀a,Cont fun u=>F u a)(a:A):xw F a=F (xw F) a:=by
 have up: ∀n a y,itO F n a=some y→xw F a=some y:=by
  intro n a y h
  have he: ∃n y,itO F n a=some y:=⟨n,y,h⟩
  unfold xw
  rw [dif_pos he]
  have h2:=he.choose_spec.choose_spec
  have m1:=qeu (qe7 hF) (Nat.le_max_left n he.choose) h
  have m2:=qeu (qe7 hF) (Nat.le_max_right n he.choose) h2
  rw [m1] at m2
  exact m2.symm
 apply Option.ext
 intro y
 constructor
 ·intro h
  obtain⟨n,hn⟩:=qhd h
  cases n with
  |zero=>cases hn
  |succ n=>exact(hF a).mono _ _ (up n) y hn
 ·intro h
  obtain⟨n,hn⟩:=(hF a).lim (itO F) (qe7 hF) (xw F) (fun a y h=>qhd h) y h
  exact up (n+1) a y hn
theorem Cont.const{R:Type}(o:Option R):Cont (B:=B) fun _=>o:=⟨fun _ _ _ _ h=>h,fun _ _ _ _ _ h=>⟨0,h⟩⟩
theorem Cont.app(a:A):Cont (B:=B) fun u=>u a:=⟨fun u v h r hr=>h a r hr,fun u hu v hv r hr=>hv a r hr⟩
theorem Cont.bind{R T:Type}{Φ:(∀a,Option (B a))→Option R}{Ψ:(∀a,Option (B a))→R→Option T}(h1:Cont Φ)(h2: ∀r,Cont fun u=>Ψ u r):Cont fun u=>Φ u>>=Ψ u:=by
 refine⟨fun u v hu r hr=> ?_,fun u hu v hv r hr=> ?_⟩
 ·obtain ⟨x, hx, hr⟩ := Option.bind_eq_some_iff.1 hr
  exact Option.bind_eq_some_iff.2 ⟨x,h1.mono u v hu x hx,(h2 x).mono u v hu r hr⟩
 ·obtain ⟨x, hx, hr⟩ := Option.bind_eq_some_iff.1 hr
  obtain⟨n,hn⟩:=h1.lim u hu v hv x hx
  obtain⟨m,hm⟩:=(h2 x).lim u hu v hv r hr
  refine⟨max n m,Option.bind_eq_some_iff.2 ⟨x, ?_, ?_⟩⟩
  ·exact h1.mono _ _ (fun a y hy=>qeu hu (Nat.le_max_left n m) hy) x hn
  ·exact(h2 x).mono _ _ (fun a y hy=>qeu hu (Nat.le_max_right n m) hy) r hm
theorem Cont.ite{R:Type}{c:Prop}[Decidable c]{Φ Ψ:(∀a,Option (B a))→Option R}(h1:Cont Φ)(h2:Cont Ψ):Cont fun u=>if c then Φ u else Ψ u:=by
 by_cases hc:c
 ·simp only [if_pos hc];exact h1
 ·simp only [if_neg hc];exact h2
theorem Cont.sum{R X Y:Type}{Φ:(∀a,Option (B a))→X→Option R}{Ψ:(∀a,Option (B a))→Y→Option R}{z:X⊕Y}(h1: ∀x,Cont fun u=>Φ u x)(h2: ∀y,Cont fun u=>Ψ u y):Cont fun u=>Sum.elim (Φ u) (Ψ u) z:=by
 cases z with
 |inl x=>exact h1 x
 |inr y=>exact h2 y
end
end Go.AM
