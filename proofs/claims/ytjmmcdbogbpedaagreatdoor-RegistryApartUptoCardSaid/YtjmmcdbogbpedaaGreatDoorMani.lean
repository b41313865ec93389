import Derived.Test.YtjmmcdbogbpedaaGreatDoorPrn
import Derived.Test.YtjmmcdbogbpedaaGreatDoorFacts
namespace Go.Plain
open Go.AM
theorem q39:ku.length=64:=by decide
theorem qet(l:List Int):(jm l).length=l.length:=by simp [jm]
def wo(b:UInt8):Bool:=(decide (48≤b.toNat)&&decide (b.toNat≤57))||(decide (97≤b.toNat)&&decide (b.toNat≤102))
def qd7:Str:=[115,104,97,50,53,54,58]
def isD(s:Str):Bool:=decide (s.length=71)&&decide (s.take 7=qd7)&&(s.drop 7).all wo
theorem qkv: ∀n,n<16→wo (qqy n)=true:=by
  intro n h
  rcases n with _|_|_|_|_|_|_|_|_|_|_|_|_|_|_|_|n
  all_goals first|rfl|omega
theorem qv5(s:Str):(zr s).all wo=true:=by
  rw [List.all_eq_true]
  intro b hb
  unfold zr at hb
  obtain⟨x,_,hx⟩:=List.mem_flatMap.1 hb
  have hx2:=x.toNat_lt
  simp at hx
  rcases hx with rfl|rfl
  · exact qkv _ (by omega)
  · exact qkv _ (by omega)
end Go.Plain
namespace Go.Plain
open Go.AM
def qs0:Str:=[48,49,50,51,52,53,54,55,56,57,97,98,99,100,101,102]
theorem qe5 (b : UInt8) : ∃ k, jd (qs0, (b.toNat : Int)) = some k ∧ decide (k < 0) = !wo b := by
  unfold jd
  have e:((b.toNat:Int)).toNat.toUInt8=b:=by simp
  dsimp only
  rw [e]
  refine⟨_,rfl, ?_⟩
  have hm: ∀b:UInt8,(b∈qs0)↔wo b=true:=by
    intro b
    have hb:b=UInt8.ofNat b.toNat:=by simp
    constructor
    · intro h
      simp only [qs0,List.mem_cons,List.not_mem_nil,or_false] at h
      rcases h with rfl|rfl|rfl|rfl|rfl|rfl|rfl|rfl|rfl|rfl|rfl|rfl|rfl|rfl|rfl|rfl <;>rfl
    · intro h
      simp only [wo,Bool.or_eq_true,Bool.and_eq_true,decide_eq_true_eq] at h
      have:b.toNat=48∨b.toNat=49∨b.toNat=50∨b.toNat=51∨b.toNat=52∨b.toNat=53∨b.toNat=54∨b.toNat=55∨b.toNat=56∨b.toNat=57∨b.toNat=97∨b.toNat=98∨b.toNat=99∨b.toNat=100∨b.toNat=101∨b.toNat=102:=by omega
      rcases this with e|e|e|e|e|e|e|e|e|e|e|e|e|e|e|e <;>rw [hb,e] <;>decide
  have hi: ∀(l:Str),(Lib.indexByte l b<0)↔b∉l:=by
    intro l
    induction l with
    |nil=>simp [Lib.indexByte]
    | cons x l ih =>
      have hge:=Lib.indexByte_ge l b
      unfold Lib.indexByte
      by_cases hx:x=b
      · simp [hx]
      · have hx' : ¬ b = x := fun h => hx h.symm
        simp only [hx,beq_iff_eq,if_false,List.mem_cons,hx',false_or]
        rw [←ih]
        split <;>omega
  cases hx:wo b with
  | true =>
    have: ¬Lib.indexByte qs0 b<0:=fun h=>((hi qs0).1 h) ((hm b).2 hx)
    rw [decide_eq_false this]
    rfl
  | false =>
    have:Lib.indexByte qs0 b<0:=(hi qs0).2 fun h=>by rw [(hm b).1 h] at hx;cases hx
    rw [decide_eq_true this]
    rfl
theorem qty {s : Str} (hs : s.length ≤ 1048576) : ∀ (n i : Nat) (c : List Int), 2 * (i + n) = s.length → c.length = i + n →
    ∃c',qep (((i:Int),(s,(c.length:Int))),c)=some (if(s.drop (2*i)).all wo then .inr c' else .inl ([],4))∧c'.length=c.length:=by
  intro n
  induction n with
  | zero =>
    intro i c hi hc
    rw [List.drop_of_length_le (by omega),qdi]
    unfold qao
    dsimp only
    rw [if_neg (by rw [decide_eq_true_eq];omega)]
    exact⟨c,rfl,rfl⟩
  | succ n ih =>
    intro i c hi hc
    have h1:2*i<s.length:=by omega
    have h2:2*i+1<s.length:=by omega
    have hw:w64 ((i:Int)+1)=((i+1:Nat):Int):=by rw [qx (by omega)];omega
    have hw2:w64 ((2:Int)*(i:Int))=((2*i:Nat):Int):=by rw [qx (by omega)];omega
    have hw3:w64 (((2*i:Nat):Int)+1)=((2*i+1:Nat):Int):=by rw [qx (by omega)];omega
    obtain⟨a,ha,ga⟩:=qe5 s[2*i]
    obtain⟨b,hb,gb⟩:=qe5 s[2*i+1]
    have ha:jd (([48,49,50,51,52,53,54,55,56,57,97,98,99,100,101,102]:Str),(s[2*i].toNat:Int))=some a:=ha
    have hb:jd (([48,49,50,51,52,53,54,55,56,57,97,98,99,100,101,102]:Str),(s[2*i+1].toNat:Int))=some b:=hb
    rw [xg h1,xg h2,List.all_cons,List.all_cons,qdi]
    unfold qao
    dsimp only
    rw [hw,hw2,hw3,qkb h1,qkb h2,if_pos (by rw [decide_eq_true_eq];omega),if_pos (by omega),if_pos (by omega),ha,sb,if_pos (by omega),if_pos (by omega),hb,sb,ga,gb]
    cases hx:wo s[2*i] with
    |false=>exact⟨c,by simp,rfl⟩
    | true =>
      cases hy:wo s[2*i+1] with
      |false=>exact⟨c,by simp,rfl⟩
      | true =>
        rw [if_neg (by simp),if_neg (by simp),if_pos (by omega),if_pos (by omega)]
        simp only [Int.toNat_natCast,Bool.true_and]
        rw [if_pos (by omega)]
        obtain⟨c',q1,q2⟩:=ih (i+1) (c.set i (IntKind.wrap .u8 (w64 ((w64 (a*(16:Int)))+b)))) (by omega) (by rw [List.length_set];omega)
        rw [List.length_set] at q1 q2
        exact⟨c',q1,q2⟩
theorem qsf {s : Str} (hs : s.length ≤ 1048576) : ∃ r : Str × Int, z0i s = some r ∧ (r.2 == 0) = (decide (s.length % 2 = 0) && s.all wo) ∧ (r.2 = 0 → r.1.length = s.length / 2) := by
  unfold z0i
  have ht:Int.tmod (s.length:Int) 2=((s.length%2:Nat):Int):=by rw [Int.tmod_eq_emod_of_nonneg (by omega)];omega
  have hd:Int.tdiv (s.length:Int) 2=((s.length / 2:Nat):Int):=by rw [Int.tdiv_eq_ediv_of_nonneg (by omega)];omega
  have hw:w64 ((s.length / 2:Nat):Int)=((s.length / 2:Nat):Int):=qx (by omega)
  rw [ht,hd,hw]
  by_cases c:s.length%2=0
  · rw [if_neg (by simp; omega), if_pos rfl, if_pos (by omega)]
    simp only [Int.toNat_natCast]
    have hsum:qq (s.length / 2) 1:=⟨by omega,by omega⟩
    rw [if_pos hsum]
    obtain⟨c',q1,q2⟩:=qty hs (s.length / 2) 0 (List.replicate (s.length / 2) (0:Int)) (by omega) (by simp)
    have q1:qep (((0:Int),(s,((List.replicate (s.length / 2) (0:Int)).length:Int))),List.replicate (s.length / 2) (0:Int))=_:=q1
    rw [q1,sb,Nat.mul_zero,List.drop_zero]
    cases hx:s.all wo with
    | true =>
      refine⟨_,rfl, ?_,fun _=> ?_⟩
      · simp [c]
      · show (jm c').length = _
        rw [qet,q2,List.length_replicate]
    |false=>exact⟨_,rfl,by simp,fun h=>by simp at h⟩
  · rw [if_pos (by simp; omega)]
    exact⟨_,rfl,by simp [c],fun h=>by simp at h⟩
theorem q2k(s:Str):yl (s,([115,104,97,50,53,54,58]:Str))=some (if s.take 7=qd7 then(s.drop 7,true) else(s,false)):=by
  show some (Lib.trimPrefix s qd7,Lib.hasPrefix s qd7)=_
  have hp:Lib.hasPrefix s qd7=decide (s.take 7=qd7):=by
    rw [Bool.eq_iff_iff,decide_eq_true_eq]
    unfold Lib.hasPrefix
    rw [List.isPrefixOf_iff_prefix,List.prefix_iff_eq_take]
    exact eq_comm
  unfold Lib.trimPrefix
  rw [hp]
  by_cases q:s.take 7=qd7
  · rw [if_pos (by simpa using q),if_pos q,decide_eq_true q];rfl
  · rw [if_neg (by simpa using q),if_neg q,decide_eq_false q]
theorem qxg {s : Str} (hs : s.length ≤ 1048576) : z1m s = some (isD s) := by
  unfold z1m z1t
  have hcut:=q2k s
  rw [hcut,sb]
  by_cases q:s.take 7=qd7
  · have hl : 7 ≤ s.length := by
      have:=congrArg List.length q
      rw [List.length_take] at this
      have e:qd7.length=7:=rfl
      omega
    rw [if_pos q]
    obtain⟨r,h1,h2,h3⟩:=qsf (s:=s.drop 7) (by rw [List.length_drop];omega)
    have hld:(s.drop 7).length=s.length-7:=List.length_drop
    rw [h1,sb,if_neg (show¬((!true)=true) by decide)]
    by_cases c:r.2=0
    · have h3 := h3 c
      rw [hld] at h3
      rw [c] at h2
      have h2:(decide ((s.drop 7).length%2=0)&&(s.drop 7).all wo)=true:=by rw [←h2];rfl
      simp only [Bool.and_eq_true,decide_eq_true_eq] at h2
      rw [hld] at h2
      rw [if_neg (by simp [c])]
      by_cases e:s.length=71
      · rw [if_neg (by rw [h3, e]; decide), sb]
        simp [isD,e,q,h2.2]
      · rw [if_pos (by simp; omega), sb]
        simp [isD,e]
    · have h2' : (decide ((s.drop 7).length % 2 = 0) && (s.drop 7).all wo) = false := by rw [← h2]; simpa using c
      rw [if_pos (by simpa using c),sb]
      have:isD s=false:=by
        unfold isD
        by_cases e:s.length=71
        · have e2 : (s.drop 7).length % 2 = 0 := by rw [hld]; omega
          rw [decide_eq_true e2,Bool.true_and] at h2'
          rw [h2']
          simp
        · simp [e]
      rw [this]
      rfl
  · rw [if_neg q]
    obtain⟨r,h1,_,_⟩:=qsf (s:=s) hs
    rw [h1,sb,if_pos (show((!false)=true) by decide),sb]
    simp [isD,q]
end Go.Plain
namespace Go.Plain
open Go.AM
abbrev Man:Type:=Bool×(Str×(List (Str×Int)×List Str))
def MB(m:Man):Prop:=m.2.1.length≤5000∧m.2.2.1.length≤5000∧(∀l∈m.2.2.1,l.1.length≤5000∧ -9223372036854775808≤l.2∧l.2≤9223372036854775807)∧m.2.2.2.length≤5000∧∀k∈m.2.2.2,k.length≤5000
theorem kx(t:Ty)(a:List t.den)(x:t.den)(b:List t.den):elt t (a++x::b) a.length=x:=by
  unfold elt
  simp [List.getD_eq_getElem?_getD]
theorem qyo{α:Type}(a:List α)(x y:α)(b:List α):(a++x::b).set a.length y=(a++[y])++b:=by
  rw [List.set_append_right _ _ (Nat.le_refl _),Nat.sub_self]
  simp
theorem wg{α:Type}(a:List α)(x:α)(b:List α):a++x::b=(a++[x])++b:=by simp
theorem z7{α:Type}(a:List α)(x:α):((a++[x]).length:Int)=(a.length:Int)+1:=by simp
theorem q5n{α:Type}(a b:List α):(a++b).take a.length=a:=by simp
theorem jah(a b:Nat):min (a:Int) (b:Int)=((min a b:Nat):Int):=by omega
theorem qy{l:List Str}(hl:l.length≤1048576)(s:Str):z0f (l,s)=some (l.contains s):=by
  obtain⟨r,h1,h2⟩:=qtf (l:=l) (by omega) s
  unfold z0f
  dsimp only
  rw [h1,sb]
  rcases h2 with⟨e,h⟩|⟨j,e,h⟩
  · have : l.contains s = false := by
      rw [←Bool.not_eq_true,List.contains_iff_mem]
      intro hm
      obtain⟨j,hj⟩:=List.mem_iff_getElem?.1 hm
      exact h j hj
    rw [this,e]
    rfl
  · have : l.contains s = true := List.contains_iff_mem.2 (List.mem_iff_getElem?.2 ⟨j, h⟩)
    rw [this,e,decide_eq_true (by omega)]
def kf:List Str→List Str→Bool
  |_,[]=>true
  |a,k::r=>isD k&& !a.contains k&&kf (a++[k]) r
def lf(l:Str×Int):Bool:=isD l.1&&decide (0≤l.2)&&decide (l.2≤4096)
def okM(m:Man):Bool:=if m.1 then kf [] m.2.2.2&&decide (1≤m.2.2.2.length)&&decide (m.2.2.2.length≤8)&&decide (m.2.1=[])&&decide (m.2.2.1=[])
  else isD m.2.1&&decide (m.2.2.2=[])&&decide (m.2.2.1.length≤8)&&m.2.2.1.all lf
theorem qqf (c : Man) (hc : MB c) : ∀ (b a : List Str), a ++ b = c.2.2.2 → qmr (((a.length : Int), (c.2.2.2, (c.2.2.2.length : Int))), c) = some (if kf a b then .inr c else .inl false) := by
  intro b
  induction b with
  | nil =>
    intro a hl
    rw [List.append_nil] at hl
    rw [qpt]
    unfold qgf
    dsimp only
    rw [if_neg (by rw [hl];simp)]
    rfl
  | cons x b ih =>
    intro a hl
    have hl2:(c.2.2.2).length=a.length+(b.length+1):=by rw [←hl];simp
    have hb:=hc.2.2.2.1
    have hx:x.length≤5000:=hc.2.2.2.2 x (by rw [←hl];simp)
    have hw:w64 ((a.length:Int)+1)=(a.length:Int)+1:=qx (by omega)
    have h1:=ih (a++[x]) (by rw [←hl];simp)
    rw [z7] at h1
    have he:elt .str c.2.2.2 a.length=x:=by rw [←hl];exact kx .str a x b
    have ht:List.take a.length c.2.2.2=a:=by rw [←hl];exact q5n a _
    rw [qpt]
    unfold qgf
    dsimp only
    rw [Int.toNat_natCast,he,ht,if_pos (by rw [decide_eq_true_eq];omega),if_pos (by omega),if_pos (by omega),qxg (by omega),sb,qy (by omega),hw,h1]
    cases q:isD x with
    |false=>simp [kf,q]
    | true =>
      rw [if_neg (by decide),if_pos (by omega),if_pos (by omega),sb]
      cases p:a.contains x with
      |true=>simp [kf,q];rw [List.contains_iff_mem] at p;simp [p]
      | false =>
        rw [if_neg (by decide)]
        simp only [kf,q,p]
        rfl
theorem qvi {l : Str × Int} (h : l.1.length ≤ 1048576) : z2n l = some (!lf l) := by
  unfold z2n lf
  rw [qxg h,sb]
  cases isD l.1 with
  |false=>rfl
  | true =>
    rw [if_neg (by decide)]
    by_cases c1:l.2<0
    · rw [if_pos (decide_eq_true c1), decide_eq_false (p := 0 ≤ l.2) (by omega)]
      rfl
    · rw [if_neg (by simpa using c1), decide_eq_true (p := 0 ≤ l.2) (by omega)]
      by_cases c2:l.2>4096
      · rw [decide_eq_true c2, decide_eq_false (p := l.2 ≤ 4096) (by omega)]
        rfl
      · rw [decide_eq_false c2, decide_eq_true (p := l.2 ≤ 4096) (by omega)]
        rfl
theorem ja5 {l : List (Str × Int)} (hl : l.length ≤ 1048576) (hs : ∀ x ∈ l, x.1.length ≤ 1048576) : z2h l = some (!l.all lf) := by
  have key: ∀(b a:List (Str×Int)),(a++b).length≤1048576→(∀x∈b,x.1.length≤1048576)→
      ∃r,qm9 ((a.length:Int),(a++b,((a++b).length:Int)))=some r∧((b.all lf=true∧r= .inr ())∨(b.all lf=false∧∃k,r= .inl k∧0≤k)):=by
    intro b
    induction b with
    | nil =>
      intro a hl _
      rw [qp9]
      unfold qgw
      dsimp only
      rw [if_neg (by simp)]
      exact⟨_,rfl,.inl ⟨rfl,rfl⟩⟩
    | cons x b ih =>
      intro a hl hs
      have hl2:(a++x::b).length=a.length+(b.length+1):=by simp
      have hw:w64 ((a.length:Int)+1)=(a.length:Int)+1:=qx (by omega)
      obtain⟨r,h1,h2⟩:=ih (a++[x]) (by simp at hl ⊢;omega) (fun y hy=>hs y (by simp [hy]))
      rw [qp9]
      unfold qgw
      dsimp only
      rw [Int.toNat_natCast,kx (.pair .str (.int .i64)),if_pos (by rw [decide_eq_true_eq];omega),if_pos (by omega),if_pos (by omega),qvi (hs x (by simp)),sb,hw,List.all_cons]
      cases q:lf x with
      | false =>
        rw [if_pos (by rfl)]
        exact⟨_,rfl,.inr ⟨rfl,_,rfl,by omega⟩⟩
      | true =>
        rw [z7,←wg] at h1
        rw [if_neg (by decide),h1]
        exact⟨r,rfl,h2⟩
  obtain⟨r,h1,h2⟩:=key l [] (by simpa using hl) hs
  have h1:qm9 ((0:Int),(l,(l.length:Int)))=some r:=h1
  unfold z2h z16
  rw [h1,sb]
  rcases h2 with⟨e,rfl⟩|⟨e,k,rfl,hk⟩
  · rw [e]
    rfl
  · rw [e]
    show some (decide (k≥0))=_
    rw [decide_eq_true hk]
    rfl
theorem jeg{α:Type}(l:List α)[DecidableEq α]:((l.length:Int)==(0:Int))=decide (l=[]):=by
  cases l with
  |nil=>rfl
  | cons a l =>
    rw [decide_eq_false (by simp),beq_eq_false_iff_ne]
    simp
    omega
theorem q50 {m : Man} (hm : MB m) : z0g m = some (okM m) := by
  unfold z0g okM
  cases hi:m.1 with
  | true =>
    rw [if_pos rfl,if_pos rfl]
    have h:=qqf m hm m.2.2.2 [] rfl
    have h:qmr (((0:Int),(m.2.2.2,(m.2.2.2.length:Int))),m)=_:=h
    rw [h,sb]
    cases hk:kf [] m.2.2.2 with
    |false=>rfl
    | true =>
      rw [if_pos rfl]
      dsimp only [Sum.elim_inr]
      by_cases c1:1≤m.2.2.2.length
      · rw [if_pos (by rw [decide_eq_true_eq]; omega)]
        by_cases c2:m.2.2.2.length≤8
        · rw [if_pos (by rw [decide_eq_true_eq]; omega)]
          by_cases c3:m.2.1=[]
          · rw [if_pos (by rw [c3]; rfl), jeg]
            simp [c1,c2,c3]
          · rw [if_neg (by simpa using c3)]
            simp [c3]
        · rw [if_neg (by rw [decide_eq_true_eq]; omega)]
          simp [c2]
      · rw [if_neg (by rw [decide_eq_true_eq]; omega)]
        simp [c1]
  | false =>
    rw [if_neg (show¬(false=true) by decide),if_neg (show¬(false=true) by decide),qxg (by have:=hm.1;omega),sb]
    cases isD m.2.1 with
    |false=>rfl
    | true =>
      rw [if_pos rfl,jeg]
      by_cases c1:m.2.2.2=[]
      · rw [if_pos (decide_eq_true c1)]
        by_cases c2:m.2.2.1.length≤8
        · rw [if_pos (by rw [decide_eq_true_eq]; omega), ja5 (by omega) (fun x hx => by have := (hm.2.2.1 x hx).1; omega), sb]
          simp [c1,c2]
        · rw [if_neg (by rw [decide_eq_true_eq]; omega)]
          simp [c2]
      · rw [if_neg (by simpa using c1)]
        simp [c1]
end Go.Plain
namespace Go.Plain
open Go.AM
set_option linter.unusedVariables false
def rot(x k:Nat):Nat:=x / 2^k+x%2^k*2^(32-k)
def qqn(s:Str)(t:Nat):Nat:=256*(256*(256*(s.getD (4*t) 0).toNat+(s.getD (4*t+1) 0).toNat)+(s.getD (4*t+2) 0).toNat)+(s.getD (4*t+3) 0).toNat
def q9b(x2 x7 x15 x16:Nat):Nat:=
  ((((rot x2 17^^^rot x2 19)^^^x2 / 1024)+x7)%4294967296+((rot x15 7^^^rot x15 18)^^^x15 / 8))%4294967296
def jbu(x16 y:Nat):Nat:=(y+x16)%4294967296
def qu4(s:Str)(W:List Nat):List Nat:=
  W++[if W.length<16 then qqn s W.length else jbu (W.getD (W.length-16) 0) (q9b (W.getD (W.length-2) 0) (W.getD (W.length-7) 0) (W.getD (W.length-15) 0) 0)]
def sch(s:Str):Nat→List Nat→List Nat
  |0,W=>W
  |n+1,W=>sch s n (qu4 s W)
abbrev V8:Type:=Nat×Nat×Nat×Nat×Nat×Nat×Nat×Nat
def chW(e f g:Nat):Nat:=(e&&&f)^^^((4294967295-e)&&&g)
def jfj(a b c:Nat):Nat:=((a&&&b)^^^(a&&&c))^^^(b&&&c)
def t1W(e f g h k w:Nat):Nat:=((((h+((rot e 6^^^rot e 11)^^^rot e 25))%4294967296+chW e f g)%4294967296+k)%4294967296+w)%4294967296
def t2W(a b c:Nat):Nat:=(((rot a 2^^^rot a 13)^^^rot a 22)+jfj a b c)%4294967296
def qyq(k w:Nat):V8→V8
  |(a,b,c,d,e,f,g,h)=>((t1W e f g h k w+t2W a b c)%4294967296,a,b,c,(d+t1W e f g h k w)%4294967296,e,f,g)
def qhu(W:List Nat):Nat→Nat→V8→V8
  |0,_,v=>v
  |n+1,i,v=>qhu W n (i+1) (qyq (ku.getD i 0).toNat (W.getD i 0) v)
def q59(u v:V8):V8:=
  ((u.1 + v.1) % 4294967296, (u.2.1 + v.2.1) % 4294967296, (u.2.2.1 + v.2.2.1) % 4294967296, (u.2.2.2.1 + v.2.2.2.1) % 4294967296,
   (u.2.2.2.2.1+v.2.2.2.2.1)%4294967296,(u.2.2.2.2.2.1+v.2.2.2.2.2.1)%4294967296,(u.2.2.2.2.2.2.1+v.2.2.2.2.2.2.1)%4294967296,(u.2.2.2.2.2.2.2+v.2.2.2.2.2.2.2)%4294967296)
def qyf(h:V8)(s:Str):V8:=q59 h (qhu (sch s 64 []) 64 0 h)
def uz:Nat→Str→V8→V8
  |0,_,h=>h
  |n+1,s,h=>uz n (s.drop 64) (qyf h s)
def v7:V8:=(1779033703,3144134277,1013904242,2773480762,1359893119,2600822924,528734635,1541459225)
def qz2(m:Nat):Nat→Str
  |0=>[]
  |n+1=>UInt8.ofNat (m / 2^(8*n))::qz2 m n
def qi8(s:Str):Str:=s++128::(List.replicate ((119-s.length%64)%64) 0++qz2 (s.length*8) 8)
def qfw(x:Nat):Str:=[UInt8.ofNat (x / 16777216),UInt8.ofNat (x / 65536),UInt8.ofNat (x / 256),UInt8.ofNat x]
def jel(v:V8):Str:=qfw v.1++(qfw v.2.1++(qfw v.2.2.1++(qfw v.2.2.2.1++(qfw v.2.2.2.2.1++(qfw v.2.2.2.2.2.1++(qfw v.2.2.2.2.2.2.1++qfw v.2.2.2.2.2.2.2))))))
def sha(s:Str):Str:=jel (uz ((qi8 s).length / 64) (qi8 s) v7)
def lt8(v:V8):Prop:=v.1<4294967296∧v.2.1<4294967296∧v.2.2.1<4294967296∧v.2.2.2.1<4294967296∧v.2.2.2.2.1<4294967296∧v.2.2.2.2.2.1<4294967296∧v.2.2.2.2.2.2.1<4294967296∧v.2.2.2.2.2.2.2<4294967296
theorem qaf{x k:Nat}(hx:x<4294967296)(hk:k≤32):rot x k<4294967296:=by
  unfold rot
  have hp:4294967296=2^k*2^(32-k):=by rw [←Nat.pow_add,Nat.add_sub_cancel' hk]
  have h1:x / 2^k<2^(32-k):=by
    rw [Nat.div_lt_iff_lt_mul (Nat.two_pow_pos k),Nat.mul_comm,←hp];exact hx
  have h2:x%2^k+1≤2^k:=Nat.mod_lt _ (Nat.two_pow_pos k)
  calc x / 2^k+x%2^k*2^(32-k)<2^(32-k)+x%2^k*2^(32-k):=Nat.add_lt_add_right h1 _
    _=(x%2^k+1)*2^(32-k):=by rw [Nat.add_mul,Nat.one_mul,Nat.add_comm]
    _≤2^k*2^(32-k):=Nat.mul_le_mul_right _ h2
    _=4294967296:=hp.symm
theorem qsc{a b:Nat}(ha:a<4294967296)(hb:b<4294967296):a^^^b<4294967296:=Nat.xor_lt_two_pow (n:=32) ha hb
theorem qa4{a b:Nat}(hb:b<4294967296):a&&&b<4294967296:=Nat.and_lt_two_pow (n:=32) a hb
theorem m32(n:Nat):n%4294967296<4294967296:=Nat.mod_lt _ (by decide)
theorem ja3(n:Nat):IntKind.wrap .u32 (n:Int)=((n%4294967296:Nat):Int):=by
  show(n:Int)%4294967296=_
  omega
theorem qca(a b:Nat):IntKind.wrap .u32 ((a:Int)+(b:Int))=(((a+b)%4294967296:Nat):Int):=by
  rw [←ja3];congr 1
theorem qen{n:Nat}(h:n<4294967296):IntKind.wrap .u32 (n:Int)=(n:Int):=by rw [ja3,Nat.mod_eq_of_lt h]
theorem ofI(n:Nat):BitVec.ofInt 32 (n:Int)=BitVec.ofNat 32 n:=BitVec.ofInt_natCast ..
theorem qbm{a b:Nat}(ha:a<4294967296)(hb:b<4294967296):u9 .u32 (a:Int) (b:Int)=((a^^^b:Nat):Int):=by
  show IntKind.wrap .u32 ((BitVec.ofInt 32 (a:Int)^^^BitVec.ofInt 32 (b:Int)).toNat:Int)=_
  rw [ofI,ofI,BitVec.toNat_xor,BitVec.toNat_ofNat,BitVec.toNat_ofNat,Nat.mod_eq_of_lt ha,Nat.mod_eq_of_lt hb,qen (qsc ha hb)]
theorem qkx{a b:Nat}(ha:a<4294967296)(hb:b<4294967296):qaz .u32 (a:Int) (b:Int)=((a&&&b:Nat):Int):=by
  show IntKind.wrap .u32 ((BitVec.ofInt 32 (a:Int)&&&BitVec.ofInt 32 (b:Int)).toNat:Int)=_
  rw [ofI,ofI,BitVec.toNat_and,BitVec.toNat_ofNat,BitVec.toNat_ofNat,Nat.mod_eq_of_lt ha,Nat.mod_eq_of_lt hb,qen (qa4 hb)]
theorem qx4{a b:Nat}(ha:a<4294967296)(hb:b<4294967296):ior .u32 (a:Int) (b:Int)=((a|||b:Nat):Int):=by
  show IntKind.wrap .u32 ((BitVec.ofInt 32 (a:Int)|||BitVec.ofInt 32 (b:Int)).toNat:Int)=_
  rw [ofI,ofI,BitVec.toNat_or,BitVec.toNat_ofNat,BitVec.toNat_ofNat,Nat.mod_eq_of_lt ha,Nat.mod_eq_of_lt hb,qen (Nat.or_lt_two_pow (n:=32) ha hb)]
theorem qq4(x:Nat){k:Nat}(hk:k≤32):qnq .u32 (x:Int) (k:Int)=((x*2^k%4294967296:Nat):Int):=by
  show IntKind.wrap .u32 ((x:Int)*2^(min (Int.toNat (k:Int)) 32))=_
  rw [Int.toNat_natCast,Nat.min_eq_left hk,←ja3]
  congr 1
theorem qk0(x:Nat){k:Nat}(hk:k≤32):ja .u32 (x:Int) (k:Int)=((x / 2^k:Nat):Int):=by
  show Int.fdiv (x:Int) (2^(min (Int.toNat (k:Int)) 32))=_
  rw [Int.toNat_natCast,Nat.min_eq_left hk,Int.fdiv_eq_ediv_of_nonneg _ (Int.pow_nonneg (by decide)),Int.natCast_ediv,Int.natCast_pow];rfl
theorem jav{x k:Nat}(hx:x<4294967296)(hk:k≤32):(x*2^(32-k)%4294967296)|||(x / 2^k)=rot x k:=by
  unfold rot
  have hp:4294967296=2^k*2^(32-k):=by rw [←Nat.pow_add,Nat.add_sub_cancel' hk]
  have h1:x / 2^k<2^(32-k):=by
    rw [Nat.div_lt_iff_lt_mul (Nat.two_pow_pos k),Nat.mul_comm,←hp];exact hx
  have h2:x*2^(32-k)%4294967296=x%2^k*2^(32-k):=by
    rw [hp,Nat.mul_mod_mul_right]
  rw [h2,←Nat.shiftLeft_eq,←Nat.shiftLeft_add_eq_or_of_lt h1,Nat.add_comm]
theorem jeh: ∀k:Nat,k<32→0<k→qaz .u64 (IntKind.wrap .u64 (w64 ((0:Int)-(k:Int)))) (31:Int)=((32-k:Nat):Int):=by decide
theorem jal: ∀k:Nat,k<32→0<k→IntKind.wrap .u64 ((32:Int)-((32-k:Nat):Int))=(k:Int):=by decide
theorem zh{x k:Nat}(hx:x<4294967296)(hk:k<32)(h0:0<k):z23 ((x:Int),w64 ((0:Int)-(k:Int)))=some ((rot x k:Nat):Int):=by
  unfold z23
  dsimp only
  rw [jeh k hk h0,jal k hk h0,if_pos (by omega),qq4 x (by omega),qk0 x (by omega),qx4 (m32 _) (Nat.lt_of_le_of_lt (Nat.div_le_self _ _) hx),jav hx (by omega)]
theorem qit{x a b c:Nat}(hx:x<4294967296)(ha:a<32)(hb:b<32)(hc:c<32)(a0:0<a)(b0:0<b)(c0:0<c):
    z1l ((x:Int),((a:Int),((b:Int),((c:Int),true))))=some ((((rot x a^^^rot x b)^^^x / 2^c:Nat)):Int):=by
  unfold z1l
  dsimp only
  rw [zh hx hc c0,sb,if_pos rfl,if_pos (by omega),zh hx ha a0,sb,zh hx hb b0,sb,qk0 x (by omega),qbm (qaf hx (by omega)) (qaf hx (by omega)),
    qbm (qsc (qaf hx (by omega)) (qaf hx (by omega))) (Nat.lt_of_le_of_lt (Nat.div_le_self _ _) hx)]
theorem qfg{x a b c:Nat}(hx:x<4294967296)(ha:a<32)(hb:b<32)(hc:c<32)(a0:0<a)(b0:0<b)(c0:0<c):
    z1l ((x:Int),((a:Int),((b:Int),((c:Int),false))))=some ((((rot x a^^^rot x b)^^^rot x c:Nat)):Int):=by
  unfold z1l
  dsimp only
  rw [zh hx hc c0,sb,if_neg (by decide),zh hx ha a0,sb,zh hx hb b0,sb,qbm (qaf hx (by omega)) (qaf hx (by omega)),
    qbm (qsc (qaf hx (by omega)) (qaf hx (by omega))) (qaf hx (by omega))]
theorem jei{e:Nat}(he:e<4294967296):u9 .u32 (4294967295:Int) (e:Int)=((4294967295-e:Nat):Int):=by
  rw [show(4294967295:Int)=((4294967295:Nat):Int) from rfl,qbm (by decide) he]
  congr 1
  apply Nat.eq_of_testBit_eq
  intro i
  have h:=Nat.testBit_two_pow_sub_succ (n:=32) (x:=e) he i
  have he2:e<2^32:=he
  have e1:(4294967295:Nat)-e=2^32-(e+1):=by omega
  rw [e1,h,Nat.testBit_xor,show(4294967295:Nat)=2^32-1 from rfl,Nat.testBit_two_pow_sub_one]
  by_cases hi:i<32
  · simp [hi]
  · simp only [hi, decide_false, Bool.false_and, Bool.false_xor]
    exact Nat.testBit_lt_two_pow (Nat.lt_of_lt_of_le he (Nat.pow_le_pow_right (show 2>0 by decide) (by omega:32≤i)))
def zs(l:List Nat):List Int:=l.map fun n:Nat=>(n:Int)
theorem qnd(l:List Nat):(zs l).length=l.length:=List.length_map ..
theorem qkn(l:List Nat)(r:List Int){j:Nat}(h:j<l.length):elt (.int .u32) (zs l++r) j=((l.getD j 0:Nat):Int):=by
  have h1:j<(zs l++r).length:=by rw [List.length_append,qnd];omega
  rw [qg9 (t:= .int .u32) h1,List.getElem_append_left (by rw [qnd];exact h)]
  simp [zs,List.getD_eq_getElem?_getD,h]
theorem q6o(l:List Nat){j:Nat}(h:j<l.length):elt (.int .u32) (zs l) j=((l.getD j 0:Nat):Int):=by
  have:=qkn l [] h
  rwa [List.append_nil] at this
theorem qu5(s:Str)(W:List Nat):(qu4 s W).length=W.length+1:=by simp [qu4]
theorem qyn(s:Str): ∀(n:Nat) (W:List Nat),(sch s n W).length=W.length+n
  |0,W=>rfl
  |n+1,W=>by unfold sch;rw [qyn s n,qu5];omega
theorem q6e(s:Str)(t:Nat):qqn s t<4294967296:=by
  unfold qqn
  have h1:=UInt8.toNat_lt (s.getD (4*t) 0)
  have h2:=UInt8.toNat_lt (s.getD (4*t+1) 0)
  have h3:=UInt8.toNat_lt (s.getD (4*t+2) 0)
  have h4:=UInt8.toNat_lt (s.getD (4*t+3) 0)
  omega
theorem qyz{s:Str}{W:List Nat}(h: ∀x∈W,x<4294967296): ∀x∈qu4 s W,x<4294967296:=by
  intro x hx
  unfold qu4 at hx
  rcases List.mem_append.1 hx with hx|hx
  · exact h x hx
  · rw [List.mem_singleton.1 hx]
    split
    · exact q6e _ _
    · exact m32 _
theorem q5d{s:Str}: ∀(n:Nat) {W:List Nat},(∀x∈W,x<4294967296)→∀x∈sch s n W,x<4294967296
  |0,W,h=>h
  |n+1,W,h=>by unfold sch;exact q5d n (qyz h)
theorem qxz{W:List Nat}(h: ∀x∈W,x<4294967296)(j:Nat):W.getD j 0<4294967296:=by
  by_cases hj:j<W.length
  · rw [List.getD_eq_getElem?_getD, List.getElem?_eq_getElem hj]
    exact h _ (List.getElem_mem _)
  · rw [List.getD_eq_getElem?_getD, List.getElem?_eq_none (by omega)]
    decide
end Go.Plain
namespace Go.Plain
open Go.AM
set_option linter.unusedVariables false
theorem q2c(s:Str)(i:Nat):bt s (i:Int)=((s.getD i 0).toNat:Int):=by
  show(((s.getD (Int.toNat (i:Int)) 0).toNat:Nat):Int)=_
  rw [Int.toNat_natCast]
theorem or4{a b c d:Nat}(ha:a<256)(hb:b<256)(hc:c<256)(hd:d<256):
    ((a*2^24%4294967296|||b*2^16%4294967296)|||c*2^8%4294967296)|||d=256*(256*(256*a+b)+c)+d:=by
  rw [Nat.mod_eq_of_lt (by omega),Nat.mod_eq_of_lt (by omega),Nat.mod_eq_of_lt (by omega)]
  have h1:a*2^24|||b*2^16=(a*256+b)<<<16:=by
    rw [←Nat.shiftLeft_eq a 24,←Nat.shiftLeft_add_eq_or_of_lt (by omega),Nat.shiftLeft_eq,Nat.shiftLeft_eq];omega
  have h2:(a*256+b)<<<16|||c*2^8=(a*65536+b*256+c)<<<8:=by
    rw [←Nat.shiftLeft_add_eq_or_of_lt (by omega),Nat.shiftLeft_eq,Nat.shiftLeft_eq];omega
  rw [h1,h2,←Nat.shiftLeft_add_eq_or_of_lt (by omega),Nat.shiftLeft_eq]
  omega
theorem q9n{s:Str}(h:4≤s.length):z2p s=some ((qqn s 0:Nat):Int):=by
  unfold z2p qqn
  have h0:=UInt8.toNat_lt (s.getD 0 0)
  have h1:=UInt8.toNat_lt (s.getD 1 0)
  have h2:=UInt8.toNat_lt (s.getD 2 0)
  have h3:=UInt8.toNat_lt (s.getD 3 0)
  have b0:bt s (0:Int)=_:=q2c s 0
  have b1:bt s (1:Int)=_:=q2c s 1
  have b2:bt s (2:Int)=_:=q2c s 2
  have b3:bt s (3:Int)=_:=q2c s 3
  rw [if_pos (by omega),if_pos (by omega),if_pos (by omega),if_pos (by omega),b0,b1,b2,b3,qen (by omega),qen (by omega),qen (by omega),qen (by omega)]
  have s1:=qq4 (s.getD 0 0).toNat (k:=24) (by decide)
  have s2:=qq4 (s.getD 1 0).toNat (k:=16) (by decide)
  have s3:=qq4 (s.getD 2 0).toNat (k:=8) (by decide)
  have s1:qnq .u32 ((s.getD 0 0).toNat:Int) (24:Int)=_:=s1
  have s2:qnq .u32 ((s.getD 1 0).toNat:Int) (16:Int)=_:=s2
  have s3:qnq .u32 ((s.getD 2 0).toNat:Int) (8:Int)=_:=s3
  rw [s1,s2,s3,qx4 (m32 _) (m32 _),qx4 (Nat.or_lt_two_pow (n:=32) (m32 _) (m32 _)) (m32 _),qx4 (Nat.or_lt_two_pow (n:=32) (Nat.or_lt_two_pow (n:=32) (m32 _) (m32 _)) (m32 _)) (by omega),or4 (by omega) (by omega) (by omega) (by omega)]
theorem q18(s:Str)(i:Nat):qqn (s.drop (4*i)) 0=qqn s i:=by
  unfold qqn
  simp only [List.getD_eq_getElem?_getD,List.getElem?_drop,Nat.mul_zero,Nat.zero_add,Nat.add_zero]
theorem q8g(W:List Nat)(x:Nat):zs (W++[x])=zs W++[(x:Int)]:=by simp [zs]
theorem qwp {s : Str} (hs : 64 ≤ s.length) (hs2 : s.length ≤ 9223372036854775807) (c1 c2 : List Int) : ∀ (n i : Nat) (W : List Nat), i + n = 64 → W.length = i → (∀ x ∈ W, x < 4294967296) →
    qeo (((i:Int),s),(zs W++List.replicate n 0,(c1,c2)))=some (zs (sch s n W),(c1,c2)):=by
  intro n
  induction n with
  | zero =>
    intro i W hi hW hx
    rw [qpl]
    unfold qf2
    dsimp only
    rw [if_neg (by rw [decide_eq_true_eq];omega),List.replicate_zero,List.append_nil]
    rfl
  | succ n ih =>
    intro i W hi hW hx
    have hw:w64 ((i:Int)+1)=((i+1:Nat):Int):=by rw [qx (by omega)];omega
    have hkeep: ∀v:Nat,v=(if W.length<16 then qqn s W.length else jbu (W.getD (W.length-16) 0) (q9b (W.getD (W.length-2) 0) (W.getD (W.length-7) 0) (W.getD (W.length-15) 0) 0))→
        qeo ((((i+1:Nat):Int),s),((zs W++List.replicate (n+1) 0).set i (v:Int),(c1,c2)))=some (zs (sch s (n+1) W),(c1,c2)):=by
      intro v hv
      have e:(zs W++List.replicate (n+1) (0:Int)).set i (v:Int)=zs (qu4 s W)++List.replicate n 0:=by
        have:=qyo (zs W) (0:Int) (v:Int) (List.replicate n 0)
        rw [qnd,hW] at this
        rw [List.replicate_succ,this]
        unfold qu4
        rw [←hv,q8g]
      rw [e]
      exact ih (i+1) (qu4 s W) (by omega) (by rw [qu5];omega) (qyz hx)
    have hcl:(zs W++List.replicate (n+1) (0:Int)).length=64:=by rw [List.length_append,qnd,List.length_replicate];omega
    rw [qpl]
    unfold qf2
    dsimp only
    rw [if_pos (by rw [decide_eq_true_eq];omega)]
    by_cases h16:i<16
    · have w4 : w64 ((4 : Int) * (i : Int)) = ((4 * i : Nat) : Int) := by rw [qx (by omega)]; omega
      rw [if_pos (by rw [decide_eq_true_eq];omega)]
      simp only [w4,hw,Int.toNat_natCast,List.take_length]
      rw [if_pos (by omega),if_pos (by omega),if_pos (by omega),q9n (by rw [List.length_drop];omega),sb,q18,if_pos (by omega),if_pos (by omega),if_pos (by omega)]
      exact hkeep _ (by rw [if_pos (by omega),hW])
    · have w2 : w64 ((i : Int) - 2) = ((i - 2 : Nat) : Int) := by rw [qx (by omega)]; omega
      have w7:w64 ((i:Int)-7)=((i-7:Nat):Int):=by rw [qx (by omega)];omega
      have w15:w64 ((i:Int)-15)=((i-15:Nat):Int):=by rw [qx (by omega)];omega
      have w16:w64 ((i:Int)-16)=((i-16:Nat):Int):=by rw [qx (by omega)];omega
      rw [if_neg (by rw [decide_eq_true_eq];omega)]
      simp only [w2,w7,w15,w16,hw,Int.toNat_natCast]
      have x2:=qkn W (List.replicate (n+1) (0:Int)) (show i-2<W.length by omega)
      have x7:=qkn W (List.replicate (n+1) (0:Int)) (show i-7<W.length by omega)
      have x15:=qkn W (List.replicate (n+1) (0:Int)) (show i-15<W.length by omega)
      have x16:=qkn W (List.replicate (n+1) (0:Int)) (show i-16<W.length by omega)
      have hm:=qit (qxz hx (i-2)) (show 17<32 by decide) (show 19<32 by decide) (show 10<32 by decide) (by decide) (by decide) (by decide)
      have hm1:=qit (qxz hx (i-15)) (show 7<32 by decide) (show 18<32 by decide) (show 3<32 by decide) (by decide) (by decide) (by decide)
      have hm:z1l (((W.getD (i-2) 0:Nat):Int),((17:Int),((19:Int),((10:Int),true))))=_:=hm
      have hm1:z1l (((W.getD (i-15) 0:Nat):Int),((7:Int),((18:Int),((3:Int),true))))=_:=hm1
      rw [x2,x7,x15,x16]
      rw [if_pos (by omega),if_pos (by omega),if_pos (by omega),hm,sb,if_pos (by omega),if_pos (by omega),if_pos (by omega),if_pos (by omega),if_pos (by omega),if_pos (by omega),hm1,sb,
        if_pos (by omega),if_pos (by omega),if_pos (by omega),if_pos (by omega),if_pos (by omega),if_pos (by omega)]
      rw [qca,qca,qca]
      refine hkeep _ ?_
      rw [if_neg (by omega),hW]
      rfl
def lst(v:V8):List Int:=[(v.1:Int),(v.2.1:Int),(v.2.2.1:Int),(v.2.2.2.1:Int),(v.2.2.2.2.1:Int),(v.2.2.2.2.2.1:Int),(v.2.2.2.2.2.2.1:Int),(v.2.2.2.2.2.2.2:Int)]
def tup(v:V8):Int×(Int×(Int×(Int×(Int×(Int×(Int×Int)))))):=((v.1:Int),((v.2.1:Int),((v.2.2.1:Int),((v.2.2.2.1:Int),((v.2.2.2.2.1:Int),((v.2.2.2.2.2.1:Int),((v.2.2.2.2.2.2.1:Int),(v.2.2.2.2.2.2.2:Int))))))))
section
variable (a b c d e f g h:Int) (r:List Int)
theorem qzu:elt (.int .u32) (a::r:List Int) 0=a:=by unfold elt;rfl
theorem qzv:elt (.int .u32) (a::b::r:List Int) 1=b:=by unfold elt;rfl
theorem qzw:elt (.int .u32) (a::b::c::r:List Int) 2=c:=by unfold elt;rfl
theorem qzx:elt (.int .u32) (a::b::c::d::r:List Int) 3=d:=by unfold elt;rfl
theorem qzy:elt (.int .u32) (a::b::c::d::e::r:List Int) 4=e:=by unfold elt;rfl
theorem qzz:elt (.int .u32) (a::b::c::d::e::f::r:List Int) 5=f:=by unfold elt;rfl
theorem qz0:elt (.int .u32) (a::b::c::d::e::f::g::r:List Int) 6=g:=by unfold elt;rfl
theorem qz1:elt (.int .u32) (a::b::c::d::e::f::g::h::r:List Int) 7=h:=by unfold elt;rfl
end
theorem q7b{i:Nat}(h:i<64):elt (.int .u32) ku i=((ku.getD i 0).toNat:Int)∧(ku.getD i 0).toNat<4294967296:=by
  have h1: ∀i,i<64→ku.getD i 0=((ku.getD i 0).toNat:Int)∧(ku.getD i 0).toNat<4294967296:=by decide
  refine⟨?_,(h1 i h).2⟩
  rw [←(h1 i h).1]
  unfold elt
  rfl
theorem q5h{k w:Nat}{v:V8}(h:lt8 v):lt8 (qyq k w v):=by
  obtain⟨h1,h2,h3,h4,h5,h6,h7,h8⟩:=h
  exact⟨m32 _,h1,h2,h3,m32 _,h5,h6,h7⟩
theorem qug(W:List Nat)(n i:Nat)(v:V8):qhu W (n+1) i v=qhu W n (i+1) (qyq (ku.getD i 0).toNat (W.getD i 0) v):=by
  conv=>lhs;unfold qhu
theorem qqo(n:Nat)(s:Str)(h:V8):uz (n+1) s h=uz n (s.drop 64) (qyf h s):=by
  conv=>lhs;unfold uz
theorem q5q(v:V8):[(tup v).1,(tup v).2.1,(tup v).2.2.1,(tup v).2.2.2.1,(tup v).2.2.2.2.1,(tup v).2.2.2.2.2.1,(tup v).2.2.2.2.2.2.1,(tup v).2.2.2.2.2.2.2]=lst v:=rfl
theorem je8{e f g h k w:Nat}(he:e<4294967296)(hf:f<4294967296)(hg:g<4294967296):
    IntKind.wrap .u32 (IntKind.wrap .u32 (IntKind.wrap .u32 (IntKind.wrap .u32 ((h:Int)+(((rot e 6^^^rot e 11)^^^rot e 25:Nat):Int))+(u9 .u32 (qaz .u32 (e:Int) (f:Int)) (qaz .u32 (u9 .u32 (4294967295:Int) (e:Int)) (g:Int))))+(k:Int))+(w:Int))=((t1W e f g h k w:Nat):Int):=by
  rw [jei he,qkx he hf,qkx (by omega) hg,qbm (qa4 hf) (qa4 hg),qca,qca,qca,qca]
  rfl
theorem je9{a b c:Nat}(ha:a<4294967296)(hb:b<4294967296)(hc:c<4294967296):
    IntKind.wrap .u32 ((((rot a 2^^^rot a 13)^^^rot a 22:Nat):Int)+(u9 .u32 (u9 .u32 (qaz .u32 (a:Int) (b:Int)) (qaz .u32 (a:Int) (c:Int))) (qaz .u32 (b:Int) (c:Int))))=((t2W a b c:Nat):Int):=by
  rw [qkx ha hb,qkx ha hc,qkx hb hc,qbm (qa4 hb) (qa4 hc),qbm (qsc (qa4 hb) (qa4 hc)) (qa4 hc),qca]
  rfl
theorem qt7(c2 c3:List Int){W:List Nat}(hW:W.length=64)(hx: ∀x∈W,x<4294967296): ∀(n i:Nat) (v:V8),i+n=64→lt8 v→
    qdf ((i:Int),(lst v,(zs W,(c2,c3))))=some (c2,(lst (qhu W n i v),c3)):=by
  intro n
  induction n with
  | zero =>
    intro i v hi hv
    rw [qme]
    unfold qch
    dsimp only
    rw [if_neg (by rw [decide_eq_true_eq];omega)]
    rfl
  | succ n ih =>
    intro i v hi hv
    have hw:w64 ((i:Int)+1)=((i+1:Nat):Int):=by rw [qx (by omega)];omega
    have hkl:=q39
    obtain⟨hk1,hk2⟩:=q7b (show i<64 by omega)
    have hz:=q6o W (show i<W.length by omega)
    have hzl:(zs W).length=64:=by rw [qnd,hW]
    have step:=qug W n i v
    rw [step,←ih (i+1) _ (by omega) (q5h hv),qme]
    generalize ih2:qdf=F
    obtain⟨a,b,c,d,e,f,g,h⟩:=v
    obtain⟨h1,h2,h3,h4,h5,h6,h7,h8⟩:=hv
    dsimp only at h1 h2 h3 h4 h5 h6 h7 h8
    have hm:=qfg h5 (show 6<32 by decide) (show 11<32 by decide) (show 25<32 by decide) (by decide) (by decide) (by decide)
    have hm1:=qfg h1 (show 2<32 by decide) (show 13<32 by decide) (show 22<32 by decide) (by decide) (by decide) (by decide)
    have hm:z1l ((e:Int),((6:Int),((11:Int),((25:Int),false))))=_:=hm
    have hm1:z1l ((a:Int),((2:Int),((13:Int),((22:Int),false))))=_:=hm1
    unfold qch lst qyq
    dsimp only
    simp only [Int.toNat_natCast,hw,qzu,qzv,qzw,qzx,qzy,qzz,qz0,qz1]
    rw [if_pos (by rw [decide_eq_true_eq];omega),if_pos (by simp),if_pos (by simp),if_pos (by simp),hm,sb]
    rw [if_pos (by simp),if_pos (by simp)]
    iterate 6 rw [if_pos (by omega)]
    rw [hm1,sb]
    iterate 10 rw [if_pos (by simp)]
    rw [hk1,hz,je8 h5 h6 h7,je9 h1 h2 h3,qca,qca]
theorem qdw(c2:List Int){c c1:List Int}(hc:c.length=8)(h1:c1.length=8){i:Nat}(hi:i<8):
    qan ((i:Int),(c,(c1,c2)))=qan (((i+1:Nat):Int),(c.set i (IntKind.wrap .u32 (elt (.int .u32) c i+elt (.int .u32) c1 i)),(c1,c2))):=by
  have hw:w64 ((i:Int)+1)=((i+1:Nat):Int):=by rw [qx (by omega)];omega
  conv=>lhs;rw [qmf]
  unfold qci
  dsimp only
  simp only [Int.toNat_natCast,hw]
  rw [if_pos (by rw [decide_eq_true_eq];omega)]
  iterate 9 rw [if_pos (by omega)]
theorem qt8(c2:List Int)(u v:V8):qan ((0:Int),(lst u,(lst v,c2)))=some (c2,lst (q59 u v)):=by
  obtain⟨a,b,c,d,e,f,g,h⟩:=u
  obtain⟨a',b',c',d',e',f',g',h'⟩:=v
  have s0:=qdw c2 (c:=lst (a,b,c,d,e,f,g,h)) (c1:=lst (a',b',c',d',e',f',g',h')) rfl rfl (i:=0) (by decide)
  have s0:qan ((0:Int),_)=_:=s0
  rw [s0]
  iterate 7 rw [qdw c2 (by simp [lst]) rfl (by decide)]
  rw [qmf]
  unfold qci
  dsimp only
  rw [if_neg (by decide)]
  unfold lst q59
  simp only [Nat.reduceAdd,List.set_cons_zero,List.set_cons_succ,qzu,qzv,qzw,qzx,qzy,qzz,qz0,qz1,qca]
theorem q7r{v:V8}(hv:lt8 v){s:Str}(hs:64≤s.length)(hs2:s.length≤9223372036854775807):z04 (tup v,s)=some (tup (qyf v s)):=by
  unfold z04
  dsimp only
  have h1:qeo (((0:Int),s),((List.replicate 64 (0:Int)),(lst v,[0,0,0,0,0,0,0,0])))=_:=qwp hs hs2 (lst v) [0,0,0,0,0,0,0,0] 64 0 [] (by omega) rfl (fun _ h=>by cases h)
  have h1:qeo (((0:Int),s),((List.replicate 64 (0:Int)),([(tup v).1,(tup v).2.1,(tup v).2.2.1,(tup v).2.2.2.1,(tup v).2.2.2.2.1,(tup v).2.2.2.2.2.1,(tup v).2.2.2.2.2.2.1,(tup v).2.2.2.2.2.2.2],[0,0,0,0,0,0,0,0])))=_:=h1
  rw [h1,sb,if_pos (show 8≤(lst v).length by simp [lst])]
  have h2:qdf ((0:Int),(lst v,(zs (sch s 64 []),(lst v,[0,0,0,0,0,0,0,0]))))=_:=qt7 (lst v) [0,0,0,0,0,0,0,0] (qyn s 64 []) (q5d 64 (fun _ h=>by cases h)) 64 0 v rfl hv
  have hl:[elt (.int .u32) (lst v) 0,elt (.int .u32) (lst v) 1,elt (.int .u32) (lst v) 2,elt (.int .u32) (lst v) 3,elt (.int .u32) (lst v) 4,elt (.int .u32) (lst v) 5,elt (.int .u32) (lst v) 6,elt (.int .u32) (lst v) 7]=lst v:=by
    unfold lst
    simp only [qzu,qzv,qzw,qzx,qzy,qzz,qz0,qz1]
  dsimp only
  rw [hl,h2,sb,qt8,sb]
  dsimp only
  rw [if_pos (show 8≤(lst _).length by simp [lst]),if_pos (by rfl)]
  unfold lst
  simp only [qzu,qzv,qzw,qzx,qzy,qzz,qz0,qz1]
  rfl
theorem q6a(u v:V8):lt8 (q59 u v):=⟨m32 _,m32 _,m32 _,m32 _,m32 _,m32 _,m32 _,m32 _⟩
theorem q4y(u:V8)(s:Str):lt8 (qyf u s):=q6a _ _
theorem qy3(many:Int): ∀(k:Nat) (s:Str),s.length+k≤1000000000→k<64→(s.length+k)%64=56→qsd (s,many)=some (many,s++List.replicate k 0):=by
  intro k
  induction k with
  | zero =>
    intro s hs hk hm
    rw [qpj]
    unfold qf0
    dsimp only
    have:Int.tmod (s.length:Int) 64=56:=by rw [Int.tmod_eq_emod_of_nonneg (by omega)];omega
    rw [if_neg (by rw [this];decide),List.replicate_zero,List.append_nil]
  | succ k ih =>
    intro s hs hk hm
    rw [qpj]
    unfold qf0
    dsimp only
    have:Int.tmod (s.length:Int) 64≠56:=by rw [Int.tmod_eq_emod_of_nonneg (by omega)];omega
    have hl1:(s++([0]:Str)).length=s.length+1:=by simp
    rw [if_pos (by simpa using this),if_pos (by simp;omega),ih (s++([0]:Str)) (by omega) (by omega) (by omega),List.replicate_succ,List.append_assoc]
    rfl
theorem qu0(n:Nat):UInt8.ofNat (IntKind.wrap .u8 (n:Int)).toNat=UInt8.ofNat n:=by
  have:IntKind.wrap .u8 (n:Int)=((n%256:Nat):Int):=by
    show(n:Int)%256=_
    omega
  rw [this,Int.toNat_natCast]
  apply UInt8.toNat_inj.1
  rw [UInt8.toNat_ofNat',UInt8.toNat_ofNat']
  omega
theorem q33(x:Nat){k:Nat}(hk:k≤64):ja .u64 (x:Int) (k:Int)=((x / 2^k:Nat):Int):=by
  show Int.fdiv (x:Int) (2^(min (Int.toNat (k:Int)) 64))=_
  rw [Int.toNat_natCast,Nat.min_eq_left hk,Int.fdiv_eq_ediv_of_nonneg _ (Int.pow_nonneg (by decide)),Int.natCast_ediv,Int.natCast_pow];rfl
theorem qvj(m:Nat): ∀(n:Nat) (s:Str),n≤8→s.length+n≤1000000000→qfy ((n:Int)-1,((m:Int),s))=some (s++qz2 m n):=by
  intro n
  induction n with
  | zero =>
    intro s _ hs
    rw [ql6]
    unfold qcb
    dsimp only
    rw [if_neg (by rw [decide_eq_true_eq];omega)]
    show some s=some (s++[])
    rw [List.append_nil]
  | succ n ih =>
    intro s hn hs
    have e:((n+1:Nat):Int)-1=(n:Int):=by omega
    have hw:w64 ((n:Int)-1)=(n:Int)-1:=qx (by omega)
    have hw8:w64 ((8:Int)*(n:Int))=((8*n:Nat):Int):=by rw [qx (by omega)];omega
    rw [e,ql6]
    unfold qcb
    dsimp only
    rw [if_pos (by rw [decide_eq_true_eq];omega),hw8,if_pos (by omega),if_pos (by rw [qet];simp;omega),hw,q33 m (by omega)]
    have hb:jm [IntKind.wrap .u8 ((m / 2^(8*n):Nat):Int)]=[UInt8.ofNat (m / 2^(8*n))]:=by
      show [UInt8.ofNat (IntKind.wrap .u8 ((m / 2^(8*n):Nat):Int)).toNat]=_
      rw [qu0]
    rw [hb,ih _ (by omega) (by rw [List.length_append];simp;omega),List.append_assoc]
    rfl
theorem qvk: ∀(n:Nat) (s:Str) (v:V8),lt8 v→s.length=64*n→s.length≤1000000000→qfz (s,lst v)=some (lst (uz n s v)):=by
  intro n
  induction n with
  | zero =>
    intro s v hv hs _
    obtain rfl:s=[]:=List.length_eq_zero_iff.1 (by omega)
    rw [ql7]
    unfold qcc
    dsimp only
    rw [if_neg (by decide)]
    rfl
  | succ n ih =>
    intro s v hv hs hl
    have hne:s≠[]:=by rintro rfl;simp at hs
    rw [ql7]
    unfold qcc
    dsimp only
    have ht:((elt (.int .u32) (lst v) 0),((elt (.int .u32) (lst v) 1),((elt (.int .u32) (lst v) 2),((elt (.int .u32) (lst v) 3),((elt (.int .u32) (lst v) 4),((elt (.int .u32) (lst v) 5),((elt (.int .u32) (lst v) 6),(elt (.int .u32) (lst v) 7))))))))=tup v:=by
      unfold lst tup
      simp only [qzu,qzv,qzw,qzx,qzy,qzz,qz0,qz1]
    rw [if_pos (by simpa using hne),if_pos (show 8≤(lst v).length by simp [lst]),ht,q7r hv (by omega) (by omega),sb,if_pos (by rfl),if_pos (by omega),if_pos (by omega)]
    simp only [Int.toNat_natCast,List.take_length]
    rw [q5q,qqo]
    exact ih (s.drop 64) _ (q4y _ _) (by rw [List.length_drop];omega) (by rw [List.length_drop];omega)
def w4(x:Int):List Int:=[(IntKind.wrap .u8 (ja .u32 x (24:Int))),(IntKind.wrap .u8 (ja .u32 x (16:Int))),(IntKind.wrap .u8 (ja .u32 x (8:Int))),(IntKind.wrap .u8 x)]
theorem jfb(x:Nat):jm (w4 (x:Int))=qfw x:=by
  have h1:ja .u32 (x:Int) (24:Int)=_:=qk0 x (k:=24) (by decide)
  have h2:ja .u32 (x:Int) (16:Int)=_:=qk0 x (k:=16) (by decide)
  have h3:ja .u32 (x:Int) (8:Int)=_:=qk0 x (k:=8) (by decide)
  unfold w4
  rw [h1,h2,h3]
  show [UInt8.ofNat _,UInt8.ofNat _,UInt8.ofNat _,UInt8.ofNat _]=_
  rw [qu0,qu0,qu0,qu0]
  rfl
theorem qvl(x:Int×(Int×(Int×(Int×(Int×(Int×(Int×Int))))))):
    jt (((0:Int),x),[])=some (w4 x.1++w4 x.2.1++w4 x.2.2.1++w4 x.2.2.2.1++w4 x.2.2.2.2.1++w4 x.2.2.2.2.2.1++w4 x.2.2.2.2.2.2.1++w4 x.2.2.2.2.2.2.2):=by
  have hsum: ∀(c l:List Int),c.length≤100→l.length=4→qq (c.length+l.length) 1:=fun c l hc hl=>by constructor <;>omega
  have s0: ∀c:List Int,c.length≤100→jt (((0:Int),x),c)=jt (((1:Int),x),c++w4 x.1):=fun c hc=>by
    conv=>lhs;rw [vg]
    unfold vp
    dsimp only
    rw [if_pos (by decide)]
    iterate 7 rw [if_neg (by decide)]
    rw [if_pos (by decide),if_pos (hsum _ _ hc rfl)]
    rfl
  have s1: ∀c:List Int,c.length≤100→jt (((1:Int),x),c)=jt (((2:Int),x),c++w4 x.2.1):=fun c hc=>by
    conv=>lhs;rw [vg]
    unfold vp
    dsimp only
    rw [if_pos (by decide)]
    iterate 6 rw [if_neg (by decide)]
    rw [if_pos (by decide),if_pos (hsum _ _ hc rfl)]
    rfl
  have s2: ∀c:List Int,c.length≤100→jt (((2:Int),x),c)=jt (((3:Int),x),c++w4 x.2.2.1):=fun c hc=>by
    conv=>lhs;rw [vg]
    unfold vp
    dsimp only
    rw [if_pos (by decide)]
    iterate 5 rw [if_neg (by decide)]
    rw [if_pos (by decide),if_pos (hsum _ _ hc rfl)]
    rfl
  have s3: ∀c:List Int,c.length≤100→jt (((3:Int),x),c)=jt (((4:Int),x),c++w4 x.2.2.2.1):=fun c hc=>by
    conv=>lhs;rw [vg]
    unfold vp
    dsimp only
    rw [if_pos (by decide)]
    iterate 4 rw [if_neg (by decide)]
    rw [if_pos (by decide),if_pos (hsum _ _ hc rfl)]
    rfl
  have s4: ∀c:List Int,c.length≤100→jt (((4:Int),x),c)=jt (((5:Int),x),c++w4 x.2.2.2.2.1):=fun c hc=>by
    conv=>lhs;rw [vg]
    unfold vp
    dsimp only
    rw [if_pos (by decide)]
    iterate 3 rw [if_neg (by decide)]
    rw [if_pos (by decide),if_pos (hsum _ _ hc rfl)]
    rfl
  have s5: ∀c:List Int,c.length≤100→jt (((5:Int),x),c)=jt (((6:Int),x),c++w4 x.2.2.2.2.2.1):=fun c hc=>by
    conv=>lhs;rw [vg]
    unfold vp
    dsimp only
    rw [if_pos (by decide)]
    iterate 2 rw [if_neg (by decide)]
    rw [if_pos (by decide),if_pos (hsum _ _ hc rfl)]
    rfl
  have s6: ∀c:List Int,c.length≤100→jt (((6:Int),x),c)=jt (((7:Int),x),c++w4 x.2.2.2.2.2.2.1):=fun c hc=>by
    conv=>lhs;rw [vg]
    unfold vp
    dsimp only
    rw [if_pos (by decide),if_neg (by decide),if_pos (by decide),if_pos (hsum _ _ hc rfl)]
    rfl
  have s7: ∀c:List Int,c.length≤100→jt (((7:Int),x),c)=jt (((8:Int),x),c++w4 x.2.2.2.2.2.2.2):=fun c hc=>by
    conv=>lhs;rw [vg]
    unfold vp
    dsimp only
    rw [if_pos (by decide),if_pos (by decide),if_pos (hsum _ _ hc rfl)]
    rfl
  have s8: ∀c:List Int,jt (((8:Int),x),c)=some c:=fun c=>by
    rw [vg]
    unfold vp
    dsimp only
    rw [if_neg (by decide)]
  rw [s0 _ (by simp [w4]),s1 _ (by simp [w4]),s2 _ (by simp [w4]),s3 _ (by simp [w4]),s4 _ (by simp [w4]),s5 _ (by simp [w4]),s6 _ (by simp [w4]),s7 _ (by simp [w4]),s8,List.nil_append]
theorem qqq(a b:List Int):jm (a++b)=jm a++jm b:=List.map_append ..
theorem qza:lt8 v7:=by unfold lt8 v7;decide
theorem qs3(m:Nat): ∀n,(qz2 m n).length=n
  |0=>rfl
  |n+1=>by show(qz2 m n).length+1=_;rw [qs3 m n]
theorem q4z(s:Str):(qi8 s).length%64=0∧(qi8 s).length≤s.length+200:=by
  unfold qi8
  simp only [List.length_append,List.length_cons,List.length_replicate,qs3]
  omega
theorem q1p{s:Str}(hs:s.length≤100000000):z00 [s]=some (sha s):=by
  unfold z00
  have hj:yw ([s],([]:Str))=some s:=by
    unfold yw
    simp only [Lib.join_one]
    exact if_pos ⟨by simp,by omega⟩
  have hl1:(s++([128]:Str)).length=s.length+1:=by simp
  have hmany:IntKind.wrap .u64 (IntKind.wrap .u64 (s.length:Int)*(8:Int))=((s.length*8:Nat):Int):=by
    have h1:IntKind.wrap .u64 (s.length:Int)=(s.length:Int):=by show(s.length:Int)%18446744073709551616=_;omega
    rw [h1]
    show((s.length:Int)*8)%18446744073709551616=_
    omega
  rw [hj,sb,if_pos (by simp;omega),hmany,qy3 _ ((119-s.length%64)%64) (s++([128]:Str)) (by omega) (by omega) (by rw [hl1];omega),sb]
  have h2:qfy ((7:Int),(((s.length*8:Nat):Int),(s++([128]:Str))++List.replicate ((119-s.length%64)%64) 0))=_:=qvj (s.length*8) 8 ((s++([128]:Str))++List.replicate ((119-s.length%64)%64) 0) (by omega) (by rw [List.length_append,List.length_replicate];omega)
  have hp:(s++([128]:Str))++List.replicate ((119-s.length%64)%64) 0++qz2 (s.length*8) 8=qi8 s:=by
    unfold qi8
    simp only [List.append_assoc,List.cons_append,List.nil_append]
  rw [h2,sb,hp]
  have hb:z32 ()=some (tup v7):=rfl
  rw [hb,sb]
  obtain⟨g1,g2⟩:=q4z s
  have h3:qfz (qi8 s,[(tup v7).1,(tup v7).2.1,(tup v7).2.2.1,(tup v7).2.2.2.1,(tup v7).2.2.2.2.1,(tup v7).2.2.2.2.2.1,(tup v7).2.2.2.2.2.2.1,(tup v7).2.2.2.2.2.2.2])=_:=
    qvk ((qi8 s).length / 64) (qi8 s) v7 qza (by omega) (by omega)
  rw [h3,sb,if_pos (show 8≤(lst _).length by simp [lst])]
  unfold sha
  generalize uz ((qi8 s).length / 64) (qi8 s) v7=v
  have ht:((elt (.int .u32) (lst v) 0),((elt (.int .u32) (lst v) 1),((elt (.int .u32) (lst v) 2),((elt (.int .u32) (lst v) 3),((elt (.int .u32) (lst v) 4),((elt (.int .u32) (lst v) 5),((elt (.int .u32) (lst v) 6),(elt (.int .u32) (lst v) 7))))))))=tup v:=by
    unfold lst tup
    simp only [qzu,qzv,qzw,qzx,qzy,qzz,qz0,qz1]
  rw [ht,qvl,sb]
  unfold tup jel
  simp only [qqq,jfb,List.append_assoc]
theorem qyp(s:Str):(sha s).length=32:=rfl
end Go.Plain
namespace Go.Plain
open Go.AM
set_option linter.unusedVariables false
def hv(b:UInt8):Nat:=if b.toNat≤57 then b.toNat-48 else b.toNat-87
def unh:Str→Str
  |a::b::r=>UInt8.ofNat (16*hv a+hv b)::unh r
  |_=>[]
theorem q89{b:UInt8}(h:wo b=true):hv b<16:=by
  simp only [wo,Bool.or_eq_true,Bool.and_eq_true,decide_eq_true_eq] at h
  unfold hv
  split <;>omega
theorem qoq{b:UInt8}(h:wo b=true):jd (qs0,(b.toNat:Int))=some (hv b:Int):=by
  have hb:b=UInt8.ofNat b.toNat:=by simp
  simp only [wo,Bool.or_eq_true,Bool.and_eq_true,decide_eq_true_eq] at h
  have:b.toNat=48∨b.toNat=49∨b.toNat=50∨b.toNat=51∨b.toNat=52∨b.toNat=53∨b.toNat=54∨b.toNat=55∨b.toNat=56∨b.toNat=57∨b.toNat=97∨b.toNat=98∨b.toNat=99∨b.toNat=100∨b.toNat=101∨b.toNat=102:=by omega
  rcases this with e|e|e|e|e|e|e|e|e|e|e|e|e|e|e|e <;>rw [hb,e] <;>rfl
theorem qnm(s:Str):jm (qp s)=s:=by
  unfold jm qp
  rw [List.map_map]
  conv=>rhs;rw [←List.map_id s]
  refine List.map_congr_left fun b _=> ?_
  show UInt8.ofNat (Int.toNat (b.toNat:Int))=b
  rw [Int.toNat_natCast]
  simp
theorem q40{a b:Nat}(ha:a<16)(hb:b<16):IntKind.wrap .u8 (w64 ((w64 ((a:Int)*(16:Int)))+(b:Int)))=((UInt8.ofNat (16*a+b)).toNat:Int):=by
  have e1:w64 ((a:Int)*16)=(a:Int)*16:=qx (by omega)
  have e2:w64 ((a:Int)*16+(b:Int))=(a:Int)*16+(b:Int):=qx (by omega)
  have e3:IntKind.wrap .u8 ((a:Int)*16+(b:Int))=(a:Int)*16+(b:Int):=wr8 (by omega)
  rw [e1,e2,e3,UInt8.toNat_ofNat']
  omega
theorem qrm{s:Str}(hs:s.length≤1048576): ∀(n i:Nat) (p:List Int),2*(i+n)=s.length→p.length=i→(s.drop (2*i)).all wo=true→
    qep (((i:Int),(s,((i+n:Nat):Int))),p++List.replicate n 0)=some (.inr (p++qp (unh (s.drop (2*i))))):=by
  intro n
  induction n with
  | zero =>
    intro i p hi hp hx
    rw [List.drop_of_length_le (by omega),qdi]
    unfold qao
    dsimp only
    rw [if_neg (by rw [decide_eq_true_eq];omega)]
    rfl
  | succ n ih =>
    intro i p hi hp hx
    have h1:2*i<s.length:=by omega
    have h2:2*i+1<s.length:=by omega
    have hw:w64 ((i:Int)+1)=((i+1:Nat):Int):=by rw [qx (by omega)];omega
    have hw2:w64 ((2:Int)*(i:Int))=((2*i:Nat):Int):=by rw [qx (by omega)];omega
    have hw3:w64 (((2*i:Nat):Int)+1)=((2*i+1:Nat):Int):=by rw [qx (by omega)];omega
    rw [xg h1,xg h2,List.all_cons,List.all_cons,Bool.and_eq_true,Bool.and_eq_true] at hx
    obtain⟨x1,x2,x3⟩:=hx
    have ha:jd (([48,49,50,51,52,53,54,55,56,57,97,98,99,100,101,102]:Str),(s[2*i].toNat:Int))=_:=qoq x1
    have hb:jd (([48,49,50,51,52,53,54,55,56,57,97,98,99,100,101,102]:Str),(s[2*i+1].toNat:Int))=_:=qoq x2
    have hcl:(p++List.replicate (n+1) (0:Int)).length=i+(n+1):=by rw [List.length_append,List.length_replicate];omega
    rw [xg h1,xg h2,qdi]
    unfold qao
    dsimp only
    rw [hw,hw2,hw3,qkb h1,qkb h2,if_pos (by rw [decide_eq_true_eq];omega),if_pos (by omega),if_pos (by omega),ha,sb,if_pos (by omega),if_pos (by omega),hb,sb,
      if_neg (by rw [decide_eq_true_eq];omega),if_neg (by rw [decide_eq_true_eq];omega),if_pos (by omega),if_pos (by omega)]
    simp only [Int.toNat_natCast]
    rw [if_pos (by omega),q40 (q89 x1) (q89 x2)]
    have e:(p++List.replicate (n+1) (0:Int)).set i ((UInt8.ofNat (16*hv s[2*i]+hv s[2*i+1])).toNat:Int)=(p++[((UInt8.ofNat (16*hv s[2*i]+hv s[2*i+1])).toNat:Int)])++List.replicate n 0:=by
      have:=qyo p (0:Int) ((UInt8.ofNat (16*hv s[2*i]+hv s[2*i+1])).toNat:Int) (List.replicate n 0)
      rw [hp] at this
      rw [List.replicate_succ,this]
    rw [e]
    have h:=ih (i+1) (p++[((UInt8.ofNat (16*hv s[2*i]+hv s[2*i+1])).toNat:Int)]) (by omega) (by simp [hp]) (by rw [show 2*(i+1)=2*i+1+1 by omega];exact x3)
    rw [show i+(n+1)=i+1+n by omega,h,show 2*(i+1)=2*i+1+1 by omega,List.append_assoc]
    rfl
theorem q8a{s:Str}(hs:s.length≤1048576)(he:s.length%2=0)(hx:s.all wo=true):z0i s=some (unh s,0):=by
  unfold z0i
  have ht:Int.tmod (s.length:Int) 2=((s.length%2:Nat):Int):=by rw [Int.tmod_eq_emod_of_nonneg (by omega)];omega
  have hd:Int.tdiv (s.length:Int) 2=((s.length / 2:Nat):Int):=by rw [Int.tdiv_eq_ediv_of_nonneg (by omega)];omega
  have hw:w64 ((s.length / 2:Nat):Int)=((s.length / 2:Nat):Int):=qx (by omega)
  have hsum:qq (s.length / 2) 1:=⟨by omega,by omega⟩
  rw [ht,hd,hw,if_neg (by simp;omega),if_pos rfl,if_pos (by omega)]
  simp only [Int.toNat_natCast]
  rw [if_pos hsum]
  have h:=qrm hs (s.length / 2) 0 [] (by omega) rfl (by rw [Nat.mul_zero,List.drop_zero];exact hx)
  rw [Nat.mul_zero,List.drop_zero,Nat.zero_add] at h
  have h:qep (((0:Int),(s,((s.length / 2:Nat):Int))),List.replicate (s.length / 2) 0)=_:=h
  rw [List.length_replicate,h,sb]
  show some (jm ([]++qp (unh s)),(0:Int))=_
  rw [List.nil_append,qnm]
theorem qyw: ∀(n:Nat) (s:Str),s.length=2*n→(unh s).length=n
  |0,s,h=>by obtain rfl:=List.length_eq_zero_iff.1 h;rfl
  | n + 1, a :: b :: r, h => by
    show(unh r).length+1=n+1
    rw [qyw n r (by simp at h;omega)]
  |n+1,[],h=>by simp at h
  |n+1,[a],h=>by simp at h;omega
theorem jbk {s : Str} (hs : s.length ≤ 1048576) : z1t s = some (if isD s then (unh (s.drop 7), 0) else ([], 6)) := by
  unfold z1t
  rw [q2k,sb]
  by_cases q:s.take 7=qd7
  · rw [if_pos q]
    dsimp only
    by_cases d:isD s=true
    · have d' := d
      simp only [isD,Bool.and_eq_true,decide_eq_true_eq] at d'
      have hl:(s.drop 7).length=64:=by rw [List.length_drop];omega
      have hu:=qyw 32 (s.drop 7) hl
      rw [q8a (by omega) (by omega) d'.2,sb,if_neg (by decide),if_neg (show¬((0:Int) !=0)=true by decide),if_neg (by simp [hu]),if_pos d]
    · obtain ⟨r, h1, h2, h3⟩ := qsf (s := s.drop 7) (by rw [List.length_drop]; omega)
      rw [h1,sb,if_neg (by decide),if_neg d]
      by_cases c:r.2=0
      · rw [if_neg (by simp [c])]
        rw [c] at h2
        have h2:(true:Bool)=_:=h2
        have h2:=h2.symm
        simp only [Bool.and_eq_true,decide_eq_true_eq] at h2
        have h3:=h3 c
        rw [if_pos]
        simp only [bne_iff_ne,ne_eq]
        intro e
        refine d ?_
        rw [List.length_drop] at h3 h2
        have hl:s.length=71:=by omega
        simp [isD,hl,q,h2.2]
      · rw [if_pos (by simpa using c)]
  · rw [if_neg q]
    have d:isD s=false:=by simp [isD,q]
    obtain⟨r,h1,_⟩:=qsf (s:=s) hs
    dsimp only
    rw [h1,sb,if_pos (by decide),d]
    rfl
theorem qx1: ∀n,n<16→hv (qqy n)=n:=by
  intro n h
  rcases n with _|_|_|_|_|_|_|_|_|_|_|_|_|_|_|_|n
  all_goals first|rfl|omega
theorem qu1: ∀r:Str,unh (zr r)=r
  |[]=>rfl
  | b :: r => by
    have hb:=b.toNat_lt
    show UInt8.ofNat (16*hv (qqy (b.toNat / 16))+hv (qqy (b.toNat%16)))::unh (zr r)=b::r
    rw [qu1 r,qx1 _ (by omega),qx1 _ (by omega),Nat.div_add_mod]
    simp
def vu(s:Str):Str:=qd7++zr (sha s)
theorem q8h{s:Str}(hs:s.length≤100000000):z1w s=some (vu s):=by
  unfold z1w
  have h1:=qyp s
  have h2:qjj (sha s)=some (zr (sha s)):=if_pos (by omega)
  have hl:=qkw (sha s)
  rw [q1p hs,sb,h2,sb,if_pos (by simp;omega)]
  rfl
theorem qbb(s:Str):isD (vu s)=true:=by
  have hl:=qkw (sha s)
  have h1:=qyp s
  have e1:(vu s).length=71:=by simp [vu,qd7];omega
  have e2:(vu s).take 7=qd7:=rfl
  have e3:(vu s).drop 7=zr (sha s):=rfl
  unfold isD
  rw [e1,e2,e3,qv5]
  rfl
def qkr(d x:Str):Bool:=isD d&&decide (sha x=unh (d.drop 7))
theorem qhc(s:Str):qkr (vu s) s=true:=by
  unfold qkr
  rw [qbb]
  have e3:(vu s).drop 7=zr (sha s):=rfl
  rw [e3,qu1]
  simp
end Go.Plain
