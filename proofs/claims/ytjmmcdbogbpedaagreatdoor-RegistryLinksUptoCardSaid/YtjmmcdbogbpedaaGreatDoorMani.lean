import Derived.Test.YtjmmcdbogbpedaaGreatDoorPrn
import Derived.Test.YtjmmcdbogbpedaaGreatDoorFacts
namespace Go.Plain
open Go.AM
theorem q0c:jh.length=64:=by decide
theorem qgr(l:List Int):(ja l).length=l.length:=by simp [ja]
def ju(b:UInt8):Bool:=(decide (48≤b.toNat)&&decide (b.toNat≤57))||(decide (97≤b.toNat)&&decide (b.toNat≤102))
def qfh:Str:=[115,104,97,50,53,54,58]
def isD(s:Str):Bool:=decide (s.length=71)&&decide (s.take 7=qfh)&&(s.drop 7).all ju
theorem qoc: ∀n,n<16→ju (qw8 n)=true:=by
  intro n h
  rcases n with _|_|_|_|_|_|_|_|_|_|_|_|_|_|_|_|n
  all_goals first|rfl|omega
theorem q25(s:Str):(ul s).all ju=true:=by
  rw [List.all_eq_true]
  intro b hb
  unfold ul at hb
  obtain⟨x,_,hx⟩:=List.mem_flatMap.1 hb
  have hx2:=x.toNat_lt
  simp at hx
  rcases hx with rfl|rfl
  · exact qoc _ (by omega)
  · exact qoc _ (by omega)
end Go.Plain
namespace Go.Plain
open Go.AM
theorem q48 (b : UInt8) : ∃ h, z32 (b.toNat : Int) = some h ∧ decide (h > 15) = !ju b := by
  have hb:=b.toNat_lt
  unfold z32
  by_cases c1:48≤b.toNat
  · by_cases c2 : b.toNat ≤ 57
    · have e1 : IntKind.wrap .u8 ((b.toNat : Int) - 48) = (b.toNat : Int) - 48 := wr8 (by omega)
      have e2:w64 ((b.toNat:Int)-48)=(b.toNat:Int)-48:=qh (by omega)
      rw [if_pos (by rw [decide_eq_true_eq];omega),if_pos (by rw [decide_eq_true_eq];omega),e1,e2]
      refine⟨_,rfl, ?_⟩
      have:ju b=true:=by simp [ju,c1,c2]
      rw [this,decide_eq_false (by omega)]
      rfl
    · rw [if_pos (by rw [decide_eq_true_eq]; omega), if_neg (by rw [decide_eq_true_eq]; omega)]
      by_cases c3:97≤b.toNat
      · by_cases c4 : b.toNat ≤ 102
        · have e1 : IntKind.wrap .u8 ((b.toNat : Int) - 97) = (b.toNat : Int) - 97 := wr8 (by omega)
          have e2:w64 ((b.toNat:Int)-97)=(b.toNat:Int)-97:=qh (by omega)
          have e3:w64 ((b.toNat:Int)-97+10)=(b.toNat:Int)-97+10:=qh (by omega)
          rw [if_pos (by rw [decide_eq_true_eq];omega),if_pos (by rw [decide_eq_true_eq];omega),e1,e2,e3]
          refine⟨_,rfl, ?_⟩
          have:ju b=true:=by simp [ju,c3,c4]
          rw [this,decide_eq_false (by omega)]
          rfl
        · rw [if_pos (by rw [decide_eq_true_eq]; omega), if_neg (by rw [decide_eq_true_eq]; omega)]
          refine⟨_,rfl, ?_⟩
          have:ju b=false:=by simp [ju,c2,c4]
          rw [this]
          rfl
      · rw [if_neg (by rw [decide_eq_true_eq]; omega)]
        refine⟨_,rfl, ?_⟩
        have:ju b=false:=by simp [ju,c2,c3]
        rw [this]
        rfl
  · have c3 : ¬ 97 ≤ b.toNat := by omega
    rw [if_neg (by rw [decide_eq_true_eq];omega),if_neg (by rw [decide_eq_true_eq];omega)]
    refine⟨_,rfl, ?_⟩
    have:ju b=false:=by simp [ju,c1,c3]
    rw [this]
    rfl
theorem q08 {s : Str} (hs : s.length ≤ 1048576) : ∀ (n i : Nat) (c : List Int), i + 2 * n = s.length → c.length ≤ i →
    ∃c',qgk (((i:Int),s),c)=some (if(s.drop i).all ju then .inr (s,c') else .inl ([],false)):=by
  intro n
  induction n with
  | zero =>
    intro i c hi hc
    have hw:w64 ((i:Int)+1)=(i:Int)+1:=qh (by omega)
    rw [List.drop_of_length_le (by omega),qfb]
    unfold qb1
    dsimp only
    rw [hw,if_neg (by rw [decide_eq_true_eq];omega)]
    exact⟨c,rfl⟩
  | succ n ih =>
    intro i c hi hc
    have h1:i<s.length:=by omega
    have h2:i+1<s.length:=by omega
    have hw:w64 ((i:Int)+1)=((i+1:Nat):Int):=by rw [qh (by omega)];omega
    have hw2:w64 ((i:Int)+2)=((i+2:Nat):Int):=by rw [qh (by omega)];omega
    obtain⟨a,ha,ga⟩:=q48 s[i]
    obtain⟨b,hb,gb⟩:=q48 s[i+1]
    rw [jb h1,jb h2,List.all_cons,List.all_cons,qfb]
    unfold qb1
    dsimp only
    rw [hw,hw2,ww h1,ww h2,if_pos (by rw [decide_eq_true_eq];omega),if_pos (by omega),if_pos (by omega),ha,sb,ga]
    cases hx:ju s[i] with
    |false=>exact⟨[],by simp⟩
    | true =>
      rw [if_neg (by simp),if_pos (by omega),if_pos (by omega),hb,sb,gb]
      cases hy:ju s[i+1] with
      |false=>exact⟨[],by simp⟩
      | true =>
        have hsum: ∀v:Int,qi (c.length+[v].length) 1:=fun v=>by constructor <;>simp <;>omega
        rw [if_neg (by simp),if_pos (by omega),if_pos (by omega),sb,if_pos (by omega),if_pos (by omega),sb,if_pos (hsum _)]
        simp only [Bool.true_and]
        exact ih (i+2) _ (by omega) (by rw [List.length_append,List.length_singleton];omega)
theorem q09 {s : Str} : ∃ p, z2l s = some p ∧ p.2 = isD s := by
  unfold z2l isD
  by_cases h:s.length=71
  · rw [if_neg (by simp [h]), if_pos (by omega)]
    by_cases g:s.take 7=qfh
    · have hd : (s.drop 7).length = 64 := by rw [List.length_drop]; omega
      obtain⟨c,hc⟩:=q08 (s:=s.drop 7) (by omega) 32 0 [] (by omega) (by simp)
      have hc:qgk (((0:Int),s.drop 7),[])=_:=hc
      rw [if_neg (by rw [g];decide),if_pos (by omega),if_pos (by omega)]
      simp only [Int.toNat_natCast,List.take_length]
      unfold z19
      rw [hc,sb,List.drop_zero]
      cases hx:(s.drop 7).all ju with
      | true =>
        refine⟨_,rfl, ?_⟩
        show(Int.tmod ((s.drop 7).length:Int) 2==0)=_
        rw [hd,g,h]
        rfl
      |false=>exact⟨_,rfl,by simp⟩
    · have : (s.take 7 != ([115, 104, 97, 50, 53, 54, 58] : Str)) = true := bne_iff_ne.2 g
      rw [if_pos this]
      exact⟨_,rfl,by simp [g]⟩
  · rw [if_pos (by simp; omega)]
    exact⟨_,rfl,by simp [h]⟩
theorem q4q{s:Str}:z2o s=some (isD s):=by
  unfold z2o
  obtain⟨p,h1,h2⟩:=q09 (s:=s)
  rw [h1,sb,h2]
def qzn:Str:=[48,49,50,51,52,53,54,55,56,57,97,98,99,100,101,102]
theorem qg5 (b : UInt8) : ∃ k, jk (qzn, (b.toNat : Int)) = some k ∧ decide (k < 0) = !ju b := by
  unfold jk
  have e:((b.toNat:Int)).toNat.toUInt8=b:=by simp
  dsimp only
  rw [e]
  refine⟨_,rfl, ?_⟩
  have hm: ∀b:UInt8,(b∈qzn)↔ju b=true:=by
    intro b
    have hb:b=UInt8.ofNat b.toNat:=by simp
    constructor
    · intro h
      simp only [qzn,List.mem_cons,List.not_mem_nil,or_false] at h
      rcases h with rfl|rfl|rfl|rfl|rfl|rfl|rfl|rfl|rfl|rfl|rfl|rfl|rfl|rfl|rfl|rfl <;>rfl
    · intro h
      simp only [ju,Bool.or_eq_true,Bool.and_eq_true,decide_eq_true_eq] at h
      have:b.toNat=48∨b.toNat=49∨b.toNat=50∨b.toNat=51∨b.toNat=52∨b.toNat=53∨b.toNat=54∨b.toNat=55∨b.toNat=56∨b.toNat=57∨b.toNat=97∨b.toNat=98∨b.toNat=99∨b.toNat=100∨b.toNat=101∨b.toNat=102:=by omega
      rcases this with e|e|e|e|e|e|e|e|e|e|e|e|e|e|e|e <;>rw [hb,e] <;>decide
  have hi: ∀(l:Str),(Lib.indexByte l b<0)↔b∉l:=by
    intro l
    induction l with
    |nil=>simp [Lib.indexByte]
    | cons x l ih =>
      have hge:=Lib.indexByte_ge l b
      unfold Lib.indexByte
      by_cases hx:x=b
      · simp [hx]
      · have hx' : ¬ b = x := fun h => hx h.symm
        simp only [hx,beq_iff_eq,if_false,List.mem_cons,hx',false_or]
        rw [←ih]
        split <;>omega
  cases hx:ju b with
  | true =>
    have: ¬Lib.indexByte qzn b<0:=fun h=>((hi qzn).1 h) ((hm b).2 hx)
    rw [decide_eq_false this]
    rfl
  | false =>
    have:Lib.indexByte qzn b<0:=(hi qzn).2 fun h=>by rw [(hm b).1 h] at hx;cases hx
    rw [decide_eq_true this]
    rfl
theorem q0l {s : Str} (hs : s.length ≤ 1048576) : ∀ (n i : Nat) (c : List Int), 2 * (i + n) = s.length → c.length = i + n →
    ∃c',qgj (((i:Int),(s,(c.length:Int))),c)=some (if(s.drop (2*i)).all ju then .inr c' else .inl ([],4))∧c'.length=c.length:=by
  intro n
  induction n with
  | zero =>
    intro i c hi hc
    rw [List.drop_of_length_le (by omega),qe8]
    unfold qb0
    dsimp only
    rw [if_neg (by rw [decide_eq_true_eq];omega)]
    exact⟨c,rfl,rfl⟩
  | succ n ih =>
    intro i c hi hc
    have h1:2*i<s.length:=by omega
    have h2:2*i+1<s.length:=by omega
    have hw:w64 ((i:Int)+1)=((i+1:Nat):Int):=by rw [qh (by omega)];omega
    have hw2:w64 ((2:Int)*(i:Int))=((2*i:Nat):Int):=by rw [qh (by omega)];omega
    have hw3:w64 (((2*i:Nat):Int)+1)=((2*i+1:Nat):Int):=by rw [qh (by omega)];omega
    obtain⟨a,ha,ga⟩:=qg5 s[2*i]
    obtain⟨b,hb,gb⟩:=qg5 s[2*i+1]
    have ha:jk (([48,49,50,51,52,53,54,55,56,57,97,98,99,100,101,102]:Str),(s[2*i].toNat:Int))=some a:=ha
    have hb:jk (([48,49,50,51,52,53,54,55,56,57,97,98,99,100,101,102]:Str),(s[2*i+1].toNat:Int))=some b:=hb
    rw [jb h1,jb h2,List.all_cons,List.all_cons,qe8]
    unfold qb0
    dsimp only
    rw [hw,hw2,hw3,ww h1,ww h2,if_pos (by rw [decide_eq_true_eq];omega),if_pos (by omega),if_pos (by omega),ha,sb,if_pos (by omega),if_pos (by omega),hb,sb,ga,gb]
    cases hx:ju s[2*i] with
    |false=>exact⟨c,by simp,rfl⟩
    | true =>
      cases hy:ju s[2*i+1] with
      |false=>exact⟨c,by simp,rfl⟩
      | true =>
        rw [if_neg (by simp),if_neg (by simp),if_pos (by omega),if_pos (by omega)]
        simp only [Int.toNat_natCast,Bool.true_and]
        rw [if_pos (by omega)]
        obtain⟨c',q1,q2⟩:=ih (i+1) (c.set i (IntKind.wrap .u8 (w64 ((w64 (a*(16:Int)))+b)))) (by omega) (by rw [List.length_set];omega)
        rw [List.length_set] at q1 q2
        exact⟨c',q1,q2⟩
theorem qyv {s : Str} (hs : s.length ≤ 1048576) : ∃ r : Str × Int, z12 s = some r ∧ (r.2 == 0) = (decide (s.length % 2 = 0) && s.all ju) ∧ (r.2 = 0 → r.1.length = s.length / 2) := by
  unfold z12
  have ht:Int.tmod (s.length:Int) 2=((s.length%2:Nat):Int):=by rw [Int.tmod_eq_emod_of_nonneg (by omega)];omega
  have hd:Int.tdiv (s.length:Int) 2=((s.length / 2:Nat):Int):=by rw [Int.tdiv_eq_ediv_of_nonneg (by omega)];omega
  have hw:w64 ((s.length / 2:Nat):Int)=((s.length / 2:Nat):Int):=qh (by omega)
  rw [ht,hd,hw]
  by_cases c:s.length%2=0
  · rw [if_neg (by simp; omega), if_pos rfl, if_pos (by omega)]
    simp only [Int.toNat_natCast]
    have hsum:qi (s.length / 2) 1:=⟨by omega,by omega⟩
    rw [if_pos hsum]
    obtain⟨c',q1,q2⟩:=q0l hs (s.length / 2) 0 (List.replicate (s.length / 2) (0:Int)) (by omega) (by simp)
    have q1:qgj (((0:Int),(s,((List.replicate (s.length / 2) (0:Int)).length:Int))),List.replicate (s.length / 2) (0:Int))=_:=q1
    rw [q1,sb,Nat.mul_zero,List.drop_zero]
    cases hx:s.all ju with
    | true =>
      refine⟨_,rfl, ?_,fun _=> ?_⟩
      · simp [c]
      · show (ja c').length = _
        rw [qgr,q2,List.length_replicate]
    |false=>exact⟨_,rfl,by simp,fun h=>by simp at h⟩
  · rw [if_pos (by simp; omega)]
    exact⟨_,rfl,by simp [c],fun h=>by simp at h⟩
theorem jak(s:Str):zh (s,([115,104,97,50,53,54,58]:Str))=some (if s.take 7=qfh then(s.drop 7,true) else(s,false)):=by
  show some (Lib.trimPrefix s qfh,Lib.hasPrefix s qfh)=_
  have hp:Lib.hasPrefix s qfh=decide (s.take 7=qfh):=by
    rw [Bool.eq_iff_iff,decide_eq_true_eq]
    unfold Lib.hasPrefix
    rw [List.isPrefixOf_iff_prefix,List.prefix_iff_eq_take]
    exact eq_comm
  unfold Lib.trimPrefix
  rw [hp]
  by_cases q:s.take 7=qfh
  · rw [if_pos (by simpa using q),if_pos q,decide_eq_true q];rfl
  · rw [if_neg (by simpa using q),if_neg q,decide_eq_false q]
theorem q4p {s : Str} (hs : s.length ≤ 1048576) : z2n s = some (isD s) := by
  unfold z2n z2x
  have hcut:=jak s
  rw [hcut,sb]
  by_cases q:s.take 7=qfh
  · have hl : 7 ≤ s.length := by
      have:=congrArg List.length q
      rw [List.length_take] at this
      have e:qfh.length=7:=rfl
      omega
    rw [if_pos q]
    obtain⟨r,h1,h2,h3⟩:=qyv (s:=s.drop 7) (by rw [List.length_drop];omega)
    have hld:(s.drop 7).length=s.length-7:=List.length_drop
    rw [h1,sb,if_neg (show¬((!true)=true) by decide)]
    by_cases c:r.2=0
    · have h3 := h3 c
      rw [hld] at h3
      rw [c] at h2
      have h2:(decide ((s.drop 7).length%2=0)&&(s.drop 7).all ju)=true:=by rw [←h2];rfl
      simp only [Bool.and_eq_true,decide_eq_true_eq] at h2
      rw [hld] at h2
      rw [if_neg (by simp [c])]
      by_cases e:s.length=71
      · rw [if_neg (by rw [h3, e]; decide), sb]
        simp [isD,e,q,h2.2]
      · rw [if_pos (by simp; omega), sb]
        simp [isD,e]
    · have h2' : (decide ((s.drop 7).length % 2 = 0) && (s.drop 7).all ju) = false := by rw [← h2]; simpa using c
      rw [if_pos (by simpa using c),sb]
      have:isD s=false:=by
        unfold isD
        by_cases e:s.length=71
        · have e2 : (s.drop 7).length % 2 = 0 := by rw [hld]; omega
          rw [decide_eq_true e2,Bool.true_and] at h2'
          rw [h2']
          simp
        · simp [e]
      rw [this]
      rfl
  · rw [if_neg q]
    obtain⟨r,h1,_,_⟩:=qyv (s:=s) hs
    rw [h1,sb,if_pos (show((!false)=true) by decide),sb]
    simp [isD,q]
end Go.Plain
namespace Go.Plain
open Go.AM
abbrev Man:Type:=Bool×(Str×(List (Str×Int)×List Str))
def MB(m:Man):Prop:=m.2.1.length≤5000∧m.2.2.1.length≤5000∧(∀l∈m.2.2.1,l.1.length≤5000∧ -9223372036854775808≤l.2∧l.2≤9223372036854775807)∧m.2.2.2.length≤5000∧∀k∈m.2.2.2,k.length≤5000
theorem jc(t:Ty)(a:List t.den)(x:t.den)(b:List t.den):elt t (a++x::b) a.length=x:=by
  unfold elt
  simp [List.getD_eq_getElem?_getD]
theorem q5u{α:Type}(a:List α)(x y:α)(b:List α):(a++x::b).set a.length y=(a++[y])++b:=by
  rw [List.set_append_right _ _ (Nat.le_refl _),Nat.sub_self]
  simp
theorem jf{α:Type}(a:List α)(x:α)(b:List α):a++x::b=(a++[x])++b:=by simp
theorem j4{α:Type}(a:List α)(x:α):((a++[x]).length:Int)=(a.length:Int)+1:=by simp
theorem q1s{α:Type}(a b:List α):(a++b).take a.length=a:=by simp
theorem jj0(a b:Nat):min (a:Int) (b:Int)=((min a b:Nat):Int):=by omega
theorem jcv {l : List Str} (hl : l.length ≤ 1048576) (s : Str) : z1m (l, s) = some (l.contains s) := by
  have key: ∀(b a:List Str),(a++b).length≤1048576→qrs ((a.length:Int),(s,(a++b,((a++b).length:Int))))=some (if b.contains s then .inl true else .inr ()):=by
    intro b
    induction b with
    | nil =>
      intro a hl
      rw [qvu]
      unfold qjl
      dsimp only
      rw [if_neg (by simp)]
      rfl
    | cons x b ih =>
      intro a hl
      have hl2:(a++x::b).length=a.length+(b.length+1):=by simp
      have hw:w64 ((a.length:Int)+1)=(a.length:Int)+1:=qh (by omega)
      have h1:=ih (a++[x]) (by simp at hl ⊢;omega)
      rw [qvu]
      unfold qjl
      dsimp only
      rw [Int.toNat_natCast,jc .str,if_pos (by rw [decide_eq_true_eq];omega),if_pos (by omega),if_pos (by omega),hw]
      by_cases e:x=s
      · rw [if_pos (beq_iff_eq.2 e)]
        simp [e]
      · have e2 : ¬ s = x := fun h => e h.symm
        rw [j4] at h1
        rw [if_neg (by simpa using e),jf,h1]
        simp [e2]
  have h:=key l [] (by simpa using hl)
  have h:qrs ((0:Int),(s,(l,(l.length:Int))))=_:=h
  unfold z1m
  dsimp only
  rw [h,sb]
  cases l.contains s <;>rfl
theorem js{l:List Str}(hl:l.length≤1048576)(s:Str):z0x (l,s)=some (l.contains s):=by
  obtain⟨r,h1,h2⟩:=qz5 (l:=l) (by omega) s
  unfold z0x
  dsimp only
  rw [h1,sb]
  rcases h2 with⟨e,h⟩|⟨j,e,h⟩
  · have : l.contains s = false := by
      rw [←Bool.not_eq_true,List.contains_iff_mem]
      intro hm
      obtain⟨j,hj⟩:=List.mem_iff_getElem?.1 hm
      exact h j hj
    rw [this,e]
    rfl
  · have : l.contains s = true := List.contains_iff_mem.2 (List.mem_iff_getElem?.2 ⟨j, h⟩)
    rw [this,e,decide_eq_true (by omega)]
def kf:List Str→List Str→Bool
  |_,[]=>true
  |a,k::r=>isD k&& !a.contains k&&kf (a++[k]) r
def lf(l:Str×Int):Bool:=isD l.1&&decide (0≤l.2)&&decide (l.2≤4096)
def okM(m:Man):Bool:=if m.1 then kf [] m.2.2.2&&decide (1≤m.2.2.2.length)&&decide (m.2.2.2.length≤8)&&decide (m.2.1=[])&&decide (m.2.2.1=[])
  else isD m.2.1&&decide (m.2.2.2=[])&&decide (m.2.2.1.length≤8)&&m.2.2.1.all lf
theorem qwm (c : Man) (hc : MB c) : ∀ (b a : List Str), a ++ b = c.2.2.2 → qq9 (((a.length : Int), (c.2.2.2, (c.2.2.2.length : Int))), c) = some (if kf a b then .inr c else .inl false) := by
  intro b
  induction b with
  | nil =>
    intro a hl
    rw [List.append_nil] at hl
    rw [qvc]
    unfold qi3
    dsimp only
    rw [if_neg (by rw [hl];simp)]
    rfl
  | cons x b ih =>
    intro a hl
    have hl2:(c.2.2.2).length=a.length+(b.length+1):=by rw [←hl];simp
    have hb:=hc.2.2.2.1
    have hx:x.length≤5000:=hc.2.2.2.2 x (by rw [←hl];simp)
    have hw:w64 ((a.length:Int)+1)=(a.length:Int)+1:=qh (by omega)
    have h1:=ih (a++[x]) (by rw [←hl];simp)
    rw [j4] at h1
    have he:elt .str c.2.2.2 a.length=x:=by rw [←hl];exact jc .str a x b
    have ht:List.take a.length c.2.2.2=a:=by rw [←hl];exact q1s a _
    rw [qvc]
    unfold qi3
    dsimp only
    rw [Int.toNat_natCast,he,ht,if_pos (by rw [decide_eq_true_eq];omega),if_pos (by omega),if_pos (by omega),q4p (by omega),sb,js (by omega),hw,h1]
    cases q:isD x with
    |false=>simp [kf,q]
    | true =>
      rw [if_neg (by decide),if_pos (by omega),if_pos (by omega),sb]
      cases p:a.contains x with
      |true=>simp [kf,q];rw [List.contains_iff_mem] at p;simp [p]
      | false =>
        rw [if_neg (by decide)]
        simp only [kf,q,p]
        rfl
theorem qpa (c : Man) (hc : MB c) : ∀ (b a : List Str), a ++ b = c.2.2.2 → qqu (((a.length : Int), (c.2.2.2, (c.2.2.2.length : Int))), c) = some (if kf a b then .inr c else .inl false) := by
  intro b
  induction b with
  | nil =>
    intro a hl
    rw [List.append_nil] at hl
    rw [qu2]
    unfold qiq
    dsimp only
    rw [if_neg (by rw [hl];simp)]
    rfl
  | cons x b ih =>
    intro a hl
    have hl2:(c.2.2.2).length=a.length+(b.length+1):=by rw [←hl];simp
    have hb:=hc.2.2.2.1
    have hx:x.length≤5000:=hc.2.2.2.2 x (by rw [←hl];simp)
    have hw:w64 ((a.length:Int)+1)=(a.length:Int)+1:=qh (by omega)
    have h1:=ih (a++[x]) (by rw [←hl];simp)
    rw [j4] at h1
    have he:elt .str c.2.2.2 a.length=x:=by rw [←hl];exact jc .str a x b
    have ht:List.take a.length c.2.2.2=a:=by rw [←hl];exact q1s a _
    rw [qu2]
    unfold qiq
    dsimp only
    rw [Int.toNat_natCast,he,ht,if_pos (by rw [decide_eq_true_eq];omega),if_pos (by omega),if_pos (by omega),q4q,sb,jcv (by omega),hw,h1]
    cases q:isD x with
    |false=>simp [kf,q]
    | true =>
      rw [if_neg (by decide),if_pos (by omega),if_pos (by omega),sb]
      cases p:a.contains x with
      |true=>simp [kf,q];rw [List.contains_iff_mem] at p;simp [p]
      | false =>
        rw [if_neg (by decide)]
        simp only [kf,q,p]
        rfl
theorem qmm (c : Man) (hc : MB c) : ∀ (b a : List (Str × Int)), a ++ b = c.2.2.1 → qip (((a.length : Int), (c.2.2.1, (c.2.2.1.length : Int))), c) = some (if b.all lf then .inr c else .inl false) := by
  intro b
  induction b with
  | nil =>
    intro a hl
    rw [List.append_nil] at hl
    rw [qqt]
    unfold qd0
    dsimp only
    rw [if_neg (by rw [hl];simp)]
    rfl
  | cons x b ih =>
    intro a hl
    have hl2:(c.2.2.1).length=a.length+(b.length+1):=by rw [←hl];simp
    have hb:=hc.2.1
    have hw:w64 ((a.length:Int)+1)=(a.length:Int)+1:=qh (by omega)
    have h1:=ih (a++[x]) (by rw [←hl];simp)
    rw [j4] at h1
    have he:elt (.pair .str (.int .i64)) c.2.2.1 a.length=x:=by rw [←hl];exact jc (.pair .str (.int .i64)) a x b
    rw [qqt]
    unfold qd0
    dsimp only
    rw [Int.toNat_natCast,he,if_pos (by rw [decide_eq_true_eq];omega),if_pos (by omega),if_pos (by omega),q4q,sb,hw,h1,List.all_cons]
    unfold lf
    cases q:isD x.1 with
    |false=>rfl
    | true =>
      rw [if_neg (by decide)]
      by_cases c1:x.2<0
      · rw [if_pos (decide_eq_true c1), decide_eq_false (p := 0 ≤ x.2) (by omega)]
        rfl
      · rw [if_neg (by simpa using c1), decide_eq_true (p := 0 ≤ x.2) (by omega)]
        by_cases c2:x.2>4096
        · rw [if_pos (decide_eq_true c2), decide_eq_false (p := x.2 ≤ 4096) (by omega)]
          rfl
        · rw [if_neg (by simpa using c2), decide_eq_true (p := x.2 ≤ 4096) (by omega)]
          rfl
theorem q2g {l : Str × Int} (h : l.1.length ≤ 1048576) : z3p l = some (!lf l) := by
  unfold z3p lf
  rw [q4p h,sb]
  cases isD l.1 with
  |false=>rfl
  | true =>
    rw [if_neg (by decide)]
    by_cases c1:l.2<0
    · rw [if_pos (decide_eq_true c1), decide_eq_false (p := 0 ≤ l.2) (by omega)]
      rfl
    · rw [if_neg (by simpa using c1), decide_eq_true (p := 0 ≤ l.2) (by omega)]
      by_cases c2:l.2>4096
      · rw [decide_eq_true c2, decide_eq_false (p := l.2 ≤ 4096) (by omega)]
        rfl
      · rw [decide_eq_false c2, decide_eq_true (p := l.2 ≤ 4096) (by omega)]
        rfl
theorem jkr {l : List (Str × Int)} (hl : l.length ≤ 1048576) (hs : ∀ x ∈ l, x.1.length ≤ 1048576) : z3k l = some (!l.all lf) := by
  have key: ∀(b a:List (Str×Int)),(a++b).length≤1048576→(∀x∈b,x.1.length≤1048576)→
      ∃r,qr7 ((a.length:Int),(a++b,((a++b).length:Int)))=some r∧((b.all lf=true∧r= .inr ())∨(b.all lf=false∧∃k,r= .inl k∧0≤k)):=by
    intro b
    induction b with
    | nil =>
      intro a hl _
      rw [qwb]
      unfold qj3
      dsimp only
      rw [if_neg (by simp)]
      exact⟨_,rfl,.inl ⟨rfl,rfl⟩⟩
    | cons x b ih =>
      intro a hl hs
      have hl2:(a++x::b).length=a.length+(b.length+1):=by simp
      have hw:w64 ((a.length:Int)+1)=(a.length:Int)+1:=qh (by omega)
      obtain⟨r,h1,h2⟩:=ih (a++[x]) (by simp at hl ⊢;omega) (fun y hy=>hs y (by simp [hy]))
      rw [qwb]
      unfold qj3
      dsimp only
      rw [Int.toNat_natCast,jc (.pair .str (.int .i64)),if_pos (by rw [decide_eq_true_eq];omega),if_pos (by omega),if_pos (by omega),q2g (hs x (by simp)),sb,hw,List.all_cons]
      cases q:lf x with
      | false =>
        rw [if_pos (by rfl)]
        exact⟨_,rfl,.inr ⟨rfl,_,rfl,by omega⟩⟩
      | true =>
        rw [j4,←jf] at h1
        rw [if_neg (by decide),h1]
        exact⟨r,rfl,h2⟩
  obtain⟨r,h1,h2⟩:=key l [] (by simpa using hl) hs
  have h1:qr7 ((0:Int),(l,(l.length:Int)))=some r:=h1
  unfold z3k z27
  rw [h1,sb]
  rcases h2 with⟨e,rfl⟩|⟨e,k,rfl,hk⟩
  · rw [e]
    rfl
  · rw [e]
    show some (decide (k≥0))=_
    rw [decide_eq_true hk]
    rfl
theorem jgi{α:Type}(l:List α)[DecidableEq α]:((l.length:Int)==(0:Int))=decide (l=[]):=by
  cases l with
  |nil=>rfl
  | cons a l =>
    rw [decide_eq_false (by simp),beq_eq_false_iff_ne]
    simp
    omega
theorem jey {m : Man} (hm : MB m) : z0u m = some (okM m) := by
  unfold z0u okM
  cases hi:m.1 with
  | true =>
    rw [if_pos rfl,if_pos rfl]
    have h:=qwm m hm m.2.2.2 [] rfl
    have h:qq9 (((0:Int),(m.2.2.2,(m.2.2.2.length:Int))),m)=_:=h
    rw [h,sb]
    cases hk:kf [] m.2.2.2 with
    |false=>rfl
    | true =>
      rw [if_pos rfl]
      dsimp only [Sum.elim_inr]
      by_cases c1:1≤m.2.2.2.length
      · rw [if_pos (by rw [decide_eq_true_eq]; omega)]
        by_cases c2:m.2.2.2.length≤8
        · rw [if_pos (by rw [decide_eq_true_eq]; omega)]
          by_cases c3:m.2.1=[]
          · rw [if_pos (by rw [c3]; rfl), jgi]
            simp [c1,c2,c3]
          · rw [if_neg (by simpa using c3)]
            simp [c3]
        · rw [if_neg (by rw [decide_eq_true_eq]; omega)]
          simp [c2]
      · rw [if_neg (by rw [decide_eq_true_eq]; omega)]
        simp [c1]
  | false =>
    rw [if_neg (show¬(false=true) by decide),if_neg (show¬(false=true) by decide),q4p (by have:=hm.1;omega),sb]
    cases isD m.2.1 with
    |false=>rfl
    | true =>
      rw [if_pos rfl,jgi]
      by_cases c1:m.2.2.2=[]
      · rw [if_pos (decide_eq_true c1)]
        by_cases c2:m.2.2.1.length≤8
        · rw [if_pos (by rw [decide_eq_true_eq]; omega), jkr (by omega) (fun x hx => by have := (hm.2.2.1 x hx).1; omega), sb]
          simp [c1,c2]
        · rw [if_neg (by rw [decide_eq_true_eq]; omega)]
          simp [c2]
      · rw [if_neg (by simpa using c1)]
        simp [c1]
theorem jew {m : Man} (hm : MB m) : z0j m = some (okM m) := by
  unfold z0j okM
  have h:=qpa m hm m.2.2.2 [] rfl
  have h:qqu (((0:Int),(m.2.2.2,(m.2.2.2.length:Int))),m)=_:=h
  have g:=qmm m hm m.2.2.1 [] rfl
  have g:qip (((0:Int),(m.2.2.1,(m.2.2.1.length:Int))),m)=_:=g
  rw [h,sb]
  have e0:kf [] m.2.2.2=false→m.2.2.2≠[]:=by
    intro q p
    rw [p] at q
    cases q
  have e1:m.2.2.1.all lf=false→m.2.2.1≠[]:=by
    intro q p
    rw [p] at q
    cases q
  cases hk:kf [] m.2.2.2 with
  | false =>
    have:=e0 hk
    cases m.1 <;>simp [this]
  | true =>
    rw [if_pos rfl]
    dsimp only [Sum.elim_inr]
    rw [g,sb]
    cases hl:m.2.2.1.all lf with
    | false =>
      have:=e1 hl
      cases m.1 <;>simp [this]
    | true =>
      rw [if_pos rfl]
      dsimp only [Sum.elim_inr]
      by_cases c1:m.2.2.2.length≤8
      · rw [if_neg (by rw [decide_eq_true_eq]; omega)]
        by_cases c2:m.2.2.1.length≤8
        · rw [if_neg (by rw [decide_eq_true_eq]; omega)]
          cases hi:m.1 with
          | true =>
            rw [if_pos rfl,if_pos rfl]
            by_cases c3:1≤m.2.2.2.length
            · rw [if_pos (by rw [decide_eq_true_eq]; omega)]
              by_cases c4:m.2.1=[]
              · rw [if_pos (by rw [c4]; rfl), jgi]
                simp [c1,c3,c4]
              · rw [if_neg (by simpa using c4)]
                simp [c4]
            · rw [if_neg (by rw [decide_eq_true_eq]; omega)]
              simp [c3]
          | false =>
            rw [if_neg (show¬(false=true) by decide),if_neg (show¬(false=true) by decide),q4q,sb,jgi]
            cases isD m.2.1 with
            |false=>rfl
            | true =>
              rw [if_pos rfl]
              simp [c2]
        · rw [if_pos (by rw [decide_eq_true_eq]; omega)]
          have:m.2.2.1≠[]:=by intro q;rw [q] at c2;simp at c2
          cases m.1 <;>simp [c2,this]
      · rw [if_pos (by rw [decide_eq_true_eq]; omega)]
        have:m.2.2.2≠[]:=by intro q;rw [q] at c1;simp at c1
        cases m.1 <;>simp [c1,this]
end Go.Plain
namespace Go.Plain
open Go.AM
set_option linter.unusedVariables false
def rot(x k:Nat):Nat:=x / 2^k+x%2^k*2^(32-k)
def qgo(s:Str)(t:Nat):Nat:=256*(256*(256*(s.getD (4*t) 0).toNat+(s.getD (4*t+1) 0).toNat)+(s.getD (4*t+2) 0).toNat)+(s.getD (4*t+3) 0).toNat
def jda(x2 x7 x15 x16:Nat):Nat:=
  ((((rot x2 17^^^rot x2 19)^^^x2 / 1024)+x7)%4294967296+((rot x15 7^^^rot x15 18)^^^x15 / 8))%4294967296
def ji1(x16 y:Nat):Nat:=(y+x16)%4294967296
def u6(s:Str)(W:List Nat):List Nat:=
  W++[if W.length<16 then qgo s W.length else ji1 (W.getD (W.length-16) 0) (jda (W.getD (W.length-2) 0) (W.getD (W.length-7) 0) (W.getD (W.length-15) 0) 0)]
def sch(s:Str):Nat→List Nat→List Nat
  |0,W=>W
  |n+1,W=>sch s n (u6 s W)
abbrev V8:Type:=Nat×Nat×Nat×Nat×Nat×Nat×Nat×Nat
def chW(e f g:Nat):Nat:=(e&&&f)^^^((4294967295-e)&&&g)
def jc6(a b c:Nat):Nat:=((a&&&b)^^^(a&&&c))^^^(b&&&c)
def t1W(e f g h k w:Nat):Nat:=((((h+((rot e 6^^^rot e 11)^^^rot e 25))%4294967296+chW e f g)%4294967296+k)%4294967296+w)%4294967296
def t2W(a b c:Nat):Nat:=(((rot a 2^^^rot a 13)^^^rot a 22)+jc6 a b c)%4294967296
def que(k w:Nat):V8→V8
  |(a,b,c,d,e,f,g,h)=>((t1W e f g h k w+t2W a b c)%4294967296,a,b,c,(d+t1W e f g h k w)%4294967296,e,f,g)
def qgd(W:List Nat):Nat→Nat→V8→V8
  |0,_,v=>v
  |n+1,i,v=>qgd W n (i+1) (que (jh.getD i 0).toNat (W.getD i 0) v)
def q6b(u v:V8):V8:=
  ((u.1 + v.1) % 4294967296, (u.2.1 + v.2.1) % 4294967296, (u.2.2.1 + v.2.2.1) % 4294967296, (u.2.2.2.1 + v.2.2.2.1) % 4294967296,
   (u.2.2.2.2.1+v.2.2.2.2.1)%4294967296,(u.2.2.2.2.2.1+v.2.2.2.2.2.1)%4294967296,(u.2.2.2.2.2.2.1+v.2.2.2.2.2.2.1)%4294967296,(u.2.2.2.2.2.2.2+v.2.2.2.2.2.2.2)%4294967296)
def qlz(h:V8)(s:Str):V8:=q6b h (qgd (sch s 64 []) 64 0 h)
def xl:Nat→Str→V8→V8
  |0,_,h=>h
  |n+1,s,h=>xl n (s.drop 64) (qlz h s)
def kh:V8:=(1779033703,3144134277,1013904242,2773480762,1359893119,2600822924,528734635,1541459225)
def qzr(m:Nat):Nat→Str
  |0=>[]
  |n+1=>UInt8.ofNat (m / 2^(8*n))::qzr m n
def uv(s:Str):Str:=s++128::(List.replicate ((119-s.length%64)%64) 0++qzr (s.length*8) 8)
def qfu(x:Nat):Str:=[UInt8.ofNat (x / 16777216),UInt8.ofNat (x / 65536),UInt8.ofNat (x / 256),UInt8.ofNat x]
def jgy(v:V8):Str:=qfu v.1++(qfu v.2.1++(qfu v.2.2.1++(qfu v.2.2.2.1++(qfu v.2.2.2.2.1++(qfu v.2.2.2.2.2.1++(qfu v.2.2.2.2.2.2.1++qfu v.2.2.2.2.2.2.2))))))
def sha(s:Str):Str:=jgy (xl ((uv s).length / 64) (uv s) kh)
def lt8(v:V8):Prop:=v.1<4294967296∧v.2.1<4294967296∧v.2.2.1<4294967296∧v.2.2.2.1<4294967296∧v.2.2.2.2.1<4294967296∧v.2.2.2.2.2.1<4294967296∧v.2.2.2.2.2.2.1<4294967296∧v.2.2.2.2.2.2.2<4294967296
theorem jz{x k:Nat}(hx:x<4294967296)(hk:k≤32):rot x k<4294967296:=by
  unfold rot
  have hp:4294967296=2^k*2^(32-k):=by rw [←Nat.pow_add,Nat.add_sub_cancel' hk]
  have h1:x / 2^k<2^(32-k):=by
    rw [Nat.div_lt_iff_lt_mul (Nat.two_pow_pos k),Nat.mul_comm,←hp];exact hx
  have h2:x%2^k+1≤2^k:=Nat.mod_lt _ (Nat.two_pow_pos k)
  calc x / 2^k+x%2^k*2^(32-k)<2^(32-k)+x%2^k*2^(32-k):=Nat.add_lt_add_right h1 _
    _=(x%2^k+1)*2^(32-k):=by rw [Nat.add_mul,Nat.one_mul,Nat.add_comm]
    _≤2^k*2^(32-k):=Nat.mul_le_mul_right _ h2
    _=4294967296:=hp.symm
theorem qbw{a b:Nat}(ha:a<4294967296)(hb:b<4294967296):a^^^b<4294967296:=Nat.xor_lt_two_pow (n:=32) ha hb
theorem y4{a b:Nat}(hb:b<4294967296):a&&&b<4294967296:=Nat.and_lt_two_pow (n:=32) a hb
theorem m32(n:Nat):n%4294967296<4294967296:=Nat.mod_lt _ (by decide)
theorem jkp(n:Nat):IntKind.wrap .u32 (n:Int)=((n%4294967296:Nat):Int):=by
  show(n:Int)%4294967296=_
  omega
theorem ye(a b:Nat):IntKind.wrap .u32 ((a:Int)+(b:Int))=(((a+b)%4294967296:Nat):Int):=by
  rw [←jkp];congr 1
theorem wc{n:Nat}(h:n<4294967296):IntKind.wrap .u32 (n:Int)=(n:Int):=by rw [jkp,Nat.mod_eq_of_lt h]
theorem ofI(n:Nat):BitVec.ofInt 32 (n:Int)=BitVec.ofNat 32 n:=BitVec.ofInt_natCast ..
theorem wj{a b:Nat}(ha:a<4294967296)(hb:b<4294967296):vg .u32 (a:Int) (b:Int)=((a^^^b:Nat):Int):=by
  show IntKind.wrap .u32 ((BitVec.ofInt 32 (a:Int)^^^BitVec.ofInt 32 (b:Int)).toNat:Int)=_
  rw [ofI,ofI,BitVec.toNat_xor,BitVec.toNat_ofNat,BitVec.toNat_ofNat,Nat.mod_eq_of_lt ha,Nat.mod_eq_of_lt hb,wc (qbw ha hb)]
theorem qcq{a b:Nat}(ha:a<4294967296)(hb:b<4294967296):yy .u32 (a:Int) (b:Int)=((a&&&b:Nat):Int):=by
  show IntKind.wrap .u32 ((BitVec.ofInt 32 (a:Int)&&&BitVec.ofInt 32 (b:Int)).toNat:Int)=_
  rw [ofI,ofI,BitVec.toNat_and,BitVec.toNat_ofNat,BitVec.toNat_ofNat,Nat.mod_eq_of_lt ha,Nat.mod_eq_of_lt hb,wc (y4 hb)]
theorem q5c{a b:Nat}(ha:a<4294967296)(hb:b<4294967296):ior .u32 (a:Int) (b:Int)=((a|||b:Nat):Int):=by
  show IntKind.wrap .u32 ((BitVec.ofInt 32 (a:Int)|||BitVec.ofInt 32 (b:Int)).toNat:Int)=_
  rw [ofI,ofI,BitVec.toNat_or,BitVec.toNat_ofNat,BitVec.toNat_ofNat,Nat.mod_eq_of_lt ha,Nat.mod_eq_of_lt hb,wc (Nat.or_lt_two_pow (n:=32) ha hb)]
theorem qxd(x:Nat){k:Nat}(hk:k≤32):qsk .u32 (x:Int) (k:Int)=((x*2^k%4294967296:Nat):Int):=by
  show IntKind.wrap .u32 ((x:Int)*2^(min (Int.toNat (k:Int)) 32))=_
  rw [Int.toNat_natCast,Nat.min_eq_left hk,←jkp]
  congr 1
theorem qog(x:Nat){k:Nat}(hk:k≤32):jv .u32 (x:Int) (k:Int)=((x / 2^k:Nat):Int):=by
  show Int.fdiv (x:Int) (2^(min (Int.toNat (k:Int)) 32))=_
  rw [Int.toNat_natCast,Nat.min_eq_left hk,Int.fdiv_eq_ediv_of_nonneg _ (Int.pow_nonneg (by decide)),Int.natCast_ediv,Int.natCast_pow];rfl
theorem jke{x k:Nat}(hx:x<4294967296)(hk:k≤32):(x*2^(32-k)%4294967296)|||(x / 2^k)=rot x k:=by
  unfold rot
  have hp:4294967296=2^k*2^(32-k):=by rw [←Nat.pow_add,Nat.add_sub_cancel' hk]
  have h1:x / 2^k<2^(32-k):=by
    rw [Nat.div_lt_iff_lt_mul (Nat.two_pow_pos k),Nat.mul_comm,←hp];exact hx
  have h2:x*2^(32-k)%4294967296=x%2^k*2^(32-k):=by
    rw [hp,Nat.mul_mod_mul_right]
  rw [h2,←Nat.shiftLeft_eq,←Nat.shiftLeft_add_eq_or_of_lt h1,Nat.add_comm]
theorem jo5: ∀k:Nat,k<32→0<k→yy .u64 (IntKind.wrap .u64 (w64 ((0:Int)-(k:Int)))) (31:Int)=((32-k:Nat):Int):=by decide
theorem jj5: ∀k:Nat,k<32→0<k→IntKind.wrap .u64 ((32:Int)-((32-k:Nat):Int))=(k:Int):=by decide
theorem uc{x k:Nat}(hx:x<4294967296)(hk:k<32)(h0:0<k):z35 ((x:Int),w64 ((0:Int)-(k:Int)))=some ((rot x k:Nat):Int):=by
  unfold z35
  dsimp only
  rw [jo5 k hk h0,jj5 k hk h0,if_pos (by omega),qxd x (by omega),qog x (by omega),q5c (m32 _) (Nat.lt_of_le_of_lt (Nat.div_le_self _ _) hx),jke hx (by omega)]
theorem qly{x a b c:Nat}(hx:x<4294967296)(ha:a<32)(hb:b<32)(hc:c<32)(a0:0<a)(b0:0<b)(c0:0<c):
    z2m ((x:Int),((a:Int),((b:Int),((c:Int),true))))=some ((((rot x a^^^rot x b)^^^x / 2^c:Nat)):Int):=by
  unfold z2m
  dsimp only
  rw [uc hx hc c0,sb,if_pos rfl,if_pos (by omega),uc hx ha a0,sb,uc hx hb b0,sb,qog x (by omega),wj (jz hx (by omega)) (jz hx (by omega)),
    wj (qbw (jz hx (by omega)) (jz hx (by omega))) (Nat.lt_of_le_of_lt (Nat.div_le_self _ _) hx)]
theorem qhg{x a b c:Nat}(hx:x<4294967296)(ha:a<32)(hb:b<32)(hc:c<32)(a0:0<a)(b0:0<b)(c0:0<c):
    z2m ((x:Int),((a:Int),((b:Int),((c:Int),false))))=some ((((rot x a^^^rot x b)^^^rot x c:Nat)):Int):=by
  unfold z2m
  dsimp only
  rw [uc hx hc c0,sb,if_neg (by decide),uc hx ha a0,sb,uc hx hb b0,sb,wj (jz hx (by omega)) (jz hx (by omega)),
    wj (qbw (jz hx (by omega)) (jz hx (by omega))) (jz hx (by omega))]
theorem jin{e:Nat}(he:e<4294967296):vg .u32 (4294967295:Int) (e:Int)=((4294967295-e:Nat):Int):=by
  rw [show(4294967295:Int)=((4294967295:Nat):Int) from rfl,wj (by decide) he]
  congr 1
  apply Nat.eq_of_testBit_eq
  intro i
  have h:=Nat.testBit_two_pow_sub_succ (n:=32) (x:=e) he i
  have he2:e<2^32:=he
  have e1:(4294967295:Nat)-e=2^32-(e+1):=by omega
  rw [e1,h,Nat.testBit_xor,show(4294967295:Nat)=2^32-1 from rfl,Nat.testBit_two_pow_sub_one]
  by_cases hi:i<32
  · simp [hi]
  · simp only [hi, decide_false, Bool.false_and, Bool.false_xor]
    exact Nat.testBit_lt_two_pow (Nat.lt_of_lt_of_le he (Nat.pow_le_pow_right (show 2>0 by decide) (by omega:32≤i)))
def zs(l:List Nat):List Int:=l.map fun n:Nat=>(n:Int)
theorem qea(l:List Nat):(zs l).length=l.length:=List.length_map ..
theorem qn3(l:List Nat)(r:List Int){j:Nat}(h:j<l.length):elt (.int .u32) (zs l++r) j=((l.getD j 0:Nat):Int):=by
  have h1:j<(zs l++r).length:=by rw [List.length_append,qea];omega
  rw [qkf (t:= .int .u32) h1,List.getElem_append_left (by rw [qea];exact h)]
  simp [zs,List.getD_eq_getElem?_getD,h]
theorem qej(l:List Nat){j:Nat}(h:j<l.length):elt (.int .u32) (zs l) j=((l.getD j 0:Nat):Int):=by
  have:=qn3 l [] h
  rwa [List.append_nil] at this
theorem qh1(s:Str)(W:List Nat):(u6 s W).length=W.length+1:=by simp [u6]
theorem qm5(s:Str): ∀(n:Nat) (W:List Nat),(sch s n W).length=W.length+n
  |0,W=>rfl
  |n+1,W=>by unfold sch;rw [qm5 s n,qh1];omega
theorem q5t(s:Str): ∀(m n:Nat) (W:List Nat),sch s (m+n) W=sch s n (sch s m W)
  |0,n,W=>by rw [Nat.zero_add];rfl
  | m + 1, n, W => by
    rw [Nat.add_right_comm]
    show sch s (m+n) (u6 s W)=sch s n (sch s m (u6 s W))
    exact q5t s m n _
theorem jfk(s:Str)(t:Nat):qgo s t<4294967296:=by
  unfold qgo
  have h1:=UInt8.toNat_lt (s.getD (4*t) 0)
  have h2:=UInt8.toNat_lt (s.getD (4*t+1) 0)
  have h3:=UInt8.toNat_lt (s.getD (4*t+2) 0)
  have h4:=UInt8.toNat_lt (s.getD (4*t+3) 0)
  omega
theorem qyn{s:Str}{W:List Nat}(h: ∀x∈W,x<4294967296): ∀x∈u6 s W,x<4294967296:=by
  intro x hx
  unfold u6 at hx
  rcases List.mem_append.1 hx with hx|hx
  · exact h x hx
  · rw [List.mem_singleton.1 hx]
    split
    · exact jfk _ _
    · exact m32 _
theorem q30{s:Str}: ∀(n:Nat) {W:List Nat},(∀x∈W,x<4294967296)→∀x∈sch s n W,x<4294967296
  |0,W,h=>h
  |n+1,W,h=>by unfold sch;exact q30 n (qyn h)
theorem qmv{W:List Nat}(h: ∀x∈W,x<4294967296)(j:Nat):W.getD j 0<4294967296:=by
  by_cases hj:j<W.length
  · rw [List.getD_eq_getElem?_getD, List.getElem?_eq_getElem hj]
    exact h _ (List.getElem_mem _)
  · rw [List.getD_eq_getElem?_getD, List.getElem?_eq_none (by omega)]
    decide
end Go.Plain
namespace Go.Plain
open Go.AM
set_option linter.unusedVariables false
theorem q2s(s:Str)(i:Nat):bt s (i:Int)=((s.getD i 0).toNat:Int):=by
  show(((s.getD (Int.toNat (i:Int)) 0).toNat:Nat):Int)=_
  rw [Int.toNat_natCast]
theorem or4{a b c d:Nat}(ha:a<256)(hb:b<256)(hc:c<256)(hd:d<256):
    ((a*2^24%4294967296|||b*2^16%4294967296)|||c*2^8%4294967296)|||d=256*(256*(256*a+b)+c)+d:=by
  rw [Nat.mod_eq_of_lt (by omega),Nat.mod_eq_of_lt (by omega),Nat.mod_eq_of_lt (by omega)]
  have h1:a*2^24|||b*2^16=(a*256+b)<<<16:=by
    rw [←Nat.shiftLeft_eq a 24,←Nat.shiftLeft_add_eq_or_of_lt (by omega),Nat.shiftLeft_eq,Nat.shiftLeft_eq];omega
  have h2:(a*256+b)<<<16|||c*2^8=(a*65536+b*256+c)<<<8:=by
    rw [←Nat.shiftLeft_add_eq_or_of_lt (by omega),Nat.shiftLeft_eq,Nat.shiftLeft_eq];omega
  rw [h1,h2,←Nat.shiftLeft_add_eq_or_of_lt (by omega),Nat.shiftLeft_eq]
  omega
theorem ji6{s:Str}(h:4≤s.length):z3t s=some ((qgo s 0:Nat):Int):=by
  unfold z3t qgo
  have h0:=UInt8.toNat_lt (s.getD 0 0)
  have h1:=UInt8.toNat_lt (s.getD 1 0)
  have h2:=UInt8.toNat_lt (s.getD 2 0)
  have h3:=UInt8.toNat_lt (s.getD 3 0)
  have b0:bt s (0:Int)=_:=q2s s 0
  have b1:bt s (1:Int)=_:=q2s s 1
  have b2:bt s (2:Int)=_:=q2s s 2
  have b3:bt s (3:Int)=_:=q2s s 3
  rw [if_pos (by omega),if_pos (by omega),if_pos (by omega),if_pos (by omega),b0,b1,b2,b3,wc (by omega),wc (by omega),wc (by omega),wc (by omega)]
  have s1:=qxd (s.getD 0 0).toNat (k:=24) (by decide)
  have s2:=qxd (s.getD 1 0).toNat (k:=16) (by decide)
  have s3:=qxd (s.getD 2 0).toNat (k:=8) (by decide)
  have s1:qsk .u32 ((s.getD 0 0).toNat:Int) (24:Int)=_:=s1
  have s2:qsk .u32 ((s.getD 1 0).toNat:Int) (16:Int)=_:=s2
  have s3:qsk .u32 ((s.getD 2 0).toNat:Int) (8:Int)=_:=s3
  rw [s1,s2,s3,q5c (m32 _) (m32 _),q5c (Nat.or_lt_two_pow (n:=32) (m32 _) (m32 _)) (m32 _),q5c (Nat.or_lt_two_pow (n:=32) (Nat.or_lt_two_pow (n:=32) (m32 _) (m32 _)) (m32 _)) (by omega),or4 (by omega) (by omega) (by omega) (by omega)]
theorem q98(s:Str)(i:Nat):qgo (s.drop (4*i)) 0=qgo s i:=by
  unfold qgo
  simp only [List.getD_eq_getElem?_getD,List.getElem?_drop,Nat.mul_zero,Nat.zero_add,Nat.add_zero]
theorem qyz(W:List Nat)(x:Nat):zs (W++[x])=zs W++[(x:Int)]:=by simp [zs]
theorem q3r {s : Str} (hs : 64 ≤ s.length) (hs2 : s.length ≤ 9223372036854775807) (c1 c2 : List Int) : ∀ (n i : Nat) (W : List Nat), i + n = 64 → W.length = i → (∀ x ∈ W, x < 4294967296) →
    qgi (((i:Int),s),(zs W++List.replicate n 0,(c1,c2)))=some (zs (sch s n W),(c1,c2)):=by
  intro n
  induction n with
  | zero =>
    intro i W hi hW hx
    rw [quw]
    unfold qic
    dsimp only
    rw [if_neg (by rw [decide_eq_true_eq];omega),List.replicate_zero,List.append_nil]
    rfl
  | succ n ih =>
    intro i W hi hW hx
    have hw:w64 ((i:Int)+1)=((i+1:Nat):Int):=by rw [qh (by omega)];omega
    have hkeep: ∀v:Nat,v=(if W.length<16 then qgo s W.length else ji1 (W.getD (W.length-16) 0) (jda (W.getD (W.length-2) 0) (W.getD (W.length-7) 0) (W.getD (W.length-15) 0) 0))→
        qgi ((((i+1:Nat):Int),s),((zs W++List.replicate (n+1) 0).set i (v:Int),(c1,c2)))=some (zs (sch s (n+1) W),(c1,c2)):=by
      intro v hv
      have e:(zs W++List.replicate (n+1) (0:Int)).set i (v:Int)=zs (u6 s W)++List.replicate n 0:=by
        have:=q5u (zs W) (0:Int) (v:Int) (List.replicate n 0)
        rw [qea,hW] at this
        rw [List.replicate_succ,this]
        unfold u6
        rw [←hv,qyz]
      rw [e]
      exact ih (i+1) (u6 s W) (by omega) (by rw [qh1];omega) (qyn hx)
    have hcl:(zs W++List.replicate (n+1) (0:Int)).length=64:=by rw [List.length_append,qea,List.length_replicate];omega
    rw [quw]
    unfold qic
    dsimp only
    rw [if_pos (by rw [decide_eq_true_eq];omega)]
    by_cases h16:i<16
    · have w4 : w64 ((4 : Int) * (i : Int)) = ((4 * i : Nat) : Int) := by rw [qh (by omega)]; omega
      rw [if_pos (by rw [decide_eq_true_eq];omega)]
      simp only [w4,hw,Int.toNat_natCast,List.take_length]
      rw [if_pos (by omega),if_pos (by omega),if_pos (by omega),ji6 (by rw [List.length_drop];omega),sb,q98,if_pos (by omega),if_pos (by omega),if_pos (by omega)]
      exact hkeep _ (by rw [if_pos (by omega),hW])
    · have w2 : w64 ((i : Int) - 2) = ((i - 2 : Nat) : Int) := by rw [qh (by omega)]; omega
      have w7:w64 ((i:Int)-7)=((i-7:Nat):Int):=by rw [qh (by omega)];omega
      have w15:w64 ((i:Int)-15)=((i-15:Nat):Int):=by rw [qh (by omega)];omega
      have w16:w64 ((i:Int)-16)=((i-16:Nat):Int):=by rw [qh (by omega)];omega
      rw [if_neg (by rw [decide_eq_true_eq];omega)]
      simp only [w2,w7,w15,w16,hw,Int.toNat_natCast]
      have x2:=qn3 W (List.replicate (n+1) (0:Int)) (show i-2<W.length by omega)
      have x7:=qn3 W (List.replicate (n+1) (0:Int)) (show i-7<W.length by omega)
      have x15:=qn3 W (List.replicate (n+1) (0:Int)) (show i-15<W.length by omega)
      have x16:=qn3 W (List.replicate (n+1) (0:Int)) (show i-16<W.length by omega)
      have hm:=qly (qmv hx (i-2)) (show 17<32 by decide) (show 19<32 by decide) (show 10<32 by decide) (by decide) (by decide) (by decide)
      have hm1:=qly (qmv hx (i-15)) (show 7<32 by decide) (show 18<32 by decide) (show 3<32 by decide) (by decide) (by decide) (by decide)
      have hm:z2m (((W.getD (i-2) 0:Nat):Int),((17:Int),((19:Int),((10:Int),true))))=_:=hm
      have hm1:z2m (((W.getD (i-15) 0:Nat):Int),((7:Int),((18:Int),((3:Int),true))))=_:=hm1
      rw [x2,x7,x15,x16]
      rw [if_pos (by omega),if_pos (by omega),if_pos (by omega),hm,sb,if_pos (by omega),if_pos (by omega),if_pos (by omega),if_pos (by omega),if_pos (by omega),if_pos (by omega),hm1,sb,
        if_pos (by omega),if_pos (by omega),if_pos (by omega),if_pos (by omega),if_pos (by omega),if_pos (by omega)]
      rw [ye,ye,ye]
      refine hkeep _ ?_
      rw [if_neg (by omega),hW]
      rfl
def lst(v:V8):List Int:=[(v.1:Int),(v.2.1:Int),(v.2.2.1:Int),(v.2.2.2.1:Int),(v.2.2.2.2.1:Int),(v.2.2.2.2.2.1:Int),(v.2.2.2.2.2.2.1:Int),(v.2.2.2.2.2.2.2:Int)]
def tup(v:V8):Int×(Int×(Int×(Int×(Int×(Int×(Int×Int)))))):=((v.1:Int),((v.2.1:Int),((v.2.2.1:Int),((v.2.2.2.1:Int),((v.2.2.2.2.1:Int),((v.2.2.2.2.2.1:Int),((v.2.2.2.2.2.2.1:Int),(v.2.2.2.2.2.2.2:Int))))))))
section
variable (a b c d e f g h:Int) (r:List Int)
theorem qwx:elt (.int .u32) (a::r:List Int) 0=a:=by unfold elt;rfl
theorem qwy:elt (.int .u32) (a::b::r:List Int) 1=b:=by unfold elt;rfl
theorem qwz:elt (.int .u32) (a::b::c::r:List Int) 2=c:=by unfold elt;rfl
theorem qw0:elt (.int .u32) (a::b::c::d::r:List Int) 3=d:=by unfold elt;rfl
theorem qw1:elt (.int .u32) (a::b::c::d::e::r:List Int) 4=e:=by unfold elt;rfl
theorem qw2:elt (.int .u32) (a::b::c::d::e::f::r:List Int) 5=f:=by unfold elt;rfl
theorem qw3:elt (.int .u32) (a::b::c::d::e::f::g::r:List Int) 6=g:=by unfold elt;rfl
theorem qw4:elt (.int .u32) (a::b::c::d::e::f::g::h::r:List Int) 7=h:=by unfold elt;rfl
end
theorem q5d{i:Nat}(h:i<64):elt (.int .u32) jh i=((jh.getD i 0).toNat:Int)∧(jh.getD i 0).toNat<4294967296:=by
  have h1: ∀i,i<64→jh.getD i 0=((jh.getD i 0).toNat:Int)∧(jh.getD i 0).toNat<4294967296:=by decide
  refine⟨?_,(h1 i h).2⟩
  rw [←(h1 i h).1]
  unfold elt
  rfl
theorem q1m{k w:Nat}{v:V8}(h:lt8 v):lt8 (que k w v):=by
  obtain⟨h1,h2,h3,h4,h5,h6,h7,h8⟩:=h
  exact⟨m32 _,h1,h2,h3,m32 _,h5,h6,h7⟩
theorem ql2(W:List Nat)(n i:Nat)(v:V8):qgd W (n+1) i v=qgd W n (i+1) (que (jh.getD i 0).toNat (W.getD i 0) v):=by
  conv=>lhs;unfold qgd
theorem qgp(n:Nat)(s:Str)(h:V8):xl (n+1) s h=xl n (s.drop 64) (qlz h s):=by
  conv=>lhs;unfold xl
theorem jej(v:V8):[(tup v).1,(tup v).2.1,(tup v).2.2.1,(tup v).2.2.2.1,(tup v).2.2.2.2.1,(tup v).2.2.2.2.2.1,(tup v).2.2.2.2.2.2.1,(tup v).2.2.2.2.2.2.2]=lst v:=rfl
theorem jir{e f g h k w:Nat}(he:e<4294967296)(hf:f<4294967296)(hg:g<4294967296):
    IntKind.wrap .u32 (IntKind.wrap .u32 (IntKind.wrap .u32 (IntKind.wrap .u32 ((h:Int)+(((rot e 6^^^rot e 11)^^^rot e 25:Nat):Int))+(vg .u32 (yy .u32 (e:Int) (f:Int)) (yy .u32 (vg .u32 (4294967295:Int) (e:Int)) (g:Int))))+(k:Int))+(w:Int))=((t1W e f g h k w:Nat):Int):=by
  rw [jin he,qcq he hf,qcq (by omega) hg,wj (y4 hf) (y4 hg),ye,ye,ye,ye]
  rfl
theorem jp1{a b c:Nat}(ha:a<4294967296)(hb:b<4294967296)(hc:c<4294967296):
    IntKind.wrap .u32 ((((rot a 2^^^rot a 13)^^^rot a 22:Nat):Int)+(vg .u32 (vg .u32 (yy .u32 (a:Int) (b:Int)) (yy .u32 (a:Int) (c:Int))) (yy .u32 (b:Int) (c:Int))))=((t2W a b c:Nat):Int):=by
  rw [qcq ha hb,qcq ha hc,qcq hb hc,wj (y4 hb) (y4 hc),wj (qbw (y4 hb) (y4 hc)) (y4 hc),ye]
  rfl
theorem q0v(c2 c3:List Int){W:List Nat}(hW:W.length=64)(hx: ∀x∈W,x<4294967296): ∀(n i:Nat) (v:V8),i+n=64→lt8 v→
    qez ((i:Int),(lst v,(zs W,(c2,c3))))=some (c2,(lst (qgd W n i v),c3)):=by
  intro n
  induction n with
  | zero =>
    intro i v hi hv
    rw [qqf]
    unfold qdp
    dsimp only
    rw [if_neg (by rw [decide_eq_true_eq];omega)]
    rfl
  | succ n ih =>
    intro i v hi hv
    have hw:w64 ((i:Int)+1)=((i+1:Nat):Int):=by rw [qh (by omega)];omega
    have hkl:=q0c
    obtain⟨hk1,hk2⟩:=q5d (show i<64 by omega)
    have hz:=qej W (show i<W.length by omega)
    have hzl:(zs W).length=64:=by rw [qea,hW]
    have step:=ql2 W n i v
    rw [step,←ih (i+1) _ (by omega) (q1m hv),qqf]
    generalize ih2:qez=F
    obtain⟨a,b,c,d,e,f,g,h⟩:=v
    obtain⟨h1,h2,h3,h4,h5,h6,h7,h8⟩:=hv
    dsimp only at h1 h2 h3 h4 h5 h6 h7 h8
    have hm:=qhg h5 (show 6<32 by decide) (show 11<32 by decide) (show 25<32 by decide) (by decide) (by decide) (by decide)
    have hm1:=qhg h1 (show 2<32 by decide) (show 13<32 by decide) (show 22<32 by decide) (by decide) (by decide) (by decide)
    have hm:z2m ((e:Int),((6:Int),((11:Int),((25:Int),false))))=_:=hm
    have hm1:z2m ((a:Int),((2:Int),((13:Int),((22:Int),false))))=_:=hm1
    unfold qdp lst que
    dsimp only
    simp only [Int.toNat_natCast,hw,qwx,qwy,qwz,qw0,qw1,qw2,qw3,qw4]
    rw [if_pos (by rw [decide_eq_true_eq];omega),if_pos (by simp),if_pos (by simp),if_pos (by simp),hm,sb]
    rw [if_pos (by simp),if_pos (by simp)]
    iterate 6 rw [if_pos (by omega)]
    rw [hm1,sb]
    iterate 10 rw [if_pos (by simp)]
    rw [hk1,hz,jir h5 h6 h7,jp1 h1 h2 h3,ye,ye]
theorem qfp(c2:List Int){c c1:List Int}(hc:c.length=8)(h1:c1.length=8){i:Nat}(hi:i<8):
    qbz ((i:Int),(c,(c1,c2)))=qbz (((i+1:Nat):Int),(c.set i (IntKind.wrap .u32 (elt (.int .u32) c i+elt (.int .u32) c1 i)),(c1,c2))):=by
  have hw:w64 ((i:Int)+1)=((i+1:Nat):Int):=by rw [qh (by omega)];omega
  conv=>lhs;rw [qqg]
  unfold qdq
  dsimp only
  simp only [Int.toNat_natCast,hw]
  rw [if_pos (by rw [decide_eq_true_eq];omega)]
  iterate 9 rw [if_pos (by omega)]
theorem q0w(c2:List Int)(u v:V8):qbz ((0:Int),(lst u,(lst v,c2)))=some (c2,lst (q6b u v)):=by
  obtain⟨a,b,c,d,e,f,g,h⟩:=u
  obtain⟨a',b',c',d',e',f',g',h'⟩:=v
  have s0:=qfp c2 (c:=lst (a,b,c,d,e,f,g,h)) (c1:=lst (a',b',c',d',e',f',g',h')) rfl rfl (i:=0) (by decide)
  have s0:qbz ((0:Int),_)=_:=s0
  rw [s0]
  iterate 7 rw [qfp c2 (by simp [lst]) rfl (by decide)]
  rw [qqg]
  unfold qdq
  dsimp only
  rw [if_neg (by decide)]
  unfold lst q6b
  simp only [Nat.reduceAdd,List.set_cons_zero,List.set_cons_succ,qwx,qwy,qwz,qw0,qw1,qw2,qw3,qw4,ye]
theorem jgz{v:V8}(hv:lt8 v){s:Str}(hs:64≤s.length)(hs2:s.length≤9223372036854775807):z09 (tup v,s)=some (tup (qlz v s)):=by
  unfold z09
  dsimp only
  have h1:qgi (((0:Int),s),((List.replicate 64 (0:Int)),(lst v,[0,0,0,0,0,0,0,0])))=_:=q3r hs hs2 (lst v) [0,0,0,0,0,0,0,0] 64 0 [] (by omega) rfl (fun _ h=>by cases h)
  have h1:qgi (((0:Int),s),((List.replicate 64 (0:Int)),([(tup v).1,(tup v).2.1,(tup v).2.2.1,(tup v).2.2.2.1,(tup v).2.2.2.2.1,(tup v).2.2.2.2.2.1,(tup v).2.2.2.2.2.2.1,(tup v).2.2.2.2.2.2.2],[0,0,0,0,0,0,0,0])))=_:=h1
  rw [h1,sb,if_pos (show 8≤(lst v).length by simp [lst])]
  have h2:qez ((0:Int),(lst v,(zs (sch s 64 []),(lst v,[0,0,0,0,0,0,0,0]))))=_:=q0v (lst v) [0,0,0,0,0,0,0,0] (qm5 s 64 []) (q30 64 (fun _ h=>by cases h)) 64 0 v rfl hv
  have hl:[elt (.int .u32) (lst v) 0,elt (.int .u32) (lst v) 1,elt (.int .u32) (lst v) 2,elt (.int .u32) (lst v) 3,elt (.int .u32) (lst v) 4,elt (.int .u32) (lst v) 5,elt (.int .u32) (lst v) 6,elt (.int .u32) (lst v) 7]=lst v:=by
    unfold lst
    simp only [qwx,qwy,qwz,qw0,qw1,qw2,qw3,qw4]
  dsimp only
  rw [hl,h2,sb,q0w,sb]
  dsimp only
  rw [if_pos (show 8≤(lst _).length by simp [lst]),if_pos (by rfl)]
  unfold lst
  simp only [qwx,qwy,qwz,qw0,qw1,qw2,qw3,qw4]
  rfl
theorem jff(u v:V8):lt8 (q6b u v):=⟨m32 _,m32 _,m32 _,m32 _,m32 _,m32 _,m32 _,m32 _⟩
theorem qov(u:V8)(s:Str):lt8 (qlz u s):=jff _ _
theorem qnr: ∀(n:Nat) (s:Str) {v:V8},lt8 v→lt8 (xl n s v)
  |0,s,v,h=>h
  |n+1,s,v,h=>by unfold xl;exact qnr n _ (qov _ _)
theorem q58(many:Int): ∀(k:Nat) (s:Str),s.length+k≤1000000000→k<64→(s.length+k)%64=56→qyq (s,many)=some (many,s++List.replicate k 0):=by
  intro k
  induction k with
  | zero =>
    intro s hs hk hm
    rw [qur]
    unfold qh5
    dsimp only
    have:Int.tmod (s.length:Int) 64=56:=by rw [Int.tmod_eq_emod_of_nonneg (by omega)];omega
    rw [if_neg (by rw [this];decide),List.replicate_zero,List.append_nil]
  | succ k ih =>
    intro s hs hk hm
    rw [qur]
    unfold qh5
    dsimp only
    have:Int.tmod (s.length:Int) 64≠56:=by rw [Int.tmod_eq_emod_of_nonneg (by omega)];omega
    have hl1:(s++([0]:Str)).length=s.length+1:=by simp
    rw [if_pos (by simpa using this),if_pos (by simp;omega),ih (s++([0]:Str)) (by omega) (by omega) (by omega),List.replicate_succ,List.append_assoc]
    rfl
theorem qhz(n:Nat):UInt8.ofNat (IntKind.wrap .u8 (n:Int)).toNat=UInt8.ofNat n:=by
  have:IntKind.wrap .u8 (n:Int)=((n%256:Nat):Int):=by
    show(n:Int)%256=_
    omega
  rw [this,Int.toNat_natCast]
  apply UInt8.toNat_inj.1
  rw [UInt8.toNat_ofNat',UInt8.toNat_ofNat']
  omega
theorem jjs(x:Nat){k:Nat}(hk:k≤64):jv .u64 (x:Int) (k:Int)=((x / 2^k:Nat):Int):=by
  show Int.fdiv (x:Int) (2^(min (Int.toNat (k:Int)) 64))=_
  rw [Int.toNat_natCast,Nat.min_eq_left hk,Int.fdiv_eq_ediv_of_nonneg _ (Int.pow_nonneg (by decide)),Int.natCast_ediv,Int.natCast_pow];rfl
theorem q2h(m:Nat): ∀(n:Nat) (s:Str),n≤8→s.length+n≤1000000000→qh3 ((n:Int)-1,((m:Int),s))=some (s++qzr m n):=by
  intro n
  induction n with
  | zero =>
    intro s _ hs
    rw [qps]
    unfold qda
    dsimp only
    rw [if_neg (by rw [decide_eq_true_eq];omega)]
    show some s=some (s++[])
    rw [List.append_nil]
  | succ n ih =>
    intro s hn hs
    have e:((n+1:Nat):Int)-1=(n:Int):=by omega
    have hw:w64 ((n:Int)-1)=(n:Int)-1:=qh (by omega)
    have hw8:w64 ((8:Int)*(n:Int))=((8*n:Nat):Int):=by rw [qh (by omega)];omega
    rw [e,qps]
    unfold qda
    dsimp only
    rw [if_pos (by rw [decide_eq_true_eq];omega),hw8,if_pos (by omega),if_pos (by rw [qgr];simp;omega),hw,jjs m (by omega)]
    have hb:ja [IntKind.wrap .u8 ((m / 2^(8*n):Nat):Int)]=[UInt8.ofNat (m / 2^(8*n))]:=by
      show [UInt8.ofNat (IntKind.wrap .u8 ((m / 2^(8*n):Nat):Int)).toNat]=_
      rw [qhz]
    rw [hb,ih _ (by omega) (by rw [List.length_append];simp;omega),List.append_assoc]
    rfl
theorem q2i: ∀(n:Nat) (s:Str) (v:V8),lt8 v→s.length=64*n→s.length≤1000000000→qh4 (s,lst v)=some (lst (xl n s v)):=by
  intro n
  induction n with
  | zero =>
    intro s v hv hs _
    obtain rfl:s=[]:=List.length_eq_zero_iff.1 (by omega)
    rw [qpt]
    unfold qdb
    dsimp only
    rw [if_neg (by decide)]
    rfl
  | succ n ih =>
    intro s v hv hs hl
    have hne:s≠[]:=by rintro rfl;simp at hs
    rw [qpt]
    unfold qdb
    dsimp only
    have ht:((elt (.int .u32) (lst v) 0),((elt (.int .u32) (lst v) 1),((elt (.int .u32) (lst v) 2),((elt (.int .u32) (lst v) 3),((elt (.int .u32) (lst v) 4),((elt (.int .u32) (lst v) 5),((elt (.int .u32) (lst v) 6),(elt (.int .u32) (lst v) 7))))))))=tup v:=by
      unfold lst tup
      simp only [qwx,qwy,qwz,qw0,qw1,qw2,qw3,qw4]
    rw [if_pos (by simpa using hne),if_pos (show 8≤(lst v).length by simp [lst]),ht,jgz hv (by omega) (by omega),sb,if_pos (by rfl),if_pos (by omega),if_pos (by omega)]
    simp only [Int.toNat_natCast,List.take_length]
    rw [jej,qgp]
    exact ih (s.drop 64) _ (qov _ _) (by rw [List.length_drop];omega) (by rw [List.length_drop];omega)
def w4(x:Int):List Int:=[(IntKind.wrap .u8 (jv .u32 x (24:Int))),(IntKind.wrap .u8 (jv .u32 x (16:Int))),(IntKind.wrap .u8 (jv .u32 x (8:Int))),(IntKind.wrap .u8 x)]
theorem jp3(x:Nat):ja (w4 (x:Int))=qfu x:=by
  have h1:jv .u32 (x:Int) (24:Int)=_:=qog x (k:=24) (by decide)
  have h2:jv .u32 (x:Int) (16:Int)=_:=qog x (k:=16) (by decide)
  have h3:jv .u32 (x:Int) (8:Int)=_:=qog x (k:=8) (by decide)
  unfold w4
  rw [h1,h2,h3]
  show [UInt8.ofNat _,UInt8.ofNat _,UInt8.ofNat _,UInt8.ofNat _]=_
  rw [qhz,qhz,qhz,qhz]
  rfl
theorem q2j(x:Int×(Int×(Int×(Int×(Int×(Int×(Int×Int))))))):
    j9 (((0:Int),x),[])=some (w4 x.1++w4 x.2.1++w4 x.2.2.1++w4 x.2.2.2.1++w4 x.2.2.2.2.1++w4 x.2.2.2.2.2.1++w4 x.2.2.2.2.2.2.1++w4 x.2.2.2.2.2.2.2):=by
  have hsum: ∀(c l:List Int),c.length≤100→l.length=4→qi (c.length+l.length) 1:=fun c l hc hl=>by constructor <;>omega
  have s0: ∀c:List Int,c.length≤100→j9 (((0:Int),x),c)=j9 (((1:Int),x),c++w4 x.1):=fun c hc=>by
    conv=>lhs;rw [wd]
    unfold we
    dsimp only
    rw [if_pos (by decide)]
    iterate 7 rw [if_neg (by decide)]
    rw [if_pos (by decide),if_pos (hsum _ _ hc rfl)]
    rfl
  have s1: ∀c:List Int,c.length≤100→j9 (((1:Int),x),c)=j9 (((2:Int),x),c++w4 x.2.1):=fun c hc=>by
    conv=>lhs;rw [wd]
    unfold we
    dsimp only
    rw [if_pos (by decide)]
    iterate 6 rw [if_neg (by decide)]
    rw [if_pos (by decide),if_pos (hsum _ _ hc rfl)]
    rfl
  have s2: ∀c:List Int,c.length≤100→j9 (((2:Int),x),c)=j9 (((3:Int),x),c++w4 x.2.2.1):=fun c hc=>by
    conv=>lhs;rw [wd]
    unfold we
    dsimp only
    rw [if_pos (by decide)]
    iterate 5 rw [if_neg (by decide)]
    rw [if_pos (by decide),if_pos (hsum _ _ hc rfl)]
    rfl
  have s3: ∀c:List Int,c.length≤100→j9 (((3:Int),x),c)=j9 (((4:Int),x),c++w4 x.2.2.2.1):=fun c hc=>by
    conv=>lhs;rw [wd]
    unfold we
    dsimp only
    rw [if_pos (by decide)]
    iterate 4 rw [if_neg (by decide)]
    rw [if_pos (by decide),if_pos (hsum _ _ hc rfl)]
    rfl
  have s4: ∀c:List Int,c.length≤100→j9 (((4:Int),x),c)=j9 (((5:Int),x),c++w4 x.2.2.2.2.1):=fun c hc=>by
    conv=>lhs;rw [wd]
    unfold we
    dsimp only
    rw [if_pos (by decide)]
    iterate 3 rw [if_neg (by decide)]
    rw [if_pos (by decide),if_pos (hsum _ _ hc rfl)]
    rfl
  have s5: ∀c:List Int,c.length≤100→j9 (((5:Int),x),c)=j9 (((6:Int),x),c++w4 x.2.2.2.2.2.1):=fun c hc=>by
    conv=>lhs;rw [wd]
    unfold we
    dsimp only
    rw [if_pos (by decide)]
    iterate 2 rw [if_neg (by decide)]
    rw [if_pos (by decide),if_pos (hsum _ _ hc rfl)]
    rfl
  have s6: ∀c:List Int,c.length≤100→j9 (((6:Int),x),c)=j9 (((7:Int),x),c++w4 x.2.2.2.2.2.2.1):=fun c hc=>by
    conv=>lhs;rw [wd]
    unfold we
    dsimp only
    rw [if_pos (by decide),if_neg (by decide),if_pos (by decide),if_pos (hsum _ _ hc rfl)]
    rfl
  have s7: ∀c:List Int,c.length≤100→j9 (((7:Int),x),c)=j9 (((8:Int),x),c++w4 x.2.2.2.2.2.2.2):=fun c hc=>by
    conv=>lhs;rw [wd]
    unfold we
    dsimp only
    rw [if_pos (by decide),if_pos (by decide),if_pos (hsum _ _ hc rfl)]
    rfl
  have s8: ∀c:List Int,j9 (((8:Int),x),c)=some c:=fun c=>by
    rw [wd]
    unfold we
    dsimp only
    rw [if_neg (by decide)]
  rw [s0 _ (by simp [w4]),s1 _ (by simp [w4]),s2 _ (by simp [w4]),s3 _ (by simp [w4]),s4 _ (by simp [w4]),s5 _ (by simp [w4]),s6 _ (by simp [w4]),s7 _ (by simp [w4]),s8,List.nil_append]
theorem qgq(a b:List Int):ja (a++b)=ja a++ja b:=List.map_append ..
theorem qka:lt8 kh:=by unfold lt8 kh;decide
theorem qzs(m:Nat): ∀n,(qzr m n).length=n
  |0=>rfl
  |n+1=>by show(qzr m n).length+1=_;rw [qzs m n]
theorem q0x(s:Str):(uv s).length%64=0∧(uv s).length≤s.length+200:=by
  unfold uv
  simp only [List.length_append,List.length_cons,List.length_replicate,qzs]
  omega
theorem q9g{s:Str}(hs:s.length≤100000000):z00 [s]=some (sha s):=by
  unfold z00
  have hj:zv ([s],([]:Str))=some s:=by
    unfold zv
    simp only [Lib.join_one]
    exact if_pos ⟨by simp,by omega⟩
  have hl1:(s++([128]:Str)).length=s.length+1:=by simp
  have hmany:IntKind.wrap .u64 (IntKind.wrap .u64 (s.length:Int)*(8:Int))=((s.length*8:Nat):Int):=by
    have h1:IntKind.wrap .u64 (s.length:Int)=(s.length:Int):=by show(s.length:Int)%18446744073709551616=_;omega
    rw [h1]
    show((s.length:Int)*8)%18446744073709551616=_
    omega
  rw [hj,sb,if_pos (by simp;omega),hmany,q58 _ ((119-s.length%64)%64) (s++([128]:Str)) (by omega) (by omega) (by rw [hl1];omega),sb]
  have h2:qh3 ((7:Int),(((s.length*8:Nat):Int),(s++([128]:Str))++List.replicate ((119-s.length%64)%64) 0))=_:=q2h (s.length*8) 8 ((s++([128]:Str))++List.replicate ((119-s.length%64)%64) 0) (by omega) (by rw [List.length_append,List.length_replicate];omega)
  have hp:(s++([128]:Str))++List.replicate ((119-s.length%64)%64) 0++qzr (s.length*8) 8=uv s:=by
    unfold uv
    simp only [List.append_assoc,List.cons_append,List.nil_append]
  rw [h2,sb,hp]
  have hb:z45 ()=some (tup kh):=rfl
  rw [hb,sb]
  obtain⟨g1,g2⟩:=q0x s
  have h3:qh4 (uv s,[(tup kh).1,(tup kh).2.1,(tup kh).2.2.1,(tup kh).2.2.2.1,(tup kh).2.2.2.2.1,(tup kh).2.2.2.2.2.1,(tup kh).2.2.2.2.2.2.1,(tup kh).2.2.2.2.2.2.2])=_:=
    q2i ((uv s).length / 64) (uv s) kh qka (by omega) (by omega)
  rw [h3,sb,if_pos (show 8≤(lst _).length by simp [lst])]
  unfold sha
  generalize xl ((uv s).length / 64) (uv s) kh=v
  have ht:((elt (.int .u32) (lst v) 0),((elt (.int .u32) (lst v) 1),((elt (.int .u32) (lst v) 2),((elt (.int .u32) (lst v) 3),((elt (.int .u32) (lst v) 4),((elt (.int .u32) (lst v) 5),((elt (.int .u32) (lst v) 6),(elt (.int .u32) (lst v) 7))))))))=tup v:=by
    unfold lst tup
    simp only [qwx,qwy,qwz,qw0,qw1,qw2,qw3,qw4]
  rw [ht,q2j,sb]
  unfold tup jgy
  simp only [qgq,jp3,List.append_assoc]
theorem q5v(s:Str):(sha s).length=32:=rfl
end Go.Plain
namespace Go.Plain
open Go.AM
set_option linter.unusedVariables false
def hv(b:UInt8):Nat:=if b.toNat≤57 then b.toNat-48 else b.toNat-87
def unh:Str→Str
  |a::b::r=>UInt8.ofNat (16*hv a+hv b)::unh r
  |_=>[]
theorem q5a{b:UInt8}(h:ju b=true):hv b<16:=by
  simp only [ju,Bool.or_eq_true,Bool.and_eq_true,decide_eq_true_eq] at h
  unfold hv
  split <;>omega
theorem qz0{b:UInt8}(h:ju b=true):z32 (b.toNat:Int)=some (hv b:Int):=by
  simp only [ju,Bool.or_eq_true,Bool.and_eq_true,decide_eq_true_eq] at h
  unfold z32 hv
  by_cases c:b.toNat≤57
  · have e1 : IntKind.wrap .u8 ((b.toNat : Int) - 48) = (b.toNat : Int) - 48 := wr8 (by omega)
    have e2:w64 ((b.toNat:Int)-48)=(b.toNat:Int)-48:=qh (by omega)
    rw [if_pos (by rw [decide_eq_true_eq];omega),if_pos (by rw [decide_eq_true_eq];omega),e1,e2,if_pos c]
    congr 1
    omega
  · have e1 : IntKind.wrap .u8 ((b.toNat : Int) - 97) = (b.toNat : Int) - 97 := wr8 (by omega)
    have e2:w64 ((b.toNat:Int)-97)=(b.toNat:Int)-97:=qh (by omega)
    have e3:w64 ((b.toNat:Int)-97+10)=(b.toNat:Int)-97+10:=qh (by omega)
    rw [if_pos (by rw [decide_eq_true_eq];omega),if_neg (by rw [decide_eq_true_eq];omega),if_pos (by rw [decide_eq_true_eq];omega),if_pos (by rw [decide_eq_true_eq];omega),e1,e2,e3,if_neg c]
    congr 1
    omega
theorem qtm{b:UInt8}(h:ju b=true):jk (qzn,(b.toNat:Int))=some (hv b:Int):=by
  have hb:b=UInt8.ofNat b.toNat:=by simp
  simp only [ju,Bool.or_eq_true,Bool.and_eq_true,decide_eq_true_eq] at h
  have:b.toNat=48∨b.toNat=49∨b.toNat=50∨b.toNat=51∨b.toNat=52∨b.toNat=53∨b.toNat=54∨b.toNat=55∨b.toNat=56∨b.toNat=57∨b.toNat=97∨b.toNat=98∨b.toNat=99∨b.toNat=100∨b.toNat=101∨b.toNat=102:=by omega
  rcases this with e|e|e|e|e|e|e|e|e|e|e|e|e|e|e|e <;>rw [hb,e] <;>rfl
theorem qaj(s:Str):ja (qj s)=s:=by
  unfold ja qj
  rw [List.map_map]
  conv=>rhs;rw [←List.map_id s]
  refine List.map_congr_left fun b _=> ?_
  show UInt8.ofNat (Int.toNat (b.toNat:Int))=b
  rw [Int.toNat_natCast]
  simp
theorem q0y{a b:Nat}(ha:a<16)(hb:b<16):IntKind.wrap .u8 (w64 ((w64 ((a:Int)*(16:Int)))+(b:Int)))=((UInt8.ofNat (16*a+b)).toNat:Int):=by
  have e1:w64 ((a:Int)*16)=(a:Int)*16:=qh (by omega)
  have e2:w64 ((a:Int)*16+(b:Int))=(a:Int)*16+(b:Int):=qh (by omega)
  have e3:IntKind.wrap .u8 ((a:Int)*16+(b:Int))=(a:Int)*16+(b:Int):=wr8 (by omega)
  rw [e1,e2,e3,UInt8.toNat_ofNat']
  omega
theorem q7y{a b:Nat}(ha:a<16)(hb:b<16):IntKind.wrap .u8 (w64 ((w64 ((16:Int)*(a:Int)))+(b:Int)))=((UInt8.ofNat (16*a+b)).toNat:Int):=by
  rw [Int.mul_comm]
  exact q0y ha hb
theorem qxw{s:Str}(hs:s.length≤1048576): ∀(n i:Nat) (p:List Int),2*(i+n)=s.length→p.length=i→(s.drop (2*i)).all ju=true→
    qgj (((i:Int),(s,((i+n:Nat):Int))),p++List.replicate n 0)=some (.inr (p++qj (unh (s.drop (2*i))))):=by
  intro n
  induction n with
  | zero =>
    intro i p hi hp hx
    rw [List.drop_of_length_le (by omega),qe8]
    unfold qb0
    dsimp only
    rw [if_neg (by rw [decide_eq_true_eq];omega)]
    rfl
  | succ n ih =>
    intro i p hi hp hx
    have h1:2*i<s.length:=by omega
    have h2:2*i+1<s.length:=by omega
    have hw:w64 ((i:Int)+1)=((i+1:Nat):Int):=by rw [qh (by omega)];omega
    have hw2:w64 ((2:Int)*(i:Int))=((2*i:Nat):Int):=by rw [qh (by omega)];omega
    have hw3:w64 (((2*i:Nat):Int)+1)=((2*i+1:Nat):Int):=by rw [qh (by omega)];omega
    rw [jb h1,jb h2,List.all_cons,List.all_cons,Bool.and_eq_true,Bool.and_eq_true] at hx
    obtain⟨x1,x2,x3⟩:=hx
    have ha:jk (([48,49,50,51,52,53,54,55,56,57,97,98,99,100,101,102]:Str),(s[2*i].toNat:Int))=_:=qtm x1
    have hb:jk (([48,49,50,51,52,53,54,55,56,57,97,98,99,100,101,102]:Str),(s[2*i+1].toNat:Int))=_:=qtm x2
    have hcl:(p++List.replicate (n+1) (0:Int)).length=i+(n+1):=by rw [List.length_append,List.length_replicate];omega
    rw [jb h1,jb h2,qe8]
    unfold qb0
    dsimp only
    rw [hw,hw2,hw3,ww h1,ww h2,if_pos (by rw [decide_eq_true_eq];omega),if_pos (by omega),if_pos (by omega),ha,sb,if_pos (by omega),if_pos (by omega),hb,sb,
      if_neg (by rw [decide_eq_true_eq];omega),if_neg (by rw [decide_eq_true_eq];omega),if_pos (by omega),if_pos (by omega)]
    simp only [Int.toNat_natCast]
    rw [if_pos (by omega),q0y (q5a x1) (q5a x2)]
    have e:(p++List.replicate (n+1) (0:Int)).set i ((UInt8.ofNat (16*hv s[2*i]+hv s[2*i+1])).toNat:Int)=(p++[((UInt8.ofNat (16*hv s[2*i]+hv s[2*i+1])).toNat:Int)])++List.replicate n 0:=by
      have:=q5u p (0:Int) ((UInt8.ofNat (16*hv s[2*i]+hv s[2*i+1])).toNat:Int) (List.replicate n 0)
      rw [hp] at this
      rw [List.replicate_succ,this]
    rw [e]
    have h:=ih (i+1) (p++[((UInt8.ofNat (16*hv s[2*i]+hv s[2*i+1])).toNat:Int)]) (by omega) (by simp [hp]) (by rw [show 2*(i+1)=2*i+1+1 by omega];exact x3)
    rw [show i+(n+1)=i+1+n by omega,h,show 2*(i+1)=2*i+1+1 by omega,List.append_assoc]
    rfl
theorem jhm{s:Str}(hs:s.length≤1048576)(he:s.length%2=0)(hx:s.all ju=true):z12 s=some (unh s,0):=by
  unfold z12
  have ht:Int.tmod (s.length:Int) 2=((s.length%2:Nat):Int):=by rw [Int.tmod_eq_emod_of_nonneg (by omega)];omega
  have hd:Int.tdiv (s.length:Int) 2=((s.length / 2:Nat):Int):=by rw [Int.tdiv_eq_ediv_of_nonneg (by omega)];omega
  have hw:w64 ((s.length / 2:Nat):Int)=((s.length / 2:Nat):Int):=qh (by omega)
  have hsum:qi (s.length / 2) 1:=⟨by omega,by omega⟩
  rw [ht,hd,hw,if_neg (by simp;omega),if_pos rfl,if_pos (by omega)]
  simp only [Int.toNat_natCast]
  rw [if_pos hsum]
  have h:=qxw hs (s.length / 2) 0 [] (by omega) rfl (by rw [Nat.mul_zero,List.drop_zero];exact hx)
  rw [Nat.mul_zero,List.drop_zero,Nat.zero_add] at h
  have h:qgj (((0:Int),(s,((s.length / 2:Nat):Int))),List.replicate (s.length / 2) 0)=_:=h
  rw [List.length_replicate,h,sb]
  show some (ja ([]++qj (unh s)),(0:Int))=_
  rw [List.nil_append,qaj]
theorem qyb{s:Str}(hs:s.length≤1048576): ∀(n i:Nat) (c:List Int),i+2*n=s.length→c.length≤i→(s.drop i).all ju=true→
    qgk (((i:Int),s),c)=some (.inr (s,c++qj (unh (s.drop i)))):=by
  intro n
  induction n with
  | zero =>
    intro i c hi hc hx
    have hw:w64 ((i:Int)+1)=(i:Int)+1:=qh (by omega)
    rw [List.drop_of_length_le (by omega),qfb]
    unfold qb1
    dsimp only
    rw [hw,if_neg (by rw [decide_eq_true_eq];omega)]
    show some _=some (Sum.inr (s,c++[]))
    rw [List.append_nil]
  | succ n ih =>
    intro i c hi hc hx
    have h1:i<s.length:=by omega
    have h2:i+1<s.length:=by omega
    have hw:w64 ((i:Int)+1)=((i+1:Nat):Int):=by rw [qh (by omega)];omega
    have hw2:w64 ((i:Int)+2)=((i+2:Nat):Int):=by rw [qh (by omega)];omega
    rw [jb h1,jb h2,List.all_cons,List.all_cons,Bool.and_eq_true,Bool.and_eq_true] at hx
    obtain⟨x1,x2,x3⟩:=hx
    have l1:=q5a x1
    have l2:=q5a x2
    rw [jb h1,jb h2,qfb]
    unfold qb1
    dsimp only
    rw [hw,hw2,ww h1,ww h2,if_pos (by rw [decide_eq_true_eq];omega),if_pos (by omega),if_pos (by omega),qz0 x1,sb,if_neg (by rw [decide_eq_true_eq];omega),if_pos (by omega),if_pos (by omega),qz0 x2,sb,
      if_neg (by rw [decide_eq_true_eq];omega),if_pos (by omega),if_pos (by omega),sb,if_pos (by omega),if_pos (by omega),sb,if_pos (by constructor <;>simp <;>omega),q7y l1 l2,
      ih (i+2) _ (by omega) (by simp;omega) x3,List.append_assoc]
    rfl
theorem jhn{s:Str}(hs:s.length≤1048576)(he:s.length%2=0)(hx:s.all ju=true):z19 s=some (unh s,true):=by
  unfold z19
  have h:=qyb hs (s.length / 2) 0 [] (by omega) (by simp) (by rw [List.drop_zero];exact hx)
  have h:qgk (((0:Int),s),[])=_:=h
  have ht:Int.tmod (s.length:Int) 2=((s.length%2:Nat):Int):=by rw [Int.tmod_eq_emod_of_nonneg (by omega)];omega
  rw [h,sb,List.drop_zero]
  show some (ja ([]++qj (unh s)),(Int.tmod (s.length:Int) 2==0))=_
  rw [List.nil_append,qaj,ht,he]
  rfl
theorem q50: ∀(n:Nat) (s:Str),s.length=2*n→(unh s).length=n
  |0,s,h=>by obtain rfl:=List.length_eq_zero_iff.1 h;rfl
  | n + 1, a :: b :: r, h => by
    show(unh r).length+1=n+1
    rw [q50 n r (by simp at h;omega)]
  |n+1,[],h=>by simp at h
  |n+1,[a],h=>by simp at h;omega
theorem jlj {s : Str} (hs : s.length ≤ 1048576) : z2x s = some (if isD s then (unh (s.drop 7), 0) else ([], 6)) := by
  unfold z2x
  rw [jak,sb]
  by_cases q:s.take 7=qfh
  · rw [if_pos q]
    dsimp only
    by_cases d:isD s=true
    · have d' := d
      simp only [isD,Bool.and_eq_true,decide_eq_true_eq] at d'
      have hl:(s.drop 7).length=64:=by rw [List.length_drop];omega
      have hu:=q50 32 (s.drop 7) hl
      rw [jhm (by omega) (by omega) d'.2,sb,if_neg (by decide),if_neg (show¬((0:Int) !=0)=true by decide),if_neg (by simp [hu]),if_pos d]
    · obtain ⟨r, h1, h2, h3⟩ := qyv (s := s.drop 7) (by rw [List.length_drop]; omega)
      rw [h1,sb,if_neg (by decide),if_neg d]
      by_cases c:r.2=0
      · rw [if_neg (by simp [c])]
        rw [c] at h2
        have h2:(true:Bool)=_:=h2
        have h2:=h2.symm
        simp only [Bool.and_eq_true,decide_eq_true_eq] at h2
        have h3:=h3 c
        rw [if_pos]
        simp only [bne_iff_ne,ne_eq]
        intro e
        refine d ?_
        rw [List.length_drop] at h3 h2
        have hl:s.length=71:=by omega
        simp [isD,hl,q,h2.2]
      · rw [if_pos (by simpa using c)]
  · rw [if_neg q]
    have d:isD s=false:=by simp [isD,q]
    obtain⟨r,h1,_⟩:=qyv (s:=s) hs
    dsimp only
    rw [h1,sb,if_pos (by decide),d]
    rfl
theorem je6(s:Str): ∃p,z2l s=some p∧p.2=isD s∧(isD s=true→p.1=unh (s.drop 7)):=by
  by_cases d:isD s=true
  · have d' := d
    simp only [isD,Bool.and_eq_true,decide_eq_true_eq] at d'
    have hl:(s.drop 7).length=64:=by rw [List.length_drop];omega
    unfold z2l
    rw [if_neg (by simp [d'.1.1]),if_pos (by omega),if_neg (by rw [d'.1.2];decide),if_pos (by omega),if_pos (by omega)]
    simp only [Int.toNat_natCast,List.take_length]
    rw [jhn (by omega) (by omega) d'.2,sb]
    exact⟨_,rfl,d.symm,fun _=>rfl⟩
  · obtain ⟨p, h1, h2⟩ := q09 (s := s)
    exact⟨p,h1,h2,fun h=>absurd h d⟩
theorem q49: ∀n,n<16→hv (qw8 n)=n:=by
  intro n h
  rcases n with _|_|_|_|_|_|_|_|_|_|_|_|_|_|_|_|n
  all_goals first|rfl|omega
theorem q1x: ∀r:Str,unh (ul r)=r
  |[]=>rfl
  | b :: r => by
    have hb:=b.toNat_lt
    show UInt8.ofNat (16*hv (qw8 (b.toNat / 16))+hv (qw8 (b.toNat%16)))::unh (ul r)=b::r
    rw [q1x r,q49 _ (by omega),q49 _ (by omega),Nat.div_add_mod]
    simp
def wh(s:Str):Str:=qfh++ul (sha s)
theorem jht{s:Str}(hs:s.length≤100000000):z30 s=some (wh s):=by
  unfold z30
  have h1:=q5v s
  have h2:qmy (sha s)=some (ul (sha s)):=if_pos (by omega)
  have hl:=qod (sha s)
  rw [q9g hs,sb,h2,sb,if_pos (by simp;omega)]
  rfl
theorem qcl(s:Str):isD (wh s)=true:=by
  have hl:=qod (sha s)
  have h1:=q5v s
  have e1:(wh s).length=71:=by simp [wh,qfh];omega
  have e2:(wh s).take 7=qfh:=rfl
  have e3:(wh s).drop 7=ul (sha s):=rfl
  unfold isD
  rw [e1,e2,e3,q25]
  rfl
def qco(d x:Str):Bool:=isD d&&decide (sha x=unh (d.drop 7))
theorem qki(s:Str):qco (wh s) s=true:=by
  unfold qco
  rw [qcl]
  have e3:(wh s).drop 7=ul (sha s):=rfl
  rw [e3,q1x]
  simp
end Go.Plain
