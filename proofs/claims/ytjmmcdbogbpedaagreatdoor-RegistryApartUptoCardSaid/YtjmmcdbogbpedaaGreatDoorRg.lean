import Derived.Test.YtjmmcdbogbpedaaGreatDoorRGP
import Derived.Test.YtjmmcdbogbpedaaGreatDoorScr
import Derived.Test.YtjmmcdbogbpedaaGreatDoorTf
namespace Go.Plain
open Go.AM
set_option linter.unusedVariables false
def y4(p:Nat→Bool)(n:Nat):Bool:=(List.range' 0 n).all p
theorem wd{p:Nat→Bool}{n:Nat}:y4 p n=true↔∀i,i<n→p i=true:=by
  unfold y4
  rw [List.all_eq_true]
  constructor
  · intro h i hi
    exact h i (by simp [List.mem_range'_1];exact hi)
  · intro h i hi
    exact h i (by simp [List.mem_range'_1] at hi;exact hi)
theorem qu2{α β:Type}(F:Int→Option (α⊕β))(p:Nat→Bool)(n:Nat)(a:α)(b:β)(hn:F (n:Int)=some (.inr b))
    (hs: ∀i:Nat,i<n→F (i:Int)=if p i=true then F ((i:Int)+1) else some (.inl a)):F 0=some (if y4 p n=true then .inr b else .inl a):=by
  have key: ∀(k i:Nat),i+k=n→F (i:Int)=some (if(List.range' i k).all p=true then .inr b else .inl a):=by
    intro k
    induction k with
    | zero =>
      intro i e;obtain rfl:i=n:=by omega
      exact hn
    | succ k ih =>
      intro i e
      rw [hs i (by omega),List.range'_succ,List.all_cons]
      have:=ih (i+1) (by omega)
      rw [Int.natCast_add,Int.natCast_one] at this
      cases p i with
      |true=>rw [if_pos rfl,this];rfl
      |false=>rw [if_neg (by decide)];rfl
  exact key n 0 (by omega)
theorem q5s{β:Type}(F:Int→Option (Bool⊕β))(p:Nat→Bool)(n:Nat)(b:β)(hn:F (n:Int)=some (.inr b))
    (hs: ∀i:Nat,i<n→F (i:Int)=if p i=true then F ((i:Int)+1) else some (.inl false)):F 0=some (if y4 p n=true then .inr b else .inl false):=qu2 F p n false b hn hs
theorem q9{t:Ty}{l:List t.den}{i:Nat}(h:i<l.length):elt t l i=l[i]:=by
  unfold elt
  simp [List.getD_eq_getElem?_getD,h]
theorem qsl{t:Ty}(l:List t.den)(q:t.den→Bool):y4 (fun i=>q (elt t l i)) l.length=l.all q:=by
  rw [Bool.eq_iff_iff,wd,List.all_eq_true]
  constructor
  · intro h x hx
    obtain⟨i,hi,rfl⟩:=List.getElem_of_mem hx
    have:=h i hi
    rwa [q9 hi] at this
  · intro h i hi
    show q (elt t l i)=true
    rw [q9 hi]
    exact h _ (List.getElem_mem hi)
def sm(c:UInt8):Bool:=(decide (97≤c.toNat)&&decide (c.toNat≤122))||(decide (48≤c.toNat)&&decide (c.toNat≤57))
theorem qlw(c:UInt8):z27 (c.toNat:Int)=some (sm c):=by
  unfold z27 sm
  by_cases h1:97≤c.toNat
  · rw [if_pos (by rw [decide_eq_true_eq]; omega), decide_eq_true h1]
    by_cases h2:c.toNat≤122
    · rw [if_pos (by rw [decide_eq_true_eq];omega),decide_eq_true h2];rfl
    · rw [if_neg (by rw [decide_eq_true_eq];omega),decide_eq_false h2,if_pos (by rw [decide_eq_true_eq];omega),decide_eq_false (by omega),decide_eq_false (by omega: ¬c.toNat≤57)];simp
  · rw [if_neg (by rw [decide_eq_true_eq]; omega), decide_eq_false h1]
    by_cases h2:48≤c.toNat
    · rw [if_pos (by rw [decide_eq_true_eq]; omega), decide_eq_true h2]
      by_cases h3:c.toNat≤57
      · rw [decide_eq_true h3,decide_eq_true (by omega)];rfl
      · rw [decide_eq_false h3,decide_eq_false (by omega)];rfl
    · rw [if_neg (by rw [decide_eq_true_eq];omega),decide_eq_false h2];rfl
def mk(s:Str):Bool:=s==[46]||(s==[95]||(s==[95,95]||(s !=[]&&s.all (· ==45))))
theorem q7g{s:Str}(h:mk s=true):s=[46]∨s=[95]∨s=[95,95]∨∃k,s=List.replicate (k+1) 45:=by
  unfold mk at h
  simp only [Bool.or_eq_true,beq_iff_eq,Bool.and_eq_true,bne_iff_ne,ne_eq,List.all_eq_true] at h
  rcases h with h|h|h|⟨h1,h2⟩
  · exact .inl h
  · exact .inr (.inl h)
  · exact .inr (.inr (.inl h))
  · refine .inr (.inr (.inr ⟨s.length - 1, ?_⟩))
    have:0<s.length:=by
      cases s with
      |nil=>exact absurd rfl h1
      |cons x r=>simp
    rw [Nat.sub_add_cancel this]
    exact List.eq_replicate_iff.2 ⟨rfl,fun b hb=>h2 b hb⟩
theorem q7f(k:Nat):mk (List.replicate (k+1) 45)=true:=by
  have h:(List.replicate (k+1) (45:UInt8)).all (· ==45)=true:=by simp [List.all_eq_true]
  unfold mk
  rw [h]
  simp [List.replicate_succ]
theorem qyb {s : Str} {y c : UInt8} (h : mk (s ++ [y]) = true) : mk ((s ++ [y]) ++ [c]) = ((c == 45 && y == 45) || (c == 95 && (y == 95 && s == []))) := by
  rcases q7g h with e|e|e|⟨k,e⟩
  · have e' : s ++ [y] = [] ++ [46] := e
    obtain⟨rfl,e2⟩:=List.append_inj' e' rfl
    obtain rfl:y=46:=by simpa using e2
    unfold mk
    simp
  · have e' : s ++ [y] = [] ++ [95] := e
    obtain⟨rfl,e2⟩:=List.append_inj' e' rfl
    obtain rfl:y=95:=by simpa using e2
    unfold mk
    by_cases hc:c=95
    · subst hc;decide
    · simp [hc]
  · have e' : s ++ [y] = [95] ++ [95] := e
    obtain⟨rfl,e2⟩:=List.append_inj' e' rfl
    obtain rfl:y=95:=by simpa using e2
    unfold mk
    simp
  · have e' : s ++ [y] = List.replicate k 45 ++ [45] := by rw [e, List.replicate_succ']
    obtain⟨rfl,e2⟩:=List.append_inj' e' rfl
    obtain rfl:y=45:=by simpa using e2
    by_cases hc:c=45
    · subst hc
      have:List.replicate k (45:UInt8)++[45]++[45]=List.replicate (k+1+1) 45:=by rw [List.replicate_succ',List.replicate_succ']
      rw [this,q7f]
      simp
    · have h45 : ((45 : UInt8) == 95) = false := by decide
      have hc':(c==45)=false:=by simpa using hc
      rw [hc',h45]
      unfold mk
      have hl: ∀q:Str,q.length=1∨(∃z,q=[95,z])→(List.replicate k (45:UInt8)++[45]++[c]==q)=false:=by
        intro q hq
        rw [beq_eq_false_iff_ne]
        intro eq
        rcases hq with hq|⟨z,rfl⟩
        · have := congrArg List.length eq
          simp at this
          omega
        · cases k with
          |zero=>simp at eq
          |succ k=>simp [List.replicate_succ] at eq
      rw [hl [46] (.inl rfl),hl [95] (.inl rfl),hl [95,95] (.inr ⟨_,rfl⟩)]
      simp [hc']
theorem q4c(c:UInt8):mk [c]=(c==46||(c==95||c==45)):=by
  unfold mk
  by_cases h1:c=46
  · subst h1;decide
  by_cases h2:c=95
  · subst h2;decide
  by_cases h3:c=45
  · subst h3;decide
  rw [show([c] !=([]:Str))=true from rfl]
  simp
def qee:Str→Str→Bool
  |now,[]=>now==[]
  |now,c::r=>if sm c then qee [] r else mk (now++[c])&&qee (now++[c]) r
def part(s:Str):Bool:=match s with
  |[]=>false
  |c::r=>sm c&&qee [] r
theorem jfi{x k:UInt8}:(((x.toNat:Int)==((k.toNat:Nat):Int))=true)↔x=k:=by
  rw [beq_iff_eq]
  constructor
  · intro h;exact UInt8.toNat_inj.1 (by omega)
  · intro h;rw [h]
theorem qj7(x k:UInt8):((x.toNat:Int)==((k.toNat:Nat):Int))=(x==k):=by
  rw [Bool.eq_iff_iff,jfi,beq_iff_eq]
theorem qwr {s : Str} (hs : s.length ≤ 4611686018427387904) : ∀ (b a now : Str), s = a ++ b → a ≠ [] → (∃ a0, a = a0 ++ now) → (now = [] ∨ mk now = true) →
    ∃ r, qmv ((a.length : Int), ((now.length : Int), (s, (s.length : Int)))) = some r ∧
      Sum.elim (fun r1=>some r1) (fun(r1:Int×Str)=>if(r1.2 !=[]) then some (r1.1==(0:Int)) else some false) r=some (qee now b):=by
  intro b
  induction b with
  | nil =>
    intro a now e ha _ _
    rw [List.append_nil] at e
    rw [qdk]
    unfold qdj
    dsimp only
    rw [if_neg (by rw [e];simp)]
    refine⟨_,rfl, ?_⟩
    show(if(s !=[]) then some ((now.length:Int)==0) else some false)=_
    rw [if_pos (by rw [e];simpa using ha)]
    congr 1
    cases now with
    |nil=>rfl
    | cons x r =>
      show(((r.length+1:Nat):Int)==0)=false
      rw [beq_eq_false_iff_ne];omega
  | cons x b ih =>
    intro a now e ha ha0 hn
    have hl2:s.length=a.length+(b.length+1):=by rw [e];simp
    have hw:w64 ((a.length:Int)+1)=(a.length:Int)+1:=qx (by omega)
    have hb:=q2b e
    have hal:0<a.length:=List.length_pos_iff.2 ha
    obtain⟨a0,ea⟩:=ha0
    have hnl:now.length≤a.length:=by rw [ea];simp
    have hi0:((a.length:Int)==0)=false:=by rw [beq_eq_false_iff_ne];omega
    have hw2:w64 ((now.length:Int)+1)=(now.length:Int)+1:=qx (by omega)
    have hw3:w64 ((a.length:Int)-1)=(a.length:Int)-1:=qx (by omega)
    have b45:=qj7 x 45
    have b95:=qj7 x 95
    have b46:=qj7 x 46
    have q1:=ih (a++[x]) [] (by rw [e];simp) (by simp) ⟨a++[x],by simp⟩ (.inl rfl)
    have q2:=ih (a++[x]) (now++[x]) (by rw [e];simp) (by simp) ⟨a0,by rw [ea];simp⟩
    rw [qc9] at q1 q2
    rw [qc9] at q2
    have e95:(([95]:Str).length:Int)=1:=rfl
    rw [qdk]
    unfold qdj qee
    dsimp only
    rw [hb,hw,hw2,if_pos (by rw [decide_eq_true_eq];omega),if_pos (by omega),if_pos (by omega),qlw,sb]
    have g1:(((45:UInt8).toNat:Nat):Int)=45:=rfl
    have g2:(((95:UInt8).toNat:Nat):Int)=95:=rfl
    have g3:(((46:UInt8).toNat:Nat):Int)=46:=rfl
    rw [g1] at b45
    rw [g2] at b95
    rw [g3] at b46
    rw [b45,b95,b46,hi0,hw3]
    by_cases gs:sm x=true
    · rw [if_pos gs, if_pos gs]
      exact q1
    rw [if_neg gs,if_neg gs]
    rcases List.eq_nil_or_concat now with hnow|⟨n',y,hnow⟩
    · -- no mark yet
      subst hnow
      have q2:=fun h=>q2 (.inr h)
      rw [List.nil_append,q4c] at q2
      rw [List.nil_append,q4c]
      have l0:(([]:Str).length:Int)=0:=rfl
      rw [l0] at q2 ⊢
      by_cases h45:x=45
      · subst h45
        exact q2 (by decide)
      have h45':(x==45)=false:=by simpa using h45
      by_cases h95:x=95
      · subst h95
        exact q2 (by decide)
      have h95':(x==95)=false:=by simpa using h95
      by_cases h46:x=46
      · subst h46
        exact q2 (by decide)
      have h46':(x==46)=false:=by simpa using h46
      rw [h45',h95',h46']
      exact⟨_,rfl,rfl⟩
    · rw [List.concat_eq_append] at hnow
      subst hnow
      have hm:mk (n'++[y])=true:=by
        rcases hn with h|h
        · simp at h
        · exact h
      have hy:bt s ((a.length:Int)-1)=(y.toNat:Int):=by
        have e1:s=(a0++n')++y::(x::b):=by rw [e,ea];simp
        have e2:(a.length:Int)-1=((a0++n').length:Int):=by rw [ea];simp;omega
        rw [e2]
        exact q2b e1
      have q2:=fun h=>q2 (.inr h)
      rw [qyb hm] at q2
      rw [qyb hm,hy]
      have c45:=qj7 y 45
      have c95:=qj7 y 95
      rw [g1] at c45
      rw [g2] at c95
      have rp:decide (((n'++[y]).length:Int)>0)=true:=by rw [decide_eq_true_eq];simp
      have ip:(0:Int)≤(a.length:Int)-1:=by omega
      have iq:(a.length:Int)-1<(s.length:Int):=by omega
      rw [show((y.toNat:Int) !=45)= !(y==45) by rw [←c45];rfl,c95,rp,if_pos ip,if_pos iq]
      have r1:(((n'++[y]).length:Int)==1)=(n'==[]):=by
        cases n' with
        |nil=>rfl
        | cons z n' =>
          have:((z::n')==([]:Str))=false:=rfl
          rw [this,beq_eq_false_iff_ne]
          simp
          omega
      rw [r1]
      by_cases h45:x=45
      · subst h45
        have h45':((45:UInt8)==95)=false:=by decide
        by_cases hy45:y=45
        · subst hy45
          rw [h45'] at q2 ⊢
          exact q2 rfl
        · have : (y == 45) = false := by simpa using hy45
          rw [this,h45']
          exact⟨_,rfl,rfl⟩
      have h45':(x==45)=false:=by simpa using h45
      by_cases h95:x=95
      · subst h95
        rw [h45'] at q2 ⊢
        by_cases hn':n'=[]
        · subst hn'
          rw [if_neg (by decide),if_pos (by rfl),if_pos (by rfl),if_pos ip,if_pos iq]
          by_cases hy95:y=95
          · subst hy95
            exact q2 rfl
          · have : (y == 95) = false := by simpa using hy95
            rw [this]
            exact⟨_,rfl,rfl⟩
        · have : (n' == []) = false := by simpa using hn'
          rw [this]
          cases hh:(y==95)
          · exact⟨_,rfl,rfl⟩
          · exact⟨_,rfl,rfl⟩
      have h95':(x==95)=false:=by simpa using h95
      rw [h45',h95']
      have key: ∀z:Bool,∃r:Bool⊕(Int×Str),(if z=true then(some (.inl false):Option (Bool⊕(Int×Str))) else some (.inl false))=some r∧Sum.elim (fun r1=>some r1) (fun(r1:Int×Str)=>if(r1.2 !=[]) then some (r1.1==(0:Int)) else some false) r=some false:=
        fun z=>⟨.inl false,by cases z <;>rfl,rfl⟩
      cases hn1:(n'==[]) <;>cases hh:(y==95) <;>exact key _
theorem jbd {s : Str} (hs : s.length ≤ 4611686018427387904) : z0l s = some (part s) := by
  unfold z0l
  cases s with
  | nil =>
    rw [qdk]
    rfl
  | cons x b =>
    rw [qdk]
    unfold qdj
    dsimp only
    have hb:bt (x::b) (0:Int)=(x.toNat:Int):=rfl
    have hw:w64 ((0:Int)+1)=1:=by decide
    rw [hb,hw,if_pos (by rw [decide_eq_true_eq];simp),if_pos (by omega),if_pos (by simp),qlw,sb]
    by_cases g:sm x=true
    · rw [if_pos g]
      obtain⟨r,q1,q2⟩:=qwr hs b [x] [] rfl (by simp) ⟨[x],rfl⟩ (.inl rfl)
      have q1:qmv ((1:Int),((0:Int),(x::b,((x::b).length:Int))))=some r:=q1
      rw [q1,sb,q2]
      show _=some (sm x&&qee [] b)
      rw [g]
      rfl
    · rw [if_neg g]
      have b45:=qj7 x 45
      have b95:=qj7 x 95
      have b46:=qj7 x 46
      have g1:(((45:UInt8).toNat:Nat):Int)=45:=rfl
      have g2:(((95:UInt8).toNat:Nat):Int)=95:=rfl
      have g3:(((46:UInt8).toNat:Nat):Int)=46:=rfl
      rw [g1] at b45
      rw [g2] at b95
      rw [g3] at b46
      rw [b45,b95,b46]
      have e:part (x::b)=false:=by
        show(sm x&&qee [] b)=false
        rw [Bool.eq_false_iff.2 g]
        rfl
      rw [e]
      cases (x==45) <;>cases (x==95) <;>cases (x==46) <;>rfl
end Go.Plain
namespace Go.Plain
open Go.AM
set_option linter.unusedVariables false
def vw(s:Str):Bool:=decide (s.length≤128)&&(xu 47 s).all part
theorem qdc (k : UInt8) : ∀ (s : Str), ∀ w ∈ xu k s, w.length ≤ s.length
  |[],w,h=>by simp [xu] at h;subst h;simp
  | c :: r, w, h => by
    unfold xu at h
    by_cases g:c=k
    · rw [if_pos g] at h
      rcases List.mem_cons.1 h with h|h
      · subst h;simp
      · have := qdc k r w h
        simp;omega
    · rw [if_neg g] at h
      cases hw:xu k r with
      |nil=>exact absurd hw (q5v k r)
      | cons w' ws =>
        rw [hw] at h
        rcases List.mem_cons.1 h with h|h
        · subst h
          have:=qdc k r w' (by rw [hw];simp)
          simp;omega
        · have := qdc k r w (by rw [hw]; simp [h])
          simp;omega
theorem w5(s:Str):qz s=some (vw s):=by
  unfold qz ui vw
  by_cases h:s.length≤128
  · have e : Lib.split s [47] = xu 47 s := by
      unfold Lib.split
      rw [Lib.count_one,qum 47 s.length s (Nat.le_refl _)]
    have hp: ∀x∈xu 47 s,z0l x=some (part x):=fun x hx=>jbd (by have:=qdc 47 s x hx;omega)
    rw [if_pos h,e,decide_eq_true h,Bool.true_and,if_pos (by rw [List.all_eq_true];intro x hx;rw [hp x hx];rfl)]
    congr 1
    rw [Bool.eq_iff_iff,List.all_eq_true,List.all_eq_true]
    constructor
    · intro g x hx
      have:=g x hx
      rw [hp x hx] at this
      simpa using this
    · intro g x hx
      rw [hp x hx,g x hx]
      rfl
  · rw [if_neg h, decide_eq_false h]
    rfl
def qus(c:UInt8):Bool:=sm c||(decide (65≤c.toNat)&&decide (c.toNat≤90))||c==95
def qut(c:UInt8):Bool:=qus c||c==46||c==45
def y9:Str→Bool
  |[]=>false
  |c::r=>qus c&&r.all qut&&decide ((c::r).length≤128)
theorem q1i{s:Str}(hs:s.length≤4611686018427387904):qmt ((0:Int),(s,(s.length:Int)))=some (if y4 (fun i=>if i=0 then qus (s.getD i 0) else qut (s.getD i 0)) s.length=true then .inr s else .inl false):=by
  refine q5s (fun i=>qmt (i,(s,(s.length:Int)))) _ _ _ (by rw [qpu];unfold qgg;dsimp only;rw [if_neg (by simp)]) (fun i hi=> ?_)
  have hw:w64 ((i:Int)+1)=(i:Int)+1:=qx (by omega)
  have hb:bt s (i:Int)=((s.getD i 0).toNat:Int):=q2c s i
  generalize s.getD i 0=x at hb
  have b45:=qj7 x 45
  have b95:=qj7 x 95
  have b46:=qj7 x 46
  have g1:(((45:UInt8).toNat:Nat):Int)=45:=rfl
  have g2:(((95:UInt8).toNat:Nat):Int)=95:=rfl
  have g3:(((46:UInt8).toNat:Nat):Int)=46:=rfl
  rw [g1] at b45
  rw [g2] at b95
  rw [g3] at b46
  have d1:decide ((x.toNat:Int)≥65)=decide (65≤x.toNat):=by rw [decide_eq_decide];omega
  have d2:decide ((x.toNat:Int)≤90)=decide (x.toNat≤90):=by rw [decide_eq_decide];omega
  rw [qpu]
  unfold qgg
  dsimp only
  rw [hb,hw,b45,b95,b46,d1,d2,if_pos (by rw [decide_eq_true_eq];omega),if_pos (by omega),if_pos (by omega),qlw,sb]
  unfold qut qus
  by_cases hi0:i=0
  · rw [if_pos hi0, decide_eq_false (by omega : ¬ (i : Int) > 0)]
    cases sm x <;>cases decide (65≤x.toNat) <;>cases decide (x.toNat≤90) <;>cases (x==95) <;>rfl
  · rw [if_neg hi0, decide_eq_true (by omega : (i : Int) > 0)]
    cases sm x <;>cases decide (65≤x.toNat) <;>cases decide (x.toNat≤90) <;>cases (x==95) <;>cases (x==46) <;>cases (x==45) <;>rfl
theorem q6c(c:UInt8)(r:Str):y4 (fun i=>if i=0 then qus ((c::r).getD i 0) else qut ((c::r).getD i 0)) (c::r).length=(qus c&&r.all qut):=by
  rw [Bool.eq_iff_iff,wd,Bool.and_eq_true,List.all_eq_true]
  constructor
  · intro h
    refine⟨h 0 (by simp),fun x hx=> ?_⟩
    obtain⟨i,hi,rfl⟩:=List.getElem_of_mem hx
    have:=h (i+1) (by simp;omega)
    simpa [List.getD_eq_getElem?_getD,hi] using this
  · rintro ⟨h0, h⟩ i hi
    cases i with
    |zero=>exact h0
    | succ i =>
      have hi':i<r.length:=by simpa using hi
      show(if i+1=0 then _ else qut ((c::r).getD (i+1) 0))=true
      rw [if_neg (by omega)]
      have:(c::r).getD (i+1) 0=r[i]:=by simp [List.getD_eq_getElem?_getD,hi']
      rw [this]
      exact h _ (List.getElem_mem hi')
theorem qxd{s:Str}(hs:s.length≤4611686018427387904):z0j s=some (y9 s):=by
  unfold z0j
  rw [q1i hs,sb]
  cases s with
  |nil=>rfl
  | cons c r =>
    rw [q6c]
    show _=some ((qus c&&r.all qut)&&decide ((c::r).length≤128))
    cases (qus c&&r.all qut) with
    |false=>rfl
    | true =>
      show(if((c::r) !=[])=true then some (decide (((c::r).length:Int)≤128)) else some false)=_
      rw [if_pos (by rfl),Bool.true_and]
      rw [show decide (((c::r).length:Int)≤128)=decide ((c::r).length≤128) by rw [decide_eq_decide];omega]
end Go.Plain
namespace Go.Plain
open Go.AM
set_option linter.unusedVariables false
abbrev Bls:Type:=List Obj×(Int×(List (Int×Str)×Int))
abbrev Rep:Type:=Str×(List Str×(List Str×List (Str×Str)))
abbrev Reg:Type:=Bls×List Rep
abbrev tO:Ty:= .pair .str .str
abbrev tU:Ty:= .pair (.int .i64) .str
abbrev tR:Ty:= .pair .str (.pair (.sl .str) (.pair (.sl .str) (.sl (.pair .str .str))))
def jc(p:Nat→Bool)(n:Nat):Option Nat:=(List.range' 0 n).find? p
theorem qe1{α β:Type}(F:Int→Option (α⊕β))(p:Nat→Bool)(g:Nat→α)(n:Nat)(b:β)(hn:F (n:Int)=some (.inr b))
    (hs: ∀i:Nat,i<n→F (i:Int)=if p i=true then some (.inl (g i)) else F ((i:Int)+1)):F 0=some (match jc p n with|some i=> .inl (g i)|none=> .inr b):=by
  have key: ∀(k i:Nat),i+k=n→F (i:Int)=some (match(List.range' i k).find? p with|some i=> .inl (g i)|none=> .inr b):=by
    intro k
    induction k with
    | zero =>
      intro i e;obtain rfl:i=n:=by omega
      exact hn
    | succ k ih =>
      intro i e
      rw [hs i (by omega),List.range'_succ,List.find?_cons]
      have:=ih (i+1) (by omega)
      rw [Int.natCast_add,Int.natCast_one] at this
      cases h:p i with
      |true=>rw [if_pos rfl]
      |false=>rw [if_neg (by decide),this]
  exact key n 0 (by omega)
theorem qbf{p:Nat→Bool}{n:Nat}:jc p n=none↔∀i,i<n→p i=false:=by
  unfold jc
  rw [List.find?_eq_none]
  constructor
  · intro h i hi
    have:=h i (by simp [List.mem_range'_1];exact hi)
    simpa using this
  · intro h i hi
    have:=h i (by simp [List.mem_range'_1] at hi;exact hi)
    simpa using this
theorem kl{p:Nat→Bool}{n i:Nat}(h:jc p n=some i):i<n∧p i=true∧∀j,j<i→p j=false:=by
  unfold jc at h
  have h1:=List.find?_some h
  have h2:=List.mem_of_find?_eq_some h
  obtain⟨_,l1,l2,e,hl⟩:=List.find?_eq_some_iff_append.1 h
  refine⟨by simp [List.mem_range'_1] at h2;exact h2,h1,fun j hj=> ?_⟩
  have hin:i<n:=by simp [List.mem_range'_1] at h2;exact h2
  have hj':j∈List.range' 0 n:=by simp [List.mem_range'_1];omega
  rw [e] at hj'
  rcases List.mem_append.1 hj' with hm|hm
  · simpa using hl j hm
  · exfalso
    have hs:(List.range' 0 n).Pairwise (· < ·):=List.pairwise_lt_range'
    rw [e,List.pairwise_append] at hs
    rcases List.mem_cons.1 hm with hm|hm
    · omega
    · have := (List.pairwise_cons.1 hs.2.1).1 j hm
      omega
def plc(l:List Obj)(d:Str):Int:=match jc (fun i=>(elt tO l i).1==d) l.length with|some i=>(i:Int)|none=> -1
theorem jbj{b:Bls}(hb:b.1.length≤4611686018427387904)(d:Str):z1j (b,d)=some (plc b.1 d):=by
  unfold z1j z2r z10 plc
  have:=qe1 (fun i=>qm4 ((i,(b.1,(b.1.length:Int))),d)) (fun i=>(elt tO b.1 i).1==d) (fun i=>((i:Int),d)) b.1.length d (by
    rw [qp5];unfold qgr;dsimp only;rw [if_neg (by simp)]) (fun i hi=>by
    have hw:w64 ((i:Int)+1)=(i:Int)+1:=qx (by omega)
    rw [qp5]
    unfold qgr z2z
    dsimp only
    rw [if_pos (by rw [decide_eq_true_eq];omega),if_pos (by omega),if_pos (by omega),hw,Int.toNat_natCast,sb])
  dsimp only
  rw [show qm4 (((0:Int),(b.1,(b.1.length:Int))),d)=_ from this]
  cases jc (fun i=>(elt tO b.1 i).1==d) b.1.length <;>rfl
def qtx(l:List Obj)(i:Nat):Bool:=decide ((elt tO l i).2.length≤4096)&&(qkr (elt tO l i).1 (elt tO l i).2&&plc l (elt tO l i).1==(i:Int))
theorem q1f{b:Bls}(hb:OL b.1):qml (((0:Int),(b.1,(b.1.length:Int))),b)=some (if y4 (qtx b.1) b.1.length=true then .inr b else .inl false):=by
  have hlen:=hb.len
  refine q5s (fun i=>qml ((i,(b.1,(b.1.length:Int))),b)) _ _ _ (by rw [qpn];unfold qf8;dsimp only;rw [if_neg (by simp)]) (fun i hi=> ?_)
  have hw:w64 ((i:Int)+1)=(i:Int)+1:=qx (by omega)
  have hm:=hb.obj _ (List.getElem_mem hi)
  rw [←q9 (t:=tO) hi] at hm
  rw [qpn]
  unfold qf8 qtx
  dsimp only
  rw [if_pos (by rw [decide_eq_true_eq];omega),if_pos (by omega),if_pos (by omega),hw,Int.toNat_natCast]
  generalize elt tO b.1 i=o at hm ⊢
  obtain⟨r,h1,h2⟩:=qxh (d:=o.1) (x:=o.2) hm.1 (by omega)
  by_cases g:o.2.length≤4096
  · rw [if_neg (by rw [decide_eq_true_eq]; omega), decide_eq_true g, h1, sb]
    cases gf:qkr o.1 o.2 with
    | true =>
      rw [if_neg (by rw [h2.2 gf];decide),jbj (by omega),sb]
      cases gp:plc b.1 o.1==(i:Int) with
      |true=>rw [if_neg (by rw [bne,gp];decide)];rfl
      |false=>rw [if_pos (by rw [bne,gp];rfl)];rfl
    | false =>
      rw [if_pos (by rw [bne_iff_ne];intro e;rw [h2.1 e] at gf;cases gf)]
      rfl
  · rw [if_pos (by rw [decide_eq_true_eq]; omega), decide_eq_false g]
    rfl
def q73(b:Bls)(i:Nat):Bool:=decide ((elt tU b.2.2.1 i).2.length≤4096)&&(decide (1≤(elt tU b.2.2.1 i).1)&&(decide ((elt tU b.2.2.1 i).1≤b.2.2.2)&&(decide (i=0)||decide ((elt tU b.2.2.1 (i-1)).1<(elt tU b.2.2.1 i).1))))
theorem qxb {b : Bls} (hb : b.2.2.1.length ≤ 4611686018427387904) : qdg (((0 : Int), (b.2.2.1, (b.2.2.1.length : Int))), b) = some (if y4 (q73 b) b.2.2.1.length = true then .inr b else .inl false) := by
  refine q5s (fun i=>qdg ((i,(b.2.2.1,(b.2.2.1.length:Int))),b)) _ _ _ (by rw [qmk];unfold qcn;dsimp only;rw [if_neg (by simp)]) (fun i hi=> ?_)
  have hw:w64 ((i:Int)+1)=(i:Int)+1:=qx (by omega)
  have hw1:w64 ((i:Int)-1)=(i:Int)-1:=qx (by omega)
  rw [qmk]
  unfold qcn q73
  dsimp only
  rw [if_pos (by rw [decide_eq_true_eq];omega),if_pos (by omega),if_pos (by omega),hw,hw1,Int.toNat_natCast]
  generalize elt tU b.2.2.1 i=o
  by_cases g:o.2.length≤4096
  · rw [if_neg (by rw [decide_eq_true_eq]; omega), decide_eq_true g]
    by_cases g1:1≤o.1
    · rw [if_neg (by simpa using g1), decide_eq_true g1]
      by_cases g2:o.1≤b.2.2.2
      · rw [if_neg (by simpa using g2), decide_eq_true g2]
        by_cases hi0:i=0
        · rw [if_neg (by rw [decide_eq_true_eq]; omega), decide_eq_true hi0]
          rfl
        · have e1 : ((i : Int) - 1).toNat = i - 1 := by omega
          rw [if_pos (by rw [decide_eq_true_eq];omega),decide_eq_false hi0,if_pos (by omega),if_pos (by omega),e1]
          by_cases g3:(elt tU b.2.2.1 (i-1)).1<o.1
          · rw [if_neg (by simpa using g3),decide_eq_true g3];rfl
          · rw [if_pos (by simpa using g3),decide_eq_false g3];rfl
      · rw [if_pos (by simpa using g2),decide_eq_false g2];rfl
    · rw [if_pos (by simpa using g1),decide_eq_false g1];rfl
  · rw [if_pos (by rw [decide_eq_true_eq];omega),decide_eq_false g];rfl
def usd(l:List Obj):Nat:=(l.map fun o=>o.2.length).sum
theorem qw6{l:List Obj}(hl:OL l): ∀(b a:List Obj) (n:Nat),a++b=l→n+usd b≤4611686018427387904→qmy ((a.length:Int),((n:Int),(l,(l.length:Int))))=some ((n+usd b:Nat):Int):=by
  intro b
  induction b with
  | nil =>
    intro a n e h
    rw [List.append_nil] at e
    rw [qpy]
    unfold qgk
    dsimp only
    rw [if_neg (by rw [e];simp)]
    rfl
  | cons x b ih =>
    intro a n e h
    have hlen:=hl.len
    have hl2:l.length=a.length+(b.length+1):=by rw [←e];simp
    have hu:usd (x::b)=x.2.length+usd b:=by simp [usd]
    have hw:w64 ((a.length:Int)+1)=(a.length:Int)+1:=qx (by omega)
    have ee:elt tO l (a.length:Int).toNat=x:=by rw [Int.toNat_natCast,←e];exact kx tO a x b
    have hw2:w64 ((n:Int)+(x.2.length:Int))=((n+x.2.length:Nat):Int):=by rw [qx (by omega)];omega
    have q:=ih (a++[x]) (n+x.2.length) (by rw [←e];simp) (by omega)
    rw [qc9] at q
    rw [qpy]
    unfold qgk
    dsimp only
    rw [if_pos (by rw [decide_eq_true_eq];omega),if_pos (by omega),if_pos (by omega),ee,hw,hw2,q,hu,Nat.add_assoc]
theorem q5t{l:List Obj}(hl:OL l):usd l≤10000000:=by
  have: ∀l:List Obj,(∀o∈l,o.2.length≤10000)→usd l≤l.length*10000:=by
    intro l
    induction l with
    |nil=>intro _;exact Nat.le_refl _
    | cons x l ih =>
      intro h
      have h1:=h x (by simp)
      have h2:=ih fun o ho=>h o (by simp [ho])
      have hu:usd (x::l)=x.2.length+usd l:=by simp [usd]
      rw [hu,List.length_cons]
      omega
  have h1:=this l fun o ho=>(hl.obj o ho).2
  have h2:=hl.len
  have:l.length*10000≤1000*10000:=Nat.mul_le_mul_right _ h2
  omega
theorem jbg{b:Bls}(hb:OL b.1):z0s b=some (usd b.1:Int):=by
  have h1:=q5t hb
  have:=qw6 hb b.1 [] 0 rfl (by omega)
  unfold z0s
  rw [show qmy ((0:Int),((0:Int),(b.1,(b.1.length:Int))))=_ from this,Nat.zero_add]
  rfl
def qbz(b:Bls):Bool:=y4 (qtx b.1) b.1.length&&(y4 (q73 b) b.2.2.1.length&&(decide (b.1.length≤64)&&(decide (b.2.2.1.length≤16)&&(decide (0≤b.2.2.2)&&(decide (b.2.2.2≤1099511627776)&&(decide (0≤b.2.1)&&(decide (b.2.1≤1048576)&&decide ((usd b.1:Int)≤b.2.1))))))))
theorem q0z{b:Bls}{f:Bls→Option Int}(hf:f b=some (usd b.1:Int)):
    (if (decide ((b.1.length : Int) ≤ (64 : Int))) then (if (decide ((b.2.2.1.length : Int) ≤ (16 : Int))) then (if (decide (b.2.2.2 ≥ (0 : Int))) then (if (decide (b.2.2.2 ≤ (1099511627776 : Int))) then (if (decide (b.2.1 ≥ (0 : Int))) then (if (decide (b.2.1 ≤ (1048576 : Int))) then (f b >>= fun u =>
     some (decide (u≤b.2.1))) else some false) else some false) else some false) else some false) else some false) else some false)=
    some (decide (b.1.length≤64)&&(decide (b.2.2.1.length≤16)&&(decide (0≤b.2.2.2)&&(decide (b.2.2.2≤1099511627776)&&(decide (0≤b.2.1)&&(decide (b.2.1≤1048576)&&decide ((usd b.1:Int)≤b.2.1))))))):=by
  have d1:decide ((b.1.length:Int)≤64)=decide (b.1.length≤64):=by rw [decide_eq_decide];omega
  have d2:decide ((b.2.2.1.length:Int)≤16)=decide (b.2.2.1.length≤16):=by rw [decide_eq_decide];omega
  rw [d1,d2,hf,sb]
  show(if decide (b.1.length≤64)=true then if decide (b.2.2.1.length≤16)=true then if decide (0≤b.2.2.2)=true then if decide (b.2.2.2≤1099511627776)=true then if decide (0≤b.2.1)=true then _ else _ else _ else _ else _ else _)=_
  cases decide (b.1.length≤64) <;>cases decide (b.2.2.1.length≤16) <;>cases decide (0≤b.2.2.2) <;>cases decide (b.2.2.2≤1099511627776) <;>cases decide (0≤b.2.1) <;>cases decide (b.2.1≤1048576) <;>rfl
theorem jba{b:Bls}(hb:OL b.1)(hu:b.2.2.1.length≤1048576):z08 b=some (qbz b):=by
  unfold z08 qbz
  rw [q1f hb,sb]
  cases y4 (qtx b.1) b.1.length with
  |false=>rfl
  | true =>
    rw [if_pos rfl,Bool.true_and]
    show(qdg (((0:Int),(b.2.2.1,(b.2.2.1.length:Int))),b)>>=_)=_
    rw [qxb (by omega),sb]
    cases y4 (q73 b) b.2.2.1.length with
    |false=>rfl
    | true =>
      rw [if_pos rfl,Bool.true_and]
      exact q0z (f:=z0s) (jbg hb)
end Go.Plain
namespace Go.Plain
open Go.AM
set_option linter.unusedVariables false
def qny(l:List Str):Bool:=y4 (fun i=> !((l.take i).contains (elt .str l i))) l.length
theorem qpf{l:List Str}(hl:l.length≤1048576):z0w l=some (qny l):=by
  unfold z0w
  have:=q5s (fun i=>qm1 (i,(l,(l,(l.length:Int))))) (fun i=> !((l.take i).contains (elt .str l i))) l.length () (by
    rw [qp1];unfold qgn;dsimp only;rw [if_neg (by simp)]) (fun i hi=>by
    have hw:w64 ((i:Int)+1)=(i:Int)+1:=qx (by omega)
    rw [qp1]
    unfold qgn
    dsimp only
    rw [if_pos (by rw [decide_eq_true_eq];omega),if_pos (by omega),if_pos (by omega),if_pos (by omega),if_pos (by omega),hw,Int.toNat_natCast,qy (by rw [List.length_take];omega),sb]
    cases (l.take i).contains (elt .str l i) <;>rfl)
  rw [show qm1 ((0:Int),(l,(l,(l.length:Int))))=_ from this,sb]
  unfold qny
  cases y4 (fun i=> !((l.take i).contains (elt .str l i))) l.length <;>rfl
def qbo(r:Rep)(m:Man):Bool:=(vr m).any (fun d=> !r.2.1.contains d)||m.2.2.2.any (fun d=> !r.2.2.1.contains d)
theorem qkq{t:Ty}(l:List t.den)(q:t.den→Bool):(jc (fun i=>q (elt t l i)) l.length).isSome=l.any q:=by
  cases h:jc (fun i=>q (elt t l i)) l.length with
  | none =>
    rw [eq_comm,Option.isSome_none,List.any_eq_false]
    intro x hx
    obtain⟨i,hi,rfl⟩:=List.getElem_of_mem hx
    have:=qbf.1 h i hi
    rw [q9 hi] at this
    simp [this]
  | some i =>
    obtain⟨h1,h2,_⟩:=kl h
    rw [q9 h1] at h2
    rw [eq_comm,Option.isSome_some,List.any_eq_true]
    exact⟨_,List.getElem_mem h1,h2⟩
theorem jak{l:List Str}(hl:l.length≤4611686018427387904){c:Rep}(hc:c.2.1.length≤1048576):z2i (l,c)=some (l.any (fun d=> !c.2.1.contains d),c):=by
  unfold z2i z11
  have:=qe1 (fun i=>qm5 ((i,(l,(l.length:Int))),c)) (fun i=> !c.2.1.contains (elt .str l i)) (fun i=>((i:Int),c)) l.length c (by
    rw [qp6];unfold qgs;dsimp only;rw [if_neg (by simp)]) (fun i hi=>by
    have hw:w64 ((i:Int)+1)=(i:Int)+1:=qx (by omega)
    rw [qp6]
    unfold qgs z2s
    dsimp only
    rw [if_pos (by rw [decide_eq_true_eq];omega),if_pos (by omega),if_pos (by omega),hw,Int.toNat_natCast,qy hc,sb,sb])
  dsimp only
  rw [show qm5 (((0:Int),(l,(l.length:Int))),c)=_ from this]
  have e:=qkq (t:= .str) l (fun d=> !c.2.1.contains d)
  cases h:jc (fun i=> !c.2.1.contains (elt .str l i)) l.length with
  |none=>rw [h] at e;rw [←e];rfl
  | some i =>
    rw [h] at e
    rw [←e]
    show some (decide ((i:Int)≥0),c)=_
    rw [decide_eq_true (by omega)]
    rfl
theorem ja4{l:List Str}(hl:l.length≤4611686018427387904){c:Rep}(hc:c.2.2.1.length≤1048576):z2j (l,c)=some (l.any (fun d=> !c.2.2.1.contains d),c):=by
  unfold z2j z12
  have:=qe1 (fun i=>qm6 ((i,(l,(l.length:Int))),c)) (fun i=> !c.2.2.1.contains (elt .str l i)) (fun i=>((i:Int),c)) l.length c (by
    rw [qp7];unfold qgt;dsimp only;rw [if_neg (by simp)]) (fun i hi=>by
    have hw:w64 ((i:Int)+1)=(i:Int)+1:=qx (by omega)
    rw [qp7]
    unfold qgt z2t
    dsimp only
    rw [if_pos (by rw [decide_eq_true_eq];omega),if_pos (by omega),if_pos (by omega),hw,Int.toNat_natCast,qy hc,sb,sb])
  dsimp only
  rw [show qm6 (((0:Int),(l,(l.length:Int))),c)=_ from this]
  have e:=qkq (t:= .str) l (fun d=> !c.2.2.1.contains d)
  cases h:jc (fun i=> !c.2.2.1.contains (elt .str l i)) l.length with
  |none=>rw [h] at e;rw [←e];rfl
  | some i =>
    rw [h] at e
    rw [←e]
    show some (decide ((i:Int)≥0),c)=_
    rw [decide_eq_true (by omega)]
    rfl
theorem qk3{m:Man}(hm:MB m){c:Rep}(h1:c.2.1.length≤1048576)(h2:c.2.2.1.length≤1048576):z1y (m,c)=some (qbo c m,c):=by
  have hb:=qj8 m
  have hm1:=hm.2.1
  have hm2:=hm.2.2.2.1
  unfold z1y qbo
  dsimp only
  rw [qxe hm,sb,jak (by omega) h1,sb]
  cases (vr m).any (fun d=> !c.2.1.contains d) with
  |true=>rfl
  | false =>
    rw [if_neg (show¬(false=true) by decide)]
    dsimp only
    rw [ja4 (by omega) h2,sb,Bool.false_or]
structure BdR (r:Rep):Prop where
  nm:r.1.length≤1048576
  bl:r.2.1.length≤1048576
  ma:r.2.2.1.length≤1048576
  tg:r.2.2.2.length≤1048576
  tn: ∀t∈r.2.2.2,t.1.length≤1048576
noncomputable def mOK(o:List Obj)(r:Rep)(d:Str):Bool:=(pM (fnd o d).1).2==0&&((ofM o d).2==0&& !qbo r (pM (fnd o d).1).1)
def tOK(r:Rep)(i:Nat):Bool:=y9 (elt tO r.2.2.2 i).1&&(r.2.2.1.contains (elt tO r.2.2.2 i).2&&(decide (i=0)||Op.bytesLess (elt tO r.2.2.2 (i-1)).1 (elt tO r.2.2.2 i).1))
noncomputable def qrh(o:List Obj)(r:Rep):Bool:=
  vw r.1&&(qny r.2.1&&(qny r.2.2.1&&(decide (r.2.2.2.length≤64)&&(r.2.1.all (fun d=>(fnd o d).2==0)&&(r.2.2.1.all (mOK o r)&&y4 (tOK r) r.2.2.2.length)))))
theorem q0f{o:List Obj}(ho:OL o){c:Rep}(hc:BdR c):qmd (((0:Int),(o,(c.2.1,(c.2.1.length:Int)))),c)=some (if c.2.1.all (fun d=>(fnd o d).2==0)=true then .inr (o,c) else .inl (false,c)):=by
  have h1:=hc.bl
  rw [←qsl (t:= .str)]
  refine qu2 (fun i=>qmd ((i,(o,(c.2.1,(c.2.1.length:Int)))),c)) _ _ _ _ (by
    rw [qpk];unfold qf1;dsimp only;rw [if_neg (by simp)]) (fun i hi=> ?_)
  have hw:w64 ((i:Int)+1)=(i:Int)+1:=qx (by omega)
  rw [qpk]
  unfold qf1
  dsimp only
  rw [if_pos (by rw [decide_eq_true_eq];omega),if_pos (by omega),if_pos (by omega),hw,Int.toNat_natCast,xd ho,sb]
  cases h:((fnd o (elt .str c.2.1 i)).2==0) with
  |true=>rw [if_neg (by rw [bne,h];decide)];rfl
  |false=>rw [if_pos (by rw [bne,h];rfl)];rfl
theorem qwc{o:List Obj}(ho:OL o){c:Rep}(hc:BdR c):qdd (((0:Int),(o,(c.2.2.1,(c.2.2.1.length:Int)))),c)=some (if c.2.2.1.all (mOK o c)=true then .inr c else .inl (false,c)):=by
  have h1:=hc.ma
  rw [←qsl (t:= .str)]
  refine qu2 (fun i=>qdd ((i,(o,(c.2.2.1,(c.2.2.1.length:Int)))),c)) _ _ _ _ (by
    rw [qmb];unfold qcf;dsimp only;rw [if_neg (by simp)]) (fun i hi=> ?_)
  have hw:w64 ((i:Int)+1)=(i:Int)+1:=qx (by omega)
  rw [qmb]
  unfold qcf mOK
  dsimp only
  rw [if_pos (by rw [decide_eq_true_eq];omega),if_pos (by omega),if_pos (by omega),hw,Int.toNat_natCast,xd ho,sb,qlf,sb,q1o ho,sb]
  generalize elt .str c.2.2.1 i=d
  cases g1:((ofM o d).2==0) with
  |false=>rw [if_pos (by rw [bne,g1];rfl)];simp
  | true =>
    rw [if_neg (by rw [bne,g1];decide)]
    cases g2:((pM (fnd o d).1).2==0) with
    |false=>rw [if_pos (by rw [bne,g2];rfl)];rfl
    | true =>
      obtain⟨hm,_⟩:=qyg (show(pM (fnd o d).1).2=0 by simpa using g2)
      rw [if_neg (by rw [bne,g2];decide),qk3 hm hc.bl hc.ma,sb]
      cases qbo c (pM (fnd o d).1).1 <;>rfl
theorem qwd {c : Rep} (hc : BdR c) : qde (((0 : Int), (c.2.2.2, (c.2.2.2.length : Int))), c) = some (if y4 (tOK c) c.2.2.2.length = true then .inr c else .inl (false, c)) := by
  have h1:=hc.tg
  have h2:=hc.ma
  refine qu2 (fun i=>qde ((i,(c.2.2.2,(c.2.2.2.length:Int))),c)) _ _ _ _ (by
    rw [qmc];unfold qcg;dsimp only;rw [if_neg (by simp)]) (fun i hi=> ?_)
  have hw:w64 ((i:Int)+1)=(i:Int)+1:=qx (by omega)
  have hw1:w64 ((i:Int)-1)=(i:Int)-1:=qx (by omega)
  have ht:=hc.tn _ (List.getElem_mem hi)
  rw [←q9 (t:=tO) hi] at ht
  rw [qmc]
  unfold qcg tOK
  dsimp only
  rw [if_pos (by rw [decide_eq_true_eq];omega),if_pos (by omega),if_pos (by omega),hw,hw1,Int.toNat_natCast,qxd (Nat.le_trans ht (by decide)),sb]
  cases y9 (elt tO c.2.2.2 i).1 with
  |false=>rfl
  | true =>
    rw [if_neg (by decide),qy h2,sb]
    cases c.2.2.1.contains (elt tO c.2.2.2 i).2 with
    |false=>rfl
    | true =>
      rw [if_neg (by decide)]
      by_cases hi0:i=0
      · rw [if_neg (by rw [decide_eq_true_eq];omega),decide_eq_true hi0];rfl
      · have e1 : ((i : Int) - 1).toNat = i - 1 := by omega
        rw [if_pos (by rw [decide_eq_true_eq];omega),decide_eq_false hi0,if_pos (by omega),if_pos (by omega),e1]
        cases Op.bytesLess (elt tO c.2.2.2 (i-1)).1 (elt tO c.2.2.2 i).1 <;>rfl
theorem jaf {o : List Obj} (ho : OL o) {c : Rep} (hc : BdR c) : z03 (o, c) = some (qrh o c, c) := by
  unfold z03 qrh
  dsimp only
  rw [w5,sb]
  cases vw c.1 with
  |false=>rfl
  | true =>
    rw [if_neg (by decide),qpf hc.bl,sb,Bool.true_and]
    cases qny c.2.1 with
    |false=>rfl
    | true =>
      rw [if_neg (by decide),qpf hc.ma,sb,Bool.true_and]
      cases qny c.2.2.1 with
      |false=>rfl
      | true =>
        rw [if_neg (by decide),Bool.true_and]
        by_cases g:c.2.2.2.length≤64
        · rw [if_neg (by rw [decide_eq_true_eq]; omega), decide_eq_true g, q0f ho hc, sb, Bool.true_and]
          cases c.2.1.all (fun d=>(fnd o d).2==0) with
          |false=>rfl
          | true =>
            rw [if_pos rfl,Bool.true_and]
            show(qdd (((0:Int),(o,(c.2.2.1,(c.2.2.1.length:Int)))),c)>>=_)=_
            rw [qwc ho hc,sb]
            cases c.2.2.1.all (mOK o c) with
            |false=>rfl
            | true =>
              rw [if_pos rfl,Bool.true_and]
              show(qde (((0:Int),(c.2.2.2,(c.2.2.2.length:Int))),c)>>=_)=_
              rw [qwd hc,sb]
              cases y4 (tOK c) c.2.2.2.length <;>rfl
        · rw [if_pos (by rw [decide_eq_true_eq]; omega), decide_eq_false g]
          rfl
structure Bd (g:Reg):Prop where
  ol:OL g.1.1
  up:g.1.2.2.1.length≤1048576
  rep:g.2.length≤1048576
  each: ∀r∈g.2,BdR r
noncomputable def qr2(g:Reg)(i:Nat):Bool:=qrh g.1.1 (elt tR g.2 i)&&(decide (i=0)||Op.bytesLess (elt tR g.2 (i-1)).1 (elt tR g.2 i).1)
noncomputable def ju(g:Reg):Bool:=y4 (qr2 g) g.2.length&&(decide (g.2.length≤16)&&qbz g.1)
theorem qsj{g:Reg}(hg:Bd g):qmq (((0:Int),(g.2,(g.2.length:Int))),g)=some (if y4 (qr2 g) g.2.length=true then .inr g else .inl false):=by
  have h1:=hg.rep
  refine qu2 (fun i=>qmq ((i,(g.2,(g.2.length:Int))),g)) _ _ _ _ (by
    rw [qps];unfold qge;dsimp only;rw [if_neg (by simp)]) (fun i hi=> ?_)
  have hw:w64 ((i:Int)+1)=(i:Int)+1:=qx (by omega)
  have hw1:w64 ((i:Int)-1)=(i:Int)-1:=qx (by omega)
  have hb:=hg.each _ (List.getElem_mem hi)
  rw [←q9 (t:=tR) hi] at hb
  rw [qps]
  unfold qge qr2
  dsimp only
  rw [if_pos (by rw [decide_eq_true_eq];omega),if_pos (by omega),if_pos (by omega),hw,hw1,Int.toNat_natCast,jaf hg.ol hb,sb]
  cases qrh g.1.1 (elt tR g.2 i) with
  |false=>rfl
  | true =>
    rw [if_neg (by simp)]
    by_cases hi0:i=0
    · rw [if_neg (by rw [decide_eq_true_eq];omega),decide_eq_true hi0];rfl
    · have e1 : ((i : Int) - 1).toNat = i - 1 := by omega
      rw [if_pos (by rw [decide_eq_true_eq];omega),decide_eq_false hi0,if_pos (by omega),if_pos (by omega),e1]
      cases Op.bytesLess (elt tR g.2 (i-1)).1 (elt tR g.2 i).1 <;>rfl
theorem qmp{g:Reg}(hg:Bd g):z0e g=some (ju g):=by
  unfold z0e ju
  rw [qsj hg,sb]
  cases y4 (qr2 g) g.2.length with
  |false=>rfl
  | true =>
    rw [if_pos rfl,Bool.true_and]
    show(if decide ((g.2.length:Int)≤16)=true then _ else _)=_
    by_cases h:g.2.length≤16
    · rw [if_pos (by rw [decide_eq_true_eq];omega),decide_eq_true h,jba hg.ol hg.up];rfl
    · rw [if_neg (by rw [decide_eq_true_eq];omega),decide_eq_false h];rfl
end Go.Plain
namespace Go.Plain
open Go.AM
set_option linter.unusedVariables false
def atR(l:List Rep)(s:Str):Nat:=match jc (fun i=> !(Op.bytesLess (elt tR l i).1 s)) l.length with|some i=>i|none=>l.length
def isR(l:List Rep)(s:Str):Bool:=match jc (fun i=> !(Op.bytesLess (elt tR l i).1 s)) l.length with|some i=>(elt tR l i).1==s|none=>false
theorem qc6{g:Reg}(hl:g.2.length≤4611686018427387904)(s:Str):z0b (g,s)=some ((atR g.2 s:Int),isR g.2 s):=by
  unfold z0b atR isR
  have:=qe1 (fun i=>qmm ((s,(i,(g.2,(g.2.length:Int)))),g)) (fun i=> !(Op.bytesLess (elt tR g.2 i).1 s)) (fun i=>((i:Int),((elt tR g.2 i).1==s))) g.2.length g (by
    rw [qpp];unfold qga;dsimp only;rw [if_neg (by simp)]) (fun i hi=>by
    have hw:w64 ((i:Int)+1)=(i:Int)+1:=qx (by omega)
    rw [qpp]
    unfold qga
    dsimp only
    rw [if_pos (by rw [decide_eq_true_eq];omega),if_pos (by omega),if_pos (by omega),hw,Int.toNat_natCast])
  dsimp only
  rw [show qmm ((s,((0:Int),(g.2,(g.2.length:Int)))),g)=_ from this,sb]
  cases jc (fun i=> !(Op.bytesLess (elt tR g.2 i).1 s)) g.2.length <;>rfl
theorem qg4{l:List Rep}{s:Str}(h:isR l s=true):atR l s<l.length∧(elt tR l (atR l s)).1=s:=by
  unfold isR at h
  unfold atR
  cases e:jc (fun i=> !(Op.bytesLess (elt tR l i).1 s)) l.length with
  |none=>rw [e] at h;cases h
  | some i =>
    rw [e] at h
    exact⟨(kl e).1,by simpa using h⟩
theorem q11(l:List Rep)(s:Str):atR l s≤l.length:=by
  unfold atR
  cases e:jc (fun i=> !(Op.bytesLess (elt tR l i).1 s)) l.length with
  |none=>exact Nat.le_refl _
  |some i=>exact Nat.le_of_lt (kl e).1
theorem vo(s:Str):Op.bytesLess s s=false:=by
  induction s with
  |nil=>rfl
  | cons c s ih =>
    rw [qc0,ih]
    simp
def qqi(l:List Str)(s:Str):List Str:=if l.contains s then l else l++[s]
theorem qhz{n k:Nat}(hn:n≤2000000)(hk:k≤100):qq n k:=by
  have h2:n*k≤2000000*100:=Nat.mul_le_mul hn hk
  have h3:(n+n / 4+192)*k≤4000000*100:=Nat.mul_le_mul (by omega) hk
  unfold qq
  constructor <;>omega
theorem qqj{l:List Str}(hl:l.length≤1048576)(s:Str):z1q (l,s)=some (qqi l s):=by
  unfold z1q qqi
  dsimp only
  rw [qy hl,sb]
  cases l.contains s with
  |true=>rfl
  | false =>
    unfold z2y
    rw [if_neg (by decide),if_pos (by omega),if_pos (by omega),sb,if_pos (by simp)]
    dsimp only
    rw [Int.toNat_natCast,List.take_length,if_pos (by right;simp),if_pos (by rw [q7l];exact qhz (by omega) (by decide))]
    rfl
def q38(b:Bls)(d data:Str):Bls×Int:=if(fnd b.1 d).2=0 then(b,0) else if b.1.length=64 then(b,13) else if b.2.1<(data.length+usd b.1:Nat) then(b,12) else((b.1++[(d,data)],b.2),0)
theorem qv8{l:List Obj}(hl:OL l)(data d:Str)(c c1:Bls): ∀(b a:List Obj) (n:Nat),a++b=l→n+usd b≤4611686018427387904→
    qm2 (((a.length:Int),((n:Int),(l,(data,(d,(l.length:Int)))))),(c,c1))=some ((data,(d,((n+usd b:Nat):Int))),(c,c1)):=by
  intro b
  induction b with
  | nil =>
    intro a n e h
    rw [List.append_nil] at e
    rw [qp2]
    unfold qgo
    dsimp only
    rw [if_neg (by rw [e];simp)]
    rfl
  | cons x b ih =>
    intro a n e h
    have hlen:=hl.len
    have hl2:l.length=a.length+(b.length+1):=by rw [←e];simp
    have hu:usd (x::b)=x.2.length+usd b:=by simp [usd]
    have hw:w64 ((a.length:Int)+1)=(a.length:Int)+1:=qx (by omega)
    have ee:elt tO l (a.length:Int).toNat=x:=by rw [Int.toNat_natCast,←e];exact kx tO a x b
    have hw2:w64 ((n:Int)+(x.2.length:Int))=((n+x.2.length:Nat):Int):=by rw [qx (by omega)];omega
    have q:=ih (a++[x]) (n+x.2.length) (by rw [←e];simp) (by omega)
    rw [qc9] at q
    rw [qp2]
    unfold qgo
    dsimp only
    rw [if_pos (by rw [decide_eq_true_eq];omega),if_pos (by omega),if_pos (by omega),ee,hw,hw2,q,hu,Nat.add_assoc]
theorem q1k{l:List Obj}:z1z l=some (l,true):=by
  unfold z1z
  rw [if_pos (by omega),if_pos (by omega),Int.toNat_natCast,List.take_length]
  simp
theorem q7a {b : Bls} (hb : OL b.1) {data : Str} (hd : data.length ≤ 10000) (d : Str) : z0x (b, (d, data)) = some (q38 b d data) := by
  have hl:=hb.len
  have hu:=q5t hb
  unfold z0x q38
  dsimp only
  rw [xd hb,sb]
  by_cases h:(fnd b.1 d).2=0
  · rw [if_pos (by simpa using h),if_pos h]
  · have q := qv8 hb data d ([], ((0 : Int), ([], (0 : Int)))) b b.1 [] data.length rfl (by omega)
    rw [if_neg (by simpa using h),if_neg h,show qm2 (((0:Int),((data.length:Int),(b.1,(data,(d,(b.1.length:Int)))))),(([],((0:Int),([],(0:Int)))),b))=_ from q,sb]
    by_cases h2:b.1.length=64
    · rw [if_pos (by rw [beq_iff_eq];show(b.1.length:Int)=64;omega),if_pos h2]
    · rw [if_neg (by rw [beq_iff_eq]; show ¬ (b.1.length : Int) = 64; omega), if_neg h2]
      dsimp only
      by_cases h3:b.2.1<((data.length+usd b.1:Nat):Int)
      · rw [if_pos (by rw [decide_eq_true_eq];exact h3),if_pos h3]
      · rw [if_neg (by rw [decide_eq_true_eq]; exact h3), if_neg h3, q1k, sb, if_pos rfl]
        rw [if_pos (by right;simp),if_pos (qhz (by show b.1.length+1≤2000000;omega) (by decide))]
theorem vl(t:Ty)(x:t.den)(l:List t.den):elt t (x::l) 0=x:=q9 (by simp)
theorem qt0:kh.length=71:=u7 (qbb [99])
theorem qfk:j9.length=111:=by simp [j9,qt0]
theorem q4k:(vu j9).length=71:=u7 (qbb j9)
theorem qwk:pM j9=((false,(kh,([],[]))),0):=by
  have h:=qvh qrt qwj
  rw [qye] at h
  unfold pM
  rw [h];rfl
theorem qhl:vr ((false,(kh,([],[]))):Man)=[kh]:=by
  unfold vr
  rw [if_neg (by decide),qwj,if_pos rfl]
  rfl
theorem jaq{l:List Obj}(hf:fnd l (vu j9)=(j9,0)):ofM l (vu j9)=(([vu j9],[kh]),0):=by
  unfold ofM wk
  rw [hf,qwk,qhl]
  rfl
def wc:List Obj:=[(kh,[99])]
theorem qfj:OL wc:=⟨by simp [wc],fun o ho=>by
  simp only [wc,List.mem_cons,List.not_mem_nil,or_false] at ho
  subst ho
  exact⟨by show kh.length≤_;rw [qt0];decide,by simp⟩⟩
theorem q4m:(kh==vu j9)=false:=by rw [Bool.beq_comm];exact qo2
theorem q4j:fnd wc kh=([99],0):=by
  have:qkr kh [99]=true:=qhc [99]
  unfold wc
  rw [qe3,if_pos (by simp),this,if_pos rfl]
theorem jap:fnd wc (vu j9)=([],9):=by
  unfold wc
  rw [qe3,if_neg (by rw [q4m];decide),q6w]
theorem ja0:fnd (wc++[(vu j9,j9)]) (vu j9)=(j9,0):=by
  unfold wc
  rw [List.singleton_append,qe3,if_neg (by rw [q4m];decide),qe3,if_pos (by simp),qhc,if_pos rfl]
theorem q70:OL (wc++[(vu j9,j9)]):=⟨by simp [wc],fun o ho=>by
  rcases List.mem_append.1 ho with h|h
  · exact qfj.obj o h
  · rw [List.mem_singleton] at h
    subst h
    exact⟨by show(vu j9).length≤_;rw [q4k];decide,by show j9.length≤_;rw [qfk];decide⟩⟩
def qdq:Bls:=(wc,(1000,([],0)))
theorem qld : qbz qdq = true := by
  have h:qtx wc 0=true:=by
    have h1:elt tO wc 0=(kh,[99]):=vl tO (kh,[99]) []
    have h2:qkr kh [99]=true:=qhc [99]
    have h3:plc wc kh=0:=by
      have:((elt tO wc 0).1==kh)=true:=by
        rw [h1]
        exact beq_self_eq_true _
      unfold plc jc
      show(match(List.range' 0 1).find? _ with|some i=>(i:Int)|none=> -1)=0
      rw [List.range'_succ,List.find?_cons,this]
      rfl
    unfold qtx
    rw [h1]
    show(decide (1≤4096)&&(qkr kh [99]&&plc wc kh==0))=true
    rw [h2,h3]
    rfl
  have h4:y4 (qtx wc) wc.length=true:=wd.2 fun i hi=>by
    have hi:i<1:=hi
    obtain rfl:i=0:=by omega
    exact h
  unfold qbz
  show(y4 (qtx wc) wc.length&&_)=true
  rw [h4]
  rfl
def qrs:Reg:=(qdq,[])
theorem qyd:Bd qrs:=⟨qfj,by simp [qrs,qdq],by simp [qrs],fun r hr=>by cases hr⟩
theorem qle:ju qrs=true:=by
  unfold ju
  show(true&&(true&&qbz qdq))=true
  rw [qld]
  rfl
def qbu:Rep:=([97],([kh],([],[])))
def qi7:Reg:=(qdq,[qbu])
theorem q7k:Bd qi7:=⟨qfj,by simp [qi7,qdq],by simp [qi7],fun r hr=>by
  simp only [qi7,List.mem_singleton] at hr
  subst hr
  exact⟨by simp [qbu],by simp [qbu],by simp [qbu],by simp [qbu],fun t ht=>by cases ht⟩⟩
theorem qr1:vw [97]=true:=by decide +kernel
theorem q4l:qrh wc qbu=true:=by
  have h:([kh].all fun d=>(fnd wc d).2==0)=true:=by
    rw [List.all_cons,q4j]
    rfl
  unfold qrh
  show(vw [97]&&(qny [kh]&&(true&&(true&&(([kh].all fun d=>(fnd wc d).2==0)&&(true&&true))))))=true
  rw [qr1,h]
  have:qny [kh]=true:=wd.2 fun i hi=>by
    have hi:i<1:=hi
    obtain rfl:i=0:=by omega
    rfl
  rw [this]
  rfl
theorem qwi:ju qi7=true:=by
  have h4:y4 (qr2 qi7) qi7.2.length=true:=wd.2 fun i hi=>by
    have hi:i<1:=hi
    obtain rfl:i=0:=by omega
    unfold qr2
    rw [show elt tR qi7.2 0=qbu from vl tR qbu [],show qi7.1.1=wc from rfl,q4l,decide_eq_true rfl,Bool.true_or]
    rfl
  unfold ju
  rw [h4]
  show(true&&(true&&qbz qdq))=true
  rw [qld]
  rfl
theorem quc(b:Bls)(s:Str):z0b ((b,[]),s)=some (0,false):=qc6 (g:=(b,[])) (by simp) s
theorem qud(b:Bls)(r:Rep):z0b ((b,[r]),r.1)=some (0,true):=by
  rw [qc6 (g:=(b,[r])) (by simp)]
  have e:elt tR [r] 0=r:=vl tR r []
  have hf:jc (fun i=> !(Op.bytesLess (elt tR [r] i).1 r.1)) [r].length=some 0:=by
    unfold jc
    rw [show [r].length=0+1 from rfl,List.range'_succ,List.find?_cons,e,vo]
    rfl
  show some ((atR [r] r.1:Int),isR [r] r.1)=_
  unfold atR isR
  rw [hf]
  show some ((0:Int),((elt tR [r] 0).1==r.1))=_
  rw [e,beq_self_eq_true]
theorem qd3:z1r ()=some true:=by
  have hD:z1w ([99]:Str)=some kh:=q8h (by simp)
  have hE:z1w j9=some (vu j9):=q8h (by rw [qfk];decide)
  have hP:=q54 qrt
  rw [qwj,if_pos rfl,qye] at hP
  have l1:qbo (([97],([],([],[]))):Rep) ((false,(kh,([],[]))):Man)=true:=by
    unfold qbo
    rw [qhl]
    rfl
  have l2:qbo qbu ((false,(kh,([],[]))):Man)=false:=by
    unfold qbo
    rw [qhl]
    show([kh].any (fun d=> !([kh].contains d))||false)=false
    simp
  have p1:z1c (qrs,(([97]:Str),j9))=some (((([],((0:Int),([],(0:Int)))),[]),([],(9:Int)))):=by
    unfold z1c z2l
    dsimp only
    rw [hE,sb,qmp qyd,sb,qle,if_neg (by decide),w5,sb,qr1,if_neg (by decide),if_neg (by decide)]
    rw [show qrs=(qdq,[]) from rfl,quc,sb,if_neg (by decide)]
    unfold z2f
    dsimp only
    rw [qlf,qwk,sb,if_neg (by decide),qk3 qrt (by simp) (by simp),sb,l1]
    rfl
  have p2:z15 (qrs,(([97]:Str),kh))=some (qi7,(0:Int)):=by
    unfold z15 z2m
    dsimp only
    rw [qmp qyd,sb,qle,if_neg (by decide),w5,sb,qr1,if_neg (by decide),if_neg (by decide)]
    rw [show qrs=(qdq,[]) from rfl,quc,sb,if_neg (by decide)]
    unfold z29
    dsimp only
    rw [show qdq.1=wc from rfl,xd qfj,q4j,sb,if_neg (by decide)]
    rw [qqj (by simp),sb]
    rfl
  have k1:z0x (qdq,(vu j9,j9))=some ((wc++[(vu j9,j9)],(1000,([],0))),0):=by
    rw [q7a (b:=qdq) qfj (by rw [qfk];decide)]
    unfold q38
    rw [show qdq.1=wc from rfl,jap,if_neg (by decide),if_neg (by simp [wc]),qfk,if_neg (by simp [qdq,usd,wc])]
    rfl
  have p3:z1c (qi7,(([97]:Str),j9))=some (((wc++[(vu j9,j9)],(1000,([],0))),[([97],([kh],([vu j9],[])))]),(vu j9,(0:Int))):=by
    unfold z1c z2l
    dsimp only
    rw [hE,sb,qmp q7k,sb,qwi,if_neg (by decide),w5,sb,qr1,if_neg (by decide),if_neg (by decide)]
    rw [show qi7=(qdq,[qbu]) from rfl,show([97]:Str)=qbu.1 from rfl,qud,sb,if_pos (by rfl),if_pos (by decide),if_pos (by decide)]
    rw [show elt tR [qbu] (0:Int).toNat=qbu from vl tR qbu []]
    unfold z2f
    dsimp only
    rw [qlf,qwk,sb,if_neg (by decide),qk3 qrt (by simp [qbu]) (by simp [qbu]),sb,l2,if_neg (by decide)]
    rw [q1k,sb,if_pos rfl]
    dsimp only
    rw [show qdq.1=wc from rfl,if_pos (by right;simp),if_pos (qhz (by simp [wc]) (by decide)),q1o q70,jaq ja0,sb,if_neg (by decide),k1,sb,if_neg (by decide)]
    rw [qqj (by simp [qbu]),sb]
    rfl
  have hh:z0r (((wc++[(vu j9,j9)],(1000,([],0))),[([97],([kh],([vu j9],[])))]),(([97]:Str),vu j9))=some true:=by
    unfold z0r
    dsimp only
    have:=qud (wc++[(vu j9,j9)],(1000,([],0))) (([97],([kh],([vu j9],[]))):Rep)
    rw [show z0b (((wc++[(vu j9,j9)],(1000,([],0))),[([97],([kh],([vu j9],[])))]),([97]:Str))=_ from this,sb,if_pos (by rfl),if_pos (by decide),if_pos (by decide)]
    rw [show elt tR [([97],([kh],([vu j9],[])))] (0:Int).toNat=([97],([kh],([vu j9],[]))) from vl tR ([97],([kh],([vu j9],[]))) [],qy (by simp),sb]
    have h1:([kh]:List Str).contains (vu j9)=false:=by
      rw [List.contains_cons]
      simp only [List.contains_nil,Bool.or_false]
      exact qo2
    dsimp only
    rw [h1,if_neg (by decide),if_pos (by decide),if_pos (by decide),qy (by simp),sb]
    simp
  unfold z1r
  rw [hD,sb,hP,sb]
  dsimp only
  rw [show(([(kh,([99]:Str))],((1000:Int),(([]:List (Int×Str)),(0:Int)))),([]:List Rep))=qrs from rfl,p1,sb,p2,sb]
  dsimp only
  rw [p3,sb,if_pos (by rfl),if_pos (by rfl),if_pos (by rfl),if_pos (by rfl),hE,sb,if_pos (by simp),hh]
  rfl
end Go.Plain
namespace Go.Plain
open Go.AM
set_option linter.unusedVariables false
theorem qre{β γ:Type}(F:Int→List β→Option γ)(f:Nat→β)(n:Nat)(k:List β→γ)(hn: ∀c,c.length=n→F (n:Int) c=some (k c))
    (hs: ∀i:Nat,i<n→∀c,c.length=i→F (i:Int) c=F ((i:Int)+1) (c++[f i])):F 0 []=some (k ((List.range' 0 n).map f)):=by
  have key: ∀(m i:Nat) (c:List β),i+m=n→c.length=i→F (i:Int) c=some (k (c++(List.range' i m).map f)):=by
    intro m
    induction m with
    | zero =>
      intro i c e hc;obtain rfl:i=n:=by omega
      rw [hn c hc];simp
    | succ m ih =>
      intro i c e hc
      rw [hs i (by omega) c hc]
      have:=ih (i+1) (c++[f i]) (by omega) (by simp [hc])
      rw [Int.natCast_add,Int.natCast_one] at this
      rw [this,List.range'_succ]
      simp
  exact key n 0 [] (by omega) rfl
theorem qrg{t:Ty}{β:Type}(l:List t.den)(h:t.den→β):(List.range' 0 l.length).map (fun i=>h (elt t l i))=l.map h:=by
  apply List.ext_getElem
  · simp
  · intro i h1 h2
    have hi:i<l.length:=by simpa using h2
    simp [q9 hi]
def yz(l:List Rep):Prop:= ∀i j,i<j→j<l.length→Op.bytesLess (elt tR l i).1 (elt tR l j).1=true
theorem q04{l:List Rep}(h: ∀i,i<l.length→i=0∨Op.bytesLess (elt tR l (i-1)).1 (elt tR l i).1=true):yz l:=by
  intro i j hij
  induction j with
  |zero=>omega
  | succ j ih =>
    intro hj
    have h1:=(h (j+1) hj).resolve_left (by omega)
    rw [Nat.add_sub_cancel] at h1
    by_cases e:i=j
    · rw [e];exact h1
    · exact we _ _ _ (ih (by omega) (by omega)) h1
theorem yp{g:Reg}(h:ju g=true):yz g.2:=by
  unfold ju at h
  simp only [Bool.and_eq_true,wd] at h
  refine q04 fun i hi=> ?_
  have:=h.1 i hi
  unfold qr2 at this
  simp only [Bool.and_eq_true,Bool.or_eq_true,decide_eq_true_eq] at this
  exact this.2
def nm(l:List Rep)(s:Str):Option Nat:=jc (fun i=>(elt tR l i).1==s) l.length
theorem qrl {l : List Rep} (hl : yz l) {s : Str} {i : Nat} (h : nm l s = some i) : atR l s = i ∧ isR l s = true := by
  obtain⟨h1,h2,h3⟩:=kl h
  have h2:(elt tR l i).1=s:=by simpa using h2
  have e:jc (fun i=> !(Op.bytesLess (elt tR l i).1 s)) l.length=some i:=by
    cases hc:jc (fun i=> !(Op.bytesLess (elt tR l i).1 s)) l.length with
    | none =>
      have:=qbf.1 hc i h1
      rw [h2,vo] at this
      simp at this
    | some k =>
      obtain⟨g1,g2,g3⟩:=kl hc
      congr 1
      rcases Nat.lt_trichotomy k i with hk|hk|hk
      · have := hl k i hk h1
        rw [h2] at this
        rw [this] at g2
        simp at g2
      · exact hk
      · have := g3 i hk
        rw [h2,vo] at this
        simp at this
  unfold atR isR
  rw [e]
  exact⟨rfl,by simpa using h2⟩
theorem qrk{l:List Rep}{s:Str}(h:nm l s=none):isR l s=false:=by
  unfold isR
  cases hc:jc (fun i=> !(Op.bytesLess (elt tR l i).1 s)) l.length with
  |none=>rfl
  | some k =>
    have g1:=(kl hc).1
    exact qbf.1 h k g1
def noR:Rep:=([],([],([],[])))
def qby(l:List Rep)(s:Str):Rep:=match nm l s with|some i=>elt tR l i|none=>noR
def qze(r:Rep):Rep:=(r.1,(r.2.1.take 12,(r.2.2.1.take 8,r.2.2.2.take 66)))
def qvw(o:Obj):Obj:=(o.1,o.2.take 1200)
def q6q(g:Reg):Reg:=(((g.1.1.take 20).map qvw,(g.1.2.1,(g.1.2.2.1.take 3,g.1.2.2.2))),(g.2.take 18).map qze)
abbrev tG:Ty:= .pair (.pair (.sl tO) (.pair (.int .i64) (.pair (.sl tU) (.int .i64)))) (.sl tR)
theorem zx{α:Type}(l:List α)(k:Nat){z:Int}(hz:z=(k:Int)):List.take (min (l.length:Int) z).toNat l=l.take k:=by
  rw [hz,jah,Int.toNat_natCast]
  rcases Nat.le_total l.length k with h|h
  · rw [Nat.min_eq_left h,List.take_length,List.take_of_length_le h]
  · rw [Nat.min_eq_right h]
structure LG (g:Reg):Prop where
  o:g.1.1.length≤1048576
  u:g.1.2.2.1.length≤1048576
  r:g.2.length≤1048576
  ob: ∀o∈g.1.1,o.1.length≤1048576∧o.2.length≤1048576
  re: ∀r∈g.2,r.1.length≤1048576∧r.2.1.length≤1048576∧r.2.2.1.length≤1048576∧r.2.2.2.length≤1048576∧∀t∈r.2.2.2,t.1.length≤1048576
theorem jbr{g:Reg}(h:upB 1048576 tG g):LG g:=by
  obtain⟨⟨⟨h1,h2⟩,_,⟨h3,_⟩,_⟩,h4,h5⟩:=h
  exact⟨h1,h3,h4,fun o ho=>h2 o ho,fun r hr=>by
    obtain⟨a1,⟨a2,_⟩,⟨a3,_⟩,a4,a5⟩:=h5 r hr
    exact⟨a1,a2,a3,a4,fun t ht=>(a5 t ht).1⟩⟩
theorem q3t{g:Reg}(hg:LG g):z05 g=some (q6q g):=by
  have l1:(g.1.2.2.1.take 3).length≤3:=by rw [List.length_take];omega
  have l2:(g.1.1.take 20).length≤20:=by rw [List.length_take];omega
  have l3:(g.2.take 18).length≤18:=by rw [List.length_take];omega
  have h1:=qre (fun i c=>qmi ((i,(g.1.2.2.1.take 3,((g.1.2.2.1.take 3).length:Int))),((g.1.2.1,g.1.2.2.2),(((0:Int),(0:Int)),(g,c))))) (fun i=>elt tU (g.1.2.2.1.take 3) i) (g.1.2.2.1.take 3).length
    (fun c=>((g.1.2.1,g.1.2.2.2),(((0:Int),(0:Int)),(g,c)))) (fun c hc=>by
      rw [qpm];unfold qf5;dsimp only;rw [if_neg (by simp)]) (fun i hi c hc=>by
      have hw:w64 ((i:Int)+1)=(i:Int)+1:=qx (by omega)
      rw [qpm]
      unfold qf5
      dsimp only
      rw [if_pos (by rw [decide_eq_true_eq];omega),if_pos (by omega),if_pos (by omega),if_pos (qhz (by rw [List.length_singleton];omega) (by decide)),hw,Int.toNat_natCast])
  have h2:=qre (fun i c=>qf3 ((i,(g.1.1.take 20,((g.1.1.take 20).length:Int))),((g.1.2.1,g.1.2.2.2),(((0:Int),(0:Int)),(g,(c,g.1.2.2.1.take 3)))))) (fun i=>qvw (elt tO (g.1.1.take 20) i)) (g.1.1.take 20).length
    (fun c=>((g.1.2.1,g.1.2.2.2),(((0:Int),(0:Int)),(g,(c,g.1.2.2.1.take 3))))) (fun c hc=>by
      rw [qmg];unfold qcj;dsimp only;rw [if_neg (by simp)]) (fun i hi c hc=>by
      have hw:w64 ((i:Int)+1)=(i:Int)+1:=qx (by omega)
      rw [qmg]
      unfold qcj
      dsimp only
      rw [if_pos (by rw [decide_eq_true_eq];omega),if_pos (by omega),if_pos (by omega),if_pos (by omega),if_pos (by omega),if_pos (qhz (by rw [List.length_singleton];omega) (by decide)),hw,Int.toNat_natCast,zx (z:=1200) _ 1200 rfl]
      rfl)
  have h3:=qre (fun i c=>qf4 ((i,(g.2.take 18,((g.2.take 18).length:Int))),((g.1.2.1,g.1.2.2.2),(((0:Int),(0:Int)),((g.1.1.take 20).map qvw,(g.1.2.2.1.take 3,c)))))) (fun i=>qze (elt tR (g.2.take 18) i)) (g.2.take 18).length
    (fun c=>(((0:Int),(0:Int)),((g.1.2.1,g.1.2.2.2),((g.1.1.take 20).map qvw,(g.1.2.2.1.take 3,c))))) (fun c hc=>by
      rw [qmh];unfold qck;dsimp only;rw [if_neg (by simp)]) (fun i hi c hc=>by
      have hw:w64 ((i:Int)+1)=(i:Int)+1:=qx (by omega)
      rw [qmh]
      unfold qck
      dsimp only
      rw [if_pos (by rw [decide_eq_true_eq];omega),if_pos (by omega),if_pos (by omega),if_pos (by omega),if_pos (by omega),if_pos (by omega),if_pos (by omega),if_pos (by omega),if_pos (by omega),if_pos (qhz (by rw [List.length_singleton];omega) (by decide)),hw,Int.toNat_natCast,zx (z:=12) _ 12 rfl,zx (z:=8) _ 8 rfl,zx (z:=66) _ 66 rfl]
      rfl)
  rw [qrg (t:=tU) (g.1.2.2.1.take 3) (fun x=>x),List.map_id'] at h1
  rw [qrg (t:=tO) (g.1.1.take 20) qvw] at h2
  rw [qrg (t:=tR) (g.2.take 18) qze] at h3
  unfold z05
  rw [if_pos (by omega),if_pos (by omega),zx (z:=3) _ 3 rfl]
  rw [show qmi (((0:Int),(g.1.2.2.1.take 3,((g.1.2.2.1.take 3).length:Int))),((g.1.2.1,g.1.2.2.2),(((0:Int),(0:Int)),(g,[]))))=_ from h1,sb]
  dsimp only
  rw [if_pos (by omega),if_pos (by omega),zx (z:=20) _ 20 rfl]
  rw [show qf3 (((0:Int),(g.1.1.take 20,((g.1.1.take 20).length:Int))),((g.1.2.1,g.1.2.2.2),(((0:Int),(0:Int)),(g,([],g.1.2.2.1.take 3)))))=_ from h2,sb]
  dsimp only
  rw [if_pos (by omega),if_pos (by omega),zx (z:=18) _ 18 rfl]
  rw [show qf4 (((0:Int),(g.2.take 18,((g.2.take 18).length:Int))),((g.1.2.1,g.1.2.2.2),(((0:Int),(0:Int)),((g.1.1.take 20).map qvw,(g.1.2.2.1.take 3,[])))))=_ from h3,sb]
  rfl
theorem q3s{g:Reg}(hg:LG g):Bd (q6q g):=by
  refine⟨⟨?_,fun o ho=> ?_⟩, ?_, ?_,fun r hr=> ?_⟩
  · show ((g.1.1.take 20).map qvw).length ≤ 1000
    rw [List.length_map,List.length_take];omega
  · obtain ⟨o', h1, rfl⟩ := List.mem_map.1 ho
    have:=hg.ob o' (List.mem_of_mem_take h1)
    refine⟨this.1, ?_⟩
    show(o'.2.take 1200).length≤10000
    rw [List.length_take];omega
  · show (g.1.2.2.1.take 3).length ≤ 1048576
    rw [List.length_take];omega
  · show ((g.2.take 18).map qze).length ≤ 1048576
    rw [List.length_map,List.length_take];omega
  · obtain ⟨r', h1, rfl⟩ := List.mem_map.1 hr
    obtain⟨a1,a2,a3,a4,a5⟩:=hg.re r' (List.mem_of_mem_take h1)
    exact⟨a1,by show(r'.2.1.take 12).length≤_;rw [List.length_take];omega,by show(r'.2.2.1.take 8).length≤_;rw [List.length_take];omega,
      by show(r'.2.2.2.take 66).length≤_;rw [List.length_take];omega,fun t ht=>a5 t (List.mem_of_mem_take ht)⟩
theorem qr6{g:Reg}(hg:Bd g)(hs:yz g.2)(s:Str):z1x (g,s)=some (qby g.2 s).2.2.2:=by
  have hr:=hg.rep
  unfold z1x qby
  dsimp only
  rw [qc6 (by omega),sb]
  cases h:nm g.2 s with
  | none =>
    rw [qrk h]
    rfl
  | some i =>
    obtain⟨h1,h2⟩:=qrl hs h
    have h3:=(kl h).1
    dsimp only
    rw [h1,h2,if_neg (by decide),if_pos (by omega),if_pos (by omega),Int.toNat_natCast]
theorem zq{g:Reg}(hg:Bd g)(hs:yz g.2)(s d:Str):z0r (g,(s,d))=some ((qby g.2 s).2.1.contains d||(qby g.2 s).2.2.1.contains d):=by
  have hr:=hg.rep
  unfold z0r qby
  dsimp only
  rw [qc6 (by omega),sb]
  cases h:nm g.2 s with
  | none =>
    rw [qrk h]
    rfl
  | some i =>
    obtain⟨h1,h2⟩:=qrl hs h
    have h3:=(kl h).1
    have hb:=hg.each _ (List.getElem_mem h3)
    rw [←q9 (t:=tR) h3] at hb
    dsimp only
    rw [h1,h2,if_pos rfl,if_pos (by omega),if_pos (by omega),Int.toNat_natCast,qy hb.bl,sb]
    cases (elt tR g.2 i).2.1.contains d with
    |true=>rfl
    | false =>
      rw [if_neg (by decide),if_pos (by omega),if_pos (by omega),qy hb.ma,sb]
      rfl
theorem qyk{g:Reg}(hg:Bd g)(s:Str):BdR (qby g.2 s):=by
  unfold qby
  cases h:nm g.2 s with
  |none=>exact⟨by simp [noR],by simp [noR],by simp [noR],by simp [noR],fun t ht=>by cases ht⟩
  | some i =>
    have h3:=(kl h).1
    have hb:=hg.each _ (List.getElem_mem h3)
    rw [←q9 (t:=tR) h3] at hb
    exact hb
def tgM(l:List (Str×Str))(s:Str):Str×Int:=match jc (fun i=>(elt tO l i).1==s) l.length with|some i=>((elt tO l i).2,0)|none=>([],9)
theorem qlp{g:Reg}(hg:Bd g)(hs:yz g.2)(s tag:Str):z0v (g,(s,tag))=some (tgM (qby g.2 s).2.2.2 tag):=by
  have hb:=(qyk hg s).tg
  unfold z0v
  dsimp only
  rw [qr6 hg hs,sb]
  generalize (qby g.2 s).2.2.2=l at hb
  have:=qe1 (fun i=>qm0 (i,(tag,(l,(l.length:Int))))) (fun i=>(elt tO l i).1==tag) (fun i=>((elt tO l i).2,(0:Int))) l.length () (by
    rw [qp0];unfold qgm;dsimp only;rw [if_neg (by simp)]) (fun i hi=>by
    have hw:w64 ((i:Int)+1)=(i:Int)+1:=qx (by omega)
    rw [qp0]
    unfold qgm
    dsimp only
    rw [if_pos (by rw [decide_eq_true_eq];omega),if_pos (by omega),if_pos (by omega),hw,Int.toNat_natCast])
  rw [show qm0 ((0:Int),(tag,(l,(l.length:Int))))=_ from this,sb]
  unfold tgM
  cases jc (fun i=>(elt tO l i).1==tag) l.length <;>rfl
theorem qng{l:List (Str×Str)}(hl:l.length≤4611686018427387904):z0z (l,l)=some true:=by
  unfold z0z
  have:=q5s (fun i=>qm3 (i,(l,(l,(l.length:Int))))) (fun i=>true) l.length () (by
    rw [qp4];unfold qgq;dsimp only;rw [if_neg (by simp)]) (fun i hi=>by
    have hw:w64 ((i:Int)+1)=(i:Int)+1:=qx (by omega)
    rw [qp4]
    unfold qgq
    dsimp only
    rw [if_pos (by rw [decide_eq_true_eq];omega),if_pos (by omega),if_pos (by omega),if_pos (by omega),if_pos (by omega),hw,if_neg (by simp),if_pos rfl])
  dsimp only
  rw [if_neg (by simp),show qm3 ((0:Int),(l,(l,(l.length:Int))))=_ from this,sb,if_pos (wd.2 fun _ _=>rfl)]
  rfl
end Go.Plain
namespace Go.Plain
open Go.AM
set_option linter.unusedVariables false
theorem gl (p : Nat → Bool) (n : Nat) : jc p (n + 1) = if p 0 = true then some 0 else (jc (fun i => p (i + 1)) n).map (· + 1) := by
  unfold jc
  rw [List.range'_succ,List.find?_cons]
  cases h:p 0 with
  |true=>rfl
  | false =>
    rw [if_neg (by simp)]
    dsimp only
    have:List.range' (0+1) n=(List.range' 0 n).map (· +1):=by
      apply List.ext_getElem?
      intro m
      rw [List.getElem?_map]
      by_cases hm:m<n
      · rw [List.getElem?_eq_getElem (by simpa using hm), List.getElem?_eq_getElem (by simpa using hm)]
        simp;omega
      · rw [List.getElem?_eq_none (by simpa using Nat.le_of_not_lt hm),List.getElem?_eq_none (by simpa using Nat.le_of_not_lt hm)];rfl
    rw [this,List.find?_map]
    rfl
theorem zp(t:Ty)(x:t.den)(l:List t.den)(i:Nat):elt t (x::l) (i+1)=elt t l i:=by
  unfold elt
  rw [List.getD_cons_succ]
theorem q10(y:Rep)(l:List Rep)(s:Str):atR (y::l) s=if Op.bytesLess y.1 s=true then atR l s+1 else 0:=by
  unfold atR
  rw [List.length_cons,gl,vl tR y l]
  simp only [zp tR]
  cases h:Op.bytesLess y.1 s with
  |false=>simp
  | true =>
    simp only [Bool.not_true,Bool.false_eq_true,if_false,if_true]
    cases jc (fun i=> !(Op.bytesLess (elt tR l i).1 s)) l.length <;>rfl
theorem qbk(y:Rep)(l:List Rep)(s:Str):isR (y::l) s=if Op.bytesLess y.1 s=true then isR l s else y.1==s:=by
  unfold isR
  rw [List.length_cons,gl,vl tR y l]
  simp only [zp tR]
  cases h:Op.bytesLess y.1 s with
  |false=>simp [vl tR y l]
  | true =>
    simp only [Bool.not_true,Bool.false_eq_true,if_false,if_true]
    cases jc (fun i=> !(Op.bytesLess (elt tR l i).1 s)) l.length with
    |none=>rfl
    |some i=>simp [zp tR]
def j5(l:List Rep)(x:Rep):List Rep:=if isR l x.1=true then l.set (atR l x.1) x else l.take (atR l x.1)++x::l.drop (atR l x.1)
theorem qlj(x:Rep):j5 [] x=[x]:=rfl
theorem qho(y:Rep)(l:List Rep)(x:Rep):j5 (y::l) x=if Op.bytesLess y.1 x.1=true then y::j5 l x else if y.1=x.1 then x::l else x::y::l:=by
  unfold j5
  rw [qbk,q10]
  by_cases h:Op.bytesLess y.1 x.1=true
  · simp only [if_pos h]
    split <;>rfl
  · simp only [if_neg h]
    by_cases e:y.1=x.1
    · rw [if_pos (by simp [e]),if_pos e];rfl
    · rw [if_neg (by simp [e]),if_neg e];rfl
theorem qhx{l:List Rep}(h:yz l):l.Pairwise (fun a b=>Op.bytesLess a.1 b.1=true):=by
  rw [List.pairwise_iff_getElem]
  intro i j hi hj hij
  have:=h i j hij hj
  rwa [q9 (t:=tR) hi,q9 (t:=tR) hj] at this
abbrev jfl:Bls:=([],((0:Int),([],(0:Int))))
abbrev noG:Reg:=(jfl,[])
theorem qbv(l:List Rep)(x:Rep):(j5 l x).length=if isR l x.1=true then l.length else l.length+1:=by
  unfold j5
  split
  · simp
  · have := q11 l x.1
    simp;omega
def q7(l:List Rep)(s:Str):Rep:=if isR l s=true then elt tR l (atR l s) else(s,([],([],[])))
theorem yo(l:List Rep)(s:Str):(q7 l s).1=s:=by
  unfold q7
  split
  · rename_i h;exact(qg4 h).2
  · rfl
theorem qc5{g:Reg}(hg:Bd g){s:Str}(hs:s.length≤1048576):BdR (q7 g.2 s):=by
  unfold q7
  split
  · rename_i h
    have h1:=(qg4 h).1
    rw [q9 (t:=tR) h1]
    exact hg.each _ (List.getElem_mem h1)
  · exact⟨hs,by simp,by simp,by simp,fun t ht=>by cases ht⟩
noncomputable def qzc{γ:Type}(F:Rep×γ→Option (Int×(Rep×γ))):((Reg×(Str×Bool))×γ)→Option ((Reg×Int)×γ):=fun((g,r,names),c)=>
 z0e g>>=fun r1=>
 if(!r1) then some ((noG,(1:Int)),c) else
 qz r>>=fun n=>
 if(!n) then some ((noG,(5:Int)),c) else
 if(!names) then some ((noG,(5:Int)),c) else
 z0b (g,r)>>=fun r2=>
 if r2.2 then(if((0:Int)≤r2.1) then
 if(r2.1<(g.2.length:Int)) then
 F ((elt tR g.2 r2.1.toNat),c)>>=fun l=>
 if(l.1 !=(0:Int)) then some ((noG,l.1),l.2.2) else
 z1i g.2>>=fun r3=>
 if r2.2 then(if((0:Int)≤r2.1) then
 if(r2.1<(r3.length:Int)) then
 if(r2.1.toNat<r3.length) then
 some (((g.1,(List.set r3 r2.1.toNat l.2.1)),(0:Int)),l.2.2) else none else none else none) else
 if((r3.length:Int)==(16:Int)) then some ((noG,(13:Int)),l.2.2) else
 z1h (r2.1,(r3,[l.2.1]))>>=fun r4=>
 some (((g.1,r4.1),(0:Int)),l.2.2) else none else none) else
 F ((r,([],([],[]))),c)>>=fun l=>
 if(l.1 !=(0:Int)) then some ((noG,l.1),l.2.2) else
 z1i g.2>>=fun r3=>
 if r2.2 then(if((0:Int)≤r2.1) then
 if(r2.1<(r3.length:Int)) then
 if(r2.1.toNat<r3.length) then
 some (((g.1,(List.set r3 r2.1.toNat l.2.1)),(0:Int)),l.2.2) else none else none else none) else
 if((r3.length:Int)==(16:Int)) then some ((noG,(13:Int)),l.2.2) else
 z1h (r2.1,(r3,[l.2.1]))>>=fun r4=>
 some (((g.1,r4.1),(0:Int)),l.2.2)
noncomputable def qd4{γ:Type}(g:Reg)(r:Str)(n:Bool)(c:γ)(a:Int×(Rep×γ)):(Reg×Int)×γ:=
  if ju g=true then if(vw r&&n)=true then
    if a.1=0 then if(j5 g.2 a.2.1).length≤16 then(((g.1,j5 g.2 a.2.1),0),a.2.2) else((noG,13),a.2.2) else((noG,a.1),a.2.2)
  else((noG,5),c) else((noG,1),c)
theorem qc7{g:Reg}(h:ju g=true):g.2.length≤16:=by
  unfold ju at h
  simp only [Bool.and_eq_true,decide_eq_true_eq] at h
  exact h.2.1
theorem qsu{z:Int}:(z !=0)=true↔¬z=0:=by simp
theorem qqs {γ : Type} {F : Rep × γ → Option (Int × (Rep × γ))} {g : Reg} (hg : Bd g) (r : Str) (n : Bool) (c : γ) (a : Int × (Rep × γ))
    (hF:ju g=true→vw r=true→n=true→F (q7 g.2 r,c)=some a∧a.2.1.1=r):qzc F ((g,(r,n)),c)=some (qd4 g r n c a):=by
  unfold qzc qd4
  dsimp only
  rw [qmp hg,sb]
  cases hR:ju g with
  |false=>rfl
  | true =>
    rw [if_neg (by decide),if_pos rfl,w5,sb]
    cases hN:vw r with
    |false=>rfl
    | true =>
      cases n with
      |false=>rfl
      | true =>
        obtain⟨h1,h2⟩:=hF hR hN rfl
        have hl:=qc7 hR
        have hal:=q11 g.2 r
        rw [if_neg (by decide),if_neg (by decide),if_pos (show(true&&true)=true from rfl),qc6 (by omega),sb]
        dsimp only
        unfold q7 at h1
        have hc:z1i g.2=some g.2:=if_pos (by omega)
        cases hI:isR g.2 r with
        | true =>
          rw [hI,if_pos rfl] at h1
          have hlt:=(qg4 hI).1
          rw [if_pos rfl,if_pos (by omega),if_pos (by omega),Int.toNat_natCast,h1,sb]
          by_cases h0:a.1=0
          · rw [if_neg (by rw [qsu]; exact fun h => h h0), if_pos h0, hc, sb, if_pos rfl, if_pos (by omega), if_pos (by omega), if_pos hlt]
            rw [if_pos (by rw [qbv,h2,hI];simpa using hl)]
            unfold j5
            rw [h2,if_pos hI]
          · rw [if_pos (qsu.2 h0),if_neg h0]
        | false =>
          rw [hI,if_neg (by decide)] at h1
          rw [if_neg (by decide),h1,sb]
          by_cases h0:a.1=0
          · rw [if_neg (by rw [qsu]; exact fun h => h h0), if_pos h0, hc, sb, if_neg (by decide)]
            by_cases h16:g.2.length=16
            · rw [if_pos (by rw [beq_iff_eq];omega),if_neg (by rw [qbv,h2,hI,if_neg (by decide)];omega)]
            · rw [if_neg (by rw [beq_iff_eq]; omega), if_pos (by rw [qbv, h2, hI, if_neg (by decide)]; omega)]
              have hi:z1h ((atR g.2 r:Int),(g.2,[a.2.1]))=some (g.2.take (atR g.2 r)++a.2.1::g.2.drop (atR g.2 r),[a.2.1]):=by
                show w9 _=_
                unfold w9
                dsimp only
                rw [if_pos (by omega),Int.toNat_natCast]
              rw [hi,sb]
              unfold j5
              rw [h2,if_neg (by rw [hI];decide)]
          · rw [if_pos (qsu.2 h0),if_neg h0]
theorem q47{l:List Rep}(hs:yz l)(s:Str):q7 l s=match nm l s with|some i=>elt tR l i|none=>(s,([],([],[]))):=by
  unfold q7
  cases h:nm l s with
  |none=>rw [qrk h];rfl
  | some i =>
    obtain⟨h1,h2⟩:=qrl hs h
    rw [h2,if_pos rfl,h1]
end Go.Plain
namespace Go.Plain
open Go.AM
set_option linter.unusedVariables false
def gm(x:Rep)(d:Str):Rep:=(x.1,(qqi x.2.1 d,x.2.2))
theorem q1r(l:List Str)(s:Str):(qqi l s).length≤l.length+1:=by
  unfold qqi
  split <;>simp
theorem qk7{l:List Rep}{x y:Rep}(h:y∈j5 l x):y=x∨y∈l:=by
  unfold j5 at h
  split at h
  · rcases List.mem_or_eq_of_mem_set h with h | h
    · exact .inr h
    · exact .inl h
  · rcases List.mem_append.1 h with h | h
    · exact .inr (List.mem_of_mem_take h)
    · rcases List.mem_cons.1 h with h | h
      · exact .inl h
      · exact .inr (List.mem_of_mem_drop h)
structure Lk (g:Reg):Prop where
  o:g.1.1.length≤4000000
  u:g.1.2.2.1.length≤4000000
  r:g.2.length≤4000000
  e: ∀r∈g.2,r.2.1.length≤4000000∧r.2.2.1.length≤4000000∧r.2.2.2.length≤4000000
theorem q7t(l:List Rep)(x:Rep):(j5 l x).length≤l.length+1:=by
  rw [qbv];split <;>omega
def qir{γ:Type}(o:List Obj)(x:Rep)(d:Str)(c:γ):Int×(Rep×γ):=if(fnd o d).2=0 then(0,(gm x d,c)) else(9,(x,c))
theorem q57{g:Reg}(hg:Bd g){r:Str}(hr:r.length≤1048576)(d:Str):z15 (g,(r,d))=some (qd4 g r true (g,d) (qir g.1.1 (q7 g.2 r) d (g,d))).1:=by
  have hb:=qc5 hg hr
  have key:=qqs (F:=z29) hg r true (g,d) (qir g.1.1 (q7 g.2 r) d (g,d)) (fun _ _ _=>by
    unfold qir
    refine⟨?_,by split <;>exact yo g.2 r⟩
    unfold z29
    dsimp only
    rw [xd hg.ol,sb]
    by_cases h:(fnd g.1.1 d).2=0
    · rw [if_neg (by rw [qsu];exact fun hh=>hh h),if_pos h,qqj hb.bl,sb];rfl
    · rw [if_pos (qsu.2 h),if_neg h])
  unfold z15
  dsimp only
  rw [show z2m ((g,(r,true)),(g,d))=qzc z29 ((g,(r,true)),(g,d)) from rfl,key,sb]
def qwe{γ:Type}(y x:Rep)(d:Str)(c:γ):Int×(Rep×γ):=if y.2.1.contains d=true then(0,(gm x d,c)) else(9,(x,c))
theorem q1m {g : Reg} (hg : Bd g) {r f : Str} (hr : r.length ≤ 1048576) (d : Str) : z1b (g, (r, (f, d))) = some (qd4 g r (vw f) (g, (f, d)) (qwe (q7 g.2 f) (q7 g.2 r) d (g, (f, d)))).1 := by
  have hb:=qc5 hg hr
  have key:=qqs (F:=z2c) hg r (vw f) (g,(f,d)) (qwe (q7 g.2 f) (q7 g.2 r) d (g,(f,d))) (fun hR _ _=>by
    unfold qwe
    refine⟨?_,by split <;>exact yo g.2 r⟩
    have h16:=qc7 hR
    unfold z2c
    dsimp only
    rw [qc6 (by omega),sb]
    dsimp only
    unfold q7
    cases hI:isR g.2 f with
    | false =>
      rw [if_pos (by decide),if_neg (show¬(false=true) by decide)]
      rfl
    | true =>
      have h1:=(qg4 hI).1
      have hb2:BdR (elt tR g.2 (atR g.2 f)):=by rw [q9 (t:=tR) h1];exact hg.each _ (List.getElem_mem h1)
      rw [if_neg (by decide),if_pos (by omega),if_pos (by omega),Int.toNat_natCast,qy hb2.bl,sb,if_pos rfl]
      cases hC:(elt tR g.2 (atR g.2 f)).2.1.contains d with
      |false=>rfl
      | true =>
        rw [if_neg (by decide),if_pos rfl]
        have:=qqj hb.bl d
        unfold q7 at this
        rw [this,sb];rfl)
  unfold z1b
  dsimp only
  rw [w5,sb,show z2v ((g,(r,vw f)),(g,(f,d)))=qzc z2c ((g,(r,vw f)),(g,(f,d))) from rfl,key,sb]
end Go.Plain
namespace Go.Plain
open Go.AM
set_option linter.unusedVariables false
end Go.Plain
namespace Go.Plain
open Go.AM
set_option linter.unusedVariables false
theorem qk4: ∀{a b:Str},Op.bytesLess a b=false→a≠b→Op.bytesLess b a=true
  |[],[],_,h=>absurd rfl h
  |[],y::b,h,_=>by cases h
  |x::a,[],_,_=>rfl
  | x :: a, y :: b, h, hn => by
    rw [qc0] at h ⊢
    simp only [Bool.or_eq_false_iff,Bool.and_eq_false_iff,decide_eq_false_iff_not,Bool.or_eq_true,Bool.and_eq_true,decide_eq_true_eq,beq_iff_eq,UInt8.lt_iff_toNat_lt] at h ⊢
    by_cases e:x=y
    · subst e
      refine .inr ⟨rfl,qk4 (h.2.resolve_left (by simp)) fun hh=>hn (by rw [hh])⟩
    · have : x.toNat ≠ y.toNat := fun hh => e (UInt8.toNat_inj.1 hh)
      exact .inl (by omega)
theorem qvu : ∀ a b : Str, (Lib.compareBytes a b < 0) ↔ Op.bytesLess a b = true
  |[],[]=>by simp [Lib.compareBytes,Op.bytesLess]
  |[],y::b=>by simp [Lib.compareBytes,Op.bytesLess]
  |x::a,[]=>by simp [Lib.compareBytes,Op.bytesLess]
  | x :: a, y :: b => by
    rw [qc0]
    unfold Lib.compareBytes
    by_cases h1:x<y
    · rw [if_pos h1];simp [h1]
    · rw [if_neg h1]
      by_cases h2:y<x
      · rw [if_pos h2]
        have:x≠y:=by
          rintro rfl
          exact UInt8.lt_irrefl _ h2
        simp [h1,this]
      · rw [if_neg h2, qvu a b]
        have:x=y:=by
          rw [UInt8.lt_iff_toNat_lt] at h1 h2
          exact UInt8.toNat_inj.1 (by omega)
        subst this
        simp [h1]
theorem qsy : ∀ a b : Str, (Lib.compareBytes a b = 0) ↔ a = b
  |[],[]=>by simp [Lib.compareBytes]
  |[],y::b=>by simp [Lib.compareBytes]
  |x::a,[]=>by simp [Lib.compareBytes]
  | x :: a, y :: b => by
    unfold Lib.compareBytes
    by_cases h1:x<y
    · rw [if_pos h1]
      have:x≠y:=by
        rintro rfl
        exact UInt8.lt_irrefl _ h1
      simp [this]
    · rw [if_neg h1]
      by_cases h2:y<x
      · rw [if_pos h2]
        have:x≠y:=by
          rintro rfl
          exact UInt8.lt_irrefl _ h2
        simp [this]
      · rw [if_neg h2, qsy a b]
        have:x=y:=by
          rw [UInt8.lt_iff_toNat_lt] at h1 h2
          exact UInt8.toNat_inj.1 (by omega)
        subst this
        simp
abbrev za:Type:=List (Str×Str)
def atT(s:Str):za→Nat
  |[]=>0
  |y::l=>if Op.bytesLess y.1 s=true then atT s l+1 else 0
def isT(s:Str):za→Bool
  |[]=>false
  |y::l=>if Op.bytesLess y.1 s=true then isT s l else y.1==s
abbrev TS(l:za):Prop:=l.Pairwise (fun a b=>Op.bytesLess a.1 b.1=true)
theorem qqm(s:Str): ∀l:za,atT s l≤l.length
  |[]=>Nat.le_refl _
  | y :: l => by
    unfold atT
    have:=qqm s l
    split <;>simp;omega
theorem qj3(s:Str): ∀{l:za} {k:Nat},k≤l.length→(∀m (h:m<l.length),m<k→Op.bytesLess l[m].1 s=true)→(∀m (h:m<l.length),k≤m→Op.bytesLess l[m].1 s=false)→atT s l=k
  |[],k,h,_,_=>by simp at h;simp [atT,h]
  | y :: l, 0, _, _, h2 => by
    have:=h2 0 (by simp) (Nat.le_refl 0)
    unfold atT
    rw [if_neg (by simpa using this)]
  | y :: l, k + 1, h, h1, h2 => by
    have:=h1 0 (by simp) (by omega)
    unfold atT
    rw [if_pos (by simpa using this),qj3 s (l:=l) (k:=k) (by simpa using h) (fun m hm hk=>by have:=h1 (m+1) (by simpa using hm) (by omega);rwa [List.getElem_cons_succ] at this) (fun m hm hk=>by have:=h2 (m+1) (by simpa using hm) (by omega);rwa [List.getElem_cons_succ] at this)]
theorem qq3(s:Str): ∀l:za,isT s l=(decide (atT s l<l.length)&&((elt tO l (atT s l)).1==s))
  |[]=>rfl
  | y :: l => by
    unfold isT atT
    by_cases h:Op.bytesLess y.1 s=true
    · rw [if_pos h, if_pos h, qq3 s l, zp tO y l]
      simp
    · rw [if_neg h, if_neg h, vl tO y l]
      simp
theorem q34(x:Nat)(hx:x≤4611686018427387904):w64 (ja .u64 (IntKind.wrap .u64 (w64 (x:Int))) (1:Int))=((x / 2:Nat):Int):=by
  have h1:IntKind.wrap .u64 (x:Int)=(x:Int):=by
    rw [IntKind.wrap_u64];omega
  have h0:w64 (x:Int)=(x:Int):=qx (by omega)
  rw [h0,h1,show ja .u64 (x:Int) (1:Int)=((x / 2^1:Nat):Int) from q33 x (k:=1) (by omega),qx (by omega)]
theorem qxn(t:Str×Str)(s:Str):z2b (t,s)=some (Lib.compareBytes t.1 s):=rfl
theorem q02 {l : za} (hl : l.length ≤ 1048576) (hs : TS l) (s : Str) : ∀ (n i j : Nat), j - i ≤ n → i ≤ j → j ≤ l.length → (∀ m (h : m < l.length), m < i → Op.bytesLess l[m].1 s = true) → (∀ m (h : m < l.length), j ≤ m → Op.bytesLess l[m].1 s = false) →
    qmz (s,(l,((j:Int),((i:Int),(l.length:Int)))))=some (s,((atT s l:Int),(l,(l.length:Int)))):=by
  have pw:=List.pairwise_iff_getElem.1 hs
  intro n
  induction n with
  | zero =>
    intro i j h0 hij hj h1 h2
    obtain rfl:i=j:=by omega
    rw [qh5]
    unfold qdl
    dsimp only
    rw [if_neg (by simp),qj3 s hj h1 h2]
  | succ n ih =>
    intro i j h0 hij hj h1 h2
    by_cases e:i=j
    · subst e
      rw [qh5]
      unfold qdl
      dsimp only
      rw [if_neg (by simp),qj3 s hj h1 h2]
    · have hm := q34 (i + j) (by omega)
      rw [show((i+j:Nat):Int)=(i:Int)+(j:Int) by omega] at hm
      have hlt:(i+j) / 2<l.length:=by omega
      have hel:elt tO l ((i+j) / 2)=l[(i+j) / 2]:=q9 (t:=tO) hlt
      have hw:w64 ((((i+j) / 2:Nat):Int)+1)=(((i+j) / 2+1:Nat):Int):=by rw [qx (by omega)];omega
      rw [qh5]
      unfold qdl
      dsimp only
      rw [if_pos (by rw [decide_eq_true_eq];omega),hm,if_pos (by omega),if_pos (by omega),Int.toNat_natCast,hel,qxn,sb,hw]
      by_cases hc:Op.bytesLess (l[(i+j) / 2]).1 s=true
      · rw [if_pos (by rw [decide_eq_true_eq]; exact (qvu _ _).2 hc)]
        refine ih ((i+j) / 2+1) j (by omega) (by omega) hj (fun m h hk=> ?_) h2
        by_cases e2:m=(i+j) / 2
        · subst e2;exact hc
        · exact we _ _ _ (pw m ((i+j) / 2) h hlt (by omega)) hc
      · rw [if_neg (by rw [decide_eq_true_eq]; exact fun hh => hc ((qvu _ _).1 hh))]
        refine ih i ((i+j) / 2) (by omega) (by omega) (by omega) h1 (fun m h hk=> ?_)
        by_cases e2:m=(i+j) / 2
        · subst e2;simpa using hc
        · cases hq : Op.bytesLess l[m].1 s with
          |false=>rfl
          |true=>exact absurd (we _ _ _ (pw ((i+j) / 2) m hlt h (by omega)) hq) hc
theorem q5l{c:Rep}(hl:c.2.2.2.length≤1048576)(hs:TS c.2.2.2)(s:Str):z22 (s,c)=some (((atT s c.2.2.2:Int),isT s c.2.2.2),c):=by
  unfold z22 z0t
  dsimp only
  have:=q02 hl hs s c.2.2.2.length 0 c.2.2.2.length (by omega) (by omega) (Nat.le_refl _) (fun m _ h=>by omega) (fun m h hk=>by omega)
  rw [show qmz (s,(c.2.2.2,((c.2.2.2.length:Int),((0:Int),(c.2.2.2.length:Int)))))=_ from this,sb]
  dsimp only
  rw [qq3]
  have hle:=qqm s c.2.2.2
  by_cases h:atT s c.2.2.2<c.2.2.2.length
  · rw [if_pos (by rw [decide_eq_true_eq]; omega), if_pos (by omega), if_pos (by omega), Int.toNat_natCast, qxn, sb, decide_eq_true h, Bool.true_and]
    have e:(Lib.compareBytes (elt tO c.2.2.2 (atT s c.2.2.2)).1 s==0)=((elt tO c.2.2.2 (atT s c.2.2.2)).1==s):=by
      rw [Bool.eq_iff_iff,beq_iff_eq,beq_iff_eq]
      exact qsy _ _
    show some ((_,(Lib.compareBytes (elt tO c.2.2.2 (atT s c.2.2.2)).1 s==0)),c)=_
    rw [e]
  · rw [if_neg (by rw [decide_eq_true_eq]; omega), decide_eq_false h]
    rfl
def qbw(l:za)(x:Str×Str):za:=if isT x.1 l=true then l.set (atT x.1 l) x else l.take (atT x.1 l)++x::l.drop (atT x.1 l)
def qex(l:za)(s:Str):za:=l.take (atT s l)++l.drop (atT s l+1)
def qdv(x:Rep)(t d:Str):Int×(Rep×(Str×Str)):=
  if x.2.2.1.contains d=true then if isT t x.2.2.2=false∧x.2.2.2.length=64 then(13,(x,(t,d))) else(0,((x.1,(x.2.1,(x.2.2.1,qbw x.2.2.2 (t,d)))),(t,d))) else(9,(x,(t,d)))
def qb9(x:Rep)(t:Str):Int×(Rep×Str):=if isT t x.2.2.2=true then(0,((x.1,(x.2.1,(x.2.2.1,qex x.2.2.2 t))),t)) else(9,(x,t))
theorem q7y{α:Type}(l:List α)(i:Nat)(h:i≤l.length)(a b:α):(l.take i++a::l.drop i).set i b=l.take i++b::l.drop i:=by
  rw [List.set_append_right _ _ (by simp;omega)]
  have:i-(l.take i).length=0:=by simp;omega
  rw [this];rfl
theorem q65{l:za}{i:Nat}(hi:i≤l.length)(hl:l.length≤1048576)(x:Str×Str):z33 ((i:Int),(l,[x]))=some ([x],l.take i++x::l.drop i):=by
  show yb _=_
  unfold yb
  dsimp only
  rw [if_pos (by omega),Int.toNat_natCast]
theorem q1n {x : Rep} (hx : BdR x) (hs : TS x.2.2.2) (t d : Str) : z2a (x, (t, d)) = some (qdv x t d) := by
  have h1:=hx.tg
  have hle:=qqm t x.2.2.2
  have hc:z2k x.2.2.2=some x.2.2.2:=if_pos (by omega)
  unfold z2a qdv
  dsimp only
  rw [q5l h1 hs,sb]
  dsimp only
  rw [qy hx.ma,sb]
  cases hC:x.2.2.1.contains d with
  |false=>rfl
  | true =>
    rw [if_neg (by decide),if_pos rfl]
    cases hI:isT t x.2.2.2 with
    | true =>
      have hlt:atT t x.2.2.2<x.2.2.2.length:=by
        rw [qq3] at hI
        simp only [Bool.and_eq_true,decide_eq_true_eq] at hI
        exact hI.1
      rw [if_neg (by decide),if_neg (by simp),hc,sb,if_neg (by decide),if_pos (by omega),if_pos (by omega),Int.toNat_natCast,if_pos hlt]
      unfold qbw
      rw [if_pos hI]
    | false =>
      rw [if_pos (by decide)]
      by_cases h64:x.2.2.2.length=64
      · rw [if_pos (by rw [beq_iff_eq];omega),if_pos ⟨rfl,h64⟩]
      · rw [if_neg (by rw [beq_iff_eq]; omega), if_neg (fun h => h64 h.2), hc, sb, if_pos (by decide), q65 hle h1, sb]
        dsimp only
        rw [if_pos (by omega),if_pos (by simp;omega),Int.toNat_natCast,if_pos (by simp;omega),q7y _ _ hle]
        unfold qbw
        rw [if_neg (by rw [hI];decide)]
theorem qy4{x:Rep}(hx:BdR x)(hs:TS x.2.2.2)(t:Str):z28 (x,t)=some (qb9 x t):=by
  have h1:=hx.tg
  have hc:z2k x.2.2.2=some x.2.2.2:=if_pos (by omega)
  unfold z28 qb9
  dsimp only
  rw [q5l h1 hs,sb]
  dsimp only
  cases hI:isT t x.2.2.2 with
  |false=>rfl
  | true =>
    have hlt:atT t x.2.2.2<x.2.2.2.length:=by
      rw [qq3] at hI
      simp only [Bool.and_eq_true,decide_eq_true_eq] at hI
      exact hI.1
    rw [if_neg (by decide),hc,sb,if_pos rfl,qx (by omega)]
    have:z34 (((atT t x.2.2.2:Int),(atT t x.2.2.2:Int)+1),x.2.2.2)=some (qex x.2.2.2 t):=by
      show qaa _=_
      unfold qaa qex
      dsimp only
      rw [if_pos (by omega),Int.toNat_natCast,show((atT t x.2.2.2:Int)+1).toNat=atT t x.2.2.2+1 by omega]
    rw [this,sb]
end Go.Plain
namespace Go.Plain
open Go.AM
set_option linter.unusedVariables false
abbrev RS(l:List Rep):Prop:=l.Pairwise (fun a b=>Op.bytesLess a.1 b.1=true)
theorem qhp{l:List Rep}(h:RS l):yz l:=by
  intro i j hij hj
  have:=List.pairwise_iff_getElem.1 h i j (by omega) hj hij
  rwa [q9 (t:=tR) (show i<l.length by omega),q9 (t:=tR) hj]
theorem qjl {x : Rep} : ∀ {l : List Rep}, RS l → RS (j5 l x)
  |[],_=>by rw [qlj];exact List.pairwise_singleton _ _
  | y :: l, h => by
    obtain⟨h1,h2⟩:=List.pairwise_cons.1 h
    rw [qho]
    by_cases c:Op.bytesLess y.1 x.1=true
    · rw [if_pos c]
      refine List.pairwise_cons.2 ⟨fun z hz=> ?_,qjl h2⟩
      rcases qk7 hz with rfl|hz
      · exact c
      · exact h1 z hz
    · rw [if_neg c]
      by_cases e:y.1=x.1
      · rw [if_pos e]
        exact List.pairwise_cons.2 ⟨fun z hz=>by rw [←e];exact h1 z hz,h2⟩
      · rw [if_neg e]
        have hx:=qk4 (by simpa using c) e
        refine List.pairwise_cons.2 ⟨fun z hz=> ?_,h⟩
        rcases List.mem_cons.1 hz with rfl|hz
        · exact hx
        · exact we _ _ _ hx (h1 z hz)
theorem qhs{g:Reg}:ju g=true↔(∀r∈g.2,qrh g.1.1 r=true)∧RS g.2∧g.2.length≤16∧qbz g.1=true:=by
  constructor
  · intro h
    have hs:=yp h
    unfold ju at h
    simp only [Bool.and_eq_true,decide_eq_true_eq] at h
    refine⟨fun r hr=> ?_,qhx hs,h.2.1,h.2.2⟩
    obtain⟨i,hi,rfl⟩:=List.getElem_of_mem hr
    have:=wd.1 h.1 i hi
    unfold qr2 at this
    simp only [Bool.and_eq_true] at this
    rw [q9 (t:=tR) hi] at this
    exact this.1
  · rintro ⟨h1, h2, h3, h4⟩
    have hs:=qhp h2
    unfold ju
    simp only [Bool.and_eq_true,decide_eq_true_eq]
    refine⟨wd.2 fun i hi=> ?_,h3,h4⟩
    unfold qr2
    simp only [Bool.and_eq_true,Bool.or_eq_true,decide_eq_true_eq]
    refine⟨?_, ?_⟩
    · rw [q9 (t:=tR) hi];exact h1 _ (List.getElem_mem hi)
    · by_cases h0 : i = 0
      · exact .inl h0
      · exact .inr (hs (i-1) i (by omega) hi)
theorem qc3(y:Str×Str)(l:za)(x:Str×Str):qbw (y::l) x=if Op.bytesLess y.1 x.1=true then y::qbw l x else if y.1=x.1 then x::l else x::y::l:=by
  unfold qbw
  rw [show isT x.1 (y::l)=if Op.bytesLess y.1 x.1=true then isT x.1 l else y.1==x.1 from rfl,show atT x.1 (y::l)=if Op.bytesLess y.1 x.1=true then atT x.1 l+1 else 0 from rfl]
  by_cases h:Op.bytesLess y.1 x.1=true
  · simp only [if_pos h]
    split <;>rfl
  · simp only [if_neg h]
    by_cases e:y.1=x.1
    · rw [if_pos (by simp [e]),if_pos e];rfl
    · rw [if_neg (by simp [e]),if_neg e];rfl
theorem qfe {x y : Str × Str} : ∀ {l : za}, y ∈ qbw l x → y = x ∨ y ∈ l
  |[],h=> .inl (List.mem_singleton.1 h)
  | z :: l, h => by
    rw [qc3] at h
    split at h
    · rcases List.mem_cons.1 h with rfl | h
      · exact .inr (List.mem_cons_self ..)
      · exact(qfe h).imp_right (List.mem_cons_of_mem _)
    · split at h
      · rcases List.mem_cons.1 h with h | h
        · exact .inl h
        · exact .inr (List.mem_cons_of_mem _ h)
      · rcases List.mem_cons.1 h with h | h
        · exact .inl h
        · exact .inr h
theorem qyi {x : Str × Str} : ∀ {l : za}, TS l → TS (qbw l x)
  |[],_=>List.pairwise_singleton _ _
  | y :: l, h => by
    obtain⟨h1,h2⟩:=List.pairwise_cons.1 h
    rw [qc3]
    by_cases c:Op.bytesLess y.1 x.1=true
    · rw [if_pos c]
      refine List.pairwise_cons.2 ⟨fun z hz=> ?_,qyi h2⟩
      rcases qfe hz with rfl|hz
      · exact c
      · exact h1 z hz
    · rw [if_neg c]
      by_cases e:y.1=x.1
      · rw [if_pos e]
        exact List.pairwise_cons.2 ⟨fun z hz=>by rw [←e];exact h1 z hz,h2⟩
      · rw [if_neg e]
        have hx:=qk4 (by simpa using c) e
        refine List.pairwise_cons.2 ⟨fun z hz=> ?_,h⟩
        rcases List.mem_cons.1 hz with rfl|hz
        · exact hx
        · exact we _ _ _ hx (h1 z hz)
theorem q41(l:za)(x:Str×Str):(qbw l x).length=if isT x.1 l=true then l.length else l.length+1:=by
  unfold qbw
  split
  · simp
  · have := qqm x.1 l
    simp;omega
theorem qti (x : Str × Str) : ∀ l : za, isT x.1 (qbw l x) = true
  |[]=>by show(if Op.bytesLess x.1 x.1=true then _ else x.1==x.1)=true;rw [vo,if_neg (by decide)];simp
  | y :: l => by
    rw [qc3]
    by_cases c:Op.bytesLess y.1 x.1=true
    · rw [if_pos c]
      unfold isT
      rw [if_pos c];exact qti x l
    · rw [if_neg c]
      have: ∀m:za,isT x.1 (x::m)=true:=fun m=>by
        unfold isT
        rw [vo,if_neg (by decide)];simp
      split
      · exact this _
      · exact this _
theorem qzf(y:Str×Str)(l:za)(s:Str):qex (y::l) s=if Op.bytesLess y.1 s=true then y::qex l s else l:=by
  unfold qex
  rw [show atT s (y::l)=if Op.bytesLess y.1 s=true then atT s l+1 else 0 from rfl]
  split <;>rfl
theorem uq(y:Str×Str)(l:za)(s:Str):tgM (y::l) s=if y.1=s then(y.2,0) else tgM l s:=by
  unfold tgM
  rw [List.length_cons,gl]
  have e0:elt tO (y::l) 0=y:=vl tO y l
  have es: ∀i,elt tO (y::l) (i+1)=elt tO l i:=fun i=>zp tO y l i
  simp only [e0,es]
  by_cases h:y.1=s
  · rw [if_pos (by simpa using h), if_pos h]
    simp only [e0]
  · rw [if_neg (by simpa using h), if_neg h]
    cases jc (fun i=>(elt tO l i).1==s) l.length with
    |none=>rfl
    |some i=>simp [es]
theorem quv{s:Str}: ∀{l:za},(∀t∈l,t.1≠s)→tgM l s=([],9)
  |[],_=>rfl
  |y::l,h=>by rw [uq,if_neg (h y (List.mem_cons_self ..)),quv fun t ht=>h t (List.mem_cons_of_mem _ ht)]
theorem quw(x:Str×Str): ∀l:za,tgM (qbw l x) x.1=(x.2,0)
  |[]=>by show tgM [x] x.1=_;rw [uq,if_pos rfl]
  | y :: l => by
    rw [qc3]
    by_cases c:Op.bytesLess y.1 x.1=true
    · rw [if_pos c,uq,if_neg (fun e=>by rw [e,vo] at c;cases c),quw x l]
    · rw [if_neg c]
      split
      · rw [uq,if_pos rfl]
      · rw [uq,if_pos rfl]
theorem quu{s:Str}: ∀{l:za},TS l→isT s l=true→tgM (qex l s) s=([],9)
  |[],_,h=>by cases h
  | y :: l, h, hi => by
    obtain⟨h1,h2⟩:=List.pairwise_cons.1 h
    unfold isT at hi
    rw [qzf]
    by_cases c:Op.bytesLess y.1 s=true
    · rw [if_pos c] at hi ⊢
      rw [uq,if_neg (fun e=>by rw [e,vo] at c;cases c),quu h2 hi]
    · rw [if_neg c] at hi ⊢
      have e:y.1=s:=by simpa using hi
      refine quv fun t ht e2=> ?_
      have:=h1 t ht
      rw [e,e2,vo] at this
      cases this
theorem q5m {r : Rep} : y4 (tOK r) r.2.2.2.length = true ↔ (∀ t ∈ r.2.2.2, y9 t.1 = true ∧ r.2.2.1.contains t.2 = true) ∧ TS r.2.2.2 := by
  constructor
  · intro h
    have h0:=wd.1 h
    have hstep: ∀i,i<r.2.2.2.length→i=0∨Op.bytesLess (elt tO r.2.2.2 (i-1)).1 (elt tO r.2.2.2 i).1=true:=fun i hi=>by
      have:=h0 i hi
      unfold tOK at this
      simp only [Bool.and_eq_true,Bool.or_eq_true,decide_eq_true_eq] at this
      exact this.2.2
    refine⟨fun t ht=> ?_, ?_⟩
    · obtain ⟨i, hi, rfl⟩ := List.getElem_of_mem ht
      have:=h0 i hi
      unfold tOK at this
      simp only [Bool.and_eq_true] at this
      rw [q9 (t:=tO) hi] at this
      exact⟨this.1,this.2.1⟩
    · have key : ∀ j i, i < j → j < r.2.2.2.length → Op.bytesLess (elt tO r.2.2.2 i).1 (elt tO r.2.2.2 j).1 = true := by
        intro j
        induction j with
        |zero=>intro i h;omega
        | succ j ih =>
          intro i hij hj
          have h1:=(hstep (j+1) hj).resolve_left (by omega)
          rw [Nat.add_sub_cancel] at h1
          by_cases e:i=j
          · rw [e];exact h1
          · exact we _ _ _ (ih i (by omega) (by omega)) h1
      refine List.pairwise_iff_getElem.2 fun i j hi hj hij=> ?_
      have:=key j i hij hj
      rwa [q9 (t:=tO) hi,q9 (t:=tO) hj] at this
  · rintro ⟨h1, h2⟩
    refine wd.2 fun i hi=> ?_
    have h3:=h1 _ (List.getElem_mem hi)
    unfold tOK
    simp only [Bool.and_eq_true,Bool.or_eq_true,decide_eq_true_eq]
    rw [q9 (t:=tO) hi]
    refine⟨h3.1,h3.2, ?_⟩
    by_cases h0:i=0
    · exact .inl h0
    · refine .inr ?_
      rw [q9 (t:=tO) (show i-1<r.2.2.2.length by omega)]
      exact List.pairwise_iff_getElem.1 h2 (i-1) i (by omega) hi (by omega)
structure May (o:List Obj) (r:Rep):Prop where
  nm:vw r.1=true
  ub:qny r.2.1=true
  um:qny r.2.2.1=true
  t64:r.2.2.2.length≤64
  bl: ∀d∈r.2.1,(fnd o d).2=0
  ma: ∀d∈r.2.2.1,mOK o r d=true
  tg: ∀t∈r.2.2.2,y9 t.1=true∧r.2.2.1.contains t.2=true
  ts:TS r.2.2.2
theorem qx9{o:List Obj}{r:Rep}:qrh o r=true↔May o r:=by
  unfold qrh
  simp only [Bool.and_eq_true,decide_eq_true_eq,List.all_eq_true,beq_iff_eq]
  rw [q5m]
  exact⟨fun⟨a,b,c,d,e,f,g,h⟩=>⟨a,b,c,d,e,f,g,h⟩,fun⟨a,b,c,d,e,f,g,h⟩=>⟨a,b,c,d,e,f,g,h⟩⟩
theorem qht{g:Reg}(h:ju g=true){s:Str}(hi:isR g.2 s=true):May g.1.1 (q7 g.2 s):=by
  have h1:=(qg4 hi).1
  unfold q7
  rw [if_pos hi,q9 (t:=tR) h1]
  exact qx9.1 ((qhs.1 h).1 _ (List.getElem_mem h1))
theorem quf{g:Reg}(h:ju g=true)(s:Str):TS (q7 g.2 s).2.2.2:=by
  by_cases hi:isR g.2 s=true
  · exact(qht h hi).ts
  · unfold q7
    rw [if_neg hi]
    exact List.Pairwise.nil
theorem q00{g:Reg}(h:ju g=true){x:Rep}(hx:May g.1.1 x)(hl:(j5 g.2 x).length≤16):ju (g.1,j5 g.2 x)=true:=by
  obtain⟨h1,h2,h3,h4⟩:=qhs.1 h
  refine qhs.2 ⟨fun r hr=> ?_,qjl h2,hl,h4⟩
  rcases qk7 hr with rfl|hr
  · exact qx9.2 hx
  · exact h1 r hr
theorem zg(y:Rep)(l:List Rep)(s:Str):qby (y::l) s=if y.1=s then y else qby l s:=by
  unfold qby nm
  rw [List.length_cons,gl,vl tR y l]
  simp only [zp tR]
  by_cases h:y.1=s
  · rw [if_pos (by simpa using h), if_pos h]
    simp only [vl tR y l]
  · rw [if_neg (by simpa using h), if_neg h]
    cases jc (fun i=>(elt tR l i).1==s) l.length with
    |none=>rfl
    |some i=>simp [zp tR]
theorem ul (x : Rep) (s : Str) : ∀ l : List Rep, qby (j5 l x) s = if x.1 = s then x else qby l s
  |[]=>by rw [qlj,zg]
  | y :: l => by
    rw [qho]
    by_cases c:Op.bytesLess y.1 x.1=true
    · rw [if_pos c, zg, ul x s l, zg]
      by_cases e:x.1=s
      · rw [if_pos e,if_pos e,if_neg (fun e2=>by rw [e,e2,vo] at c;cases c)]
      · rw [if_neg e,if_neg e]
    · rw [if_neg c]
      by_cases e:y.1=x.1
      · rw [if_pos e, zg, zg, e]
        by_cases e2:x.1=s
        · rw [if_pos e2,if_pos e2]
        · rw [if_neg e2,if_neg e2,if_neg e2]
      · rw [if_neg e,zg]
theorem q46{l:List Rep}(hs:yz l)(s:Str):(q7 l s).2=(qby l s).2:=by
  rw [q47 hs]
  unfold qby
  cases nm l s <;>rfl
theorem qve{g:Reg}{b:Bls}(h:Bd g)(hb:b=g.1)(hl:g.2.length≤1000000){x:Rep}(hx:BdR x):Bd (b,j5 g.2 x):=by
  subst hb
  refine⟨h.ol,h.up,by have:=q7t g.2 x;show(j5 g.2 x).length≤_;omega,fun r hr=> ?_⟩
  rcases qk7 hr with rfl|hr
  · exact hx
  · exact h.each r hr
theorem q58 {g : Reg} (hg : Bd g) {r t : Str} (hr : r.length ≤ 1048576) (ht : t.length ≤ 1048576) (d : Str) : z1g (g, (r, (t, d))) = some (qd4 g r (y9 t) (t, d) (qdv (q7 g.2 r) t d)).1 := by
  have hb:=qc5 hg hr
  have key:=qqs (F:=z2a) hg r (y9 t) (t,d) (qdv (q7 g.2 r) t d) (fun hR _ _=>
    ⟨q1n hb (quf hR r) t d,by
      unfold qdv
      split
      · split
        · exact yo g.2 r
        · exact yo g.2 r
      · exact yo g.2 r⟩)
  unfold z1g
  dsimp only
  rw [qxd (by omega),sb,show z2w ((g,(r,y9 t)),(t,d))=qzc z2a ((g,(r,y9 t)),(t,d)) from rfl,key,sb]
theorem qy5{g:Reg}(hg:Bd g){r t:Str}(hr:r.length≤1048576)(ht:t.length≤1048576):z1d (g,(r,t))=some (qd4 g r (y9 t) t (qb9 (q7 g.2 r) t)).1:=by
  have hb:=qc5 hg hr
  have key:=qqs (F:=z28) hg r (y9 t) t (qb9 (q7 g.2 r) t) (fun hR _ _=>
    ⟨qy4 hb (quf hR r) t,by
      unfold qb9
      split
      · exact yo g.2 r
      · exact yo g.2 r⟩)
  unfold z1d
  dsimp only
  rw [qxd (by omega),sb,show z2u ((g,(r,y9 t)),t)=qzc z28 ((g,(r,y9 t)),t) from rfl,key,sb]
end Go.Plain
namespace Go.Plain
open Go.AM
set_option linter.unusedVariables false
theorem qqr {γ : Type} {g : Reg} {r : Str} {n : Bool} {c : γ} {a : Int × (Rep × γ)} (h : (qd4 g r n c a).1.2 = 0) :
    ju g=true∧vw r=true∧n=true∧a.1=0∧(j5 g.2 a.2.1).length≤16∧(qd4 g r n c a).1=((g.1,j5 g.2 a.2.1),0):=by
  unfold qd4 at h ⊢
  by_cases h1:ju g=true
  · rw [if_pos h1] at h ⊢
    by_cases h2:(vw r&&n)=true
    · rw [if_pos h2] at h ⊢
      by_cases h3:a.1=0
      · rw [if_pos h3] at h ⊢
        by_cases h4:(j5 g.2 a.2.1).length≤16
        · rw [if_pos h4]
          rw [Bool.and_eq_true] at h2
          exact⟨h1,h2.1,h2.2,h3,h4,rfl⟩
        · rw [if_neg h4] at h;cases h
      · rw [if_neg h3] at h;exact absurd h h3
    · rw [if_neg h2] at h;cases h
  · rw [if_neg h1] at h;cases h
theorem qxo{γ:Type}{g:Reg}{r:Str}{c:γ}{a:Int×(Rep×γ)}(h1:ju g=true)(h2:vw r=true)(h3:a.1=0)(h4:(j5 g.2 a.2.1).length≤16):(qd4 g r true c a).1=((g.1,j5 g.2 a.2.1),0):=by
  unfold qd4
  rw [if_pos h1,h2,if_pos (show(true&&true)=true from rfl),if_pos h3,if_pos h4]
theorem qth(x:Rep): ∀l:List Rep,isR (j5 l x) x.1=true
  |[]=>by rw [qlj,qbk,vo,if_neg (by decide)];simp
  | y :: l => by
    rw [qho]
    by_cases c:Op.bytesLess y.1 x.1=true
    · rw [if_pos c,qbk,if_pos c];exact qth x l
    · rw [if_neg c]
      split
      · rw [qbk,vo,if_neg (by decide)];simp
      · rw [qbk,vo,if_neg (by decide)];simp
theorem May.tags{o:List Obj}{x:Rep}(h:May o x){l:za}(h64:l.length≤64)(hl: ∀t∈l,y9 t.1=true∧x.2.2.1.contains t.2=true)(hs:TS l):May o (x.1,(x.2.1,(x.2.2.1,l))):=
  ⟨h.nm,h.ub,h.um,h64,h.bl,h.ma,hl,hs⟩
theorem qnn(l:List Str)(s:Str):(qqi l s).contains s=true:=by
  unfold qqi
  split
  · assumption
  · simp
noncomputable def q1v(f:Reg)(repo other d:Str):Option Bool:=
 z15 (f,(repo,d))>>=fun l=>
 if(l.2==(0:Int)) then(z0r (l.1,(repo,d))>>=fun h=>
 if(!h) then some false else
 z0r (l.1,(other,d))>>=fun h1=>
 z0r (f,(other,d))>>=fun h2=>
 if(!(h1==h2)) then some false else
 z1b (f,(repo,(other,d)))>>=fun m=>
 z1r ()>>=fun a=>
 if a then(if(m.2 !=(0:Int)) then some true else
 z0r (m.1,(repo,d))>>=fun h3=>
 if h3 then(z0r (f,(other,d))>>=fun h4=>
 if h4 then some (l.2==(0:Int)) else
 some false) else
 some false) else
 some false) else
 z1b (f,(repo,(other,d)))>>=fun m=>
 z1r ()>>=fun a=>
 if a then(if(m.2 !=(0:Int)) then some true else
 z0r (m.1,(repo,d))>>=fun h=>
 if h then(z0r (f,(other,d))>>=fun h1=>
 if h1 then some (l.2==(0:Int)) else
 some false) else
 some false) else
 some false
abbrev Sm(f:Reg):Prop:= ∀r∈f.2,r.2.1.length≤1000∧r.2.2.1.length≤1000∧r.2.2.2.length≤1000
theorem qyj{f:Reg}(h:Sm f)(s:Str):(q7 f.2 s).2.1.length≤1000∧(q7 f.2 s).2.2.1.length≤1000∧(q7 f.2 s).2.2.2.length≤1000:=by
  unfold q7
  split
  · rename_i hi
    have h1:=(qg4 hi).1
    rw [q9 (t:=tR) h1]
    exact h _ (List.getElem_mem h1)
  · simp
theorem q6r(g:Reg):Sm (q6q g):=by
  intro r hr
  obtain⟨q,_,rfl⟩:=List.mem_map.1 (show r∈(g.2.take 18).map qze from hr)
  unfold qze
  simp only [List.length_take]
  omega
theorem qn4 {f : Reg} (hB : Bd f) (hsm : Sm f) (hR : ju f = true) {repo other d : Str} (hr : repo.length ≤ 1048576) (hne : ¬ repo = other) : q1v f repo other d = some true := by
  have hs:=yp hR
  have h16:=qc7 hR
  have hb:=qc5 hB hr
  have hsx:=qyj hsm repo
  have hx1:(gm (q7 f.2 repo) d).1=repo:=yo f.2 repo
  have hxB:BdR (gm (q7 f.2 repo) d):=⟨hb.nm,by have:=q1r (q7 f.2 repo).2.1 d;show(qqi (q7 f.2 repo).2.1 d).length≤_;omega,hb.ma,hb.tg,hb.tn⟩
  have hPB:Bd (f.1,j5 f.2 (gm (q7 f.2 repo) d)):=qve hB rfl (by omega) hxB
  have hPS:yz (j5 f.2 (gm (q7 f.2 repo) d)):=qhp (qjl (qhx hs))
  -- what the repository has
  have has1:z0r ((f.1,j5 f.2 (gm (q7 f.2 repo) d)),(repo,d))=some true:=by
    rw [zq hPB hPS,ul,if_pos hx1]
    show some ((qqi _ d).contains d||_)=_
    rw [qnn];rfl
  have has2:z0r ((f.1,j5 f.2 (gm (q7 f.2 repo) d)),(other,d))=z0r (f,(other,d)):=by
    rw [zq hPB hPS,zq hB hs,ul,if_neg (by rw [hx1];exact hne)]
  obtain⟨b,hb2⟩: ∃b,z0r (f,(other,d))=some b:=⟨_,zq hB hs other d⟩
  have hL:=q57 hB hr d
  have hM:=q1m (f:=other) hB hr d
  generalize hl:(qd4 f repo true (f,d) (qir f.1.1 (q7 f.2 repo) d (f,d))).1=l at hL
  generalize hm:(qd4 f repo (vw other) (f,(other,d)) (qwe (q7 f.2 other) (q7 f.2 repo) d (f,(other,d)))).1=m at hM
  have l_ok:l.2=0→l=((f.1,j5 f.2 (gm (q7 f.2 repo) d)),0):=by
    intro h0
    rw [←hl] at h0 ⊢
    obtain⟨_,_,_,a1,_,a2⟩:=qqr h0
    rw [a2]
    have:(qir f.1.1 (q7 f.2 repo) d (f,d)).2.1=gm (q7 f.2 repo) d:=by
      unfold qir at a1 ⊢
      split
      · rfl
      · rename_i c;rw [if_neg c] at a1;cases a1
    rw [this]
  have m_ok:m.2=0→m=((f.1,j5 f.2 (gm (q7 f.2 repo) d)),0)∧l.2=0∧b=true:=by
    intro h0
    rw [←hm] at h0 ⊢
    obtain⟨_,hN,hO,a1,a3,a2⟩:=qqr h0
    have hc:(q7 f.2 other).2.1.contains d=true:=by
      unfold qwe at a1
      by_cases c:(q7 f.2 other).2.1.contains d=true
      · exact c
      · rw [if_neg c] at a1;cases a1
    have hx:(qwe (q7 f.2 other) (q7 f.2 repo) d (f,(other,d))).2.1=gm (q7 f.2 repo) d:=by
      unfold qwe
      rw [if_pos hc]
    rw [hx] at a2 a3
    have hi:isR f.2 other=true:=by
      by_cases c:isR f.2 other=true
      · exact c
      · unfold q7 at hc
        rw [if_neg c] at hc
        cases hc
    have hf:(fnd f.1.1 d).2=0:=(qht hR hi).bl d (by simpa using hc)
    refine⟨a2, ?_, ?_⟩
    · rw [← hl]
      have:qir f.1.1 (q7 f.2 repo) d (f,d)=(0,(gm (q7 f.2 repo) d,(f,d))):=by unfold qir;rw [if_pos hf]
      rw [this,qxo hR hN rfl a3]
    · rw [zq hB hs, ← q46 hs, hc] at hb2
      injection hb2 with hb2
      exact hb2.symm
  have tail: ∀v:Bool,(l.2=0→v=true)→(z1b (f,(repo,(other,d)))>>=fun m=>z1r ()>>=fun a=>
      if a then(if(m.2 !=(0:Int)) then some true else z0r (m.1,(repo,d))>>=fun h=>if h then(z0r (f,(other,d))>>=fun h1=>if h1 then some (l.2==(0:Int)) else some false) else some false) else some false)=some true:=by
    intro v _
    rw [hM,sb,qd3,sb,if_pos rfl]
    by_cases h0:m.2=0
    · obtain ⟨q1, q2, q3⟩ := m_ok h0
      rw [if_neg (by rw [qsu];exact fun h=>h h0),q1]
      dsimp only
      rw [has1,sb,if_pos rfl,hb2,q3,sb,if_pos rfl,q2]
      rfl
    · rw [if_pos (qsu.2 h0)]
  unfold q1v
  rw [hL,sb]
  by_cases h0:l.2=0
  · rw [if_pos (by rw [beq_iff_eq]; exact h0)]
    have e:=l_ok h0
    have e1:l.1=(f.1,j5 f.2 (gm (q7 f.2 repo) d)):=by rw [e]
    rw [e1,has1,sb,if_neg (by decide),has2,hb2,sb,sb,if_neg (by simp),←hb2]
    have:=tail true (fun _=>rfl)
    rw [hb2] at this ⊢
    exact this
  · rw [if_neg (by rw [beq_iff_eq]; exact h0)]
    exact tail true (fun _=>rfl)
theorem qdm {g : Reg} (hg : LG g) {repo other tag d : Str} (hr : repo.length ≤ 1048576) (ht : tag.length ≤ 1048576) : wq (g, (repo, (other, (tag, d)))) = some true := by
  have hB:=q3s hg
  have hsm:=q6r g
  unfold wq
  dsimp only
  rw [q3t hg,sb]
  generalize q6q g=f at hB hsm
  rw [qmp hB,sb]
  cases hR:ju f with
  |false=>rw [if_pos (by decide),qd3,sb]
  | true =>
    rw [if_neg (by decide)]
    by_cases hne:repo=other
    · rw [if_pos (by simpa using hne),qd3,sb]
    · rw [if_neg (by simpa using hne)]
      have hs:=yp hR
      have h16:=qc7 hR
      have hb:=qc5 hB hr
      have hsx:=qyj hsm repo
      rw [q58 hB hr ht,sb]
      generalize hn:(qd4 f repo (y9 tag) (tag,d) (qdv (q7 f.2 repo) tag d)).1=n
      by_cases h0:n.2=0
      · rw [if_pos (by rw [beq_iff_eq]; exact h0)]
        rw [←hn] at h0
        obtain⟨_,hN,hT,a1,a3,a2⟩:=qqr h0
        -- the tag is named
        have hc:(q7 f.2 repo).2.2.1.contains d=true:=by
          unfold qdv at a1
          by_cases c:(q7 f.2 repo).2.2.1.contains d=true
          · exact c
          · rw [if_neg c] at a1;cases a1
        have hfull: ¬(isT tag (q7 f.2 repo).2.2.2=false∧(q7 f.2 repo).2.2.2.length=64):=by
          intro c
          unfold qdv at a1
          rw [if_pos hc,if_pos c] at a1
          cases a1
        have hi:isR f.2 repo=true:=by
          by_cases c:isR f.2 repo=true
          · exact c
          · unfold q7 at hc
            rw [if_neg c] at hc
            cases hc
        have hm:=qht hR hi
        have hx:(qdv (q7 f.2 repo) tag d).2.1=((q7 f.2 repo).1,((q7 f.2 repo).2.1,((q7 f.2 repo).2.2.1,qbw (q7 f.2 repo).2.2.2 (tag,d)))):=by
          unfold qdv
          rw [if_pos hc,if_neg hfull]
        rw [hx] at a2 a3
        generalize hX:((q7 f.2 repo).1,((q7 f.2 repo).2.1,((q7 f.2 repo).2.2.1,qbw (q7 f.2 repo).2.2.2 (tag,d))))=X at a2 a3
        have X1:X.1=repo:=by rw [←hX];exact yo f.2 repo
        have X4:X.2.2.2=qbw (q7 f.2 repo).2.2.2 (tag,d):=by rw [←hX]
        have hpl:=q41 (q7 f.2 repo).2.2.2 (tag,d)
        have hl64:(qbw (q7 f.2 repo).2.2.2 (tag,d)).length≤64:=by
          rw [hpl]
          have:=hm.t64
          cases hq:isT (tag,d).1 (q7 f.2 repo).2.2.2 with
          |true=>rw [if_pos rfl];omega
          | false =>
            rw [if_neg (by decide)]
            have:(q7 f.2 repo).2.2.2.length≠64:=fun c=>hfull ⟨hq,c⟩
            omega
        have hM:May f.1.1 X:=by
          rw [←hX]
          refine hm.tags hl64 (fun t h=> ?_) (qyi hm.ts)
          rcases qfe h with rfl|h
          · exact⟨hT,hc⟩
          · exact hm.tg t h
        have hXB:BdR X:=by
          rw [←hX]
          refine⟨hb.nm,hb.bl,hb.ma,by show(qbw _ _).length≤_;omega,fun t h=> ?_⟩
          rcases qfe h with rfl|h
          · exact ht
          · exact hb.tn t h
        have nR:ju (f.1,j5 f.2 X)=true:=q00 hR hM a3
        have nB:Bd (f.1,j5 f.2 X):=qve hB rfl (by omega) hXB
        have nS:=yp nR
        have rX:qby (j5 f.2 X) repo=X:=by rw [ul,if_pos X1]
        have fX:q7 (j5 f.2 X) repo=X:=by
          have e2:=q46 nS repo
          have e1:=yo (j5 f.2 X) repo
          dsimp only at e2
          rw [rX] at e2
          exact Prod.ext (e1.trans X1.symm) e2
        rw [←hn,a2]
        dsimp only
        rw [qlp nB nS]
        dsimp only
        rw [rX,X4,quw (tag,d),sb,qy5 nB hr ht]
        dsimp only
        rw [fX]
        -- and unnamed
        have hiT:isT tag X.2.2.2=true:=by rw [X4];exact qti (tag,d) _
        have hu:qb9 X tag=(0,((X.1,(X.2.1,(X.2.2.1,qex X.2.2.2 tag))),tag)):=by
          unfold qb9
          rw [if_pos hiT]
        generalize hY:(X.1,(X.2.1,(X.2.2.1,qex X.2.2.2 tag)))=Y at hu
        have Y1:Y.1=repo:=by rw [←hY];exact X1
        have Y4:Y.2.2.2=qex X.2.2.2 tag:=by rw [←hY]
        have hiR:isR (j5 f.2 X) repo=true:=by
          have:=qth X f.2
          rwa [X1] at this
        have hYl:(j5 (j5 f.2 X) Y).length≤16:=by
          rw [qbv,Y1,hiR,if_pos rfl]
          exact a3
        have hU:(qd4 (f.1,j5 f.2 X) repo (y9 tag) tag (qb9 X tag)).1=((f.1,j5 (j5 f.2 X) Y),0):=by
          rw [hT,hu]
          exact qxo nR hN rfl hYl
        rw [hU,sb]
        have hYB:BdR Y:=by
          rw [←hY]
          refine⟨hXB.nm,hXB.bl,hXB.ma, ?_,fun t h=> ?_⟩
          · have := hXB.tg
            show(qex X.2.2.2 tag).length≤_
            unfold qex
            simp;omega
          · have h : t ∈ qex X.2.2.2 tag := h
            unfold qex at h
            rcases List.mem_append.1 h with h|h
            · exact hXB.tn t (List.mem_of_mem_take h)
            · exact hXB.tn t (List.mem_of_mem_drop h)
        have uB:Bd (f.1,j5 (j5 f.2 X) Y):=qve (g:=(f.1,j5 f.2 X)) nB rfl (by show(j5 f.2 X).length≤_;omega) hYB
        have uS:yz (j5 (j5 f.2 X) Y):=qhp (qjl (qhx nS))
        dsimp only
        rw [qlp uB uS]
        dsimp only
        rw [ul,if_pos Y1,Y4,quu hM.ts hiT,sb]
        rw [if_neg (by decide),if_neg (by simp),if_neg (by decide),if_neg (by decide),qr6 nB nS,sb,qr6 hB hs,sb]
        dsimp only
        rw [ul,if_neg (by rw [X1];exact hne),qng (by have:=(qyk hB other).tg;omega),sb,if_neg (by decide)]
        exact qn4 hB hsm hR hr hne
      · rw [if_neg (by rw [beq_iff_eq]; exact h0)]
        exact qn4 hB hsm hR hr hne
end Go.Plain
