import Derived.Test.YtjmmcdbogbpedaaGreatDoorBMFix
import Derived.KernelRfl
namespace Go.AM
set_option linter.unusedSectionVars false
set_option linter.unusedVariables false
abbrev Fu (A B : Type) : Type := A → Option B
noncomputable abbrev kc {A B : Type} (F : Fu A B → Fu A B) : Fu A B := xw (B := fun _ => B) F
theorem ko {A B : Type} {F : Fu A B → Fu A B} (q : A) (h : ∀ a, Cont (B := fun _ => B) fun u => F u a := by
    intro a; repeat' first | exact .const _ | exact .app _ | refine .ite ?_ ?_ | refine .bind ?_ fun _ => ?_ | refine .sum (fun _ => ?_) fun _ => ?_) : kc F q = F (kc F) q := k7 (B := fun _ => B) h q
variable [Lay]
class EnvK (E : Env) : Prop where
  ok : EnvOK E
structure SE (E : Env) where
  e : ∀ U : Type, Ent U
  s : ∀ (U : Type) (u : U), (e U).Sound E u
structure SC (E : Env) (f : Func) (n : Nat) where
  c : ∀ U : Type, Cut U
  s : ∀ (U : Type) (u : U), (c U).Sound E ⟨f.ntmps, n, false⟩ (jo f) u
def esE {E : Env} (U : Type) : List (SE E) → List (Ent U)
  | [] => []
  | a :: r => a.e U :: esE U r
def csC {E : Env} {f : Func} {n : Nat} (U : Type) : List (SC E f n) → List (Cut U)
  | [] => []
  | a :: r => a.c U :: csC U r
theorem qv1 {E : Env} {U : Type} (u : U) : ∀ l : List (SE E), zj E u (esE U l)
  | [] => trivial
  | a :: r => ⟨a.s U u, qv1 u r⟩
theorem qvv {E : Env} {f : Func} {n : Nat} {U : Type} (u : U) : ∀ l : List (SC E f n), qa2 E ⟨f.ntmps, n, false⟩ (jo f) u (csC U l)
  | [] => trivial
  | a :: r => ⟨a.s U u, qvv u r⟩
noncomputable def mF {E : Env} [EnvK E] (f : FuncId) (fn : Func) (ins : List Sh) (hin : List BSh) (outs : List FA) (g : (xb (Sh.ty.tyL ins) (tyH hin)).den → Option (jb (qak outs))) (ks : List Nat) (es : List (SE E)) (cs : List (SC E fn hin.length))
    (hG : ∀ q, g q = Ent.runs E fn ks 12 (esE Unit es) (csC Unit cs) () ⟨f, ins, hin, outs, fun _ => g⟩ q := by intro q; kernel_rfl)
    (hf : E.P.funcs[f]? = some fn := by kernel_rfl) (hb : fn.body.isSome = true := by rfl) (hname : (fn.name == "runtime.NumGoroutine") = false := by rfl) (hargs : Nat.ble ins.length fn.ntmps = true := by rfl) : SE E :=
  ⟨fun _ => ⟨f, ins, hin, outs, fun _ => g⟩, fun _ _ x y h => vn (e := (⟨f, ins, hin, outs, fun _ => g⟩ : Ent Unit)) EnvK.ok hf hb hname hargs (qv1 () es) (qvv () cs) ((hG x).symm.trans h)⟩
noncomputable def mL {E : Env} [EnvK E] {fn : Func} {n : Nat} (k : Nat) (S : SS) (outs : List CA) (G : (S.ty.den → Option (jb (y7 outs))) → S.ty.den → Option (jb (y7 outs))) (ks : List Nat) (es : List (SE E)) (cs : List (SC E fn n))
    (hF : ∀ self q, G self q = Cut.runs E ⟨fn.ntmps, n, false⟩ (jo fn) ks 12 (esE Unit es) (csC Unit cs) () k S outs self q := by intro self q; kernel_rfl) : SC E fn n :=
  ⟨fun _ => ⟨k, S, outs, fun _ => kc G⟩, fun _ _ => qya (esE Unit es) (csC Unit cs) EnvK.ok (qv1 () es) (qvv () cs) hF⟩
abbrev w64 (x:Int):Int:=IntKind.wrap .i64 x
end Go.AM
namespace Go.AM
abbrev y00:Ty:=.pair .str .str
abbrev y01:Ty:=.sl .str
abbrev y02:Ty:=.pair (.int .i64) .str
abbrev y03:Ty:=.pair .str (.int .i64)
abbrev y04:Ty:=.pair (.int .u32) (.int .u32)
abbrev y05:Ty:=.sl .val
abbrev y06:Ty:=.sl (.int .u8)
abbrev y07:Ty:=.sl y00
abbrev y08:Ty:=.sl y02
abbrev y09:Ty:=.sl y03
abbrev y0a:Ty:=.pair (.int .u32) y04
abbrev y0b:Ty:=.pair y01 y07
abbrev y0c:Ty:=.pair y08 (.int .i64)
abbrev y0d:Ty:=.pair y09 y01
abbrev y0e:Ty:=.pair (.int .u32) y0a
abbrev y0f:Ty:=.pair y01 y0b
abbrev y0g:Ty:=.pair (.int .i64) y0c
abbrev y0h:Ty:=.pair .str y0d
abbrev y0i:Ty:=.pair (.int .u32) y0e
abbrev y0j:Ty:=.pair .str y0f
abbrev y0k:Ty:=.pair y07 y0g
abbrev y0l:Ty:=.pair .bool y0h
abbrev y0m:Ty:=.pair (.int .u32) y0i
abbrev y0n:Ty:=.sl y0j
abbrev y0o:Ty:=.pair (.int .u32) y0m
abbrev y0p:Ty:=.pair y0k y0n
abbrev y0q:Ty:=.pair (.int .u32) y0o
abbrev Y00:Type:=Str×Str
abbrev Y01:Type:=List Str
abbrev Y02:Type:=Int×Str
abbrev Y03:Type:=Str×Int
abbrev Y04:Type:=(List Str)×Int
abbrev Y05:Type:=List Int
abbrev Y06:Type:=Int×Int
abbrev Y07:Type:=(Int×Int)⊕Int
abbrev Y08:Type:=(Int×Str)⊕Str
abbrev Y09:Type:=Int⊕Unit
abbrev Y0a:Type:=Str×Bool
abbrev Y0b:Type:=Bool⊕Unit
abbrev Y0c:Type:=(List Int)×Int
abbrev Y0d:Type:=(List Str)×Str
abbrev Y0e:Type:=(Str×Int)⊕Unit
abbrev Y0f:Type:=(Str×Str)×Str
abbrev Y0g:Type:=List Y00
abbrev Y0h:Type:=(List Y02)×Int
abbrev Y0i:Type:=Y01×Y01
abbrev Y0j:Type:=(List Y00)×Int
abbrev Y0k:Type:=(List Y03)×Y01
abbrev Y0l:Type:=Y05×Y05
abbrev Y0m:Type:=(List Y03)×Int
abbrev Y0n:Type:=List Y02
abbrev Y0o:Type:=Str×Y01
abbrev Y0p:Type:=(List Y00)×Str
abbrev Y0q:Type:=(List Y00)×Y04
abbrev Y0r:Type:=List Y03
abbrev Y0s:Type:=Int×Y02
abbrev Y0t:Type:=Int×Y06
abbrev Y0u:Type:=Y01×Y03
abbrev Y0v:Type:=Int×Y03
abbrev Y0w:Type:=(Int×Y03)×Y05
abbrev Y0x:Type:=Y01×Y0g
abbrev Y0y:Type:=Int×Y0h
abbrev Y0z:Type:=Y0g×Y0i
abbrev Y10:Type:=Y05×Y0l
abbrev Y11:Type:=Str×Y0k
abbrev Y12:Type:=Int×Y0o
abbrev Y13:Type:=(Bool×Str)×Y0k
abbrev Y14:Type:=(Int×Y0j)×Str
abbrev Y15:Type:=(Y0s×Y06)×Str
abbrev Y16:Type:=Int×Y0j
abbrev Y17:Type:=Int×Y0t
abbrev Y18:Type:=Y0g×Y0n
abbrev Y19:Type:=(Int×Y0m)×Y01
abbrev Y1a:Type:=Y01×Y0x
abbrev Y1b:Type:=Y0g×Y0y
abbrev Y1c:Type:=Int×Y0z
abbrev Y1d:Type:=Bool×Y11
abbrev Y1e:Type:=(Bool×Str)×Y13
abbrev Y1f:Type:=(Int×Y0u)×Y0z
abbrev Y1g:Type:=Y03×Y0z
abbrev Y1h:Type:=Int×Y17
abbrev Y1i:Type:=Str×Y0z
abbrev Y1j:Type:=Str×Y1a
abbrev Y1k:Type:=(Int×Y04)×Y1c
abbrev Y1l:Type:=(Int×Y1c)⊕Y1c
abbrev Y1m:Type:=Str×Y1c
abbrev Y1n:Type:=Y01×Y1c
abbrev Y1o:Type:=Bool⊕Y1b
abbrev Y1p:Type:=Int×Y1h
abbrev Y1q:Type:=Y1b×Y1b
abbrev Y1r:Type:=(Int×Y04)×Y1d
abbrev Y1s:Type:=List Y1j
abbrev Y1t:Type:=(List Y1j)×Int
abbrev Y1u:Type:=(Bool×Y1j)⊕Y1j
abbrev Y1v:Type:=(Int×Y04)×Y1j
abbrev Y1w:Type:=(Int×Y0q)×Y1j
abbrev Y1x:Type:=(Int×Y1j)⊕Y1j
abbrev Y1y:Type:=Bool×Y1j
abbrev Y1z:Type:=Int×Y1p
abbrev Y20:Type:=(Str×Y03)×Y1q
abbrev Y21:Type:=Y1b×Y1s
abbrev Y22:Type:=(Y1b×Y1s)×Y00
abbrev Y23:Type:=(Y1b×Y1s)×Str
abbrev Y24:Type:=(Y1b×Y1s)×Y0n
abbrev Y25:Type:=(Y1b×Y1s)×Y18
abbrev Y26:Type:=(Y1b×Y1s)×Int
abbrev Y27:Type:=Y0n×Y1s
abbrev Y28:Type:=Int×Y1z
abbrev Y29:Type:=Y06×Y24
abbrev Y2a:Type:=Y06×Y25
abbrev Y2b:Type:=Y0g×Y27
abbrev Y2c:Type:=(Int×Bool)⊕Y21
abbrev Y2d:Type:=(Int×Y1t)×Y21
abbrev Y2e:Type:=(Int×Y28)×Y05
abbrev Y2f:Type:=Y06×Y29
abbrev Y2g:Type:=Y06×Y2a
abbrev Y2h:Type:=Y06×Y2b
abbrev Y2i:Type:=Y06×Y2h
abbrev Y2j:Type:=(Int×Y1t)×Y2i
abbrev D00:Sh:=.d (.int .i64)
abbrev D01:Sh:=.fx (.ptr 0 0)
abbrev D02:Sh:=.d .str
abbrev D03:Sh:=.fx (.ptr 1 0)
abbrev D04:Sh:=.d .bool
abbrev D05:Sh:=.fx (.ptr 2 0)
abbrev D06:Sh:=.tup [.d y0p,.d (.int .i64)]
abbrev D07:Sh:=.fx (.sl y0j [] true)
abbrev D08:Sh:=.tup [.d .str,.d (.int .i64)]
abbrev D09:Sh:=.d y01
abbrev D0a:Sh:=.d y07
abbrev D0b:Sh:=.fx (.sl y00 [] true)
abbrev D0c:Sh:=.fx (.sl .str [] true)
abbrev D0d:Sh:=.fx (.sl y02 [] true)
abbrev D0e:Sh:=.iface 203 (.d .unit)
abbrev D0f:Sh:=.fx (.own .str 3 false)
abbrev D0g:Sh:=.fx (.own .str 4 false)
abbrev D0h:Sh:=.d y0p
abbrev D0i:Sh:=.tup [.d (.int .i64),.d .bool]
abbrev D0j:Sh:=.fx (.own y02 3 false)
abbrev D0k:Sh:=.d .val
abbrev D0l:Sh:=.fx (.sl y03 [] true)
abbrev D0m:Sh:=.d (.int .u8)
abbrev D0n:Sh:=.d (.int .u32)
abbrev D0o:Sh:=.fn (.func 160) [] [.fx (.ptr 0 0)]
abbrev D0p:Sh:=.fx (.ptr 3 0)
abbrev D0q:Sh:=.fx (.own .str 0 false)
abbrev D0r:Sh:=.fx (.own .str 2 false)
abbrev D0s:Sh:=.fn (.func 83) [] [.fx (.ptr 0 0)]
abbrev D0t:Sh:=.fn (.func 84) [] [.fx (.ptr 0 0)]
abbrev D0u:Sh:=.fx (.own y00 2 false)
abbrev D0v:Sh:=.fx (.own (.int .u8) 0 false)
abbrev D0w:Sh:=.tup [.d .val,.d (.int .i64)]
abbrev B00:BSh:=.arr (.int .u32) true
abbrev B01:BSh:=.dat .str
abbrev B02:BSh:=.dat y0j
abbrev B03:BSh:=.arr .str false
abbrev B04:BSh:=.var [D02]
abbrev B05:BSh:=.dat y0p
abbrev B06:BSh:=.var [D0b,D00,D0d,D00,D07]
abbrev B07:BSh:=.var [.fx (.own y00 3 false),D00,.fx (.own y02 4 false),D00,D07]
abbrev B08:BSh:=.var [.fx (.ptr 1 0)]
abbrev B09:BSh:=.var [.d y07,.fx (.sl .str [] true),.fx (.sl .str [] true)]
abbrev B0a:BSh:=.dat .val
abbrev B0b:BSh:=.arr y00 true
abbrev B0c:BSh:=.var [D03]
abbrev B0d:BSh:=.dat (.int .i64)
abbrev B0e:BSh:=.dat y0k
abbrev B0f:BSh:=.var [D00,D00,D02,.fx (.own .val 2 false),D09]
abbrev B0g:BSh:=.var [D00,D00,D02,.fx (.own .val 3 false),D0g]
abbrev B0h:BSh:=.var [D0u,D00,D0j,D00,.fx (.own y0j 4 false)]
abbrev B0i:BSh:=.var [D04,D02,D0l,D0c]
abbrev B0j:BSh:=.arr .str true
abbrev B0k:BSh:=.var [D04,D02,.fx (.own y03 2 false),D0f]
abbrev B0l:BSh:=.var [D04,D02,.fx (.own y03 3 false),D0c]
abbrev B0m:BSh:=.arr (.int .u8) true
abbrev B0n:BSh:=.arr y02 true
abbrev B0o:BSh:=.var [D0a,D0g,.fx (.own .str 5 false)]
abbrev B0p:BSh:=.arr .val true
abbrev B0q:BSh:=.var [.d .str]
abbrev B0r:BSh:=.arr y03 true
abbrev B0s:BSh:=.arr y0j true
abbrev H00:List BSh:=[B0c,B02]
abbrev H01:List BSh:=[.var [D0b,D00,D0j,D00,D07],B06,B05,B0n]
abbrev H02:List BSh:=[.var [D0a,D0r,D0f],.var [D01],B03,B03]
abbrev H03:List BSh:=[B0o,.gone,.gone,.var [D01],B03,B03]
abbrev U00:SS:=⟨[(0,D04)],[]⟩
abbrev U01:SS:=⟨[(0,D00)],[]⟩
abbrev U02:SS:=⟨[(0,D02)],[]⟩
abbrev U03:SS:=⟨[(0,D0e)],[B04]⟩
abbrev U04:SS:=⟨[(2,D04)],[]⟩
abbrev U05:SS:=⟨[(0,D08)],[]⟩
abbrev U06:SS:=⟨[(0,D0k)],[]⟩
abbrev U07:SS:=⟨[(4,D01),(5,D03)],[B0a,B0f,B0p]⟩
abbrev U08:SS:=⟨[(0,D04)],H00⟩
abbrev U09:SS:=⟨[(0,D06)],[]⟩
abbrev U0a:SS:=⟨[(0,D00)],[B01]⟩
abbrev U0b:SS:=⟨[(0,D0k)],[B04]⟩
abbrev U0c:SS:=⟨[(4,D04)],[B02]⟩
abbrev U0d:SS:=⟨[(0,D0n)],[]⟩
abbrev U0e:SS:=⟨[(4,D00)],[]⟩
abbrev U0f:SS:=⟨[],[]⟩
abbrev L00:List (Nat×Sh):=[(0,D00)]
abbrev F00:List FA:=[⟨false,⟨[(0,.d (.int .i64))],[.var [.fx (.ptr 3 0)],.var [.fn (.func 86) [.fx (.ptr 3 0)] []],.dat (.int .i64),.var [.d y07,.fx (.own .str 6 false),.fx (.own .str 7 false)],.gone,.gone,.arr .str false,.arr .str false]⟩⟩]
abbrev F01:List FA:=[⟨false,U00⟩]
abbrev F02:List FA:=[⟨false,U01⟩]
abbrev F03:List FA:=[⟨false,U02⟩]
abbrev F04:List FA:=[⟨false,U05⟩]
abbrev F05:List FA:=[⟨true,U03⟩,⟨false,U0b⟩]
abbrev F06:List FA:=[⟨false,U06⟩]
abbrev F07:List FA:=[⟨false,⟨[(0,.d y0q)],[]⟩⟩]
abbrev F08:List FA:=[⟨false,⟨[(0,D04)],[B01]⟩⟩]
abbrev F09:List FA:=[⟨false,⟨[(0,D04)],[B02]⟩⟩]
abbrev F0a:List FA:=[⟨false,⟨[(0,D04)],[B0d]⟩⟩]
abbrev F0b:List FA:=[⟨false,U08⟩]
abbrev F0c:List FA:=[⟨false,U09⟩]
abbrev C00:List CA:=[⟨.ret,⟨[(4,D00)],[B01]⟩⟩,⟨.exit 0,⟨[],[B01]⟩⟩]
abbrev C01:List CA:=[⟨.ret,⟨[(4,D00)],H00⟩⟩,⟨.exit 0,⟨[],H00⟩⟩]
abbrev C02:List CA:=[⟨.ret,U0e⟩,⟨.exit 0,U0f⟩]
abbrev I00:List Sh:=[D0h,D02,D02]
end Go.AM
