import Derived.Test.YtjmmcdbogbpedaaGreatDoorRGEnv
import Derived.Test.YtjmmcdbogbpedaaGreatDoorRGP
import Derived.Test.YtjmmcdbogbpedaaGreatDoorRGIns
import Derived.Shelf.Strings.SlTrimAscii
noncomputable section
namespace Go.Proofs.Tryz
open Go.AM Go.Plain
instance:EnvK E:=⟨envOK⟩
set_option linter.unusedVariables false
set_option maxRecDepth 100000
def qbj{U:Type}:Ent U:=⟨113,[.d y01,.d .str],[],F02,fun _ q=>zr q⟩
theorem qow{U:Type}(u:U):(qbj:Ent U).Sound E u:=qn8 ⟨_,func113,rfl,rfl⟩ (fun a c sep w=>strings_Join_none a c sep w) fun bk o c xs sep w h1 h2 h3 h4 h5=>strings_Join bk o c xs sep w h1 h2 h3 h4 h5
def qsy{U:Type}:Ent U:=⟨63,[.d .str],[],F02,fun _ q=>qmr q⟩
theorem q7m{U:Type}(u:U):(qsy:Ent U).Sound E u:=qzn ⟨_,func63,rfl,rfl⟩ fun s w h=>octet_Hex s w h
def qcn{U:Type}:Ent U:=⟨58,[.d .str],[],F00,fun _ q=>kq q⟩
theorem qox{U:Type}(u:U):(qcn:Ent U).Sound E u:=qzm ⟨_,func58,rfl,rfl⟩ qof
def qb5{U:Type}:Ent U:=⟨172,[.d .str,.d .str],[],[⟨false,U0q⟩],fun _ q=>zg q⟩
theorem qmc{U:Type}(u:U):(qb5:Ent U).Sound E u:=jnj ⟨_,func172,rfl,rfl⟩ fun s p w=>z3z s p w
def qb6{U:Type}:Ent U:=⟨193,[.d .str,.d (.int .u8)],[],F03,fun _ q=>jp q⟩
theorem qmd{U:Type}(u:U):(qb6:Ent U).Sound E u:=qfi ⟨_,func193,rfl,rfl⟩ fun s c w=>strings_IndexByte s c w
def qsx{U:Type}:Ent U:=⟨188,[.d .str,.d .str],[],[⟨false,⟨[(0,.tup [.d .str,.d .str,.d .bool])],[]⟩⟩],fun _ q=>qg9 q⟩
theorem q7l{U:Type}(u:U):(qsx:Ent U).Sound E u:=qr7 ⟨_,func188,rfl,rfl⟩ (List.mem_cons_self ..) fun s sep m w h1 h2=>strings_Cut s sep m w h1 h2
def qco{U:Type}:Ent U:=⟨189,[.d .str,.d .str],[],F02,fun _ q=>ym q⟩
theorem qoy{U:Type}(u:U):(qco:Ent U).Sound E u:=qf5 ⟨_,func189,rfl,rfl⟩ fun s cs w h1 h2=>Any.strings_TrimLeft_laid lays161 (by kernel_rfl) s cs w h1 h2
def qbi{U:Type}:Ent U:=⟨145,[.d (.int .i64)],[],F02,fun _ q=>xm q⟩
theorem qov{U:Type}(u:U):(qbi:Ent U).Sound E u:=qn7 ⟨_,func145,rfl,rfl⟩ (List.mem_cons_self ..) (by kernel_rfl) fun n h0 h1 w ht=>strconv_Itoa n h0 h1 w ht
def jhb{U:Type}:Ent U:=⟨79,[.d y0p],[],[⟨false,⟨[(0,.fx (.own y0l 0 false))],[B0w]⟩⟩],fun _ q=>z3r q⟩
theorem joe{U:Type}(u:U):(jhb:Ent U).Sound E u:=je5 fun l hl=>by
 refine qk.bodyR envOK func79 rfl rfl rfl ?_
 conv=>whnf
 intro b hb
 conv=>whnf
 refine qcg (fun h=> ?_) (fun h=> ?_)
 ·have e : l = [] := List.eq_nil_of_length_eq_zero (hb (by simpa using h))
  subst e
  conv=>whnf
  refine⟨[.emp (y0l) true],_,_, ?_,rfl,rfl⟩
  repeat' (first|exact trivial|exact rfl|exact .inl rfl|(exact .inr rfl)|refine And.intro ?_ ?_)
 ·conv => whnf
  refine And.intro (show qj (0+l.length) _ from⟨Nat.le_trans (Nat.mul_le_mul (show 0+l.length≤4294967296 by omega) (show _≤1024 from of_decide_eq_true (by kernel_rfl))) (by decide),by omega⟩) ?_
  conv=>whnf
  refine⟨[.old 1],_,_, ?_,rfl,rfl⟩
  repeat' (first|exact trivial|exact rfl|exact .inl rfl|(exact .inr rfl)|refine And.intro ?_ ?_)
def jha{U:Type}:Ent U:=⟨80,[.fx (.own y0l 0 false),.d (.int .i64),.fx (.own y0l 1 true)],[.arr y0l true,.arr y0l true],[⟨false,⟨[(0,.d y0p)],[B0l,B0w]⟩⟩],fun _ q=>z3q q⟩
theorem jod{U:Type}(u:U):(jha:Ent U).Sound E u:=q6s fun l i x hi hl=>jhx l i x hi hl
def q9t:SC E f9 0:=mL 5 ⟨[(30,D00),(3,D02),(28,.d y0a),(2,D04),(1,D06),(29,D00)],H03⟩ [⟨.exit 0,⟨[(3,D02),(2,D04),(1,D06)],H03⟩⟩] qid [5,12,19] [] []
def q56:SC E f9 0:=mL 12 ⟨[(53,D00),(3,D02),(51,D0c),(2,D04),(1,D06),(52,D00)],[B0e,B08,B0a,B0v,B0p]⟩ [⟨.exit 2,⟨[(3,D02),(2,D04),(1,D06)],[B0e,B08,B0a,B0v,B0p]⟩⟩] qdt [5,12,19] [] []
def q57:SC E f9 0:=mL 19 ⟨[(83,D00),(3,D02),(81,.d y0p),(2,D04),(82,D00)],[B0d,B08,B0v,B0p,B0w]⟩ [⟨.exit 4,⟨[(2,D02),(3,D04)],[B08,B0d,B0v,B0p,B0w]⟩⟩] qdu [5,12,19] [] []
def jku:SE E:=mF 9 f9 [D0w] [] [⟨false,⟨[(0,D0w)],[]⟩⟩] z0a [5,12,19] [] [q9t,q56,q57]
def q9p:SC E f64 0:=mL 5 ⟨[(3,D01),(4,D0r)],[]⟩ [⟨.exit 0,⟨[(4,D0r),(3,D01)],[]⟩⟩] qh3 [5,10,16,23] [] []
def q5v:SC E f64 0:=mL 10 ⟨[(5,D00),(4,D0r),(3,D01)],[]⟩ [⟨.exit 2,⟨[(3,D01)],[]⟩⟩] qdc [5,10,16,23] [] []
def jmq:SE E:=mF 114 f114 [] [] F07 z3x [] [] []
def jmf:SE E:=mF 154 f154 I00 [] F0c z3j [] [] []
def jlz:SE E:=mF 179 f179 [D0a,D00] [] F0c z2x [] [] []
def jgt:SE E:=mF 155 f155 [D0a,D00,D00,D00,D03] [] F0c z2g [] [jlz] []
def q9s:SC E f115 0:=mL 4 ⟨[(14,D00),(5,D02),(1,D01),(2,D04),(4,D06)],[B00,B00,B00]⟩ [⟨.exit 0,⟨[(5,D02),(2,D04),(4,D06)],[B00,B00,B00]⟩⟩] qia [4,15,25] [jmf,jgt] []
def q54:SC E f115 0:=mL 15 ⟨[(51,D00),(7,D02),(5,D04),(2,D06),(4,D0q)],[B00,B00,B00,B00]⟩ [⟨.exit 2,⟨[(2,D02),(7,D04),(4,D06)],[B00,B00,B00]⟩⟩] qdr [4,15,25] [jgt] []
def q55:SC E f115 0:=mL 25 ⟨[(119,D00),(2,D02),(7,D04),(4,D06)],[B00,B00,B00]⟩ [⟨.exit 4,⟨[(4,D02),(2,D04)],[B00,B00]⟩⟩] qds [4,15,25] [] []
def jkt:SE E:=mF 115 f115 [.d y0s,D01] [] F07 z09 [4,15,25] [] [q9s,q54,q55]
def q5w:SC E f64 0:=mL 16 ⟨[(3,D01),(6,D02)],[B00]⟩ [⟨.exit 4,⟨[(6,D02)],[B00]⟩⟩] qdd [5,10,16,23] [jkt] []
def q5x:SC E f64 0:=mL 23 ⟨[(46,D00),(7,D07),(45,.d y0s)],[B03]⟩ [⟨.exit 6,⟨[(7,D07)],[B03]⟩⟩] wi [5,10,16,23] [] []
def q1y:SE E:=⟨fun _=>qbj,fun _=>qow⟩
def jgj:SE E:=mF 64 f64 [D08] [] F02 z00 [5,10,16,23] [q1y,jmq] [q9p,q5v,q5w,q5x]
def q5q:SE E:=⟨fun _=>qsy,fun _=>q7m⟩
def jgw:SE E:=mF 24 f24 I00 [] F02 z2r [] [jgj,q5q] []
def jaj:SC E f109 0:=mL 3 ⟨[(8,D00),(0,D08),(1,D01),(7,D00)],[]⟩ C03 qi9 [3] [] []
def jgr:SE E:=mF 109 f109 [D08,D01] [] F03 Plain.z1c [3] [] [jaj]
def ui:SE E:=mF 61 f61 [D08,D01] [] F00 Plain.z0w [] [jgr] []
def jav:SC E f125 0:=mL 3 ⟨[(7,D00),(0,D08),(5,D08),(6,D00)],[]⟩ C02 qjl [3] [ui] []
def jle:SE E:=mF 125 f125 [D08] [] F00 z1o [3] [] [jav]
def jmm:SE E:=mF 105 f105 [.d y00,D02] [B04] F08 z3t [] [] []
def ja0:SC E f104 1:=mL 3 ⟨[(8,.d (.int .i64)),(0,.d y09),(1,.fn (.func 105) [] [.fx (.ptr 0 0)]),(7,.d (.int .i64))],[.dat .str]⟩ C04 qjq [3] [jmm] []
def jlj:SE E:=mF 104 f104 [D0c,.fn (.func 105) [] [.fx (.ptr 0 0)]] [B04] [⟨false,U0l⟩] z1t [3] [] [ja0]
def ql5:SE E:=⟨fun _=>qb6,fun _=>qmd⟩
def q98:SC E f173 0:=mL 7 ⟨[(18,D00),(4,.fx (.own (.int .u8) 0 true)),(0,D01),(17,D00)],[B03]⟩ [⟨.ret,⟨[(2,D01),(3,D00)],[]⟩⟩,⟨.exit 0,⟨[(4,.fx (.own (.int .u8) 0 true))],[B03]⟩⟩] qb2 [7] [ql5] []
def jk3:SE E:=mF 173 f173 I00 [] F04 z0y [7] [] [q98]
def ql4:SE E:=⟨fun _=>qb5,fun _=>qmc⟩
def jgv:SE E:=mF 148 f148 I00 [] F04 z2o [] [ql4,jk3] []
def jg2:SE E:=mF 106 f106 [D01,D01] [] F03 z2z [] [jgv,jgj] []
def qk5:SE E:=mF 57 f57 [D0c,D01] [] F04 z18 [] [jlj,jg2] []
def q9r:SC E f68 1:=mL 6 ⟨[(59,D00),(1,D0c),(57,D08),(0,D02),(58,D00)],H02⟩ [⟨.ret,U0p⟩,⟨.exit 0,⟨[(0,D02),(1,D0c)],H02⟩⟩] qh9 [6,16,28] [qk5] []
def qnf:SE E:=mF 164 f164 [D02] [B0t] [⟨true,U07⟩,⟨false,⟨[(0,D0k)],[B07]⟩⟩] z2j [] [] []
def qne:SE E:=mF 187 f187 [D02,D0k] [B0t] [⟨true,U07⟩,⟨false,⟨[(0,.tup [])],[B07]⟩⟩] z2e [] [qnf] []
def q5p:SE E:=⟨fun _=>qsx,fun _=>q7l⟩
def qsp:SE E:=mF 165 f165 [D02] [B0t] [⟨true,U07⟩,⟨false,⟨[(0,D01)],[B07]⟩⟩] z2l [] [qne,q5p] []
def jau:SC E f167 1:=mL 9 ⟨[(53,D00),(5,D04),(4,D01),(2,D06),(52,D00)],[B07,B06,B06]⟩ [⟨.exit 0,⟨[(2,D04),(5,D06)],[B07,B06,B06]⟩⟩] qjk [9] [] []
def qnd:SE E:=⟨fun _=>qco,fun _=>qoy⟩
def q85:SE E:=mF 167 f167 [D02] [B0t] F06 z1n [9] [qnd] [jau]
def q4e{U:Type}:Ent U:=⟨137,[.fx (.ptr 0 0),.d (.int .i64)],[.var [.d .str]],F06,fun _ q=>Plain.z0b q⟩
def jmt{U:Type}:Ent U:=⟨166,[.fx (.ptr 0 0),.agg [.d (.int .i64),.d (.int .i64),.d .str,.fx (.sl .val [] true),.fx (.sl .str [] true)],.d (.int .u8),.d (.int .i64)],[.var [.d .str]],F06,fun _ q=>Plain.z0i q⟩
def q9i{U:Type}:Cut U:=⟨3,⟨[(5,D04),(3,D00),(0,D02),(8,D06),(2,D0k)],[B07,B0m,B06,B0s,B09]⟩,[⟨.panic (.iface 203 (.d .unit)),⟨[],[B07]⟩⟩,⟨.exit 0,⟨[(8,D04),(5,D06),(2,D0k),(0,D02)],[B07,B06,B0m,B0s,B09]⟩⟩],fun _ q=>Plain.vp q⟩
def qld:Ent (Un Plain.qqc Plain.qie):={ (q4e:Ent (Un Plain.qqc Plain.qie)) with G:=fun u q=>u (.inl q) }
def qlf:Ent (Un Plain.qqc Plain.qie):={ (jmt:Ent (Un Plain.qqc Plain.qie)) with G:=fun u q=>u (.inr (.inl q)) }
def yj:Cut (Un Plain.qqc Plain.qie):={ (q9i:Cut (Un Plain.qqc Plain.qie)) with L:=fun u q=>u (.inr (.inr q)) }
theorem jnv u q:qdv u (.inl q)=Ent.runs E f137 [] 12 [(qnf.e _),(qsp.e _),qlf,(q85.e _)] [] u qld q:=by kernel_rfl
theorem jnx u q:qdv u (.inr (.inl q))=Ent.runs E f166 [3] 12 [(qne.e _)] [yj] u qlf q:=by kernel_rfl
theorem jcu u q:qdv u (.inr (.inr q))=Cut.go E ⟨f166.ntmps,1,false⟩ (qw f166) [3] 12 [(qnf.e _),(qne.e _),(qsp.e _),qld] [] u yj (fun q=>u (.inr (.inr q))) q:=by kernel_rfl
def z43: ∀a,Plain.qie a→Prop
 |(.inl x),y=>qbe E qld.f qld.ins qld.hin qld.outs x y
 |(.inr (.inl x)),y=>qbe E qlf.f qlf.ins qlf.hin qlf.outs x y
 |(.inr (.inr x)),y=>qfd E ⟨f166.ntmps,1,false⟩ (qw f166) yj.k yj.S yj.outs x y
theorem joq: ∀a y,wn Plain.qdv a=some y→z43 a y:=zo fun u hu a=>match a with
 |(.inl x)=>fun y h=>kw (fn:=f137) (es:=[(qnf.e _),(qsp.e _),qlf,(q85.e _)]) (cs:=[]) (e:=qld) envOK func137 rfl rfl rfl ⟨(qnf.s _ _),(qsp.s _ _),fun x y h=>hu (.inr (.inl x)) y h,(q85.s _ _),trivial⟩ trivial ((jnv u x).symm.trans h)
 |(.inr (.inl x))=>fun y h=>kw (fn:=f166) (es:=[(qne.e _)]) (cs:=[yj]) (e:=qlf) envOK func166 rfl rfl rfl ⟨(qne.s _ _),trivial⟩ ⟨fun x y h=>hu (.inr (.inr x)) y h,trivial⟩ ((jnx u x).symm.trans h)
 |(.inr (.inr x))=>fun y h=>zm (E:=E) (F:=⟨f166.ntmps,1,false⟩) (body:=qw f166) (k:=yj.k) (S:=yj.S) (outs:=yj.outs) (es:=[(qnf.e _),(qne.e _),(qsp.e _),qld]) (cs:=[]) envOK ⟨(qnf.s _ _),(qne.s _ _),(qsp.s _ _),fun x y h=>hu (.inl x) y h,trivial⟩ trivial (fun x y h=>hu (.inr (.inr x)) y h) ((jcu u x).symm.trans h)
theorem joa{U:Type}(u:U):(q4e:Ent U).Sound E u:=fun x y h=>joq (.inl x) y h
def jl2:SE E:=mF 198 f198 [D0k] [] F00 z35 [] [] []
def ja8:SC E f215 0:=mL 3 ⟨[(8,.d (.int .i64)),(0,.d y08),(1,.fn (.func 198) [] []),(7,.d (.int .i64))],[]⟩ C03 qjz [3] [jl2] []
def jls:SE E:=mF 215 f215 [.d y08,.fn (.func 198) [] []] [] F03 z25 [3] [] [ja8]
def jmh:SE E:=mF 197 f197 [.d y08,.fn (.func 198) [] []] [] F00 z3m [] [jls] []
def q36:SE E:=mF 180 f180 I00 [] F00 z27 [] [jmh] []
def jag:SC E f181 0:=mL 3 ⟨[(9,D00),(0,D08),(7,D08),(1,D00),(8,D00)],[]⟩ [⟨.ret,U03⟩,⟨.exit 0,⟨[(1,D00),(0,D08)],[]⟩⟩] qi8 [3] [q36] []
def q83:SE E:=mF 181 f181 [D08,D00] [] F00 z16 [3] [] [jag]
def jbg{U:Type}:Ent U:=⟨157,[.d .val,.d (.int .i64)],[],F00,fun _ q=>Plain.z02 q⟩
def jmx{U:Type}:Ent U:=⟨182,[.d y07,.fn (.func 183) [] [.fx (.ptr 0 0)]],[.dat (.int .i64)],F09,fun _ q=>Plain.z1a q⟩
def jmu{U:Type}:Ent U:=⟨199,[.d y07,.fn (.func 183) [] [.fx (.ptr 0 0)]],[.dat (.int .i64)],[⟨false,⟨[(0,D00)],[B0k]⟩⟩],fun _ q=>Plain.z0k q⟩
def q9j{U:Type}:Cut U:=⟨3,⟨[(8,.d (.int .i64)),(0,.d y07),(1,.fn (.func 183) [] [.fx (.ptr 0 0)]),(7,.d (.int .i64))],[.dat (.int .i64)]⟩,[⟨.ret,⟨[(4,D00)],[B0k]⟩⟩,⟨.exit 0,⟨[],[B0k]⟩⟩],fun _ q=>Plain.wq q⟩
def jmy{U:Type}:Ent U:=⟨183,[.d .val,.fx (.ptr 0 0)],[.dat (.int .i64)],F09,fun _ q=>Plain.z2a q⟩
def qk8:Ent (Un Plain.qdi Plain.qbc):={ (jbg:Ent (Un Plain.qdi Plain.qbc)) with G:=fun u q=>u (.inl q) }
def qlj:Ent (Un Plain.qdi Plain.qbc):={ (jmx:Ent (Un Plain.qdi Plain.qbc)) with G:=fun u q=>u (.inr (.inl q)) }
def qlg:Ent (Un Plain.qdi Plain.qbc):={ (jmu:Ent (Un Plain.qdi Plain.qbc)) with G:=fun u q=>u (.inr (.inr (.inl q))) }
def yk:Cut (Un Plain.qdi Plain.qbc):={ (q9j:Cut (Un Plain.qdi Plain.qbc)) with L:=fun u q=>u (.inr (.inr (.inr (.inl q)))) }
def qlk:Ent (Un Plain.qdi Plain.qbc):={ (jmy:Ent (Un Plain.qdi Plain.qbc)) with G:=fun u q=>u (.inr (.inr (.inr (.inr q)))) }
theorem jnp u q:zx u (.inl q)=Ent.runs E f157 [] 12 [(q36.e _),(q83.e _),qlj] [] u qk8 q:=by kernel_rfl
theorem jn1 u q:zx u (.inr (.inl q))=Ent.runs E f182 [] 12 [qlg] [] u qlj q:=by kernel_rfl
theorem jny u q:zx u (.inr (.inr (.inl q)))=Ent.runs E f199 [3] 12 [] [yk] u qlg q:=by kernel_rfl
theorem jcv u q:zx u (.inr (.inr (.inr (.inl q))))=Cut.go E ⟨f199.ntmps,1,false⟩ (qw f199) [3] 12 [qlk] [] u yk (fun q=>u (.inr (.inr (.inr (.inl q))))) q:=by kernel_rfl
theorem jn2 u q:zx u (.inr (.inr (.inr (.inr q))))=Ent.runs E f183 [] 12 [qk8] [] u qlk q:=by kernel_rfl
def z49: ∀a,Plain.qbc a→Prop
 |(.inl x),y=>qbe E qk8.f qk8.ins qk8.hin qk8.outs x y
 |(.inr (.inl x)),y=>qbe E qlj.f qlj.ins qlj.hin qlj.outs x y
 |(.inr (.inr (.inl x))),y=>qbe E qlg.f qlg.ins qlg.hin qlg.outs x y
 |(.inr (.inr (.inr (.inl x)))),y=>qfd E ⟨f199.ntmps,1,false⟩ (qw f199) yk.k yk.S yk.outs x y
 |(.inr (.inr (.inr (.inr x)))),y=>qbe E qlk.f qlk.ins qlk.hin qlk.outs x y
theorem jol: ∀a y,wn Plain.zx a=some y→z49 a y:=zo fun u hu a=>match a with
 |(.inl x)=>fun y h=>kw (fn:=f157) (es:=[(q36.e _),(q83.e _),qlj]) (cs:=[]) (e:=qk8) envOK func157 rfl rfl rfl ⟨(q36.s _ _),(q83.s _ _),fun x y h=>hu (.inr (.inl x)) y h,trivial⟩ trivial ((jnp u x).symm.trans h)
 |(.inr (.inl x))=>fun y h=>kw (fn:=f182) (es:=[qlg]) (cs:=[]) (e:=qlj) envOK func182 rfl rfl rfl ⟨fun x y h=>hu (.inr (.inr (.inl x))) y h,trivial⟩ trivial ((jn1 u x).symm.trans h)
 |(.inr (.inr (.inl x)))=>fun y h=>kw (fn:=f199) (es:=[]) (cs:=[yk]) (e:=qlg) envOK func199 rfl rfl rfl trivial ⟨fun x y h=>hu (.inr (.inr (.inr (.inl x)))) y h,trivial⟩ ((jny u x).symm.trans h)
 |(.inr (.inr (.inr (.inl x))))=>fun y h=>zm (E:=E) (F:=⟨f199.ntmps,1,false⟩) (body:=qw f199) (k:=yk.k) (S:=yk.S) (outs:=yk.outs) (es:=[qlk]) (cs:=[]) envOK ⟨fun x y h=>hu (.inr (.inr (.inr (.inr x)))) y h,trivial⟩ trivial (fun x y h=>hu (.inr (.inr (.inr (.inl x)))) y h) ((jcv u x).symm.trans h)
 |(.inr (.inr (.inr (.inr x))))=>fun y h=>kw (fn:=f183) (es:=[qk8]) (cs:=[]) (e:=qlk) envOK func183 rfl rfl rfl ⟨fun x y h=>hu (.inl x) y h,trivial⟩ trivial ((jn2 u x).symm.trans h)
theorem jn4{U:Type}(u:U):(jbg:Ent U).Sound E u:=fun x y h=>jol (.inl x) y h
def jkn:SE E:=⟨fun _=>jbg,fun _=>jn4⟩
def jl6:SE E:=mF 119 f119 [D0p] [] F00 z3a [] [jkn] []
def qsq:SE E:=mF 158 f158 I00 [] F02 z2p [] [] []
def jbk{U:Type}:Ent U:=⟨120,[.d .val],[],F02,fun _ q=>Plain.z07 q⟩
def q5t{U:Type}:Cut U:=⟨10,⟨[(23,D00),(3,D0j),(1,D04),(21,.d y07),(22,D00)],[B09,B06]⟩,[⟨.exit 1,⟨[(1,D02),(3,D0y)],[B06,B09]⟩⟩],fun _ q=>Plain.xu q⟩
def qlc:Ent (Un Plain.q1k Plain.qp1):={ (jbk:Ent (Un Plain.q1k Plain.qp1)) with G:=fun u q=>u (.inl q) }
def xf:Cut (Un Plain.q1k Plain.qp1):={ (q5t:Cut (Un Plain.q1k Plain.qp1)) with L:=fun u q=>u (.inr q) }
theorem jnu u q:ql2 u (.inl q)=Ent.runs E f120 [10] 12 [qbi,(qsq.e _),qbj] [xf] u qlc q:=by kernel_rfl
theorem q7i u q:ql2 u (.inr q)=Cut.go E ⟨f120.ntmps,0,false⟩ (qw f120) [10] 12 [qlc,(qsq.e _)] [] u xf (fun q=>u (.inr q)) q:=by kernel_rfl
def z45: ∀a,Plain.qp1 a→Prop
 |(.inl x),y=>qbe E qlc.f qlc.ins qlc.hin qlc.outs x y
 |(.inr x),y=>qfd E ⟨f120.ntmps,0,false⟩ (qw f120) xf.k xf.S xf.outs x y
theorem jop: ∀a y,wn Plain.ql2 a=some y→z45 a y:=zo fun u hu a=>match a with
 |(.inl x)=>fun y h=>kw (fn:=f120) (es:=[qbi,(qsq.e _),qbj]) (cs:=[xf]) (e:=qlc) envOK func120 rfl rfl rfl ⟨qov _,(qsq.s _ _),qow _,trivial⟩ ⟨fun x y h=>hu (.inr x) y h,trivial⟩ ((jnu u x).symm.trans h)
 |(.inr x)=>fun y h=>zm (E:=E) (F:=⟨f120.ntmps,0,false⟩) (body:=qw f120) (k:=xf.k) (S:=xf.S) (outs:=xf.outs) (es:=[qlc,(qsq.e _)]) (cs:=[]) envOK ⟨fun x y h=>hu (.inl x) y h,(qsq.s _ _),trivial⟩ trivial (fun x y h=>hu (.inr x) y h) ((q7i u x).symm.trans h)
theorem jn9{U:Type}(u:U):(jbk:Ent U).Sound E u:=fun x y h=>jop (.inl x) y h
def jkr:SE E:=⟨fun _=>jbk,fun _=>jn9⟩
def q37:SE E:=mF 66 f66 [D0p] [] F04 z2q [] [jl6,jkr] []
def q4f{U:Type}:Ent U:=⟨81,[.d .str],[],[⟨false,⟨[(0,D14)],[]⟩⟩],fun _ q=>Plain.z36 q⟩
theorem jn3 q:z36 q=Ent.runsD E f81 136 f136 [q4e,(q37.e _)] () q4f q:=by kernel_rfl
theorem joc{U:Type}(u:U):(q4f:Ent U).Sound E u:=jir (U:=Unit) (u:=()) (fn:=f81) (e:=q4f) [q4e,(q37.e _)] envOK func81 rfl rfl rfl func136 rfl rfl ⟨_,rfl,by kernel_rfl⟩ ⟨joa _,(q37.s _ _),trivial⟩ jn3
def jgq:SE E:=mF 138 f138 [D0p,D01,D00] [] [⟨false,⟨[(0,D14)],[]⟩⟩] z19 [] [jgr] []
def q91:SC E f82 0:=mL 8 ⟨[(49,D00),(11,D02),(47,.d y07),(2,D04),(9,D06),(48,D00)],H06⟩ [⟨.exit 0,⟨[(11,D02),(2,D04),(9,D06)],H06⟩⟩] qit [8,17] [jgq] []
def q6g:SC E f82 0:=mL 17 ⟨[(77,D00),(11,D02),(75,.d y07),(2,D04),(76,D00)],[B0n,B05,B0i,B09]⟩ [⟨.exit 2,⟨[(2,D02),(11,D04)],[B05,B0n,B0i,B09]⟩⟩] qd5 [8,17] [] []
def jk0:SE E:=mF 82 f82 [D0p] [] [⟨false,⟨[(0,D13)],[]⟩⟩] z0n [8,17] [jgq] [q91,q6g]
def q87:SE E:=mF 116 f116 I00 [] F00 z2h [] [jgv] []
def q95:SC E f65 0:=mL 5 ⟨[(11,D00),(1,D02),(9,D08),(10,D00)],[B0h]⟩ C0a qi0 [5] [q87,ui] []
def jmc:SE E:=mF 117 f117 [.d y03] [] F00 z3g [] [q87] []
def ja6:SC E f156 0:=mL 3 ⟨[(8,.d (.int .i64)),(0,.d y0b),(1,.fn (.func 117) [] []),(7,.d (.int .i64))],[]⟩ C03 qjx [3] [jmc] []
def jlq:SE E:=mF 156 f156 [.d y0b,.fn (.func 117) [] []] [] F03 z22 [3] [] [ja6]
def jl7:SE E:=mF 118 f118 [.d y0b,.fn (.func 117) [] []] [] F00 z3b [] [jlq] []
def jgo:SE E:=mF 65 f65 [D13] [] F00 z0t [5] [q87,jl7] [q95]
def q89:SE E:=mF 122 f122 I00 [] F05 z2k [] [] []
def ja9:SC E f121 0:=mL 4 ⟨[(11,.d (.int .i64)),(5,.fx (.ptr 0 0)),(1,.fn (.func 122) [] []),(9,.d y01),(4,.fx (.ptr 1 0)),(10,.d (.int .i64))],[.var [.d (.int .i64),.d (.int .i64),.d .str,.fx (.own .val 2 false),.d y01],.dat .val,.arr .val true]⟩ C06 qj0 [4] [q89] []
def jlt:SE E:=mF 121 f121 [D08,.fn (.func 122) [] []] [] F05 z26 [4] [] [ja9]
def jmp:SE E:=mF 124 f124 [.d y03] [] F05 z3w [] [q89] []
def ja7:SC E f123 0:=mL 4 ⟨[(11,.d (.int .i64)),(5,.fx (.ptr 0 0)),(1,.fn (.func 124) [] []),(9,.d y0b),(4,.fx (.ptr 1 0)),(10,.d (.int .i64))],[.var [.d (.int .i64),.d (.int .i64),.d .str,.fx (.own .val 2 false),.d y01],.dat .val,.arr .val true]⟩ C06 qjy [4] [jmp] []
def jlr:SE E:=mF 123 f123 [.d y0b,.fn (.func 124) [] []] [] F05 z23 [4] [] [ja7]
def jmd:SE E:=mF 67 f67 [D13] [] F05 z3h [] [jlt,q89,jlr] []
def jgu:SE E:=mF 25 f25 [D13] [] F04 z2n [] [jgo,jmd,q37] []
def jl3:SE E:=⟨fun _=>q4f,fun _=>joc⟩
def qso:SE E:=mF 37 f37 I00 [] [⟨false,U0b⟩] z28 [] [jl3,jk0,jgu] []
def jac:SC E f26 0:=mL 7 ⟨[(19,D00),(3,D0j),(17,.d y0b),(18,D00)],[B01]⟩ C07 qi5 [7] [ui] []
def qyr:SE E:=mF 26 f26 [D13] [] F0b z12 [7] [jgo] [jac]
def gw{U:Type}:Cut U:=⟨19,⟨[(47,D00),(3,D0q),(45,D08),(1,D01),(46,D00)],H00⟩,[⟨.exit 0,⟨[(1,D01),(3,D0q)],H00⟩⟩],fun _ q=>Plain.qe6 q⟩
theorem q7j self q:qd9 self q=Cut.go E ⟨f86.ntmps,3,false⟩ (qw f86) [19] 12 [(ui.e _)] [] () gw self q:=by kernel_rfl
theorem q7r{U:Type}(u:U):(gw:Cut U).Sound E ⟨f86.ntmps,3,false⟩ (qw f86) u:=qbo (S:=(gw (U:=Unit)).S) (outs:=(gw (U:=Unit)).outs) [(ui.e _)] [] envOK ⟨(ui.s _ _),trivial⟩ trivial q7j
def jbl{U:Type}:Ent U:=⟨140,[.d .str,.fx (.ptr 0 0),.fx (.ptr 1 0),.fx (.ptr 2 0)],[.var [.fx (.ptr 3 0)],.var [.fn (.func 86) [.fx (.ptr 3 0)] []],.dat (.int .i64),.var [.d y09,.fx (.own .str 4 false),.fx (.own .str 5 false)],.arr .str false,.arr .str false],F01,fun _ q=>Plain.z0c q⟩
def jmw{U:Type}:Ent U:=⟨86,[.fx (.ptr 0 0),.d .str,.d (.int .i64)],[.var [.d y09,.fx (.own .str 1 false),.fx (.own .str 2 false)],.arr .str false,.arr .str false],[⟨false,⟨[(0,D00)],[.var [D0c,D09,D0d],B0l,B0l,B01,B01]⟩⟩],fun _ q=>Plain.z0v q⟩
def jmv{U:Type}:Ent U:=⟨70,[.d y01,.fn (.func 140) [] [.fx (.ptr 0 0),.fx (.ptr 1 0),.fx (.ptr 2 0)]],[.var [.fx (.ptr 3 0)],.var [.fn (.func 86) [.fx (.ptr 3 0)] []],.dat (.int .i64),.var [.d y09,.fx (.own .str 4 false),.fx (.own .str 5 false)],.arr .str false,.arr .str false],F01,fun _ q=>Plain.z0p q⟩
def q9k{U:Type}:Cut U:=⟨3,⟨[(10,.d (.int .i64)),(1,.fn (.func 140) [] [.fx (.ptr 0 0),.fx (.ptr 1 0),.fx (.ptr 2 0)]),(8,.d y01),(9,.d (.int .i64))],[.var [.fx (.ptr 3 0)],.var [.fn (.func 86) [.fx (.ptr 3 0)] []],.dat (.int .i64),.var [.d y09,.fx (.own .str 6 false),.fx (.own .str 7 false)],.gone,.gone,.arr .str false,.arr .str false]⟩,[⟨.ret,⟨[(4,.d (.int .i64))],[.var [.fx (.ptr 3 0)],.var [.fn (.func 86) [.fx (.ptr 3 0)] []],.dat (.int .i64),.var [.d y09,.fx (.own .str 6 false),.fx (.own .str 7 false)],.gone,.gone,.arr .str false,.arr .str false]⟩⟩,⟨.exit 0,⟨[],[.var [.fx (.ptr 3 0)],.var [.fn (.func 86) [.fx (.ptr 3 0)] []],.dat (.int .i64),.var [.d y09,.fx (.own .str 6 false),.fx (.own .str 7 false)],.gone,.gone,.arr .str false,.arr .str false]⟩⟩],fun _ q=>Plain.yv q⟩
def qle:Ent (Un Plain.qif Plain.qdw):={ (jbl:Ent (Un Plain.qif Plain.qdw)) with G:=fun u q=>u (.inl q) }
def qli:Ent (Un Plain.qif Plain.qdw):={ (jmw:Ent (Un Plain.qif Plain.qdw)) with G:=fun u q=>u (.inr (.inl q)) }
def qlh:Ent (Un Plain.qif Plain.qdw):={ (jmv:Ent (Un Plain.qif Plain.qdw)) with G:=fun u q=>u (.inr (.inr (.inl q))) }
def yl:Cut (Un Plain.qif Plain.qdw):={ (q9k:Cut (Un Plain.qif Plain.qdw)) with L:=fun u q=>u (.inr (.inr (.inr q))) }
theorem jnw u q:qak u (.inl q)=Ent.runs E f140 [] 12 [(ui.e _),qli] [] u qle q:=by kernel_rfl
theorem jn0 u q:qak u (.inr (.inl q))=Ent.runs E f86 [19] 12 [(qk5.e _),(qso.e _),qlh,(qyr.e _)] [gw] u qli q:=by kernel_rfl
theorem jnz u q:qak u (.inr (.inr (.inl q)))=Ent.runs E f70 [3] 12 [] [yl] u qlh q:=by kernel_rfl
theorem jcw u q:qak u (.inr (.inr (.inr q)))=Cut.go E ⟨f70.ntmps,6,false⟩ (qw f70) [3] 12 [qle] [] u yl (fun q=>u (.inr (.inr (.inr q)))) q:=by kernel_rfl
def z40: ∀a,Plain.qdw a→Prop
 |(.inl x),y=>qbe E qle.f qle.ins qle.hin qle.outs x y
 |(.inr (.inl x)),y=>qbe E qli.f qli.ins qli.hin qli.outs x y
 |(.inr (.inr (.inl x))),y=>qbe E qlh.f qlh.ins qlh.hin qlh.outs x y
 |(.inr (.inr (.inr x))),y=>qfd E ⟨f70.ntmps,6,false⟩ (qw f70) yl.k yl.S yl.outs x y
theorem jor: ∀a y,wn Plain.qak a=some y→z40 a y:=zo fun u hu a=>match a with
 |(.inl x)=>fun y h=>kw (fn:=f140) (es:=[(ui.e _),qli]) (cs:=[]) (e:=qle) envOK func140 rfl rfl rfl ⟨(ui.s _ _),fun x y h=>hu (.inr (.inl x)) y h,trivial⟩ trivial ((jnw u x).symm.trans h)
 |(.inr (.inl x))=>fun y h=>kw (fn:=f86) (es:=[(qk5.e _),(qso.e _),qlh,(qyr.e _)]) (cs:=[gw]) (e:=qli) envOK func86 rfl rfl rfl ⟨(qk5.s _ _),(qso.s _ _),fun x y h=>hu (.inr (.inr (.inl x))) y h,(qyr.s _ _),trivial⟩ ⟨q7r _,trivial⟩ ((jn0 u x).symm.trans h)
 |(.inr (.inr (.inl x)))=>fun y h=>kw (fn:=f70) (es:=[]) (cs:=[yl]) (e:=qlh) envOK func70 rfl rfl rfl trivial ⟨fun x y h=>hu (.inr (.inr (.inr x))) y h,trivial⟩ ((jnz u x).symm.trans h)
 |(.inr (.inr (.inr x)))=>fun y h=>zm (E:=E) (F:=⟨f70.ntmps,6,false⟩) (body:=qw f70) (k:=yl.k) (S:=yl.S) (outs:=yl.outs) (es:=[qle]) (cs:=[]) envOK ⟨fun x y h=>hu (.inl x) y h,trivial⟩ trivial (fun x y h=>hu (.inr (.inr (.inr x))) y h) ((jcw u x).symm.trans h)
theorem job{U:Type}(u:U):(jbl:Ent U).Sound E u:=fun x y h=>jor (.inl x) y h
def jkv:SE E:=⟨fun _=>jbl,fun _=>job⟩
def ja5:SC E f70 4:=mL 3 ⟨[(10,.d (.int .i64)),(1,.fn (.func 140) [] [.fx (.ptr 0 0),.fx (.ptr 1 0),.fx (.ptr 2 0)]),(8,.d y01),(9,.d (.int .i64))],[.var [.fx (.ptr 3 0)],.var [.fn (.func 86) [.fx (.ptr 3 0)] []],.dat (.int .i64),.var [.d y09,.fx (.own .str 4 false),.fx (.own .str 5 false)],.arr .str false,.arr .str false]⟩ [⟨.ret,⟨[(4,.d (.int .i64))],[.var [.fx (.ptr 3 0)],.var [.fn (.func 86) [.fx (.ptr 3 0)] []],.dat (.int .i64),.var [.d y09,.fx (.own .str 4 false),.fx (.own .str 5 false)],.arr .str false,.arr .str false]⟩⟩,⟨.exit 0,⟨[],[.var [.fx (.ptr 3 0)],.var [.fn (.func 86) [.fx (.ptr 3 0)] []],.dat (.int .i64),.var [.d y09,.fx (.own .str 4 false),.fx (.own .str 5 false)],.arr .str false,.arr .str false]⟩⟩] qjw [3] [jkv] []
def jlp:SE E:=mF 70 f70 [D08,.fn (.func 140) [] [.fx (.ptr 0 0),.fx (.ptr 1 0),.fx (.ptr 2 0)]] [.var [.fx (.ptr 3 0)],.var [.fn (.func 86) [.fx (.ptr 3 0)] []],B0k,B0g] [⟨false,⟨[(0,.d (.int .i64))],[.var [.fx (.ptr 3 0)],.var [.fn (.func 86) [.fx (.ptr 3 0)] []],.dat (.int .i64),.var [.d y09,.fx (.own .str 4 false),.fx (.own .str 5 false)],.arr .str false,.arr .str false]⟩⟩] z1z [3] [] [ja5]
def q6k:SC E f86 1:=mL 19 ⟨[(47,D00),(3,D04),(45,D08),(1,D01),(46,D00)],H04⟩ [⟨.exit 0,⟨[(1,D01),(3,D04)],H04⟩⟩] qea [19] [ui] []
def jlo:SE E:=mF 86 f86 [D02,D01,D00] [B0g] [⟨false,⟨[(0,D00)],[.var [D0c,D0y,D0l],B01,B01]⟩⟩] z1y [19] [qk5,qso,jlp,qyr] [q6k]
def jg3:SE E:=mF 39 f39 [D0c,D01] [] [⟨false,⟨[(0,.tup [.d (.pair y01 y01),.d (.int .i64)])],[]⟩⟩] z30 [] [jlo] []
def jmj:SE E:=mF 83 f83 [D01,D02] [B0f,B02] F0a z3o [] [ui] []
def ja3:SC E f139 2:=mL 3 ⟨[(8,.d (.int .i64)),(0,.d y01),(1,.fn (.func 83) [] [.fx (.ptr 0 0)]),(7,.d (.int .i64))],[.var [.fx (.ptr 1 0)],.dat y0l]⟩ C05 qjt [3] [jmj] []
def jlm:SE E:=mF 139 f139 [D08,D11] [B0f,B02] [⟨false,⟨[(0,D00)],H01⟩⟩] z1w [3] [] [ja3]
def jl8:SE E:=mF 85 f85 [D08,D11] [B0f,B02] F0a z3c [] [jlm] []
def jmk:SE E:=mF 84 f84 [D01,D02] [B0f,B02] F0a z3p [] [ui] []
def ja4:SC E f139 2:=mL 3 ⟨[(8,.d (.int .i64)),(0,.d y01),(1,.fn (.func 84) [] [.fx (.ptr 0 0)]),(7,.d (.int .i64))],[.var [.fx (.ptr 1 0)],.dat y0l]⟩ C05 qju [3] [jmk] []
def jln:SE E:=mF 139 f139 [D08,D12] [B0f,B02] [⟨false,⟨[(0,D00)],H01⟩⟩] z1x [3] [] [ja4]
def jl9:SE E:=mF 85 f85 [D08,D12] [B0f,B02] F0a z3d [] [jln] []
def jgz:SE E:=mF 38 f38 [D02,D13] H02 [⟨false,⟨[(0,D03)],H02⟩⟩] z2v [] [qyr,jl8,jl9] []
def q52:SC E f68 1:=mL 16 ⟨[(78,D00),(0,D02),(1,D0c),(76,D08),(77,D00)],H02⟩ [⟨.ret,U0p⟩,⟨.exit 2,⟨[(0,D02)],H02⟩⟩] qdp [6,16,28] [qk5,qso,jg3,jgz] []
def jao:SC E f72 0:=mL 3 ⟨[(7,D00),(0,D01),(6,D00)],[]⟩ C01 qje [3] [jg4] []
def jk9:SE E:=mF 72 f72 I00 [] F00 z1h [3] [] [jao]
def q53:SC E f68 1:=mL 28 ⟨[(117,D00),(0,D02),(115,D0c),(116,D00)],H02⟩ [⟨.ret,U0p⟩,⟨.exit 4,⟨[],H02⟩⟩] qdq [6,16,28] [jk9,ui] []
def uh:SE E:=⟨fun _=>qcn,fun _=>qox⟩
def jks:SE E:=mF 68 f68 [D02,D0c] H02 [⟨false,⟨[(0,D03)],H02⟩⟩] z08 [6,16,28] [uh,jle] [q9r,q52,q53]
def jaa:SC E f27 0:=mL 3 ⟨[(9,D00),(1,D02),(7,.d y0p),(8,D00)],[B0a]⟩ [⟨.ret,U01⟩,⟨.exit 0,⟨[(1,D02)],[B0a]⟩⟩] qi3 [3] [jks] []
def jmo:SE E:=mF 160 f160 [.d y00,D02] [B04] F08 z3v [] [] []
def ja2:SC E f104 1:=mL 3 ⟨[(8,.d (.int .i64)),(0,.d y09),(1,.fn (.func 160) [] [.fx (.ptr 0 0)]),(7,.d (.int .i64))],[.dat .str]⟩ C04 qjs [3] [jmo] []
def jll:SE E:=mF 104 f104 [D0c,D0x] [B04] [⟨false,U0l⟩] z1v [3] [] [ja2]
def jmi:SE E:=mF 159 f159 [D0c,D0x] [B04] [⟨false,U0l⟩] z3n [] [jll] []
def jlw:SE E:=mF 126 f126 [.d y0m,D01] [] F03 z2c [] [jmi] []
def q9w:SC E f69 0:=mL 3 ⟨[(10,D00),(1,D02),(8,D0c),(9,D00)],[B0c]⟩ C09 qil [3,12] [jg2,jlw] []
def q6c:SC E f69 0:=mL 12 ⟨[(39,D00),(1,D02),(37,.d y0a),(38,D00)],[B0c]⟩ C0b qd1 [3,12] [] []
def jam:SC E f127 0:=mL 4 U0c C08 qjc [4] [] []
def jk7:SE E:=mF 127 f127 [.d y0m] [] F03 z1f [4] [] [jam]
def jkx:SE E:=mF 69 f69 [.d y0m] [] F00 z0g [3,12] [jk7] [q9w,q6c]
def q82:SE E:=mF 27 f27 [D0w] [] F00 z10 [3] [jkx] [jaa]
def q97:SC E f60 0:=mL 3 ⟨[(1,D01),(11,D00),(9,.d y0p),(2,D02),(10,D00)],[B0a]⟩ [⟨.ret,⟨[(4,D00),(5,D03)],[]⟩⟩,⟨.exit 0,⟨[(2,D02)],[B0a]⟩⟩] qi2 [3] [] []
def q35:SE E:=mF 60 f60 [D0w,D01] [] [⟨false,⟨[(0,.tup [.d (.int .i64),.d .bool])],[]⟩⟩] z0x [3] [] [q97]
def jg0:SE E:=mF 40 f40 [D0c] [] [⟨false,⟨[(0,.fs y00)],[]⟩⟩] z2w [] [] []
def jax:SC E f41 0:=mL 8 ⟨[(28,D00),(10,D00),(26,D0c),(6,D02),(3,D04),(2,D01),(1,D01),(27,D00)],[B0c,B0c]⟩ [⟨.exit 0,⟨[(6,D02),(3,D04),(2,D01),(1,D01),(10,D00)],[B0c,B0c]⟩⟩] qjn [8] [] []
def jlg:SE E:=mF 41 f41 [.d y0m,D01,D01] [] [⟨false,⟨[(0,.tup [.d y0m,.d (.int .i64)])],[]⟩⟩] z1q [8] [qk5,jg0] [jax]
def jmn:SE E:=mF 87 f87 [D08] [] [⟨false,⟨[(0,.fs .str)],[]⟩⟩] z3u [] [] []
def jg1:SE E:=mF 42 f42 [D08,D01] [] F0b z2y [] [ui,jmn] []
def jl4:SE E:=mF 36 f36 [D02,D04,D06,D0q,.fx (.ptr 4 0)] [B02,B04,B0a,B04,B0c] [⟨false,⟨[(0,D00)],[B02,B04,B0a,B04,B0c]⟩⟩] z38 [] [qso,jgz,jg0,jg3,jlg,jg1] []
def jg6:SE E:=⟨fun _=>jhb,fun _=>joe⟩
def jg5:SE E:=⟨fun _=>jha,fun _=>jod⟩
def jmb:SE E:=mF 35 f35 [D0w,D01,D03,.fn (.func 36) [] [.fx (.ptr 0 0),.fx (.ptr 1 0),.fx (.ptr 2 0),.fx (.ptr 3 0)]] [B04,B0a,B04,B0c] [⟨false,⟨[(0,D0v)],[B04,B0a,B04,B0c]⟩⟩] z3f [] [q82,uh,q35,jl4,jg6,jg5] []
def jlu:SE E:=mF 10 f10 [D0w,D01,D01] [] [⟨false,⟨[(0,.tup [.d y0r,.d .str,.d (.int .i64)])],[]⟩⟩] z29 [] [jgw,jmb] []
def jma:SE E:=mF 56 f56 [D02,D04,D06] [B02,B0a,B04] [⟨false,⟨[(0,D00)],[B02,B0a,B04]⟩⟩] z3e [] [qk5,jg1] []
def jml:SE E:=mF 35 f35 [D0w,D01,D03,.fn (.func 56) [] [.fx (.ptr 0 0),.fx (.ptr 1 0)]] [B0a,B04] [⟨false,⟨[(0,D0v)],[B0a,B04]⟩⟩] z3s [] [q82,uh,q35,jma,jg6,jg5] []
def jlx:SE E:=mF 17 f17 [D0w,D01,D01] [] [⟨false,⟨[(0,D0v)],[]⟩⟩] z2d [] [jml] []
def jgx:SE E:=mF 30 f30 [D0w,D01,D01] [] F00 z2s [] [q35,ui] []
def jme:SE E:=mF 11 f11 [] [] F00 z3i [] [jgw,jgu,jlu,jlx,jgx] []
def jly:SE E:=mF 150 f150 [D0k] [] F03 z2u [] [] []
def jah:SC E f110 0:=mL 4 ⟨[(5,D00),(0,D01),(4,D07)],[B03]⟩ [⟨.ret,⟨[(2,D01),(3,D03)],[]⟩⟩,⟨.exit 0,⟨[(0,D01),(4,D07)],[B03]⟩⟩] qb3 [4] [jly] []
def jk5:SE E:=mF 110 f110 I00 [] [⟨false,U0q⟩] z17 [4] [] [jah]
def q86:SE E:=mF 62 f62 I00 [] [⟨false,U0q⟩] z2f [] [jk5] []
def qay{U:Type}:Cut U:=⟨5,⟨[(3,D07),(4,D0r)],[B03]⟩,[⟨.exit 0,⟨[(4,D0r),(3,D07)],[B03]⟩⟩],fun _ q=>Plain.qpx q⟩
theorem jcs self q:qh7 self q=Cut.go Eb ⟨f55.ntmps,0,false⟩ (qw f55) [5,11,20,27] 12 [] [] () qay self q:=by kernel_rfl
theorem jcy{U:Type}(u:U):(qay:Cut U).Sound Eb ⟨f55.ntmps,0,false⟩ (qw f55) u:=qbo (S:=(qay (U:=Unit)).S) (outs:=(qay (U:=Unit)).outs) [] [] qnv trivial trivial jcs
def gt{U:Type}:Cut U:=⟨11,⟨[(6,D00),(5,D0r),(4,D0r),(3,D07)],[B03]⟩,[⟨.exit 2,⟨[(3,D07)],[B03]⟩⟩],fun _ q=>Plain.qew q⟩
theorem q7e self q:qdl self q=Cut.go Eb ⟨f55.ntmps,0,false⟩ (qw f55) [5,11,20,27] 12 [] [] () gt self q:=by kernel_rfl
theorem q7o{U:Type}(u:U):(gt:Cut U).Sound Eb ⟨f55.ntmps,0,false⟩ (qw f55) u:=qbo (S:=(gt (U:=Unit)).S) (outs:=(gt (U:=Unit)).outs) [] [] qnv trivial trivial q7e
def q9c:SE E:=mF 101 f101 [] [] F0d z3y [] [] []
def q9b:SE E:=mF 102 f102 [] [] F0d z3k [] [] []
def q5y:SC E f103 0:=mL 11 ⟨[(10,D00),(8,D00),(2,D01),(9,D0a),(1,D0g),(0,D0g),(7,D0b)],[B00]⟩ [⟨.exit 2,⟨[(2,D01),(1,D0g),(0,D0g),(8,D00),(9,D0a),(7,D0b)],[B00]⟩⟩] qde [4,11,17,28,35] [] []
def q9q:SC E f103 0:=mL 4 ⟨[(8,D00),(2,D01),(7,D0b),(1,D0g),(0,D0g)],[B00]⟩ [⟨.exit 0,U0e⟩] qh6 [4,11,17,28,35] [] [q5y]
def q9u:SC E f146 0:=mL 4 ⟨[(6,D00),(5,D0a),(0,D0a),(1,D00)],[]⟩ [⟨.exit 0,⟨[(5,D0a),(0,D0a),(1,D00)],[]⟩⟩] qih [4,11] [] []
def q58:SC E f146 0:=mL 11 ⟨[(8,D00),(7,D0a),(5,D0a),(0,D0a)],[]⟩ [⟨.exit 2,⟨[(7,D0a),(5,D0a),(0,D0a)],[]⟩⟩] qdx [4,11] [] []
def jgl:SE E:=mF 146 f146 [D0a,D00] [] F0c z0d [4,11] [] [q9u,q58]
def q5z:SC E f103 0:=mL 17 ⟨[(11,D00),(7,D0b),(1,D0g),(0,D0g)],[B00]⟩ [⟨.exit 4,U0e⟩] qdf [4,11,17,28,35] [jgl] []
def jmg:SE E:=mF 147 f147 [D0g,D0a,D0a] [] F0d z3l [] [jgl] []
def q50:SC E f103 0:=mL 28 ⟨[(17,D00),(7,D0b),(1,D0g),(16,D0g),(0,D0g)],[B00]⟩ [⟨.exit 6,⟨[(16,D0g),(0,D0g)],[]⟩⟩] qdg [4,11,17,28,35] [jmg] []
def q51:SC E f103 0:=mL 35 ⟨[(19,D00),(16,D0g),(0,D0g),(18,D0b)],[B00]⟩ [⟨.exit 8,⟨[(18,D0b)],[B00]⟩⟩] qdh [4,11,17,28,35] [] []
def q8z:SE E:=mF 103 f103 [D0g,D0g,D01] [] F0d z01 [4,11,17,28,35] [] [q9q,q5z,q50,q51]
def gu{U:Type}:Cut U:=⟨20,⟨[(9,D00),(3,D07),(8,D0g),(7,D0g)],[.arr (.int .u8) false]⟩,[⟨.exit 4,⟨[(7,D0g)],[]⟩⟩],fun _ q=>Plain.qex q⟩
theorem q7f self q:qdm self q=Cut.go Eb ⟨f55.ntmps,0,false⟩ (qw f55) [5,11,20,27] 12 [(q8z.e _)] [] () gu self q:=by kernel_rfl
theorem q7p{U:Type}(u:U):(gu:Cut U).Sound Eb ⟨f55.ntmps,0,false⟩ (qw f55) u:=qbo (S:=(gu (U:=Unit)).S) (outs:=(gu (U:=Unit)).outs) [(q8z.e _)] [] qnv ⟨((q8z.s _ _)).env rfl,trivial⟩ trivial q7f
def gv{U:Type}:Cut U:=⟨27,⟨[(63,D00),(10,D07),(61,D0g),(62,D00)],[B03]⟩,[⟨.exit 6,⟨[(10,D07)],[B03]⟩⟩],fun _ q=>Plain.gn q⟩
theorem q7g self q:qdn self q=Cut.go Eb ⟨f55.ntmps,0,false⟩ (qw f55) [5,11,20,27] 12 [] [] () gv self q:=by kernel_rfl
theorem q7q{U:Type}(u:U):(gv:Cut U).Sound Eb ⟨f55.ntmps,0,false⟩ (qw f55) u:=qbo (S:=(gv (U:=Unit)).S) (outs:=(gv (U:=Unit)).outs) [] [] qnv trivial trivial q7g
def qy0{U:Type}:Ent U:=⟨55,[.d .str],[],F02,fun _ q=>Plain.z04 q⟩
theorem jnr q:z04 q=Ent.runs Eb f55 [5,11,20,27] 12 [(q9c.e _),(q9b.e _)] [qay,gt,gu,gv] () qy0 q:=by kernel_rfl
theorem jn6{U:Type}(u:U):(qy0:Ent U).Sound E u:=(jnl (fn:=f55) (e:=qy0) [(q9c.e _),(q9b.e _)] [qay,gt,gu,gv] qnv func55 rfl rfl rfl ⟨((q9c.s _ _)).env rfl,((q9b.s _ _)).env rfl,trivial⟩ ⟨jcy _,q7o _,q7p _,q7q _,trivial⟩ jnr:(qy0:Ent Unit).Sound Eb ()).env rfl
def jgk:SE E:=⟨fun _=>qy0,fun _=>jn6⟩
def jl0:SE E:=mF 88 f88 [D01,D01] [] F00 z33 [] [q86,jgk] []
def jat:SC E f52 0:=mL 3 ⟨[(10,D00),(1,D01),(8,D0c),(9,D00)],[]⟩ C03 qjj [3] [] []
def jld:SE E:=mF 52 f52 [.d y0m,D01] [] F03 z1m [3] [] [jat]
def q9v:SC E f43 0:=mL 3 ⟨[(11,D00),(1,D02),(9,D0c),(10,D00)],[B0c]⟩ C09 qik [3,13] [jl0,jld] []
def q6b:SC E f43 0:=mL 13 ⟨[(40,D00),(1,D02),(5,D00),(38,.d y0a),(39,D00)],[B0c]⟩ C0b qd0 [3,13] [] []
def jba:SC E f53 0:=mL 4 U0c C08 q5i [4] [] []
def jlv:SE E:=mF 53 f53 [.d y0m] [] F03 z2b [4] [] [jba]
def jkw:SE E:=mF 43 f43 [.d y0m] [] F00 z0f [3,13] [jlv] [q9v,q6b]
def jap:SC E f47 0:=mL 5 ⟨[(7,D00),(6,D01),(5,D0j),(0,D01),(1,D0k)],[B09]⟩ [⟨.exit 0,⟨[(6,D01),(5,D0j)],[B09]⟩⟩] qjf [5] [] []
def jla:SE E:=mF 47 f47 [D01,D0k] [] F0b z1i [5] [] [jap]
def q9a:SE E:=mF 93 f93 [D0k] [] F00 z2m [] [] []
def jaz:SC E f94 0:=mL 6 U09 C01 qjp [6] [] []
def jli:SE E:=mF 94 f94 I00 [] F00 z1s [6] [] [jaz]
def jal:SC E f48 0:=mL 7 ⟨[(4,D00),(0,D01),(3,D01)],[]⟩ C02 qjb [7] [q9a,jli] []
def jk6:SE E:=mF 48 f48 I00 [] F00 z1e [7] [q9a] [jal]
def jas:SC E f14 0:=mL 3 ⟨[(8,D00),(6,D08),(0,D01),(7,D00)],[]⟩ C01 qji [3] [jk6] []
def jlc:SE E:=mF 14 f14 I00 [] F00 z1l [3] [jla] [jas]
def jad:SC E f22 0:=mL 3 ⟨[(12,D00),(1,D01),(10,D0c),(11,D00)],[]⟩ [⟨.ret,⟨[(4,D01),(5,D00)],[]⟩⟩,⟨.exit 0,U05⟩] qi6 [3] [q86,jgk] []
def qsm:SE E:=mF 22 f22 [D0c,D01] [] F04 z13 [3] [] [jad]
def q94:SC E f23 0:=mL 3 U06 C00 qiz [3] [] []
def qyp:SE E:=mF 23 f23 [D08,D01] [] F00 z0s [3] [] [q94]
def jay:SC E f89 0:=mL 3 ⟨[(11,D00),(0,D08),(1,D0c),(9,D08),(10,D00)],[]⟩ C00 qjo [3] [qsm,qyp] []
def jlh:SE E:=mF 89 f89 [D08,D0c] [] F00 z1r [3] [] [jay]
def jak:SC E f168 0:=mL 6 ⟨[(4,D02),(5,D00),(1,D00),(0,D01)],[B0r]⟩ [⟨.ret,U0o⟩,⟨.exit 0,U0o⟩] qja [6] [] []
def qsn:SE E:=mF 168 f168 [D01,D00] [] [⟨false,U0k⟩] z1d [6] [] [jak]
def jai:SC E f169 0:=mL 4 ⟨[(4,D02),(1,D00),(0,D01),(5,D00),(6,D00)],[B0r]⟩ [⟨.ret,U0o⟩,⟨.exit 0,⟨[(4,D02),(1,D00),(5,D00),(6,D00),(0,D01)],[B0r]⟩⟩] qb4 [4] [] []
def qnc:SE E:=⟨fun _=>qbi,fun _=>qov⟩
def q84:SE E:=mF 169 f169 [D01,D00] [] [⟨false,U0k⟩] z1b [4] [qnc] [jai]
def jbi{U:Type}:Ent U:=⟨141,[.d .str,.d (.int .i64),.d (.int .i64)],[],[⟨false,U0k⟩],fun _ q=>Plain.z05 q⟩
def q5s{U:Type}:Cut U:=⟨20,⟨[(6,D02),(7,D04),(0,D01),(8,D0k),(2,D00),(1,D00)],[B0r,.var [D00,D00,D01,D0z,D09],B0s,B09]⟩,[⟨.ret,⟨[(6,D02)],[B0r]⟩⟩,⟨.exit 0,⟨[(6,D02)],[B0r]⟩⟩],fun _ q=>Plain.jm q⟩
def qla:Ent (Un Plain.q1i Plain.qpy):={ (jbi:Ent (Un Plain.q1i Plain.qpy)) with G:=fun u q=>u (.inl q) }
def xe:Cut (Un Plain.q1i Plain.qpy):={ (q5s:Cut (Un Plain.q1i Plain.qpy)) with L:=fun u q=>u (.inr q) }
theorem jns u q:ql0 u (.inl q)=Ent.runs E f141 [20] 12 [(qsn.e _),(q84.e _)] [xe] u qla q:=by kernel_rfl
theorem q7h u q:ql0 u (.inr q)=Cut.go E ⟨f141.ntmps,0,false⟩ (qw f141) [20] 12 [(qsn.e _),qla] [] u xe (fun q=>u (.inr q)) q:=by kernel_rfl
def z47: ∀a,Plain.qpy a→Prop
 |(.inl x),y=>qbe E qla.f qla.ins qla.hin qla.outs x y
 |(.inr x),y=>qfd E ⟨f141.ntmps,0,false⟩ (qw f141) xe.k xe.S xe.outs x y
theorem jon: ∀a y,wn Plain.ql0 a=some y→z47 a y:=zo fun u hu a=>match a with
 |(.inl x)=>fun y h=>kw (fn:=f141) (es:=[(qsn.e _),(q84.e _)]) (cs:=[xe]) (e:=qla) envOK func141 rfl rfl rfl ⟨(qsn.s _ _),(q84.s _ _),trivial⟩ ⟨fun x y h=>hu (.inr x) y h,trivial⟩ ((jns u x).symm.trans h)
 |(.inr x)=>fun y h=>zm (E:=E) (F:=⟨f141.ntmps,0,false⟩) (body:=qw f141) (k:=xe.k) (S:=xe.S) (outs:=xe.outs) (es:=[(qsn.e _),qla]) (cs:=[]) envOK ⟨(qsn.s _ _),fun x y h=>hu (.inl x) y h,trivial⟩ trivial (fun x y h=>hu (.inr x) y h) ((q7h u x).symm.trans h)
theorem jn7{U:Type}(u:U):(jbi:Ent U).Sound E u:=fun x y h=>jon (.inl x) y h
def q96:SC E f205 0:=mL 3 U09 C01 qi1 [3] [] []
def jgp:SE E:=mF 205 f205 I00 [] F00 z0u [3] [] [q96]
def q99:SC E f45 0:=mL 3 ⟨[(5,D00),(1,D01),(0,D01)],[]⟩ [⟨.ret,U03⟩,⟨.exit 0,⟨[(1,D01),(0,D01)],[]⟩⟩] qe8 [3] [] []
def q81:SE E:=mF 45 f45 [D01,D01] [] F00 z0z [3] [] [q99]
def q9x:SC E f190 0:=mL 9 ⟨[(92,D00),(1,D02),(90,D08),(91,D00)],[B06]⟩ C02 qim [9] [jgp,q81] []
def q80:SE E:=mF 190 f190 [D0p] [] F00 z0h [9] [jgp] [q9x]
def jbj{U:Type}:Ent U:=⟨170,[.d .val,.d (.int .i64)],[],F00,fun _ q=>Plain.z06 q⟩
def q9h{U:Type}:Cut U:=⟨6,⟨[(17,D00),(1,D00),(15,.d y07),(16,D00)],[]⟩,C00,fun _ q=>Plain.qav q⟩
def qlb:Ent (Un Plain.q1j Plain.qp0):={ (jbj:Ent (Un Plain.q1j Plain.qp0)) with G:=fun u q=>u (.inl q) }
def yi:Cut (Un Plain.q1j Plain.qp0):={ (q9h:Cut (Un Plain.q1j Plain.qp0)) with L:=fun u q=>u (.inr q) }
theorem jnt u q:ql1 u (.inl q)=Ent.runs E f170 [6] 12 [(q80.e _)] [yi] u qlb q:=by kernel_rfl
theorem jct u q:ql1 u (.inr q)=Cut.go E ⟨f170.ntmps,0,false⟩ (qw f170) [6] 12 [qlb] [] u yi (fun q=>u (.inr q)) q:=by kernel_rfl
def z48: ∀a,Plain.qp0 a→Prop
 |(.inl x),y=>qbe E qlb.f qlb.ins qlb.hin qlb.outs x y
 |(.inr x),y=>qfd E ⟨f170.ntmps,0,false⟩ (qw f170) yi.k yi.S yi.outs x y
theorem joo: ∀a y,wn Plain.ql1 a=some y→z48 a y:=zo fun u hu a=>match a with
 |(.inl x)=>fun y h=>kw (fn:=f170) (es:=[(q80.e _)]) (cs:=[yi]) (e:=qlb) envOK func170 rfl rfl rfl ⟨(q80.s _ _),trivial⟩ ⟨fun x y h=>hu (.inr x) y h,trivial⟩ ((jnt u x).symm.trans h)
 |(.inr x)=>fun y h=>zm (E:=E) (F:=⟨f170.ntmps,0,false⟩) (body:=qw f170) (k:=yi.k) (S:=yi.S) (outs:=yi.outs) (es:=[qlb]) (cs:=[]) envOK ⟨fun x y h=>hu (.inl x) y h,trivial⟩ trivial (fun x y h=>hu (.inr x) y h) ((jct u x).symm.trans h)
theorem jn8{U:Type}(u:U):(jbj:Ent U).Sound E u:=fun x y h=>joo (.inl x) y h
def jkq:SE E:=⟨fun _=>jbj,fun _=>jn8⟩
def jl5:SE E:=mF 142 f142 [D0p] [] F00 z39 [] [jkq] []
def jkp:SE E:=⟨fun _=>jbi,fun _=>jn7⟩
def jl1:SE E:=mF 95 f95 I00 [] [⟨false,⟨[(0,.tup [.d .val,.d .bool])],[]⟩⟩] z34 [] [jkp,jl5] []
def q93:SC E f96 0:=mL 3 ⟨[(4,D02),(2,D04),(10,D00),(1,D01),(8,D08),(9,D00)],[B06,B06]⟩ [⟨.ret,⟨[(4,D02)],[B06]⟩⟩,⟨.exit 0,⟨[(4,D02)],[B06]⟩⟩] qiy [3] [] []
def jgn:SE E:=mF 96 f96 [D0p,D01] [] F05 z0r [3] [] [q93]
def q59:SC E f49 0:=mL 11 ⟨[(35,D00),(6,D02),(33,.d y07),(2,D04),(0,D01),(4,D06),(34,D00)],H06⟩ [⟨.exit 0,⟨[(6,D02),(2,D04),(0,D01),(4,D06)],H06⟩⟩] qdy [11,18] [jgn] []
def q6a:SC E f49 0:=mL 18 ⟨[(56,D00),(6,D02),(54,.d y07),(2,D04),(0,D01),(55,D00)],[B0n,B05,B0i,B09]⟩ [⟨.exit 2,⟨[(2,D02),(6,D04),(0,D01)],[B05,B0n,B0i,B09]⟩⟩] qdz [11,18] [] []
def q88:SE E:=mF 143 f143 I00 [] F00 z2i [] [q86] []
def jar:SC E f144 0:=mL 3 U06 C00 qjh [3] [] []
def jgs:SE E:=mF 144 f144 [D08,D01] [] F00 z1k [3] [] [jar]
def q9y:SC E f97 0:=mL 3 ⟨[(10,D00),(1,D02),(8,D08),(9,D00)],[B0h]⟩ C0a qio [3,12] [q88,jgs] []
def q6d:SC E f97 0:=mL 12 ⟨[(30,D00),(28,.d y0b),(1,D02),(29,D00)],[B0h]⟩ [⟨.ret,U01⟩,⟨.exit 2,U0n⟩] qd2 [3,12] [q88] []
def jgm:SE E:=mF 97 f97 [D13] [] F00 z0j [3,12] [q88] [q9y,q6d]
def q92:SC E f98 0:=mL 6 ⟨[(13,D00),(3,D01),(11,D08),(12,D00)],[]⟩ [⟨.exit 0,⟨[(3,D01)],[]⟩⟩] qiv [6,16] [] []
def q6h:SC E f98 0:=mL 16 ⟨[(34,D00),(3,D01),(32,.d y0b),(1,D02),(33,D00)],[B0h]⟩ [⟨.exit 2,⟨[(3,D01),(1,D02)],[B0h]⟩⟩] qd6 [6,16] [qnc] []
def jk1:SE E:=mF 98 f98 [D13] [] F02 z0o [6,16] [] [q92,q6h]
def qyo:SE E:=mF 49 f49 I00 [] [⟨false,U0b⟩] z0e [11,18] [jl1,jgn,jgm,jk1] [q59,q6a]
def jaf:SC E f100 0:=mL 3 U06 C00 qi7 [3] [] []
def qk4:SE E:=mF 100 f100 [D08,D01] [] F00 z15 [3] [] [jaf]
def jab:SC E f99 0:=mL 8 ⟨[(23,D00),(3,D0j),(21,.d y0b),(22,D00)],[B01]⟩ C07 qi4 [8] [jgs] []
def qyq:SE E:=mF 99 f99 [D13] [] F0b z11 [8] [jgm] [jab]
def gq{U:Type}:Cut U:=⟨25,⟨[(66,D00),(5,D06),(64,D08),(8,D0q),(2,D01),(65,D00)],[B0l,B0l,.var [D0d,D0m,D00],B0b,B01,B01]⟩,[⟨.exit 2,⟨[(8,D06),(5,D0q),(2,D01)],[B0l,B0l,B0b,.var [D0d,D0m,D00],B01,B01]⟩⟩],fun _ q=>Plain.qb0 q⟩
theorem q7d self q:qdk self q=Cut.go E ⟨f51.ntmps,2,false⟩ (qw f51) [14,25] 12 [(qk4.e _)] [] () gq self q:=by kernel_rfl
theorem q7n{U:Type}(u:U):(gq:Cut U).Sound E ⟨f51.ntmps,2,false⟩ (qw f51) u:=qbo (S:=(gq (U:=Unit)).S) (outs:=(gq (U:=Unit)).outs) [(qk4.e _)] [] envOK ⟨(qk4.s _ _),trivial⟩ trivial q7d
def jbh{U:Type}:Ent U:=⟨51,[.d y09,.agg [.fx (.own .str 0 false),.fx (.own .str 1 false),.d (.int .i64)],.d .str,.d (.int .i64)],[.arr .str false,.arr .str false],[⟨false,⟨[(0,.agg [.fx (.own .str 2 false),.fx (.own .str 3 false),.d (.int .i64)])],[B0l,B0l,B01,B01]⟩⟩],fun _ q=>Plain.z03 q⟩
def q5r{U:Type}:Cut U:=⟨14,⟨[(8,D06),(5,D0q),(42,D00),(3,D00),(0,D0c),(40,D08),(2,D01),(11,.fx (.ptr 4 0)),(41,D00)],[B0l,B0l,B0b,B0q,B0h,B01,B01]⟩,[⟨.ret,⟨[(8,D06)],[B0l,B0l,B0u,B01,B01]⟩⟩,⟨.exit 0,⟨[(5,D06),(8,D0q),(2,D01),(11,.fx (.ptr 4 0))],[B0l,B0l,B0q,B0b,B0h,B01,B01]⟩⟩],fun _ q=>Plain.yu q⟩
def qk9:Ent (Un Plain.q1h Plain.qpr):={ (jbh:Ent (Un Plain.q1h Plain.qpr)) with G:=fun u q=>u (.inl q) }
def xd:Cut (Un Plain.q1h Plain.qpr):={ (q5r:Cut (Un Plain.q1h Plain.qpr)) with L:=fun u q=>u (.inr q) }
theorem jnq u q:qlz u (.inl q)=Ent.runs E f51 [14,25] 12 [(qsm.e _),(qyo.e _),(qyq.e _)] [xd,gq] u qk9 q:=by kernel_rfl
theorem q7c u q:qlz u (.inr q)=Cut.go E ⟨f51.ntmps,2,false⟩ (qw f51) [14,25] 12 [(qk4.e _),qk9] [] u xd (fun q=>u (.inr q)) q:=by kernel_rfl
def z44: ∀a,Plain.qpr a→Prop
 |(.inl x),y=>qbe E qk9.f qk9.ins qk9.hin qk9.outs x y
 |(.inr x),y=>qfd E ⟨f51.ntmps,2,false⟩ (qw f51) xd.k xd.S xd.outs x y
theorem jom: ∀a y,wn Plain.qlz a=some y→z44 a y:=zo fun u hu a=>match a with
 |(.inl x)=>fun y h=>kw (fn:=f51) (es:=[(qsm.e _),(qyo.e _),(qyq.e _)]) (cs:=[xd,gq]) (e:=qk9) envOK func51 rfl rfl rfl ⟨(qsm.s _ _),(qyo.s _ _),(qyq.s _ _),trivial⟩ ⟨fun x y h=>hu (.inr x) y h,q7n _,trivial⟩ ((jnq u x).symm.trans h)
 |(.inr x)=>fun y h=>zm (E:=E) (F:=⟨f51.ntmps,2,false⟩) (body:=qw f51) (k:=xd.k) (S:=xd.S) (outs:=xd.outs) (es:=[(qk4.e _),qk9]) (cs:=[]) envOK ⟨(qk4.s _ _),fun x y h=>hu (.inl x) y h,trivial⟩ trivial (fun x y h=>hu (.inr x) y h) ((q7c u x).symm.trans h)
theorem jn5{U:Type}(u:U):(jbh:Ent U).Sound E u:=fun x y h=>jom (.inl x) y h
def jko:SE E:=⟨fun _=>jbh,fun _=>jn5⟩
def q6i:SC E f51 0:=mL 14 ⟨[(8,D02),(5,D04),(42,D00),(3,D00),(0,D0c),(40,D08),(2,D01),(11,D06),(41,D00)],[B0b,B0u,B0h,B01,B01]⟩ [⟨.ret,⟨[(8,D02)],[.var [D0y,D0l,D00],B01,B01]⟩⟩,⟨.exit 0,⟨[(5,D02),(8,D04),(2,D01),(11,D06)],[B0u,B0b,B0h,B01,B01]⟩⟩] qd7 [14,25] [qk4,jko] []
def q6j:SC E f51 0:=mL 25 ⟨[(66,D00),(5,D02),(64,D08),(8,D04),(2,D01),(65,D00)],[.var [D0l,D09,D00],B0b,B01,B01]⟩ [⟨.exit 2,⟨[(8,D02),(5,D04),(2,D01)],[B0b,.var [D0l,D09,D00],B01,B01]⟩⟩] qd8 [14,25] [qk4] []
def jk2:SE E:=mF 51 f51 [D0c,.agg [.fx (.sl .str [] true),.fx (.sl .str [] true),.d (.int .i64)],D01,D00] [] [⟨false,⟨[(0,.agg [.fx (.own .str 0 false),.fx (.own .str 1 false),.d (.int .i64)])],[B01,B01]⟩⟩] z0q [14,25] [qsm,qyo,qyq] [q6i,q6j]
def q9z:SC E f50 0:=mL 3 ⟨[(12,D00),(2,D02),(10,D08),(3,D04),(11,D00)],[B02,B0h]⟩ [⟨.ret,U03⟩,⟨.exit 0,⟨[(2,D02),(3,D04)],[B02,B0h]⟩⟩] qiq [3,12] [qyp] []
def q6e:SC E f50 0:=mL 12 ⟨[(25,D00),(2,D02),(23,D08),(24,D00)],H02⟩ C0c qd3 [3,12] [qyp] []
def jky:SE E:=mF 50 f50 [.d y0l,D13] [] F00 z0l [3,12] [qyq] [q9z,q6e]
def q90:SC E f44 0:=mL 6 ⟨[(41,D00),(2,D02),(1,D0c),(39,D08),(40,D00)],H02⟩ [⟨.ret,U03⟩,⟨.exit 0,⟨[(2,D02)],H02⟩⟩] qir [6,18] [qsm,qyo,jk2,jky] []
def jan:SC E f90 0:=mL 3 U09 C01 qjd [3] [q9a] []
def jk8:SE E:=mF 90 f90 I00 [] F00 z1g [3] [] [jan]
def q6f:SC E f44 0:=mL 18 ⟨[(76,D00),(2,D02),(74,D0c),(75,D00)],H02⟩ C0c qd4 [6,18] [jk8,qyp,q81] []
def jkz:SE E:=mF 44 f44 [.d y0l,D0c] [] F00 z0m [6,18] [jlc,jlh] [q90,q6f]
def jaq:SC E f12 0:=mL 6 ⟨[(18,D00),(1,D02),(16,.d y0p),(17,D00)],[B0a]⟩ C02 qjg [6] [jkz,q81] []
def jlb:SE E:=mF 12 f12 [D0w] [] F00 z1j [6] [jkw] [jaq]
def jaw:SC E f31 0:=mL 6 ⟨[(13,D00),(1,D0c),(0,D0c),(12,D00)],[]⟩ C00 qjm [6] [] []
def jlf:SE E:=mF 31 f31 [D0c,D0c] [] F00 z1p [6] [] [jaw]
def qan:SC E f6 0:=mL 5 ⟨[(10,D00),(9,D02),(4,D04),(1,D01),(2,D01),(3,D01)],[B02,B0a]⟩ [⟨.exit 0,⟨[(2,D01),(9,D02),(1,D01),(4,D04),(3,D01)],[B02,B0a]⟩⟩] jx [5,22] [] []
def jgy:SE E:=mF 32 f32 [D0w,D01] [] [⟨false,⟨[(0,D0c)],[]⟩⟩] z2t [] [q35] []
def ja1:SC E f29 0:=mL 3 ⟨[(14,D00),(2,D01),(12,D0c),(13,D00)],[]⟩ [⟨.ret,⟨[(6,D01),(7,D00)],[]⟩⟩,⟨.exit 0,U05⟩] qjr [3] [] []
def jlk:SE E:=mF 29 f29 [D0w,D01,D01] [] F04 z1u [3] [jgy] [ja1]
def u5:SC E f6 0:=mL 22 ⟨[(11,D01),(12,D00),(85,D00),(2,D01),(83,D0c),(84,D00)],[]⟩ [⟨.ret,⟨[(8,D03)],[]⟩⟩,⟨.exit 2,⟨[(11,D01),(12,D00)],[]⟩⟩] jo [5,22] [] []
def b_law12_RegistryReads:SE E:=mF 6 f6 [D0w,D01,D01,D01] [] F00 xj [5,22] [jku,q82,jlb,jme,jlk,jgx,qyp,jgy,jlf] [qan,u5]
end Go.Proofs.Tryz
