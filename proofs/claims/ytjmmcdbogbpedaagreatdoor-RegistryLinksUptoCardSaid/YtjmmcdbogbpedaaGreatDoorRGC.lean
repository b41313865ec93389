import Derived.Test.YtjmmcdbogbpedaaGreatDoorRGEnv
import Derived.Test.YtjmmcdbogbpedaaGreatDoorRGP
import Derived.Test.YtjmmcdbogbpedaaGreatDoorRGIns
import Derived.Shelf.Strings.SlTrimAscii
noncomputable section
namespace Go.Proofs.Tryz
open Go.AM Go.Plain
instance:EnvK E:=⟨envOK⟩
set_option linter.unusedVariables false
set_option maxRecDepth 100000
def qbg{U:Type}:Ent U:=⟨113,[.d y01,.d .str],[],F02,fun _ q=>zv q⟩
theorem qo5{U:Type}(u:U):(qbg:Ent U).Sound E u:=qoi ⟨_,func113,rfl,rfl⟩ (fun a c sep w=>strings_Join_none a c sep w) fun bk o c xs sep w h1 h2 h3 h4 h5=>strings_Join bk o c xs sep w h1 h2 h3 h4 h5
def qte{U:Type}:Ent U:=⟨63,[.d .str],[],F02,fun _ q=>qmy q⟩
theorem q8b{U:Type}(u:U):(qte:Ent U).Sound E u:=q0b ⟨_,func63,rfl,rfl⟩ fun s w h=>octet_Hex s w h
def qcm{U:Type}:Ent U:=⟨58,[.d .str],[],F00,fun _ q=>jo q⟩
theorem qo6{U:Type}(u:U):(qcm:Ent U).Sound E u:=q0a ⟨_,func58,rfl,rfl⟩ qoo
def qb3{U:Type}:Ent U:=⟨172,[.d .str,.d .str],[],[⟨false,U0r⟩],fun _ q=>zh q⟩
theorem qmk{U:Type}(u:U):(qb3:Ent U).Sound E u:=jo2 ⟨_,func172,rfl,rfl⟩ fun s p w=>z48 s p w
def qb4{U:Type}:Ent U:=⟨193,[.d .str,.d (.int .u8)],[],F03,fun _ q=>jk q⟩
theorem qml{U:Type}(u:U):(qb4:Ent U).Sound E u:=qfi ⟨_,func193,rfl,rfl⟩ fun s c w=>strings_IndexByte s c w
def qtd{U:Type}:Ent U:=⟨188,[.d .str,.d .str],[],[⟨false,⟨[(0,.tup [.d .str,.d .str,.d .bool])],[]⟩⟩],fun _ q=>qhb q⟩
theorem q8a{U:Type}(u:U):(qtd:Ent U).Sound E u:=qsl ⟨_,func188,rfl,rfl⟩ (List.mem_cons_self ..) fun s sep m w h1 h2=>strings_Cut s sep m w h1 h2
def qcn{U:Type}:Ent U:=⟨189,[.d .str,.d .str],[],F02,fun _ q=>yn q⟩
theorem qo7{U:Type}(u:U):(qcn:Ent U).Sound E u:=qf5 ⟨_,func189,rfl,rfl⟩ fun s cs w h1 h2=>Any.strings_TrimLeft_laid lays161 (by kernel_rfl) s cs w h1 h2
def qbf{U:Type}:Ent U:=⟨145,[.d (.int .i64)],[],F02,fun _ q=>xj q⟩
theorem qo4{U:Type}(u:U):(qbf:Ent U).Sound E u:=qoh ⟨_,func145,rfl,rfl⟩ (List.mem_cons_self ..) (by kernel_rfl) fun n h0 h1 w ht=>strconv_Itoa n h0 h1 w ht
def jik{U:Type}:Ent U:=⟨79,[.d y0p],[],[⟨false,⟨[(0,.fx (.own y0l 0 false))],[B0q]⟩⟩],fun _ q=>z2v q⟩
theorem jpw{U:Type}(u:U):(jik:Ent U).Sound E u:=jge fun l hl=>by
 refine qk.bodyR envOK func79 rfl rfl rfl ?_
 conv=>whnf
 intro b hb
 conv=>whnf
 refine qcf (fun h=> ?_) (fun h=> ?_)
 ·have e : l = [] := List.eq_nil_of_length_eq_zero (hb (by simpa using h))
  subst e
  conv=>whnf
  refine⟨[.emp (y0l) true],_,_, ?_,rfl,rfl⟩
  repeat' (first|exact trivial|exact rfl|exact .inl rfl|(exact .inr rfl)|refine And.intro ?_ ?_)
 ·conv => whnf
  refine And.intro (show qi (0+l.length) _ from⟨Nat.le_trans (Nat.mul_le_mul (show 0+l.length≤4294967296 by omega) (show _≤1024 from of_decide_eq_true (by kernel_rfl))) (by decide),by omega⟩) ?_
  conv=>whnf
  refine⟨[.old 1],_,_, ?_,rfl,rfl⟩
  repeat' (first|exact trivial|exact rfl|exact .inl rfl|(exact .inr rfl)|refine And.intro ?_ ?_)
def jij{U:Type}:Ent U:=⟨80,[.fx (.own y0l 0 false),.d (.int .i64),.fx (.own y0l 1 true)],[.arr y0l true,.arr y0l true],[⟨false,⟨[(0,.d y0p)],[B0l,B0q]⟩⟩],fun _ q=>z2u q⟩
theorem jpv{U:Type}(u:U):(jij:Ent U).Sound E u:=q7g fun l i x hi hl=>ji7 l i x hi hl
def jap:SC E f9 0:=mL 5 ⟨[(30,D00),(3,D01),(28,.d y0a),(2,D04),(1,D06),(29,D00)],H03⟩ [⟨.exit 0,⟨[(3,D01),(2,D04),(1,D06)],H03⟩⟩] qif [5,12,19] [] []
def q6t:SC E f9 0:=mL 12 ⟨[(53,D00),(3,D01),(51,D0d),(2,D04),(1,D06),(52,D00)],[B0e,B0a,B05,B0w,B0p]⟩ [⟨.exit 2,⟨[(3,D01),(2,D04),(1,D06)],[B0e,B0a,B05,B0w,B0p]⟩⟩] qdr [5,12,19] [] []
def q6u:SC E f9 0:=mL 19 ⟨[(83,D00),(3,D01),(81,.d y0p),(2,D04),(82,D00)],[B0d,B0a,B0w,B0p,B0q]⟩ [⟨.exit 4,⟨[(2,D01),(3,D04)],[B0a,B0d,B0w,B0p,B0q]⟩⟩] qds [5,12,19] [] []
def jl5:SE E:=mF 9 f9 [D0r] [] [⟨false,⟨[(0,D0r)],[]⟩⟩] z0a [5,12,19] [] [jap,q6t,q6u]
def jal:SC E f64 0:=mL 5 ⟨[(3,D02),(4,D0t)],[]⟩ [⟨.exit 0,⟨[(4,D0t),(3,D02)],[]⟩⟩] qh5 [5,10,16,23] [] []
def q6i:SC E f64 0:=mL 10 ⟨[(5,D00),(4,D0t),(3,D02)],[]⟩ [⟨.exit 2,⟨[(3,D02)],[]⟩⟩] qda [5,10,16,23] [] []
def jn9:SE E:=mF 114 f114 [] [] F08 z45 [] [] []
def jny:SE E:=mF 154 f154 I00 [] F0c z3t [] [] []
def jne:SE E:=mF 179 f179 [D0a,D00] [] F0c z35 [] [] []
def jh7:SE E:=mF 155 f155 [D0a,D00,D00,D00,D03] [] F0c z2m [] [jne] []
def jao:SC E f115 0:=mL 4 ⟨[(14,D00),(5,D01),(1,D02),(2,D04),(4,D06)],[B00,B00,B00]⟩ [⟨.exit 0,⟨[(5,D01),(2,D04),(4,D06)],[B00,B00,B00]⟩⟩] qic [4,15,25] [jny,jh7] []
def q6r:SC E f115 0:=mL 15 ⟨[(51,D00),(7,D01),(5,D04),(2,D06),(4,D0m)],[B00,B00,B00,B00]⟩ [⟨.exit 2,⟨[(2,D01),(7,D04),(4,D06)],[B00,B00,B00]⟩⟩] qdp [4,15,25] [jh7] []
def q6s:SC E f115 0:=mL 25 ⟨[(119,D00),(2,D01),(7,D04),(4,D06)],[B00,B00,B00]⟩ [⟨.exit 4,⟨[(4,D01),(2,D04)],[B00,B00]⟩⟩] qdq [4,15,25] [] []
def jl4:SE E:=mF 115 f115 [.d y0s,D02] [] F08 z09 [4,15,25] [] [jao,q6r,q6s]
def q6j:SC E f64 0:=mL 16 ⟨[(3,D02),(6,D01)],[B00]⟩ [⟨.exit 4,⟨[(6,D01)],[B00]⟩⟩] qdb [5,10,16,23] [jl4] []
def q6k:SC E f64 0:=mL 23 ⟨[(46,D00),(7,D08),(45,.d y0s)],[B04]⟩ [⟨.exit 6,⟨[(7,D08)],[B04]⟩⟩] we [5,10,16,23] [] []
def q2p:SE E:=⟨fun _=>qbg,fun _=>qo5⟩
def jhv:SE E:=mF 64 f64 [D07] [] F02 z00 [5,10,16,23] [q2p,jn9] [jal,q6i,q6j,q6k]
def q6d:SE E:=⟨fun _=>qte,fun _=>q8b⟩
def jia:SE E:=mF 24 f24 I00 [] F02 z30 [] [jhv,q6d] []
def jbi:SC E f109 0:=mL 3 ⟨[(8,D00),(0,D07),(1,D02),(7,D00)],[]⟩ C03 qje [3] [] []
def jh4:SE E:=mF 109 f109 I01 [] F03 Plain.z1f [3] [] [jbi]
def gg:SE E:=mF 61 f61 I01 [] F00 Plain.z0x [] [jh4] []
def jbu:SC E f125 0:=mL 3 ⟨[(7,D00),(0,D07),(5,D07),(6,D00)],[]⟩ C02 qjq [3] [gg] []
def jmr:SE E:=mF 125 f125 [D07] [] F00 z1r [3] [] [jbu]
def jn5:SE E:=mF 105 f105 [.d y00,D01] [B03] F09 z41 [] [] []
def jb0:SC E f104 1:=mL 3 ⟨[(8,.d (.int .i64)),(0,.d y09),(1,.fn (.func 105) [] [.fx (.ptr 0 0)]),(7,.d (.int .i64))],[.dat .str]⟩ C04 qjw [3] [jn5] []
def jmx:SE E:=mF 104 f104 [D0d,.fn (.func 105) [] [.fx (.ptr 0 0)]] [B03] [⟨false,U0l⟩] z1x [3] [] [jb0]
def qmd:SE E:=⟨fun _=>qb4,fun _=>qml⟩
def ja8:SC E f173 0:=mL 7 ⟨[(18,D00),(4,.fx (.own (.int .u8) 0 true)),(0,D02),(17,D00)],[B04]⟩ [⟨.ret,⟨[(2,D02),(3,D00)],[]⟩⟩,⟨.exit 0,⟨[(4,.fx (.own (.int .u8) 0 true))],[B04]⟩⟩] qb0 [7] [qmd] []
def jmf:SE E:=mF 173 f173 I00 [] F04 z12 [7] [] [ja8]
def qmc:SE E:=⟨fun _=>qb3,fun _=>qmk⟩
def jh9:SE E:=mF 148 f148 I00 [] F04 z2x [] [qmc,jmf] []
def jid:SE E:=mF 106 f106 [D02,D02] [] F03 z36 [] [jh9,jhv] []
def qlb:SE E:=mF 57 f57 [D0d,D02] [] F04 z1a [] [jmx,jid] []
def jan:SC E f68 1:=mL 6 ⟨[(59,D00),(1,D0d),(57,D07),(0,D01),(58,D00)],H00⟩ [⟨.ret,U0p⟩,⟨.exit 0,⟨[(0,D01),(1,D0d)],H00⟩⟩] qib [6,16,28] [qlb] []
def qno:SE E:=mF 164 f164 [D01] [B0u] [⟨true,U07⟩,⟨false,⟨[(0,D0l)],[B09]⟩⟩] z2p [] [] []
def qnn:SE E:=mF 187 f187 [D01,D0l] [B0u] [⟨true,U07⟩,⟨false,⟨[(0,.tup [])],[B09]⟩⟩] z2k [] [qno] []
def q6c:SE E:=⟨fun _=>qtd,fun _=>q8a⟩
def qs5:SE E:=mF 165 f165 [D01] [B0u] [⟨true,U07⟩,⟨false,⟨[(0,D02)],[B09]⟩⟩] z2r [] [qnn,q6c] []
def jbt:SC E f167 1:=mL 9 ⟨[(53,D00),(5,D04),(4,D02),(2,D06),(52,D00)],[B09,B08,B08]⟩ [⟨.exit 0,⟨[(2,D04),(5,D06)],[B09,B08,B08]⟩⟩] qjp [9] [] []
def qnl:SE E:=⟨fun _=>qcn,fun _=>qo7⟩
def q9x:SE E:=mF 167 f167 [D01] [B0u] F06 z1q [9] [qnl] [jbt]
def q43{U:Type}:Ent U:=⟨137,[.fx (.ptr 0 0),.d (.int .i64)],[.var [.d .str]],F06,fun _ q=>Plain.z0b q⟩
def joc{U:Type}:Ent U:=⟨166,[.fx (.ptr 0 0),.agg [.d (.int .i64),.d (.int .i64),.d .str,.fx (.sl .val [] true),.fx (.sl .str [] true)],.d (.int .u8),.d (.int .i64)],[.var [.d .str]],F06,fun _ q=>Plain.z0i q⟩
def jad{U:Type}:Cut U:=⟨3,⟨[(5,D04),(3,D00),(0,D01),(8,D06),(2,D0l)],[B09,B0m,B08,B0t,B0b]⟩,[⟨.panic (.iface 203 (.d .unit)),⟨[],[B09]⟩⟩,⟨.exit 0,⟨[(8,D04),(5,D06),(2,D0l),(0,D01)],[B09,B08,B0m,B0t,B0b]⟩⟩],fun _ q=>Plain.vl q⟩
def qlk:Ent (Un Plain.qqk Plain.qig):={ (q43:Ent (Un Plain.qqk Plain.qig)) with G:=fun u q=>u (.inl q) }
def qlm:Ent (Un Plain.qqk Plain.qig):={ (joc:Ent (Un Plain.qqk Plain.qig)) with G:=fun u q=>u (.inr (.inl q)) }
def yk:Cut (Un Plain.qqk Plain.qig):={ (jad:Cut (Un Plain.qqk Plain.qig)) with L:=fun u q=>u (.inr (.inr q)) }
theorem jpe u q:qdt u (.inl q)=Ent.runs E f137 [] 12 [(qno.e _),(qs5.e _),qlm,(q9x.e _)] [] u qlk q:=by kernel_rfl
theorem jpg u q:qdt u (.inr (.inl q))=Ent.runs E f166 [3] 12 [(qnn.e _)] [yk] u qlm q:=by kernel_rfl
theorem jdw u q:qdt u (.inr (.inr q))=Cut.go E ⟨f166.ntmps,1,false⟩ (qx f166) [3] 12 [(qno.e _),(qnn.e _),(qs5.e _),qlk] [] u yk (fun q=>u (.inr (.inr q))) q:=by kernel_rfl
def z4c: ∀a,Plain.qig a→Prop
 |(.inl x),y=>qbb E qlk.f qlk.ins qlk.hin qlk.outs x y
 |(.inr (.inl x)),y=>qbb E qlm.f qlm.ins qlm.hin qlm.outs x y
 |(.inr (.inr x)),y=>qfd E ⟨f166.ntmps,1,false⟩ (qx f166) yk.k yk.S yk.outs x y
theorem jp9: ∀a y,wi Plain.qdt a=some y→z4c a y:=zr fun u hu a=>match a with
 |(.inl x)=>fun y h=>ku (fn:=f137) (es:=[(qno.e _),(qs5.e _),qlm,(q9x.e _)]) (cs:=[]) (e:=qlk) envOK func137 rfl rfl rfl ⟨(qno.s _ _),(qs5.s _ _),fun x y h=>hu (.inr (.inl x)) y h,(q9x.s _ _),trivial⟩ trivial ((jpe u x).symm.trans h)
 |(.inr (.inl x))=>fun y h=>ku (fn:=f166) (es:=[(qnn.e _)]) (cs:=[yk]) (e:=qlm) envOK func166 rfl rfl rfl ⟨(qnn.s _ _),trivial⟩ ⟨fun x y h=>hu (.inr (.inr x)) y h,trivial⟩ ((jpg u x).symm.trans h)
 |(.inr (.inr x))=>fun y h=>zo (E:=E) (F:=⟨f166.ntmps,1,false⟩) (body:=qx f166) (k:=yk.k) (S:=yk.S) (outs:=yk.outs) (es:=[(qno.e _),(qnn.e _),(qs5.e _),qlk]) (cs:=[]) envOK ⟨(qno.s _ _),(qnn.s _ _),(qs5.s _ _),fun x y h=>hu (.inl x) y h,trivial⟩ trivial (fun x y h=>hu (.inr (.inr x)) y h) ((jdw u x).symm.trans h)
theorem jpt{U:Type}(u:U):(q43:Ent U).Sound E u:=fun x y h=>jp9 (.inl x) y h
def jnj:SE E:=mF 198 f198 [D0l] [] F00 z3e [] [] []
def jb8:SC E f215 0:=mL 3 ⟨[(8,.d (.int .i64)),(0,.d y08),(1,.fn (.func 198) [] []),(7,.d (.int .i64))],[]⟩ C03 qj5 [3] [jnj] []
def jm6:SE E:=mF 215 f215 [.d y08,.fn (.func 198) [] []] [] F03 z29 [3] [] [jb8]
def jn0:SE E:=mF 197 f197 [.d y08,.fn (.func 198) [] []] [] F00 z3w [] [jm6] []
def q4v:SE E:=mF 180 f180 I00 [] F00 z2c [] [jn0] []
def jbe:SC E f181 0:=mL 3 ⟨[(9,D00),(0,D07),(7,D07),(1,D00),(8,D00)],[]⟩ [⟨.ret,U02⟩,⟨.exit 0,⟨[(1,D00),(0,D07)],[]⟩⟩] qjc [3] [q4v] []
def q9v:SE E:=mF 181 f181 [D07,D00] [] F00 z18 [3] [] [jbe]
def jcg{U:Type}:Ent U:=⟨157,[.d .val,.d (.int .i64)],[],F00,fun _ q=>Plain.z02 q⟩
def jog{U:Type}:Ent U:=⟨182,[.d y07,.fn (.func 183) [] [.fx (.ptr 0 0)]],[.dat (.int .i64)],F0a,fun _ q=>Plain.z1c q⟩
def jod{U:Type}:Ent U:=⟨199,[.d y07,.fn (.func 183) [] [.fx (.ptr 0 0)]],[.dat (.int .i64)],[⟨false,⟨L00,[B0k]⟩⟩],fun _ q=>Plain.z0k q⟩
def jae{U:Type}:Cut U:=⟨3,⟨[(8,.d (.int .i64)),(0,.d y07),(1,.fn (.func 183) [] [.fx (.ptr 0 0)]),(7,.d (.int .i64))],[.dat (.int .i64)]⟩,[⟨.ret,⟨[(4,D00)],[B0k]⟩⟩,⟨.exit 0,⟨[],[B0k]⟩⟩],fun _ q=>Plain.wm q⟩
def joh{U:Type}:Ent U:=⟨183,[.d .val,.fx (.ptr 0 0)],[.dat (.int .i64)],F0a,fun _ q=>Plain.z2f q⟩
def qlf:Ent (Un Plain.qdg Plain.qa9):={ (jcg:Ent (Un Plain.qdg Plain.qa9)) with G:=fun u q=>u (.inl q) }
def qlq:Ent (Un Plain.qdg Plain.qa9):={ (jog:Ent (Un Plain.qdg Plain.qa9)) with G:=fun u q=>u (.inr (.inl q)) }
def qln:Ent (Un Plain.qdg Plain.qa9):={ (jod:Ent (Un Plain.qdg Plain.qa9)) with G:=fun u q=>u (.inr (.inr (.inl q))) }
def yl:Cut (Un Plain.qdg Plain.qa9):={ (jae:Cut (Un Plain.qdg Plain.qa9)) with L:=fun u q=>u (.inr (.inr (.inr (.inl q)))) }
def qlr:Ent (Un Plain.qdg Plain.qa9):={ (joh:Ent (Un Plain.qdg Plain.qa9)) with G:=fun u q=>u (.inr (.inr (.inr (.inr q)))) }
theorem jo8 u q:zz u (.inl q)=Ent.runs E f157 [] 12 [(q4v.e _),(q9v.e _),qlq] [] u qlf q:=by kernel_rfl
theorem jpk u q:zz u (.inr (.inl q))=Ent.runs E f182 [] 12 [qln] [] u qlq q:=by kernel_rfl
theorem jph u q:zz u (.inr (.inr (.inl q)))=Ent.runs E f199 [3] 12 [] [yl] u qln q:=by kernel_rfl
theorem jdx u q:zz u (.inr (.inr (.inr (.inl q))))=Cut.go E ⟨f199.ntmps,1,false⟩ (qx f199) [3] 12 [qlr] [] u yl (fun q=>u (.inr (.inr (.inr (.inl q))))) q:=by kernel_rfl
theorem jpl u q:zz u (.inr (.inr (.inr (.inr q))))=Ent.runs E f183 [] 12 [qlf] [] u qlr q:=by kernel_rfl
def z4h: ∀a,Plain.qa9 a→Prop
 |(.inl x),y=>qbb E qlf.f qlf.ins qlf.hin qlf.outs x y
 |(.inr (.inl x)),y=>qbb E qlq.f qlq.ins qlq.hin qlq.outs x y
 |(.inr (.inr (.inl x))),y=>qbb E qln.f qln.ins qln.hin qln.outs x y
 |(.inr (.inr (.inr (.inl x)))),y=>qfd E ⟨f199.ntmps,1,false⟩ (qx f199) yl.k yl.S yl.outs x y
 |(.inr (.inr (.inr (.inr x)))),y=>qbb E qlr.f qlr.ins qlr.hin qlr.outs x y
theorem jp4: ∀a y,wi Plain.zz a=some y→z4h a y:=zr fun u hu a=>match a with
 |(.inl x)=>fun y h=>ku (fn:=f157) (es:=[(q4v.e _),(q9v.e _),qlq]) (cs:=[]) (e:=qlf) envOK func157 rfl rfl rfl ⟨(q4v.s _ _),(q9v.s _ _),fun x y h=>hu (.inr (.inl x)) y h,trivial⟩ trivial ((jo8 u x).symm.trans h)
 |(.inr (.inl x))=>fun y h=>ku (fn:=f182) (es:=[qln]) (cs:=[]) (e:=qlq) envOK func182 rfl rfl rfl ⟨fun x y h=>hu (.inr (.inr (.inl x))) y h,trivial⟩ trivial ((jpk u x).symm.trans h)
 |(.inr (.inr (.inl x)))=>fun y h=>ku (fn:=f199) (es:=[]) (cs:=[yl]) (e:=qln) envOK func199 rfl rfl rfl trivial ⟨fun x y h=>hu (.inr (.inr (.inr (.inl x)))) y h,trivial⟩ ((jph u x).symm.trans h)
 |(.inr (.inr (.inr (.inl x))))=>fun y h=>zo (E:=E) (F:=⟨f199.ntmps,1,false⟩) (body:=qx f199) (k:=yl.k) (S:=yl.S) (outs:=yl.outs) (es:=[qlr]) (cs:=[]) envOK ⟨fun x y h=>hu (.inr (.inr (.inr (.inr x)))) y h,trivial⟩ trivial (fun x y h=>hu (.inr (.inr (.inr (.inl x)))) y h) ((jdx u x).symm.trans h)
 |(.inr (.inr (.inr (.inr x))))=>fun y h=>ku (fn:=f183) (es:=[qlf]) (cs:=[]) (e:=qlr) envOK func183 rfl rfl rfl ⟨fun x y h=>hu (.inl x) y h,trivial⟩ trivial ((jpl u x).symm.trans h)
theorem jpn{U:Type}(u:U):(jcg:Ent U).Sound E u:=fun x y h=>jp4 (.inl x) y h
def jly:SE E:=⟨fun _=>jcg,fun _=>jpn⟩
def jno:SE E:=mF 119 f119 [D0s] [] F00 z3j [] [jly] []
def qs6:SE E:=mF 158 f158 I00 [] F02 z2y [] [] []
def jck{U:Type}:Ent U:=⟨120,[.d .val],[],F02,fun _ q=>Plain.z07 q⟩
def q6g{U:Type}:Cut U:=⟨10,⟨[(23,D00),(3,D0k),(1,D04),(21,.d y07),(22,D00)],[B0b,B08]⟩,[⟨.exit 1,⟨[(1,D01),(3,D0y)],[B08,B0b]⟩⟩],fun _ q=>Plain.xr q⟩
def qlj:Ent (Un Plain.q2a Plain.qp9):={ (jck:Ent (Un Plain.q2a Plain.qp9)) with G:=fun u q=>u (.inl q) }
def xd:Cut (Un Plain.q2a Plain.qp9):={ (q6g:Cut (Un Plain.q2a Plain.qp9)) with L:=fun u q=>u (.inr q) }
theorem jpd u q:qma u (.inl q)=Ent.runs E f120 [10] 12 [qbf,(qs6.e _),qbg] [xd] u qlj q:=by kernel_rfl
theorem q77 u q:qma u (.inr q)=Cut.go E ⟨f120.ntmps,0,false⟩ (qx f120) [10] 12 [qlj,(qs6.e _)] [] u xd (fun q=>u (.inr q)) q:=by kernel_rfl
def z4e: ∀a,Plain.qp9 a→Prop
 |(.inl x),y=>qbb E qlj.f qlj.ins qlj.hin qlj.outs x y
 |(.inr x),y=>qfd E ⟨f120.ntmps,0,false⟩ (qx f120) xd.k xd.S xd.outs x y
theorem jp8: ∀a y,wi Plain.qma a=some y→z4e a y:=zr fun u hu a=>match a with
 |(.inl x)=>fun y h=>ku (fn:=f120) (es:=[qbf,(qs6.e _),qbg]) (cs:=[xd]) (e:=qlj) envOK func120 rfl rfl rfl ⟨qo4 _,(qs6.s _ _),qo5 _,trivial⟩ ⟨fun x y h=>hu (.inr x) y h,trivial⟩ ((jpd u x).symm.trans h)
 |(.inr x)=>fun y h=>zo (E:=E) (F:=⟨f120.ntmps,0,false⟩) (body:=qx f120) (k:=xd.k) (S:=xd.S) (outs:=xd.outs) (es:=[qlj,(qs6.e _)]) (cs:=[]) envOK ⟨fun x y h=>hu (.inl x) y h,(qs6.s _ _),trivial⟩ trivial (fun x y h=>hu (.inr x) y h) ((q77 u x).symm.trans h)
theorem jps{U:Type}(u:U):(jck:Ent U).Sound E u:=fun x y h=>jp8 (.inl x) y h
def jl2:SE E:=⟨fun _=>jck,fun _=>jps⟩
def q4w:SE E:=mF 66 f66 [D0s] [] F04 z2z [] [jno,jl2] []
def q44{U:Type}:Ent U:=⟨81,[.d .str],[],[⟨false,⟨[(0,D14)],[]⟩⟩],fun _ q=>Plain.z3f q⟩
theorem jpm q:z3f q=Ent.runsD E f81 136 f136 [q43,(q4w.e _)] () q44 q:=by kernel_rfl
theorem jpx{U:Type}(u:U):(q44:Ent U).Sound E u:=jj1 (U:=Unit) (u:=()) (fn:=f81) (e:=q44) [q43,(q4w.e _)] envOK func81 rfl rfl rfl func136 rfl rfl ⟨_,rfl,by kernel_rfl⟩ ⟨jpt _,(q4w.s _ _),trivial⟩ jpm
def jh3:SE E:=mF 138 f138 [D0s,D02,D00] [] [⟨false,⟨[(0,D14)],[]⟩⟩] z1b [] [jh4] []
def jaz:SC E f82 0:=mL 8 ⟨[(49,D00),(11,D01),(47,.d y07),(2,D04),(9,D06),(48,D00)],H06⟩ [⟨.exit 0,⟨[(11,D01),(2,D04),(9,D06)],H06⟩⟩] qix [8,17] [jh3] []
def q64:SC E f82 0:=mL 17 ⟨[(77,D00),(11,D01),(75,.d y07),(2,D04),(76,D00)],[B0n,B07,B0i,B0b]⟩ [⟨.exit 2,⟨[(2,D01),(11,D04)],[B07,B0n,B0i,B0b]⟩⟩] qd4 [8,17] [] []
def jmc:SE E:=mF 82 f82 [D0s] [] [⟨false,⟨[(0,D13)],[]⟩⟩] z0p [8,17] [jh3] [jaz,q64]
def q9z:SE E:=mF 116 f116 I00 [] F00 z2n [] [jh9] []
def ja2:SC E f65 0:=mL 5 ⟨[(11,D00),(1,D01),(9,D07),(10,D00)],[B0h]⟩ C0b qi3 [5] [q9z,gg] []
def jnu:SE E:=mF 117 f117 [.d y03] [] F00 z3p [] [q9z] []
def jb6:SC E f156 0:=mL 3 ⟨[(8,.d (.int .i64)),(0,.d y0b),(1,.fn (.func 117) [] []),(7,.d (.int .i64))],[]⟩ C03 qj3 [3] [jnu] []
def jm4:SE E:=mF 156 f156 [.d y0b,.fn (.func 117) [] []] [] F03 z27 [3] [] [jb6]
def jnp:SE E:=mF 118 f118 [.d y0b,.fn (.func 117) [] []] [] F00 z3k [] [jm4] []
def jh0:SE E:=mF 65 f65 [D13] [] F00 z0u [5] [q9z,jnp] [ja2]
def q91:SE E:=mF 122 f122 I00 [] F05 z2q [] [] []
def jb9:SC E f121 0:=mL 4 ⟨[(11,.d (.int .i64)),(5,.fx (.ptr 0 0)),(1,.fn (.func 122) [] []),(9,.d y01),(4,.fx (.ptr 1 0)),(10,.d (.int .i64))],[.var [.d (.int .i64),.d (.int .i64),.d .str,.fx (.own .val 2 false),.d y01],.dat .val,.arr .val true]⟩ C07 qj6 [4] [q91] []
def jm7:SE E:=mF 121 f121 [D07,.fn (.func 122) [] []] [] F05 z2a [4] [] [jb9]
def jn8:SE E:=mF 124 f124 [.d y03] [] F05 z44 [] [q91] []
def jb7:SC E f123 0:=mL 4 ⟨[(11,.d (.int .i64)),(5,.fx (.ptr 0 0)),(1,.fn (.func 124) [] []),(9,.d y0b),(4,.fx (.ptr 1 0)),(10,.d (.int .i64))],[.var [.d (.int .i64),.d (.int .i64),.d .str,.fx (.own .val 2 false),.d y01],.dat .val,.arr .val true]⟩ C07 qj4 [4] [jn8] []
def jm5:SE E:=mF 123 f123 [.d y0b,.fn (.func 124) [] []] [] F05 z28 [4] [] [jb7]
def jnv:SE E:=mF 67 f67 [D13] [] F05 z3q [] [jm7,q91,jm5] []
def jh8:SE E:=mF 25 f25 [D13] [] F04 z2w [] [jh0,jnv,q4w] []
def jnk:SE E:=⟨fun _=>q44,fun _=>jpx⟩
def qs4:SE E:=mF 37 f37 I00 [] [⟨false,U0b⟩] z2d [] [jnk,jmc,jh8] []
def jba:SC E f26 0:=mL 7 ⟨[(19,D00),(3,D0k),(17,.d y0b),(18,D00)],[B01]⟩ C08 qi9 [7] [gg] []
def qzf:SE E:=mF 26 f26 [D13] [] F07 z14 [7] [jh0] [jba]
def gz{U:Type}:Cut U:=⟨19,⟨[(47,D00),(3,D0m),(45,D07),(1,D02),(46,D00)],H01⟩,[⟨.exit 0,⟨[(1,D02),(3,D0m)],H01⟩⟩],fun _ q=>Plain.qe7 q⟩
theorem q78 self q:qd8 self q=Cut.go E ⟨f86.ntmps,3,false⟩ (qx f86) [19] 12 [(gg.e _)] [] () gz self q:=by kernel_rfl
theorem q8g{U:Type}(u:U):(gz:Cut U).Sound E ⟨f86.ntmps,3,false⟩ (qx f86) u:=qbn (S:=(gz (U:=Unit)).S) (outs:=(gz (U:=Unit)).outs) [(gg.e _)] [] envOK ⟨(gg.s _ _),trivial⟩ trivial q78
def jcl{U:Type}:Ent U:=⟨140,[.d .str,.fx (.ptr 0 0),.fx (.ptr 1 0),.fx (.ptr 2 0)],[.var [.fx (.ptr 3 0)],.var [.fn (.func 86) [.fx (.ptr 3 0)] []],.dat (.int .i64),.var [.d y09,.fx (.own .str 4 false),.fx (.own .str 5 false)],.arr .str false,.arr .str false],F01,fun _ q=>Plain.z0c q⟩
def jof{U:Type}:Ent U:=⟨86,[.fx (.ptr 0 0),.d .str,.d (.int .i64)],[.var [.d y09,.fx (.own .str 1 false),.fx (.own .str 2 false)],.arr .str false,.arr .str false],[⟨false,⟨L00,[.var [D0d,D09,D0c],B0l,B0l,B01,B01]⟩⟩],fun _ q=>Plain.z0z q⟩
def joe{U:Type}:Ent U:=⟨70,[.d y01,.fn (.func 140) [] [.fx (.ptr 0 0),.fx (.ptr 1 0),.fx (.ptr 2 0)]],[.var [.fx (.ptr 3 0)],.var [.fn (.func 86) [.fx (.ptr 3 0)] []],.dat (.int .i64),.var [.d y09,.fx (.own .str 4 false),.fx (.own .str 5 false)],.arr .str false,.arr .str false],F01,fun _ q=>Plain.z0r q⟩
def jaf{U:Type}:Cut U:=⟨3,⟨[(10,.d (.int .i64)),(1,.fn (.func 140) [] [.fx (.ptr 0 0),.fx (.ptr 1 0),.fx (.ptr 2 0)]),(8,.d y01),(9,.d (.int .i64))],[.var [.fx (.ptr 3 0)],.var [.fn (.func 86) [.fx (.ptr 3 0)] []],.dat (.int .i64),.var [.d y09,.fx (.own .str 6 false),.fx (.own .str 7 false)],.gone,.gone,.arr .str false,.arr .str false]⟩,[⟨.ret,⟨[(4,.d (.int .i64))],[.var [.fx (.ptr 3 0)],.var [.fn (.func 86) [.fx (.ptr 3 0)] []],.dat (.int .i64),.var [.d y09,.fx (.own .str 6 false),.fx (.own .str 7 false)],.gone,.gone,.arr .str false,.arr .str false]⟩⟩,⟨.exit 0,⟨[],[.var [.fx (.ptr 3 0)],.var [.fn (.func 86) [.fx (.ptr 3 0)] []],.dat (.int .i64),.var [.d y09,.fx (.own .str 6 false),.fx (.own .str 7 false)],.gone,.gone,.arr .str false,.arr .str false]⟩⟩],fun _ q=>Plain.yx q⟩
def qll:Ent (Un Plain.qih Plain.qdu):={ (jcl:Ent (Un Plain.qih Plain.qdu)) with G:=fun u q=>u (.inl q) }
def qlp:Ent (Un Plain.qih Plain.qdu):={ (jof:Ent (Un Plain.qih Plain.qdu)) with G:=fun u q=>u (.inr (.inl q)) }
def qlo:Ent (Un Plain.qih Plain.qdu):={ (joe:Ent (Un Plain.qih Plain.qdu)) with G:=fun u q=>u (.inr (.inr (.inl q))) }
def ym:Cut (Un Plain.qih Plain.qdu):={ (jaf:Cut (Un Plain.qih Plain.qdu)) with L:=fun u q=>u (.inr (.inr (.inr q))) }
theorem jpf u q:qah u (.inl q)=Ent.runs E f140 [] 12 [(gg.e _),qlp] [] u qll q:=by kernel_rfl
theorem jpj u q:qah u (.inr (.inl q))=Ent.runs E f86 [19] 12 [(qlb.e _),(qs4.e _),qlo,(qzf.e _)] [gz] u qlp q:=by kernel_rfl
theorem jpi u q:qah u (.inr (.inr (.inl q)))=Ent.runs E f70 [3] 12 [] [ym] u qlo q:=by kernel_rfl
theorem jdy u q:qah u (.inr (.inr (.inr q)))=Cut.go E ⟨f70.ntmps,6,false⟩ (qx f70) [3] 12 [qll] [] u ym (fun q=>u (.inr (.inr (.inr q)))) q:=by kernel_rfl
def z49: ∀a,Plain.qdu a→Prop
 |(.inl x),y=>qbb E qll.f qll.ins qll.hin qll.outs x y
 |(.inr (.inl x)),y=>qbb E qlp.f qlp.ins qlp.hin qlp.outs x y
 |(.inr (.inr (.inl x))),y=>qbb E qlo.f qlo.ins qlo.hin qlo.outs x y
 |(.inr (.inr (.inr x))),y=>qfd E ⟨f70.ntmps,6,false⟩ (qx f70) ym.k ym.S ym.outs x y
theorem jqa: ∀a y,wi Plain.qah a=some y→z49 a y:=zr fun u hu a=>match a with
 |(.inl x)=>fun y h=>ku (fn:=f140) (es:=[(gg.e _),qlp]) (cs:=[]) (e:=qll) envOK func140 rfl rfl rfl ⟨(gg.s _ _),fun x y h=>hu (.inr (.inl x)) y h,trivial⟩ trivial ((jpf u x).symm.trans h)
 |(.inr (.inl x))=>fun y h=>ku (fn:=f86) (es:=[(qlb.e _),(qs4.e _),qlo,(qzf.e _)]) (cs:=[gz]) (e:=qlp) envOK func86 rfl rfl rfl ⟨(qlb.s _ _),(qs4.s _ _),fun x y h=>hu (.inr (.inr (.inl x))) y h,(qzf.s _ _),trivial⟩ ⟨q8g _,trivial⟩ ((jpj u x).symm.trans h)
 |(.inr (.inr (.inl x)))=>fun y h=>ku (fn:=f70) (es:=[]) (cs:=[ym]) (e:=qlo) envOK func70 rfl rfl rfl trivial ⟨fun x y h=>hu (.inr (.inr (.inr x))) y h,trivial⟩ ((jpi u x).symm.trans h)
 |(.inr (.inr (.inr x)))=>fun y h=>zo (E:=E) (F:=⟨f70.ntmps,6,false⟩) (body:=qx f70) (k:=ym.k) (S:=ym.S) (outs:=ym.outs) (es:=[qll]) (cs:=[]) envOK ⟨fun x y h=>hu (.inl x) y h,trivial⟩ trivial (fun x y h=>hu (.inr (.inr (.inr x))) y h) ((jdy u x).symm.trans h)
theorem jpu{U:Type}(u:U):(jcl:Ent U).Sound E u:=fun x y h=>jqa (.inl x) y h
def jl6:SE E:=⟨fun _=>jcl,fun _=>jpu⟩
def jb5:SC E f70 4:=mL 3 ⟨[(10,.d (.int .i64)),(1,.fn (.func 140) [] [.fx (.ptr 0 0),.fx (.ptr 1 0),.fx (.ptr 2 0)]),(8,.d y01),(9,.d (.int .i64))],[.var [.fx (.ptr 3 0)],.var [.fn (.func 86) [.fx (.ptr 3 0)] []],.dat (.int .i64),.var [.d y09,.fx (.own .str 4 false),.fx (.own .str 5 false)],.arr .str false,.arr .str false]⟩ [⟨.ret,⟨[(4,.d (.int .i64))],[.var [.fx (.ptr 3 0)],.var [.fn (.func 86) [.fx (.ptr 3 0)] []],.dat (.int .i64),.var [.d y09,.fx (.own .str 4 false),.fx (.own .str 5 false)],.arr .str false,.arr .str false]⟩⟩,⟨.exit 0,⟨[],[.var [.fx (.ptr 3 0)],.var [.fn (.func 86) [.fx (.ptr 3 0)] []],.dat (.int .i64),.var [.d y09,.fx (.own .str 4 false),.fx (.own .str 5 false)],.arr .str false,.arr .str false]⟩⟩] qj2 [3] [jl6] []
def jm3:SE E:=mF 70 f70 [D07,.fn (.func 140) [] [.fx (.ptr 0 0),.fx (.ptr 1 0),.fx (.ptr 2 0)]] [.var [.fx (.ptr 3 0)],.var [.fn (.func 86) [.fx (.ptr 3 0)] []],B0k,B0g] [⟨false,⟨[(0,.d (.int .i64))],[.var [.fx (.ptr 3 0)],.var [.fn (.func 86) [.fx (.ptr 3 0)] []],.dat (.int .i64),.var [.d y09,.fx (.own .str 4 false),.fx (.own .str 5 false)],.arr .str false,.arr .str false]⟩⟩] z26 [3] [] [jb5]
def q68:SC E f86 1:=mL 19 ⟨[(47,D00),(3,D04),(45,D07),(1,D02),(46,D00)],H04⟩ [⟨.exit 0,⟨[(1,D02),(3,D04)],H04⟩⟩] qd9 [19] [gg] []
def jm2:SE E:=mF 86 f86 [D01,D02,D00] [B0g] [⟨false,⟨L00,[.var [D0d,D0y,D0n],B01,B01]⟩⟩] z25 [19] [qlb,qs4,jm3,qzf] [q68]
def jie:SE E:=mF 39 f39 [D0d,D02] [] [⟨false,⟨[(0,.tup [.d (.pair y01 y01),.d (.int .i64)])],[]⟩⟩] z38 [] [jm2] []
def jn2:SE E:=mF 83 f83 [D02,D01] [B0f,B02] F0b z3y [] [gg] []
def jb3:SC E f139 2:=mL 3 ⟨[(8,.d (.int .i64)),(0,.d y01),(1,.fn (.func 83) [] [.fx (.ptr 0 0)]),(7,.d (.int .i64))],[.var [.fx (.ptr 1 0)],.dat y0l]⟩ C05 qjz [3] [jn2] []
def jm0:SE E:=mF 139 f139 [D07,D11] [B0f,B02] [⟨false,⟨L00,H02⟩⟩] z22 [3] [] [jb3]
def jnq:SE E:=mF 85 f85 [D07,D11] [B0f,B02] F0b z3l [] [jm0] []
def jn3:SE E:=mF 84 f84 [D02,D01] [B0f,B02] F0b z3z [] [gg] []
def jb4:SC E f139 2:=mL 3 ⟨[(8,.d (.int .i64)),(0,.d y01),(1,.fn (.func 84) [] [.fx (.ptr 0 0)]),(7,.d (.int .i64))],[.var [.fx (.ptr 1 0)],.dat y0l]⟩ C05 qj0 [3] [jn3] []
def jm1:SE E:=mF 139 f139 [D07,D12] [B0f,B02] [⟨false,⟨L00,H02⟩⟩] z23 [3] [] [jb4]
def jnr:SE E:=mF 85 f85 [D07,D12] [B0f,B02] F0b z3m [] [jm1] []
def jib:SE E:=mF 38 f38 [D01,D13] H00 [⟨false,⟨[(0,D03)],H00⟩⟩] z33 [] [qzf,jnq,jnr] []
def q6p:SC E f68 1:=mL 16 ⟨[(78,D00),(0,D01),(1,D0d),(76,D07),(77,D00)],H00⟩ [⟨.ret,U0p⟩,⟨.exit 2,⟨[(0,D01)],H00⟩⟩] qdn [6,16,28] [qlb,qs4,jie,jib] []
def jbn:SC E f72 0:=mL 3 ⟨[(7,D00),(0,D02),(6,D00)],[]⟩ C01 qjj [3] [jif] []
def jmm:SE E:=mF 72 f72 I00 [] F00 z1k [3] [] [jbn]
def q6q:SC E f68 1:=mL 28 ⟨[(117,D00),(0,D01),(115,D0d),(116,D00)],H00⟩ [⟨.ret,U0p⟩,⟨.exit 4,⟨[],H00⟩⟩] qdo [6,16,28] [jmm,gg] []
def wv:SE E:=⟨fun _=>qcm,fun _=>qo6⟩
def jl3:SE E:=mF 68 f68 [D01,D0d] H00 [⟨false,⟨[(0,D03)],H00⟩⟩] z08 [6,16,28] [wv,jmr] [jan,q6p,q6q]
def ja7:SC E f27 0:=mL 3 ⟨[(9,D00),(1,D01),(7,.d y0p),(8,D00)],[B05]⟩ [⟨.ret,U01⟩,⟨.exit 0,⟨[(1,D01)],[B05]⟩⟩] qi7 [3] [jl3] []
def jn7:SE E:=mF 160 f160 [.d y00,D01] [B03] F09 z43 [] [] []
def jb2:SC E f104 1:=mL 3 ⟨[(8,.d (.int .i64)),(0,.d y09),(1,.fn (.func 160) [] [.fx (.ptr 0 0)]),(7,.d (.int .i64))],[.dat .str]⟩ C04 qjy [3] [jn7] []
def jmz:SE E:=mF 104 f104 [D0d,D0x] [B03] [⟨false,U0l⟩] z1z [3] [] [jb2]
def jn1:SE E:=mF 159 f159 [D0d,D0x] [B03] [⟨false,U0l⟩] z3x [] [jmz] []
def jnb:SE E:=mF 126 f126 [.d y0m,D02] [] F03 z2i [] [jn1] []
def jas:SC E f69 0:=mL 3 ⟨[(10,D00),(1,D01),(8,D0d),(9,D00)],[B06]⟩ C0a qin [3,12] [jid,jnb] []
def q6z:SC E f69 0:=mL 12 ⟨[(39,D00),(1,D01),(37,.d y0a),(38,D00)],[B06]⟩ C0c qdz [3,12] [] []
def jbl:SC E f127 0:=mL 4 U0c C09 qjh [4] [] []
def jmk:SE E:=mF 127 f127 [.d y0m] [] F03 z1i [4] [] [jbl]
def jl8:SE E:=mF 69 f69 [.d y0m] [] F00 z0g [3,12] [jmk] [jas,q6z]
def q9u:SE E:=mF 27 f27 [D0r] [] F00 z11 [3] [jl8] [ja7]
def ja4:SC E f60 0:=mL 3 ⟨[(1,D02),(11,D00),(9,.d y0p),(2,D01),(10,D00)],[B05]⟩ [⟨.ret,⟨[(4,D00),(5,D03)],[]⟩⟩,⟨.exit 0,⟨[(2,D01)],[B05]⟩⟩] qi5 [3] [] []
def qzd:SE E:=mF 60 f60 [D0r,D02] [] [⟨false,⟨[(0,.tup [.d (.int .i64),.d .bool])],[]⟩⟩] z0w [3] [] [ja4]
def jic:SE E:=mF 40 f40 [D0d] [] [⟨false,⟨[(0,.fs y00)],[]⟩⟩] z34 [] [] []
def jbv:SC E f41 0:=mL 8 ⟨[(28,D00),(10,D00),(26,D0d),(6,D01),(3,D04),(2,D02),(1,D02),(27,D00)],[B06,B06]⟩ [⟨.exit 0,⟨[(6,D01),(3,D04),(2,D02),(1,D02),(10,D00)],[B06,B06]⟩⟩] qjr [8] [] []
def jms:SE E:=mF 41 f41 [.d y0m,D02,D02] [] [⟨false,⟨[(0,.tup [.d y0m,.d (.int .i64)])],[]⟩⟩] z1s [8] [qlb,jic] [jbv]
def jn6:SE E:=mF 87 f87 [D07] [] [⟨false,⟨[(0,.fs .str)],[]⟩⟩] z42 [] [] []
def q92:SE E:=mF 42 f42 I01 [] F07 z2s [] [gg,jn6] []
def jnm:SE E:=mF 36 f36 [D01,D04,D06,D0m,.fx (.ptr 4 0)] [B02,B03,B05,B03,B06] [⟨false,⟨L00,[B02,B03,B05,B03,B06]⟩⟩] z3h [] [qs4,jib,jic,jie,jms,q92] []
def q95:SE E:=⟨fun _=>jik,fun _=>jpw⟩
def q94:SE E:=⟨fun _=>jij,fun _=>jpv⟩
def jns:SE E:=mF 35 f35 [D0r,D02,D03,.fn (.func 36) [] [.fx (.ptr 0 0),.fx (.ptr 1 0),.fx (.ptr 2 0),.fx (.ptr 3 0)]] [B03,B05,B03,B06] [⟨false,⟨[(0,D0j)],[B03,B05,B03,B06]⟩⟩] z3n [] [q9u,wv,qzd,jnm,q95,q94] []
def jm8:SE E:=mF 10 f10 [D0r,D02,D02] [] [⟨false,⟨[(0,.tup [.d y0r,.d .str,.d (.int .i64)])],[]⟩⟩] z2e [] [jia,jns] []
def jnf:SE E:=mF 56 f56 [D01,D04,D06] [B02,B05,B03] [⟨false,⟨L00,[B02,B05,B03]⟩⟩] z3a [] [qlb,q92] []
def jnt:SE E:=mF 35 f35 [D0r,D02,D03,.fn (.func 56) [] [.fx (.ptr 0 0),.fx (.ptr 1 0)]] [B05,B03] [⟨false,⟨[(0,D0j)],[B05,B03]⟩⟩] z3o [] [q9u,wv,qzd,jnf,q95,q94] []
def jh6:SE E:=mF 17 f17 [D0r,D02,D02] [] [⟨false,U0q⟩] z2b [] [jnt] []
def jnw:SE E:=mF 30 f30 [D0r,D02,D02] [] F00 z3r [] [qzd,gg] []
def jnx:SE E:=mF 11 f11 [] [] F00 z3s [] [jia,jh8,jm8,jh6,jnw] []
def jnd:SE E:=mF 150 f150 [D0l] [] F03 z32 [] [] []
def jbf:SC E f110 0:=mL 4 ⟨[(5,D00),(0,D02),(4,D08)],[B04]⟩ [⟨.ret,⟨[(2,D02),(3,D03)],[]⟩⟩,⟨.exit 0,⟨[(0,D02),(4,D08)],[B04]⟩⟩] qb1 [4] [jnd] []
def jmh:SE E:=mF 110 f110 I00 [] [⟨false,U0r⟩] z19 [4] [] [jbf]
def q9y:SE E:=mF 62 f62 I00 [] [⟨false,U0r⟩] z2l [] [jmh] []
def qav{U:Type}:Cut U:=⟨5,⟨[(3,D08),(4,D0t)],[B04]⟩,[⟨.exit 0,⟨[(4,D0t),(3,D08)],[B04]⟩⟩],fun _ q=>Plain.qp5 q⟩
theorem jdu self q:qh9 self q=Cut.go Eb ⟨f55.ntmps,0,false⟩ (qx f55) [5,11,20,27] 12 [] [] () qav self q:=by kernel_rfl
theorem jd0{U:Type}(u:U):(qav:Cut U).Sound Eb ⟨f55.ntmps,0,false⟩ (qx f55) u:=qbn (S:=(qav (U:=Unit)).S) (outs:=(qav (U:=Unit)).outs) [] [] qn5 trivial trivial jdu
def gw{U:Type}:Cut U:=⟨11,⟨[(6,D00),(5,D0t),(4,D0t),(3,D08)],[B04]⟩,[⟨.exit 2,⟨[(3,D08)],[B04]⟩⟩],fun _ q=>Plain.qev q⟩
theorem q73 self q:qdj self q=Cut.go Eb ⟨f55.ntmps,0,false⟩ (qx f55) [5,11,20,27] 12 [] [] () gw self q:=by kernel_rfl
theorem q8d{U:Type}(u:U):(gw:Cut U).Sound Eb ⟨f55.ntmps,0,false⟩ (qx f55) u:=qbn (S:=(gw (U:=Unit)).S) (outs:=(gw (U:=Unit)).outs) [] [] qn5 trivial trivial q73
def q97:SE E:=mF 101 f101 [] [] F0d z47 [] [] []
def q96:SE E:=mF 102 f102 [] [] F0d z3u [] [] []
def q6l:SC E f103 0:=mL 11 ⟨[(10,D00),(8,D00),(2,D02),(9,D0a),(1,D0f),(0,D0f),(7,D0b)],[B00]⟩ [⟨.exit 2,⟨[(2,D02),(1,D0f),(0,D0f),(8,D00),(9,D0a),(7,D0b)],[B00]⟩⟩] qdc [4,11,17,28,35] [] []
def jam:SC E f103 0:=mL 4 ⟨[(8,D00),(2,D02),(7,D0b),(1,D0f),(0,D0f)],[B00]⟩ [⟨.exit 0,U0f⟩] qh8 [4,11,17,28,35] [] [q6l]
def jaq:SC E f146 0:=mL 4 ⟨[(6,D00),(5,D0a),(0,D0a),(1,D00)],[]⟩ [⟨.exit 0,⟨[(5,D0a),(0,D0a),(1,D00)],[]⟩⟩] qij [4,11] [] []
def q6v:SC E f146 0:=mL 11 ⟨[(8,D00),(7,D0a),(5,D0a),(0,D0a)],[]⟩ [⟨.exit 2,⟨[(7,D0a),(5,D0a),(0,D0a)],[]⟩⟩] qdv [4,11] [] []
def jhx:SE E:=mF 146 f146 [D0a,D00] [] F0c z0d [4,11] [] [jaq,q6v]
def q6m:SC E f103 0:=mL 17 ⟨[(11,D00),(7,D0b),(1,D0f),(0,D0f)],[B00]⟩ [⟨.exit 4,U0f⟩] qdd [4,11,17,28,35] [jhx] []
def jnz:SE E:=mF 147 f147 [D0f,D0a,D0a] [] F0d z3v [] [jhx] []
def q6n:SC E f103 0:=mL 28 ⟨[(17,D00),(7,D0b),(1,D0f),(16,D0f),(0,D0f)],[B00]⟩ [⟨.exit 6,⟨[(16,D0f),(0,D0f)],[]⟩⟩] qde [4,11,17,28,35] [jnz] []
def q6o:SC E f103 0:=mL 35 ⟨[(19,D00),(16,D0f),(0,D0f),(18,D0b)],[B00]⟩ [⟨.exit 8,⟨[(18,D0b)],[B00]⟩⟩] qdf [4,11,17,28,35] [] []
def q9s:SE E:=mF 103 f103 [D0f,D0f,D02] [] F0d z01 [4,11,17,28,35] [] [jam,q6m,q6n,q6o]
def gx{U:Type}:Cut U:=⟨20,⟨[(9,D00),(3,D08),(8,D0f),(7,D0f)],[.arr (.int .u8) false]⟩,[⟨.exit 4,⟨[(7,D0f)],[]⟩⟩],fun _ q=>Plain.qew q⟩
theorem q74 self q:qdk self q=Cut.go Eb ⟨f55.ntmps,0,false⟩ (qx f55) [5,11,20,27] 12 [(q9s.e _)] [] () gx self q:=by kernel_rfl
theorem q8e{U:Type}(u:U):(gx:Cut U).Sound Eb ⟨f55.ntmps,0,false⟩ (qx f55) u:=qbn (S:=(gx (U:=Unit)).S) (outs:=(gx (U:=Unit)).outs) [(q9s.e _)] [] qn5 ⟨((q9s.s _ _)).env rfl,trivial⟩ trivial q74
def gy{U:Type}:Cut U:=⟨27,⟨[(63,D00),(10,D08),(61,D0f),(62,D00)],[B04]⟩,[⟨.exit 6,⟨[(10,D08)],[B04]⟩⟩],fun _ q=>Plain.gu q⟩
theorem q75 self q:qdl self q=Cut.go Eb ⟨f55.ntmps,0,false⟩ (qx f55) [5,11,20,27] 12 [] [] () gy self q:=by kernel_rfl
theorem q8f{U:Type}(u:U):(gy:Cut U).Sound Eb ⟨f55.ntmps,0,false⟩ (qx f55) u:=qbn (S:=(gy (U:=Unit)).S) (outs:=(gy (U:=Unit)).outs) [] [] qn5 trivial trivial q75
def qzp{U:Type}:Ent U:=⟨55,[.d .str],[],F02,fun _ q=>Plain.z04 q⟩
theorem jpa q:z04 q=Ent.runs Eb f55 [5,11,20,27] 12 [(q97.e _),(q96.e _)] [qav,gw,gx,gy] () qzp q:=by kernel_rfl
theorem jpp{U:Type}(u:U):(qzp:Ent U).Sound E u:=(jo4 (fn:=f55) (e:=qzp) [(q97.e _),(q96.e _)] [qav,gw,gx,gy] qn5 func55 rfl rfl rfl ⟨((q97.s _ _)).env rfl,((q96.s _ _)).env rfl,trivial⟩ ⟨jd0 _,q8d _,q8e _,q8f _,trivial⟩ jpa:(qzp:Ent Unit).Sound Eb ()).env rfl
def jhw:SE E:=⟨fun _=>qzp,fun _=>jpp⟩
def jng:SE E:=mF 88 f88 [D02,D02] [] F00 z3b [] [q9y,jhw] []
def jbs:SC E f52 0:=mL 3 ⟨[(10,D00),(1,D02),(8,D0d),(9,D00)],[]⟩ C03 qjo [3] [] []
def jmq:SE E:=mF 52 f52 [.d y0m,D02] [] F03 z1p [3] [] [jbs]
def jar:SC E f43 0:=mL 3 ⟨[(11,D00),(1,D01),(9,D0d),(10,D00)],[B06]⟩ C0a qim [3,13] [jng,jmq] []
def q6y:SC E f43 0:=mL 13 ⟨[(40,D00),(1,D01),(5,D00),(38,.d y0a),(39,D00)],[B06]⟩ C0c qdy [3,13] [] []
def jca:SC E f53 0:=mL 4 U0c C09 q55 [4] [] []
def jm9:SE E:=mF 53 f53 [.d y0m] [] F03 z2g [4] [] [jca]
def jl7:SE E:=mF 43 f43 [.d y0m] [] F00 z0f [3,13] [jm9] [jar,q6y]
def jbo:SC E f47 0:=mL 5 ⟨[(7,D00),(6,D02),(5,D0k),(0,D02),(1,D0l)],[B0b]⟩ [⟨.exit 0,⟨[(6,D02),(5,D0k)],[B0b]⟩⟩] qjk [5] [] []
def jmn:SE E:=mF 47 f47 [D02,D0l] [] F07 z1l [5] [] [jbo]
def q93:SE E:=mF 93 f93 [D0l] [] F00 z2t [] [] []
def jbx:SC E f94 0:=mL 6 U08 C01 qjt [6] [] []
def jmu:SE E:=mF 94 f94 I00 [] F00 z1u [6] [] [jbx]
def jbk:SC E f48 0:=mL 7 ⟨[(4,D00),(0,D02),(3,D02)],[]⟩ C02 qjg [7] [q93,jmu] []
def jmj:SE E:=mF 48 f48 I00 [] F00 z1h [7] [q93] [jbk]
def jbb:SC E f14 0:=mL 3 ⟨[(8,D00),(6,D07),(0,D02),(7,D00)],[]⟩ C01 qja [3] [jmj] []
def jh2:SE E:=mF 14 f14 I00 [] F00 z15 [3] [jmn] [jbb]
def ja6:SC E f22 0:=mL 3 ⟨[(12,D00),(1,D02),(10,D0d),(11,D00)],[]⟩ [⟨.ret,⟨[(4,D02),(5,D00)],[]⟩⟩,⟨.exit 0,U05⟩] qi6 [3] [q9y,jhw] []
def qnm:SE E:=mF 22 f22 [D0d,D02] [] F04 z10 [3] [] [ja6]
def jax:SC E f23 0:=mL 3 U06 C00 qiu [3] [] []
def qs2:SE E:=mF 23 f23 I01 [] F00 z0n [3] [] [jax]
def jbw:SC E f89 0:=mL 3 ⟨[(11,D00),(0,D07),(1,D0d),(9,D07),(10,D00)],[]⟩ C00 qjs [3] [qnm,qs2] []
def jmt:SE E:=mF 89 f89 [D07,D0d] [] F00 z1t [3] [] [jbw]
def jbj:SC E f168 0:=mL 6 ⟨[(4,D01),(5,D00),(1,D00),(0,D02)],[B0s]⟩ [⟨.ret,U0o⟩,⟨.exit 0,U0o⟩] qjf [6] [] []
def qs3:SE E:=mF 168 f168 [D02,D00] [] [⟨false,U0k⟩] z1g [6] [] [jbj]
def jbg:SC E f169 0:=mL 4 ⟨[(4,D01),(1,D00),(0,D02),(5,D00),(6,D00)],[B0s]⟩ [⟨.ret,U0o⟩,⟨.exit 0,⟨[(4,D01),(1,D00),(5,D00),(6,D00),(0,D02)],[B0s]⟩⟩] qb2 [4] [] []
def qnk:SE E:=⟨fun _=>qbf,fun _=>qo4⟩
def q9w:SE E:=mF 169 f169 [D02,D00] [] [⟨false,U0k⟩] z1d [4] [qnk] [jbg]
def jci{U:Type}:Ent U:=⟨141,[.d .str,.d (.int .i64),.d (.int .i64)],[],[⟨false,U0k⟩],fun _ q=>Plain.z05 q⟩
def q6f{U:Type}:Cut U:=⟨20,⟨[(6,D01),(7,D04),(0,D02),(8,D0l),(2,D00),(1,D00)],[B0s,.var [D00,D00,D02,D0z,D09],B0t,B0b]⟩,[⟨.ret,⟨[(6,D01)],[B0s]⟩⟩,⟨.exit 0,⟨[(6,D01)],[B0s]⟩⟩],fun _ q=>Plain.ji q⟩
def qlh:Ent (Un Plain.q18 Plain.qp6):={ (jci:Ent (Un Plain.q18 Plain.qp6)) with G:=fun u q=>u (.inl q) }
def xb:Cut (Un Plain.q18 Plain.qp6):={ (q6f:Cut (Un Plain.q18 Plain.qp6)) with L:=fun u q=>u (.inr q) }
theorem jpb u q:ql8 u (.inl q)=Ent.runs E f141 [20] 12 [(qs3.e _),(q9w.e _)] [xb] u qlh q:=by kernel_rfl
theorem q76 u q:ql8 u (.inr q)=Cut.go E ⟨f141.ntmps,0,false⟩ (qx f141) [20] 12 [(qs3.e _),qlh] [] u xb (fun q=>u (.inr q)) q:=by kernel_rfl
def z4f: ∀a,Plain.qp6 a→Prop
 |(.inl x),y=>qbb E qlh.f qlh.ins qlh.hin qlh.outs x y
 |(.inr x),y=>qfd E ⟨f141.ntmps,0,false⟩ (qx f141) xb.k xb.S xb.outs x y
theorem jp6: ∀a y,wi Plain.ql8 a=some y→z4f a y:=zr fun u hu a=>match a with
 |(.inl x)=>fun y h=>ku (fn:=f141) (es:=[(qs3.e _),(q9w.e _)]) (cs:=[xb]) (e:=qlh) envOK func141 rfl rfl rfl ⟨(qs3.s _ _),(q9w.s _ _),trivial⟩ ⟨fun x y h=>hu (.inr x) y h,trivial⟩ ((jpb u x).symm.trans h)
 |(.inr x)=>fun y h=>zo (E:=E) (F:=⟨f141.ntmps,0,false⟩) (body:=qx f141) (k:=xb.k) (S:=xb.S) (outs:=xb.outs) (es:=[(qs3.e _),qlh]) (cs:=[]) envOK ⟨(qs3.s _ _),fun x y h=>hu (.inl x) y h,trivial⟩ trivial (fun x y h=>hu (.inr x) y h) ((q76 u x).symm.trans h)
theorem jpq{U:Type}(u:U):(jci:Ent U).Sound E u:=fun x y h=>jp6 (.inl x) y h
def ja3:SC E f205 0:=mL 3 U08 C01 qi4 [3] [] []
def jh1:SE E:=mF 205 f205 I00 [] F00 z0v [3] [] [ja3]
def ja5:SC E f45 0:=mL 3 ⟨[(5,D00),(1,D02),(0,D02)],[]⟩ [⟨.ret,U02⟩,⟨.exit 0,⟨[(1,D02),(0,D02)],[]⟩⟩] qe6 [3] [] []
def q4u:SE E:=mF 45 f45 [D02,D02] [] F00 z0y [3] [] [ja5]
def jat:SC E f190 0:=mL 9 ⟨[(92,D00),(1,D01),(90,D07),(91,D00)],[B08]⟩ C02 qio [9] [jh1,q4u] []
def q9t:SE E:=mF 190 f190 [D0s] [] F00 z0h [9] [jh1] [jat]
def jcj{U:Type}:Ent U:=⟨170,[.d .val,.d (.int .i64)],[],F00,fun _ q=>Plain.z06 q⟩
def jac{U:Type}:Cut U:=⟨6,⟨[(17,D00),(1,D00),(15,.d y07),(16,D00)],[]⟩,C00,fun _ q=>Plain.qas q⟩
def qli:Ent (Un Plain.q19 Plain.qp8):={ (jcj:Ent (Un Plain.q19 Plain.qp8)) with G:=fun u q=>u (.inl q) }
def yj:Cut (Un Plain.q19 Plain.qp8):={ (jac:Cut (Un Plain.q19 Plain.qp8)) with L:=fun u q=>u (.inr q) }
theorem jpc u q:ql9 u (.inl q)=Ent.runs E f170 [6] 12 [(q9t.e _)] [yj] u qli q:=by kernel_rfl
theorem jdv u q:ql9 u (.inr q)=Cut.go E ⟨f170.ntmps,0,false⟩ (qx f170) [6] 12 [qli] [] u yj (fun q=>u (.inr q)) q:=by kernel_rfl
def z4g: ∀a,Plain.qp8 a→Prop
 |(.inl x),y=>qbb E qli.f qli.ins qli.hin qli.outs x y
 |(.inr x),y=>qfd E ⟨f170.ntmps,0,false⟩ (qx f170) yj.k yj.S yj.outs x y
theorem jp7: ∀a y,wi Plain.ql9 a=some y→z4g a y:=zr fun u hu a=>match a with
 |(.inl x)=>fun y h=>ku (fn:=f170) (es:=[(q9t.e _)]) (cs:=[yj]) (e:=qli) envOK func170 rfl rfl rfl ⟨(q9t.s _ _),trivial⟩ ⟨fun x y h=>hu (.inr x) y h,trivial⟩ ((jpc u x).symm.trans h)
 |(.inr x)=>fun y h=>zo (E:=E) (F:=⟨f170.ntmps,0,false⟩) (body:=qx f170) (k:=yj.k) (S:=yj.S) (outs:=yj.outs) (es:=[qli]) (cs:=[]) envOK ⟨fun x y h=>hu (.inl x) y h,trivial⟩ trivial (fun x y h=>hu (.inr x) y h) ((jdv u x).symm.trans h)
theorem jpr{U:Type}(u:U):(jcj:Ent U).Sound E u:=fun x y h=>jp7 (.inl x) y h
def jl1:SE E:=⟨fun _=>jcj,fun _=>jpr⟩
def jnn:SE E:=mF 142 f142 [D0s] [] F00 z3i [] [jl1] []
def jl0:SE E:=⟨fun _=>jci,fun _=>jpq⟩
def jni:SE E:=mF 95 f95 I00 [] [⟨false,⟨[(0,.tup [.d .val,.d .bool])],[]⟩⟩] z3d [] [jl0,jnn] []
def ja1:SC E f96 0:=mL 3 ⟨[(4,D01),(2,D04),(10,D00),(1,D02),(8,D07),(9,D00)],[B08,B08]⟩ [⟨.ret,⟨[(4,D01)],[B08]⟩⟩,⟨.exit 0,⟨[(4,D01)],[B08]⟩⟩] qi2 [3] [] []
def jhz:SE E:=mF 96 f96 [D0s,D02] [] F05 z0t [3] [] [ja1]
def q6w:SC E f49 0:=mL 11 ⟨[(35,D00),(6,D01),(33,.d y07),(2,D04),(0,D02),(4,D06),(34,D00)],H06⟩ [⟨.exit 0,⟨[(6,D01),(2,D04),(0,D02),(4,D06)],H06⟩⟩] qdw [11,18] [jhz] []
def q6x:SC E f49 0:=mL 18 ⟨[(56,D00),(6,D01),(54,.d y07),(2,D04),(0,D02),(55,D00)],[B0n,B07,B0i,B0b]⟩ [⟨.exit 2,⟨[(2,D01),(6,D04),(0,D02)],[B07,B0n,B0i,B0b]⟩⟩] qdx [11,18] [] []
def q90:SE E:=mF 143 f143 I00 [] F00 z2o [] [q9y] []
def jbp:SC E f144 0:=mL 3 U06 C00 qjl [3] [] []
def jh5:SE E:=mF 144 f144 I01 [] F00 z1m [3] [] [jbp]
def jau:SC E f97 0:=mL 3 ⟨[(10,D00),(1,D01),(8,D07),(9,D00)],[B0h]⟩ C0b qiq [3,12] [q90,jh5] []
def q60:SC E f97 0:=mL 12 ⟨[(30,D00),(28,.d y0b),(1,D01),(29,D00)],[B0h]⟩ [⟨.ret,U01⟩,⟨.exit 2,U0n⟩] qd0 [3,12] [q90] []
def jhy:SE E:=mF 97 f97 [D13] [] F00 z0j [3,12] [q90] [jau,q60]
def ja0:SC E f98 0:=mL 6 ⟨[(13,D00),(3,D02),(11,D07),(12,D00)],[]⟩ [⟨.exit 0,⟨[(3,D02)],[]⟩⟩] qiz [6,16] [] []
def q65:SC E f98 0:=mL 16 ⟨[(34,D00),(3,D02),(32,.d y0b),(1,D01),(33,D00)],[B0h]⟩ [⟨.exit 2,⟨[(3,D02),(1,D01)],[B0h]⟩⟩] qd5 [6,16] [qnk] []
def jmd:SE E:=mF 98 f98 [D13] [] F02 z0q [6,16] [] [ja0,q65]
def qzc:SE E:=mF 49 f49 I00 [] [⟨false,U0b⟩] z0e [11,18] [jni,jhz,jhy,jmd] [q6w,q6x]
def jbd:SC E f100 0:=mL 3 U06 C00 qjb [3] [] []
def qla:SE E:=mF 100 f100 I01 [] F00 z17 [3] [] [jbd]
def ja9:SC E f99 0:=mL 8 ⟨[(23,D00),(3,D0k),(21,.d y0b),(22,D00)],[B01]⟩ C08 qi8 [8] [jh5] []
def qze:SE E:=mF 99 f99 [D13] [] F07 z13 [8] [jhy] [ja9]
def gv{U:Type}:Cut U:=⟨25,⟨[(66,D00),(5,D06),(64,D07),(8,D0m),(2,D02),(65,D00)],[B0l,B0l,.var [D0c,D0o,D00],B0c,B01,B01]⟩,[⟨.exit 2,⟨[(8,D06),(5,D0m),(2,D02)],[B0l,B0l,B0c,.var [D0c,D0o,D00],B01,B01]⟩⟩],fun _ q=>Plain.qby q⟩
theorem q72 self q:qdi self q=Cut.go E ⟨f51.ntmps,2,false⟩ (qx f51) [14,25] 12 [(qla.e _)] [] () gv self q:=by kernel_rfl
theorem q8c{U:Type}(u:U):(gv:Cut U).Sound E ⟨f51.ntmps,2,false⟩ (qx f51) u:=qbn (S:=(gv (U:=Unit)).S) (outs:=(gv (U:=Unit)).outs) [(qla.e _)] [] envOK ⟨(qla.s _ _),trivial⟩ trivial q72
def jch{U:Type}:Ent U:=⟨51,[.d y09,.agg [.fx (.own .str 0 false),.fx (.own .str 1 false),.d (.int .i64)],.d .str,.d (.int .i64)],[.arr .str false,.arr .str false],[⟨false,⟨[(0,.agg [.fx (.own .str 2 false),.fx (.own .str 3 false),.d (.int .i64)])],[B0l,B0l,B01,B01]⟩⟩],fun _ q=>Plain.z03 q⟩
def q6e{U:Type}:Cut U:=⟨14,⟨[(8,D06),(5,D0m),(42,D00),(3,D00),(0,D0d),(40,D07),(2,D02),(11,.fx (.ptr 4 0)),(41,D00)],[B0l,B0l,B0c,B0r,B0h,B01,B01]⟩,[⟨.ret,⟨[(8,D06)],[B0l,B0l,B0v,B01,B01]⟩⟩,⟨.exit 0,⟨[(5,D06),(8,D0m),(2,D02),(11,.fx (.ptr 4 0))],[B0l,B0l,B0r,B0c,B0h,B01,B01]⟩⟩],fun _ q=>Plain.yw q⟩
def qlg:Ent (Un Plain.q17 Plain.qpz):={ (jch:Ent (Un Plain.q17 Plain.qpz)) with G:=fun u q=>u (.inl q) }
def w9:Cut (Un Plain.q17 Plain.qpz):={ (q6e:Cut (Un Plain.q17 Plain.qpz)) with L:=fun u q=>u (.inr q) }
theorem jo9 u q:ql7 u (.inl q)=Ent.runs E f51 [14,25] 12 [(qnm.e _),(qzc.e _),(qze.e _)] [w9,gv] u qlg q:=by kernel_rfl
theorem q71 u q:ql7 u (.inr q)=Cut.go E ⟨f51.ntmps,2,false⟩ (qx f51) [14,25] 12 [(qla.e _),qlg] [] u w9 (fun q=>u (.inr q)) q:=by kernel_rfl
def z4d: ∀a,Plain.qpz a→Prop
 |(.inl x),y=>qbb E qlg.f qlg.ins qlg.hin qlg.outs x y
 |(.inr x),y=>qfd E ⟨f51.ntmps,2,false⟩ (qx f51) w9.k w9.S w9.outs x y
theorem jp5: ∀a y,wi Plain.ql7 a=some y→z4d a y:=zr fun u hu a=>match a with
 |(.inl x)=>fun y h=>ku (fn:=f51) (es:=[(qnm.e _),(qzc.e _),(qze.e _)]) (cs:=[w9,gv]) (e:=qlg) envOK func51 rfl rfl rfl ⟨(qnm.s _ _),(qzc.s _ _),(qze.s _ _),trivial⟩ ⟨fun x y h=>hu (.inr x) y h,q8c _,trivial⟩ ((jo9 u x).symm.trans h)
 |(.inr x)=>fun y h=>zo (E:=E) (F:=⟨f51.ntmps,2,false⟩) (body:=qx f51) (k:=w9.k) (S:=w9.S) (outs:=w9.outs) (es:=[(qla.e _),qlg]) (cs:=[]) envOK ⟨(qla.s _ _),fun x y h=>hu (.inl x) y h,trivial⟩ trivial (fun x y h=>hu (.inr x) y h) ((q71 u x).symm.trans h)
theorem jpo{U:Type}(u:U):(jch:Ent U).Sound E u:=fun x y h=>jp5 (.inl x) y h
def jlz:SE E:=⟨fun _=>jch,fun _=>jpo⟩
def q66:SC E f51 0:=mL 14 ⟨[(8,D01),(5,D04),(42,D00),(3,D00),(0,D0d),(40,D07),(2,D02),(11,D06),(41,D00)],[B0c,B0v,B0h,B01,B01]⟩ [⟨.ret,⟨[(8,D01)],[.var [D0y,D0n,D00],B01,B01]⟩⟩,⟨.exit 0,⟨[(5,D01),(8,D04),(2,D02),(11,D06)],[B0v,B0c,B0h,B01,B01]⟩⟩] qd6 [14,25] [qla,jlz] []
def q67:SC E f51 0:=mL 25 ⟨[(66,D00),(5,D01),(64,D07),(8,D04),(2,D02),(65,D00)],[.var [D0n,D09,D00],B0c,B01,B01]⟩ [⟨.exit 2,⟨[(8,D01),(5,D04),(2,D02)],[B0c,.var [D0n,D09,D00],B01,B01]⟩⟩] qd7 [14,25] [qla] []
def jme:SE E:=mF 51 f51 [D0d,.agg [.fx (.sl .str [] true),.fx (.sl .str [] true),.d (.int .i64)],D02,D00] [] [⟨false,⟨[(0,.agg [.fx (.own .str 0 false),.fx (.own .str 1 false),.d (.int .i64)])],[B01,B01]⟩⟩] z0s [14,25] [qnm,qzc,qze] [q66,q67]
def jaw:SC E f50 0:=mL 3 ⟨[(12,D00),(2,D01),(10,D07),(3,D04),(11,D00)],[B02,B0h]⟩ [⟨.ret,U02⟩,⟨.exit 0,⟨[(2,D01),(3,D04)],[B02,B0h]⟩⟩] qit [3,12] [qs2] []
def q62:SC E f50 0:=mL 12 ⟨[(25,D00),(2,D01),(23,D07),(24,D00)],H00⟩ C06 qd2 [3,12] [qs2] []
def jma:SE E:=mF 50 f50 [.d y0l,D13] [] F00 z0m [3,12] [qze] [jaw,q62]
def jay:SC E f44 0:=mL 6 ⟨[(41,D00),(2,D01),(1,D0d),(39,D07),(40,D00)],H00⟩ [⟨.ret,U02⟩,⟨.exit 0,⟨[(2,D01)],H00⟩⟩] qiv [6,18] [qnm,qzc,jme,jma] []
def jbm:SC E f90 0:=mL 3 U08 C01 qji [3] [q93] []
def jml:SE E:=mF 90 f90 I00 [] F00 z1j [3] [] [jbm]
def q63:SC E f44 0:=mL 18 ⟨[(76,D00),(2,D01),(74,D0d),(75,D00)],H00⟩ C06 qd3 [6,18] [jml,qs2,q4u] []
def jmb:SE E:=mF 44 f44 [.d y0l,D0d] [] F00 z0o [6,18] [jh2,jmt] [jay,q63]
def jbq:SC E f12 0:=mL 6 ⟨[(18,D00),(1,D01),(16,.d y0p),(17,D00)],[B05]⟩ C02 qjm [6] [jmb,q4u] []
def jmo:SE E:=mF 12 f12 [D0r] [] F00 z1n [6] [jl7] [jbq]
def jav:SC E f91 0:=mL 6 ⟨[(40,D00),(3,D01),(2,D04),(39,D00)],[B06,B06]⟩ [⟨.ret,U02⟩,⟨.exit 0,⟨[(3,D01),(2,D04)],[B06,B06]⟩⟩] qis [6,15] [] []
def q61:SC E f91 0:=mL 15 ⟨[(58,D00),(3,D01),(2,D04),(57,D00)],[B06,B06]⟩ C06 qd1 [6,15] [] []
def jl9:SE E:=mF 91 f91 [.d y0m,.d y0m] [] F00 z0l [6,15] [] [jav,q61]
def jbz:SC E f92 0:=mL 6 ⟨[(13,D00),(1,D07),(0,D07),(12,D00)],[]⟩ C00 qjv [6] [] []
def jmw:SE E:=mF 92 f92 [D07,D07] [] F00 z1w [6] [] [jbz]
def jb1:SC E f31 0:=mL 6 ⟨[(13,D00),(1,D0d),(0,D0d),(12,D00)],[]⟩ C00 qjx [6] [] []
def jmy:SE E:=mF 31 f31 [D0d,D0d] [] F00 z1y [6] [] [jb1]
def jbr:SC E f46 0:=mL 6 ⟨[(26,D00),(3,D01),(24,.d y0p),(25,D00)],[B05]⟩ C00 qjn [6] [jmw,jmy] []
def jmp:SE E:=mF 46 f46 [D0r,D0r] [] F00 z1o [6] [jl9] [jbr]
def jnc:SE E:=mF 13 f13 [D0r,D0r,D00,D00] [] F00 z2j [] [jmp] []
def jbh:SC E f19 0:=mL 3 ⟨[(4,D01),(10,D00),(1,D02),(8,.d y0p),(9,D00)],H00⟩ [⟨.ret,⟨[(4,D01)],H00⟩⟩,⟨.exit 0,⟨[(4,D01),(1,D02)],H00⟩⟩] qjd [3] [] []
def jmi:SE E:=mF 19 f19 [D0r,D02] [] [⟨false,⟨[(0,.d y0l)],[]⟩⟩] z1e [3] [] [jbh]
def jnl:SE E:=mF 20 f20 I01 [] F07 z3g [] [qs2] []
def jby:SC E f21 0:=mL 5 ⟨[(14,D00),(3,D01),(6,.fx (.own y0l 1 false)),(7,D03),(12,.d y0p),(4,D06),(2,D0m),(13,D00)],[B02,B0q,B05,B05]⟩ [⟨.exit 0,⟨[(4,D01),(2,D04),(3,D06),(6,.fx (.own y0l 3 false)),(7,D03)],[B05,B05,B02,B0q]⟩⟩] qju [5] [q4u] []
def jmv:SE E:=mF 21 f21 [D0r,.d y0l] [] [⟨false,U0q⟩] z1v [5] [] [jby]
def jnh:SE E:=mF 59 f59 [D01,D04,D06,D0m] [B02,B05,B03,B03] [⟨false,⟨L00,[B02,B05,B03,B03]⟩⟩] z3c [] [qzd,gg,q92] []
def jn4:SE E:=mF 35 f35 [D0r,D02,D03,.fn (.func 59) [] [.fx (.ptr 0 0),.fx (.ptr 1 0),.fx (.ptr 2 0)]] [B05,B03,B03] [⟨false,⟨[(0,D0j)],[B05,B03,B03]⟩⟩] z40 [] [q9u,wv,qzd,jnh,q95,q94] []
def jna:SE E:=mF 18 f18 [D0r,D02,D02,D02] [] [⟨false,U0q⟩] z2h [] [wv,jn4] []
def b_law12_RegistryLinks:SE E:=mF 4 f4 [D0r,D02,D02,D02] [] F00 xg [] [jl5,jh6,jna,jnx,jmo,jnc,jh2,jmi,jnl,jmv,qnm,qs2] []
end Go.Proofs.Tryz
