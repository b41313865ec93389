import Derived.Test.YtjmmcdbogbpedaaGreatDoorRGEnv
import Derived.Test.YtjmmcdbogbpedaaGreatDoorRGP
import Derived.Test.YtjmmcdbogbpedaaGreatDoorRGIns
import Derived.Shelf.Strings.SlTrimAscii
noncomputable section
namespace Go.Proofs.Tryz
open Go.AM Go.Plain
instance:EnvK E:=⟨envOK⟩
set_option linter.unusedVariables false
set_option maxRecDepth 100000
def u6{U:Type}:Ent U:=⟨113,[.d y01,.d .str],[],F03,fun _ q=>yw q⟩
theorem qlk{U:Type}(u:U):(u6:Ent U).Sound E u:=qk2 ⟨_,func113,rfl,rfl⟩ (fun a c sep w=>strings_Join_none a c sep w) fun bk o c xs sep w h1 h2 h3 h4 h5=>strings_Join bk o c xs sep w h1 h2 h3 h4 h5
def qoi{U:Type}:Ent U:=⟨63,[.d .str],[],F03,fun _ q=>qjj q⟩
theorem q0u{U:Type}(u:U):(qoi:Ent U).Sound E u:=qtn ⟨_,func63,rfl,rfl⟩ fun s w h=>octet_Hex s w h
def qbc{U:Type}:Ent U:=⟨58,[.d .str],[],F01,fun _ q=>qz q⟩
theorem qll{U:Type}(u:U):(qbc:Ent U).Sound E u:=qtm ⟨_,func58,rfl,rfl⟩ qk8
def qap{U:Type}:Ent U:=⟨172,[.d .str,.d .str],[],[⟨false,⟨[(0,.tup [.d .str,.d .bool])],[]⟩⟩],fun _ q=>yl q⟩
theorem qja{U:Type}(u:U):(qap:Ent U).Sound E u:=jef ⟨_,func172,rfl,rfl⟩ fun s p w=>z35 s p w
def qaq{U:Type}:Ent U:=⟨193,[.d .str,.d (.int .u8)],[],F02,fun _ q=>jd q⟩
theorem qjb{U:Type}(u:U):(qaq:Ent U).Sound E u:=qdo ⟨_,func193,rfl,rfl⟩ fun s c w=>strings_IndexByte s c w
def qoh{U:Type}:Ent U:=⟨188,[.d .str,.d .str],[],[⟨false,⟨[(0,.tup [.d .str,.d .str,.d .bool])],[]⟩⟩],fun _ q=>qfa q⟩
theorem q0t{U:Type}(u:U):(qoh:Ent U).Sound E u:=qnr ⟨_,func188,rfl,rfl⟩ (List.mem_cons_self ..) fun s sep m w h1 h2=>strings_Cut s sep m w h1 h2
def qbd{U:Type}:Ent U:=⟨189,[.d .str,.d .str],[],F03,fun _ q=>xk q⟩
theorem qlm{U:Type}(u:U):(qbd:Ent U).Sound E u:=qec ⟨_,func189,rfl,rfl⟩ fun s cs w h1 h2=>Any.strings_TrimLeft_laid lays161 (by kernel_rfl) s cs w h1 h2
def qd8{U:Type}:Ent U:=⟨145,[.d (.int .i64)],[],F03,fun _ q=>zw q⟩
theorem qws{U:Type}(u:U):(qd8:Ent U).Sound E u:=qk1 ⟨_,func145,rfl,rfl⟩ (List.mem_cons_self ..) (by kernel_rfl) fun n h0 h1 w ht=>strconv_Itoa n h0 h1 w ht
def q85{U:Type}:Ent U:=⟨79,[.d y0n],[],[⟨false,⟨[(0,.fx (.own y0j 0 false))],[B0s]⟩⟩],fun _ q=>z1i q⟩
theorem je2{U:Type}(u:U):(q85:Ent U).Sound E u:=qx5 fun l hl=>by
 refine qh.bodyR envOK func79 rfl rfl rfl ?_
 conv=>whnf
 intro b hb
 conv=>whnf
 refine ux (fun h=> ?_) (fun h=> ?_)
 ·have e : l = [] := List.eq_nil_of_length_eq_zero (hb (by simpa using h))
  subst e
  conv=>whnf
  refine⟨[.emp (y0j) true],_,_, ?_,rfl,rfl⟩
  repeat' (first|exact trivial|exact rfl|exact .inl rfl|(exact .inr rfl)|refine And.intro ?_ ?_)
 ·conv => whnf
  refine And.intro (show qq (0+l.length) _ from⟨Nat.le_trans (Nat.mul_le_mul (show 0+l.length≤4294967296 by omega) (show _≤1024 from of_decide_eq_true (by kernel_rfl))) (by decide),by omega⟩) ?_
  conv=>whnf
  refine⟨[.old 1],_,_, ?_,rfl,rfl⟩
  repeat' (first|exact trivial|exact rfl|exact .inl rfl|(exact .inr rfl)|refine And.intro ?_ ?_)
def q84{U:Type}:Ent U:=⟨80,[.fx (.own y0j 0 false),.d (.int .i64),.fx (.own y0j 1 true)],[.arr y0j true,.arr y0j true],[⟨false,⟨[(0,.d y0n)],[.gone,B0s]⟩⟩],fun _ q=>z1h q⟩
theorem je1{U:Type}(u:U):(q84:Ent U).Sound E u:=q0a fun l i x hi hl=>q9q l i x hi hl
def qdu{U:Type}:Ent U:=⟨131,[.d .str,.d .str],[],F02,fun _ q=>qbq q⟩
theorem qnu{U:Type}(u:U):(qdu:Ent U).Sound E u:=qe9 ⟨_,func131,rfl,rfl⟩ fun a b w=>strings_Compare a b w
def q86{U:Type}:Ent U:=⟨75,[.d y07],[],[⟨false,⟨[(0,.fx (.own y00 0 false))],[B0b]⟩⟩],fun _ q=>z2k q⟩
theorem je4{U:Type}(u:U):(q86:Ent U).Sound E u:=qx5 fun l hl=>by
 refine qh.bodyR envOK func75 rfl rfl rfl ?_
 conv=>whnf
 intro b hb
 conv=>whnf
 refine ux (fun h=> ?_) (fun h=> ?_)
 ·have e : l = [] := List.eq_nil_of_length_eq_zero (hb (by simpa using h))
  subst e
  conv=>whnf
  refine⟨[.emp (y00) true],_,_, ?_,rfl,rfl⟩
  repeat' (first|exact trivial|exact rfl|exact .inl rfl|(exact .inr rfl)|refine And.intro ?_ ?_)
 ·conv => whnf
  refine And.intro (show qq (0+l.length) _ from⟨Nat.le_trans (Nat.mul_le_mul (show 0+l.length≤4294967296 by omega) (show _≤1024 from of_decide_eq_true (by kernel_rfl))) (by decide),by omega⟩) ?_
  conv=>whnf
  refine⟨[.old 1],_,_, ?_,rfl,rfl⟩
  repeat' (first|exact trivial|exact rfl|exact .inl rfl|(exact .inr rfl)|refine And.intro ?_ ?_)
def q87{U:Type}:Ent U:=⟨76,[.fx (.own y00 0 false),.d (.int .i64),.fx (.own y00 1 true)],[.arr y00 true,.arr y00 true],[⟨false,⟨[(0,D0u)],[.gone,B0b,B0b]⟩⟩],fun _ q=>z33 q⟩
theorem je5{U:Type}(u:U):(q87:Ent U).Sound E u:=q37 fun l i x hi hl=>q9p l i x hi hl
def q88{U:Type}:Ent U:=⟨78,[.fx (.own y00 0 false),.d (.int .i64),.d (.int .i64)],[.arr y00 true],[⟨false,⟨[(0,.fx (.own y00 1 false))],[.gone,B0b]⟩⟩],fun _ q=>z34 q⟩
theorem je6{U:Type}(u:U):(q88:Ent U).Sound E u:=q36 fun l i j full hij hj=>q9o l i j full hij hj
def q2o:SC E f9 0:=mL 5 ⟨[(30,D00),(3,D01),(28,.d y08),(2,D03),(1,D05),(29,D00)],H01⟩ [⟨.exit 0,⟨[(3,D01),(2,D03),(1,D05)],H01⟩⟩] qf5 [5,12,19] [] []
def qzn:SC E f9 0:=mL 12 ⟨[(53,D00),(3,D01),(51,D0a),(2,D03),(1,D05),(52,D00)],[B07,B06,B05,B0b,B0n]⟩ [⟨.exit 2,⟨[(3,D01),(2,D03),(1,D05)],[B07,B06,B05,B0b,B0n]⟩⟩] qcj [5,12,19] [] []
def qzo:SC E f9 0:=mL 19 ⟨[(83,D00),(3,D01),(81,.d y0n),(2,D03),(82,D00)],[B0h,B06,B0b,B0n,B0s]⟩ [⟨.exit 4,⟨[(2,D01),(3,D03)],[B06,B0h,B0b,B0n,B0s]⟩⟩] qck [5,12,19] [] []
def jb1:SE E:=mF 9 f9 [D0h] [] [⟨false,⟨[(0,D0h)],[]⟩⟩] z05 [5,12,19] [] [q2o,qzn,qzo]
def q2l:SC E f64 0:=mL 5 ⟨[(3,D02),(4,.d (.int .u64))],[]⟩ [⟨.exit 0,⟨[(4,.d (.int .u64)),(3,D02)],[]⟩⟩] qf0 [5,10,16,23] [] []
def qzg:SC E f64 0:=mL 10 ⟨[(5,D00),(4,.d (.int .u64)),(3,D02)],[]⟩ [⟨.exit 2,⟨[(3,D02)],[]⟩⟩] qcb [5,10,16,23] [] []
def jdl:SE E:=mF 114 f114 [] [] F07 z32 [] [] []
def jc9:SE E:=mF 154 f154 [D02] [] [⟨false,U0d⟩] z2p [] [] []
def jct:SE E:=mF 179 f179 [D0n,D00] [] [⟨false,U0d⟩] z23 [] [] []
def q8o:SE E:=mF 155 f155 [D0n,D00,D00,D00,D04] [] [⟨false,U0d⟩] z1l [] [jct] []
def q2n:SC E f115 0:=mL 4 ⟨[(14,D00),(5,D01),(1,D02),(2,D03),(4,D05)],[B00,B00,B00]⟩ [⟨.exit 0,⟨[(5,D01),(2,D03),(4,D05)],[B00,B00,B00]⟩⟩] qf2 [4,15,25] [jc9,q8o] []
def qzl:SC E f115 0:=mL 15 ⟨[(51,D00),(7,D01),(5,D03),(2,D05),(4,D0p)],[B00,B00,B00,B00]⟩ [⟨.exit 2,⟨[(2,D01),(7,D03),(4,D05)],[B00,B00,B00]⟩⟩] qch [4,15,25] [q8o] []
def qzm:SC E f115 0:=mL 25 ⟨[(119,D00),(2,D01),(7,D03),(4,D05)],[B00,B00,B00]⟩ [⟨.exit 4,⟨[(4,D01),(2,D03)],[B00,B00]⟩⟩] qci [4,15,25] [] []
def jb0:SE E:=mF 115 f115 [.d y0q,D02] [] F07 z04 [4,15,25] [] [q2n,qzl,qzm]
def qzh:SC E f64 0:=mL 16 ⟨[(3,D02),(6,D01)],[B00]⟩ [⟨.exit 4,⟨[(6,D01)],[B00]⟩⟩] qcc [5,10,16,23] [jb0] []
def qzi:SC E f64 0:=mL 23 ⟨[(46,D00),(7,D0v),(45,.d y0q)],[B0m]⟩ [⟨.exit 6,⟨[(7,D0v)],[B0m]⟩⟩] vp [5,10,16,23] [] []
def qvq:SE E:=⟨fun _=>u6,fun _=>qlk⟩
def q8i:SE E:=mF 64 f64 [D09] [] F03 z00 [5,10,16,23] [qvq,jdl] [q2l,qzg,qzh,qzi]
def qy9:SE E:=⟨fun _=>qoi,fun _=>q0u⟩
def q8r:SE E:=mF 24 f24 [D02] [] F03 z1w [] [q8i,qy9] []
def q2z:SC E f109 0:=mL 3 ⟨[(8,D00),(0,D09),(1,D02),(7,D00)],[]⟩ C02 qgj [3] [] []
def q8l:SE E:=mF 109 f109 [D09,D02] [] F02 Plain.z0q [3] [] [q2z]
def yu:SE E:=mF 61 f61 [D09,D02] [] F01 Plain.z0f [] [q8l] []
def q24:SC E f125 0:=mL 3 ⟨[(7,D00),(0,D09),(5,D09),(6,D00)],[]⟩ [⟨.ret,U04⟩,⟨.exit 0,U0f⟩] qgn [3] [yu] []
def jca:SE E:=mF 125 f125 [D09] [] F01 z0w [3] [] [q24]
def jdh:SE E:=mF 105 f105 [.d y00,D01] [B01] F08 z2x [] [] []
def q26:SC E f104 1:=mL 3 ⟨[(8,.d (.int .i64)),(0,.d y07),(1,.fn (.func 105) [] [.fx (.ptr 0 0)]),(7,.d (.int .i64))],[.dat .str]⟩ C00 qgp [3] [jdh] []
def jcc:SE E:=mF 104 f104 [D0a,.fn (.func 105) [] [.fx (.ptr 0 0)]] [B01] [⟨false,U0a⟩] z0y [3] [] [q26]
def qi1:SE E:=⟨fun _=>qaq,fun _=>qjb⟩
def q2u:SC E f173 0:=mL 7 ⟨[(18,D00),(4,.fx (.own (.int .u8) 0 true)),(0,D02),(17,D00)],[B0m]⟩ [⟨.ret,⟨[(2,D02),(3,D00)],[]⟩⟩,⟨.exit 0,⟨[(4,.fx (.own (.int .u8) 0 true))],[B0m]⟩⟩] qao [7] [qi1] []
def jb5:SE E:=mF 173 f173 [D02] [] F04 z0i [7] [] [q2u]
def qi0:SE E:=⟨fun _=>qap,fun _=>qja⟩
def q8q:SE E:=mF 148 f148 [D02] [] F04 z1t [] [qi0,jb5] []
def q8w:SE E:=mF 106 f106 [D02,D02] [] F02 z25 [] [q8q,q8i] []
def qia:SE E:=mF 57 f57 [D0a,D02] [] F04 z0n [] [jcc,q8w] []
def q2m:SC E f68 1:=mL 6 ⟨[(59,D00),(1,D0a),(57,D09),(0,D01),(58,D00)],[B02]⟩ [⟨.ret,U0c⟩,⟨.exit 0,⟨[(0,D01),(1,D0a)],[B02]⟩⟩] qf1 [6,16,28] [qia] []
def qj6:SE E:=mF 164 f164 [D01] [B0q] [⟨true,U03⟩,⟨false,⟨[(0,D0m)],[B04]⟩⟩] z1n [] [] []
def qj5:SE E:=mF 187 f187 [D01,D0m] [B0q] [⟨true,U03⟩,⟨false,⟨[(0,.tup [])],[B04]⟩⟩] z1k [] [qj6] []
def qy8:SE E:=⟨fun _=>qoh,fun _=>q0t⟩
def qn8:SE E:=mF 165 f165 [D01] [B0q] [⟨true,U03⟩,⟨false,⟨[(0,D02)],[B04]⟩⟩] z1p [] [qj5,qy8] []
def q22:SC E f167 1:=mL 9 ⟨[(53,D00),(5,D03),(4,D02),(2,D05),(52,D00)],[B04,B0a,B0a]⟩ [⟨.exit 0,⟨[(2,D03),(5,D05)],[B04,B0a,B0a]⟩⟩] qgl [9] [] []
def qj4:SE E:=⟨fun _=>qbd,fun _=>qlm⟩
def q14:SE E:=mF 167 f167 [D01] [B0q] F05 z0u [9] [qj4] [q22]
def qxu{U:Type}:Ent U:=⟨137,[.fx (.ptr 0 0),.d (.int .i64)],[.var [.d .str]],F05,fun _ q=>Plain.z06 q⟩
def jdq{U:Type}:Ent U:=⟨166,[.fx (.ptr 0 0),.agg [.d (.int .i64),.d (.int .i64),.d .str,.fx (.sl .val [] true),.fx (.sl .str [] true)],.d (.int .u8),.d (.int .i64)],[.var [.d .str]],F05,fun _ q=>Plain.z09 q⟩
def q2e{U:Type}:Cut U:=⟨3,⟨[(5,D03),(3,D00),(0,D01),(8,D05),(2,D0m)],[B04,B0g,B0a,B0p,B0j]⟩,[⟨.panic (.iface 203 (.d .unit)),⟨[],[B04]⟩⟩,⟨.exit 0,⟨[(8,D03),(5,D05),(2,D0m),(0,D01)],[B04,B0a,B0g,B0p,B0j]⟩⟩],fun _ q=>Plain.kr q⟩
def qif:Ent (Un Plain.qmj Plain.qf6):={ (qxu:Ent (Un Plain.qmj Plain.qf6)) with G:=fun u q=>u (.inl q) }
def qih:Ent (Un Plain.qmj Plain.qf6):={ (jdq:Ent (Un Plain.qmj Plain.qf6)) with G:=fun u q=>u (.inr (.inl q)) }
def xh:Cut (Un Plain.qmj Plain.qf6):={ (q2e:Cut (Un Plain.qmj Plain.qf6)) with L:=fun u q=>u (.inr (.inr q)) }
theorem jeo u q:qcl u (.inl q)=Ent.runs E f137 [] 12 [(qj6.e _),(qn8.e _),qih,(q14.e _)] [] u qif q:=by kernel_rfl
theorem jeq u q:qcl u (.inr (.inl q))=Ent.runs E f166 [3] 12 [(qj5.e _)] [xh] u qih q:=by kernel_rfl
theorem q42 u q:qcl u (.inr (.inr q))=Cut.go E ⟨f166.ntmps,1,false⟩ (jo f166) [3] 12 [(qj6.e _),(qj5.e _),(qn8.e _),qif] [] u xh (fun q=>u (.inr (.inr q))) q:=by kernel_rfl
def z3a: ∀a,Plain.qf6 a→Prop
 |(.inl x),y=>qd0 E qif.f qif.ins qif.hin qif.outs x y
 |(.inr (.inl x)),y=>qd0 E qih.f qih.ins qih.hin qih.outs x y
 |(.inr (.inr x)),y=>qg1 E ⟨f166.ntmps,1,false⟩ (jo f166) xh.k xh.S xh.outs x y
theorem jfe: ∀a y,xw Plain.qcl a=some y→z3a a y:=qbg fun u hu a=>match a with
 |(.inl x)=>fun y h=>vn (fn:=f137) (es:=[(qj6.e _),(qn8.e _),qih,(q14.e _)]) (cs:=[]) (e:=qif) envOK func137 rfl rfl rfl ⟨(qj6.s _ _),(qn8.s _ _),fun x y h=>hu (.inr (.inl x)) y h,(q14.s _ _),trivial⟩ trivial ((jeo u x).symm.trans h)
 |(.inr (.inl x))=>fun y h=>vn (fn:=f166) (es:=[(qj5.e _)]) (cs:=[xh]) (e:=qih) envOK func166 rfl rfl rfl ⟨(qj5.s _ _),trivial⟩ ⟨fun x y h=>hu (.inr (.inr x)) y h,trivial⟩ ((jeq u x).symm.trans h)
 |(.inr (.inr x))=>fun y h=>qa7 (E:=E) (F:=⟨f166.ntmps,1,false⟩) (body:=jo f166) (k:=xh.k) (S:=xh.S) (outs:=xh.outs) (es:=[(qj6.e _),(qj5.e _),(qn8.e _),qif]) (cs:=[]) envOK ⟨(qj6.s _ _),(qj5.s _ _),(qn8.s _ _),fun x y h=>hu (.inl x) y h,trivial⟩ trivial (fun x y h=>hu (.inr (.inr x)) y h) ((q42 u x).symm.trans h)
theorem jez{U:Type}(u:U):(qxu:Ent U).Sound E u:=fun x y h=>jfe (.inl x) y h
def jcy:SE E:=mF 198 f198 [D0m] [] F01 z2d [] [] []
def q3e:SC E f215 0:=mL 3 ⟨[(8,.d (.int .i64)),(0,.d y06),(1,.fn (.func 198) [] []),(7,.d (.int .i64))],[]⟩ C02 qgy [3] [jcy] []
def jcl:SE E:=mF 215 f215 [.d y06,.fn (.func 198) [] []] [] F02 z18 [3] [] [q3e]
def jda:SE E:=mF 197 f197 [.d y06,.fn (.func 198) [] []] [] F01 z2q [] [jcl] []
def qxk:SE E:=mF 180 f180 [D02] [] F01 z1a [] [jda] []
def q2y:SC E f181 0:=mL 3 ⟨[(9,D00),(0,D09),(7,D09),(1,D00),(8,D00)],[]⟩ [⟨.ret,⟨[(4,D04)],[]⟩⟩,⟨.exit 0,⟨[(1,D00),(0,D09)],[]⟩⟩] qgi [3] [qxk] []
def q13:SE E:=mF 181 f181 [D09,D00] [] F01 z0m [3] [] [q2y]
def q3l{U:Type}:Ent U:=⟨157,[.d .val,.d (.int .i64)],[],F01,fun _ q=>Plain.z01 q⟩
def jdu{U:Type}:Ent U:=⟨182,[.d y05,.fn (.func 183) [] [.fx (.ptr 0 0)]],[.dat (.int .i64)],F0a,fun _ q=>Plain.z0p q⟩
def jdr{U:Type}:Ent U:=⟨199,[.d y05,.fn (.func 183) [] [.fx (.ptr 0 0)]],[.dat (.int .i64)],[⟨false,⟨L00,[B0d]⟩⟩],fun _ q=>Plain.z0a q⟩
def q2f{U:Type}:Cut U:=⟨3,⟨[(8,.d (.int .i64)),(0,.d y05),(1,.fn (.func 183) [] [.fx (.ptr 0 0)]),(7,.d (.int .i64))],[.dat (.int .i64)]⟩,[⟨.ret,⟨[(4,D00)],[B0d]⟩⟩,⟨.exit 0,⟨[],[B0d]⟩⟩],fun _ q=>Plain.vz q⟩
def jdv{U:Type}:Ent U:=⟨183,[.d .val,.fx (.ptr 0 0)],[.dat (.int .i64)],F0a,fun _ q=>Plain.z1f q⟩
def qid:Ent (Un Plain.qcd Plain.uu):={ (q3l:Ent (Un Plain.qcd Plain.uu)) with G:=fun u q=>u (.inl q) }
def qil:Ent (Un Plain.qcd Plain.uu):={ (jdu:Ent (Un Plain.qcd Plain.uu)) with G:=fun u q=>u (.inr (.inl q)) }
def qii:Ent (Un Plain.qcd Plain.uu):={ (jdr:Ent (Un Plain.qcd Plain.uu)) with G:=fun u q=>u (.inr (.inr (.inl q))) }
def xi:Cut (Un Plain.qcd Plain.uu):={ (q2f:Cut (Un Plain.qcd Plain.uu)) with L:=fun u q=>u (.inr (.inr (.inr (.inl q)))) }
def qim:Ent (Un Plain.qcd Plain.uu):={ (jdv:Ent (Un Plain.qcd Plain.uu)) with G:=fun u q=>u (.inr (.inr (.inr (.inr q)))) }
theorem jem u q:yy u (.inl q)=Ent.runs E f157 [] 12 [(qxk.e _),(q13.e _),qil] [] u qid q:=by kernel_rfl
theorem jeu u q:yy u (.inr (.inl q))=Ent.runs E f182 [] 12 [qii] [] u qil q:=by kernel_rfl
theorem jer u q:yy u (.inr (.inr (.inl q)))=Ent.runs E f199 [3] 12 [] [xi] u qii q:=by kernel_rfl
theorem q43 u q:yy u (.inr (.inr (.inr (.inl q))))=Cut.go E ⟨f199.ntmps,1,false⟩ (jo f199) [3] 12 [qim] [] u xi (fun q=>u (.inr (.inr (.inr (.inl q))))) q:=by kernel_rfl
theorem jev u q:yy u (.inr (.inr (.inr (.inr q))))=Ent.runs E f183 [] 12 [qid] [] u qim q:=by kernel_rfl
def z3c: ∀a,Plain.uu a→Prop
 |(.inl x),y=>qd0 E qid.f qid.ins qid.hin qid.outs x y
 |(.inr (.inl x)),y=>qd0 E qil.f qil.ins qil.hin qil.outs x y
 |(.inr (.inr (.inl x))),y=>qd0 E qii.f qii.ins qii.hin qii.outs x y
 |(.inr (.inr (.inr (.inl x)))),y=>qg1 E ⟨f199.ntmps,1,false⟩ (jo f199) xi.k xi.S xi.outs x y
 |(.inr (.inr (.inr (.inr x)))),y=>qd0 E qim.f qim.ins qim.hin qim.outs x y
theorem jfc: ∀a y,xw Plain.yy a=some y→z3c a y:=qbg fun u hu a=>match a with
 |(.inl x)=>fun y h=>vn (fn:=f157) (es:=[(qxk.e _),(q13.e _),qil]) (cs:=[]) (e:=qid) envOK func157 rfl rfl rfl ⟨(qxk.s _ _),(q13.s _ _),fun x y h=>hu (.inr (.inl x)) y h,trivial⟩ trivial ((jem u x).symm.trans h)
 |(.inr (.inl x))=>fun y h=>vn (fn:=f182) (es:=[qii]) (cs:=[]) (e:=qil) envOK func182 rfl rfl rfl ⟨fun x y h=>hu (.inr (.inr (.inl x))) y h,trivial⟩ trivial ((jeu u x).symm.trans h)
 |(.inr (.inr (.inl x)))=>fun y h=>vn (fn:=f199) (es:=[]) (cs:=[xi]) (e:=qii) envOK func199 rfl rfl rfl trivial ⟨fun x y h=>hu (.inr (.inr (.inr (.inl x)))) y h,trivial⟩ ((jer u x).symm.trans h)
 |(.inr (.inr (.inr (.inl x))))=>fun y h=>qa7 (E:=E) (F:=⟨f199.ntmps,1,false⟩) (body:=jo f199) (k:=xi.k) (S:=xi.S) (outs:=xi.outs) (es:=[qim]) (cs:=[]) envOK ⟨fun x y h=>hu (.inr (.inr (.inr (.inr x)))) y h,trivial⟩ trivial (fun x y h=>hu (.inr (.inr (.inr (.inl x)))) y h) ((q43 u x).symm.trans h)
 |(.inr (.inr (.inr (.inr x))))=>fun y h=>vn (fn:=f183) (es:=[qid]) (cs:=[]) (e:=qim) envOK func183 rfl rfl rfl ⟨fun x y h=>hu (.inl x) y h,trivial⟩ trivial ((jev u x).symm.trans h)
theorem jex{U:Type}(u:U):(q3l:Ent U).Sound E u:=fun x y h=>jfc (.inl x) y h
def jbx:SE E:=⟨fun _=>q3l,fun _=>jex⟩
def jc1:SE E:=mF 119 f119 [D0k] [] F01 z2g [] [jbx] []
def qn9:SE E:=mF 158 f158 [D02] [] F03 z1u [] [] []
def q3m{U:Type}:Ent U:=⟨120,[.d .val],[],F03,fun _ q=>Plain.z02 q⟩
def qzb{U:Type}:Cut U:=⟨10,⟨[(23,D00),(3,D0q),(1,D03),(21,.d y05),(22,D00)],[B0j,B0a]⟩,[⟨.exit 1,⟨[(1,D01),(3,.fx (.own .str 1 false))],[B0a,B0j]⟩⟩],fun _ q=>Plain.ww q⟩
def qie:Ent (Un Plain.qvb Plain.ql8):={ (q3m:Ent (Un Plain.qvb Plain.ql8)) with G:=fun u q=>u (.inl q) }
def wj:Cut (Un Plain.qvb Plain.ql8):={ (qzb:Cut (Un Plain.qvb Plain.ql8)) with L:=fun u q=>u (.inr q) }
theorem jen u q:qiy u (.inl q)=Ent.runs E f120 [10] 12 [qd8,(qn9.e _),u6] [wj] u qie q:=by kernel_rfl
theorem q0r u q:qiy u (.inr q)=Cut.go E ⟨f120.ntmps,0,false⟩ (jo f120) [10] 12 [qie,(qn9.e _)] [] u wj (fun q=>u (.inr q)) q:=by kernel_rfl
def z3b: ∀a,Plain.ql8 a→Prop
 |(.inl x),y=>qd0 E qie.f qie.ins qie.hin qie.outs x y
 |(.inr x),y=>qg1 E ⟨f120.ntmps,0,false⟩ (jo f120) wj.k wj.S wj.outs x y
theorem jfd: ∀a y,xw Plain.qiy a=some y→z3b a y:=qbg fun u hu a=>match a with
 |(.inl x)=>fun y h=>vn (fn:=f120) (es:=[qd8,(qn9.e _),u6]) (cs:=[wj]) (e:=qie) envOK func120 rfl rfl rfl ⟨qws _,(qn9.s _ _),qlk _,trivial⟩ ⟨fun x y h=>hu (.inr x) y h,trivial⟩ ((jen u x).symm.trans h)
 |(.inr x)=>fun y h=>qa7 (E:=E) (F:=⟨f120.ntmps,0,false⟩) (body:=jo f120) (k:=wj.k) (S:=wj.S) (outs:=wj.outs) (es:=[qie,(qn9.e _)]) (cs:=[]) envOK ⟨fun x y h=>hu (.inl x) y h,(qn9.s _ _),trivial⟩ trivial (fun x y h=>hu (.inr x) y h) ((q0r u x).symm.trans h)
theorem jey{U:Type}(u:U):(q3m:Ent U).Sound E u:=fun x y h=>jfd (.inl x) y h
def jby:SE E:=⟨fun _=>q3m,fun _=>jey⟩
def qxl:SE E:=mF 66 f66 [D0k] [] F04 z1v [] [jc1,jby] []
def qxv{U:Type}:Ent U:=⟨81,[.d .str],[],[⟨false,⟨[(0,D0w)],[]⟩⟩],fun _ q=>Plain.z2e q⟩
theorem jew q:z2e q=Ent.runsD E f81 136 f136 [qxu,(qxl.e _)] () qxv q:=by kernel_rfl
theorem je3{U:Type}(u:U):(qxv:Ent U).Sound E u:=jai (U:=Unit) (u:=()) (fn:=f81) (e:=qxv) [qxu,(qxl.e _)] envOK func81 rfl rfl rfl func136 rfl rfl ⟨_,rfl,by kernel_rfl⟩ ⟨jez _,(qxl.s _ _),trivial⟩ jew
def q8k:SE E:=mF 138 f138 [D0k,D02,D00] [] [⟨false,⟨[(0,D0w)],[]⟩⟩] z0o [] [q8l] []
def q2r:SC E f82 0:=mL 8 ⟨[(49,D00),(11,D01),(47,.d y05),(2,D03),(9,D05),(48,D00)],[B0l,B0i,B0a,B0r]⟩ [⟨.exit 0,⟨[(11,D01),(2,D03),(9,D05)],[B0l,B0i,B0a,B0r]⟩⟩] qgc [8,17] [q8k] []
def qzq:SC E f82 0:=mL 17 ⟨[(77,D00),(11,D01),(75,.d y05),(2,D03),(76,D00)],[B0k,B0i,B0r,B0j]⟩ [⟨.exit 2,⟨[(2,D01),(11,D03)],[B0i,B0k,B0r,B0j]⟩⟩] qco [8,17] [] []
def jb4:SE E:=mF 82 f82 [D0k] [] [⟨false,⟨[(0,.d y0l)],[]⟩⟩] z0c [8,17] [q8k] [q2r,qzq]
def q15:SE E:=mF 116 f116 [D02] [] F01 z1m [] [q8q] []
def q2t:SC E f65 0:=mL 5 ⟨[(11,D00),(1,D01),(9,D09),(10,D00)],[.dat y0l]⟩ [⟨.ret,U04⟩,⟨.exit 0,⟨[(1,D01)],[.dat y0l]⟩⟩] qgf [5] [q15,yu] []
def jc7:SE E:=mF 117 f117 [.d y03] [] F01 z2n [] [q15] []
def q3c:SC E f156 0:=mL 3 ⟨[(8,.d (.int .i64)),(0,.d y09),(1,.fn (.func 117) [] []),(7,.d (.int .i64))],[]⟩ C02 qgw [3] [jc7] []
def jcj:SE E:=mF 156 f156 [.d y09,.fn (.func 117) [] []] [] F02 z16 [3] [] [q3c]
def jc2:SE E:=mF 118 f118 [.d y09,.fn (.func 117) [] []] [] F01 z2h [] [jcj] []
def q8j:SE E:=mF 65 f65 [.d y0l] [] F01 z0g [5] [q15,jc2] [q2t]
def q16:SE E:=mF 122 f122 [D02] [] F06 z1o [] [] []
def q3f:SC E f121 0:=mL 4 ⟨[(11,.d (.int .i64)),(5,.fx (.ptr 0 0)),(1,.fn (.func 122) [] []),(9,.d y01),(4,.fx (.ptr 1 0)),(10,.d (.int .i64))],[.var [.d (.int .i64),.d (.int .i64),.d .str,.fx (.own .val 2 false),.d y01],.dat .val,.arr .val true]⟩ [⟨.exit 0,U07⟩] qgz [4] [q16] []
def jcm:SE E:=mF 121 f121 [D09,.fn (.func 122) [] []] [] F06 z19 [4] [] [q3f]
def jdk:SE E:=mF 124 f124 [.d y03] [] F06 z30 [] [q16] []
def q3d:SC E f123 0:=mL 4 ⟨[(11,.d (.int .i64)),(5,.fx (.ptr 0 0)),(1,.fn (.func 124) [] []),(9,.d y09),(4,.fx (.ptr 1 0)),(10,.d (.int .i64))],[.var [.d (.int .i64),.d (.int .i64),.d .str,.fx (.own .val 2 false),.d y01],.dat .val,.arr .val true]⟩ [⟨.exit 0,U07⟩] qgx [4] [jdk] []
def jck:SE E:=mF 123 f123 [.d y09,.fn (.func 124) [] []] [] F06 z17 [4] [] [q3d]
def jc8:SE E:=mF 67 f67 [.d y0l] [] F06 z2o [] [jcm,q16,jck] []
def q8p:SE E:=mF 25 f25 [.d y0l] [] F04 z1s [] [q8j,jc8,qxl] []
def jcz:SE E:=⟨fun _=>qxv,fun _=>je3⟩
def qn7:SE E:=mF 37 f37 [D02] [] [⟨false,⟨[(0,.tup [.d y0l,.d (.int .i64)])],[]⟩⟩] z1e [] [jcz,jb4,q8p] []
def q2w:SC E f26 0:=mL 7 ⟨[(19,D00),(3,D0q),(17,.d y09),(18,D00)],[B03]⟩ [⟨.exit 0,⟨[(3,D0q)],[B03]⟩⟩] qgh [7] [yu] []
def qso:SE E:=mF 26 f26 [.d y0l] [] [⟨false,⟨[(0,D09)],[]⟩⟩] z0k [7] [q8j] [q2w]
def ze{U:Type}:Cut U:=⟨19,⟨[(47,D00),(3,D0p),(45,D09),(1,D02),(46,D00)],H03⟩,[⟨.exit 0,⟨[(1,D02),(3,D0p)],H03⟩⟩],fun _ q=>Plain.qdh q⟩
theorem q0s self q:qcp self q=Cut.go E ⟨f86.ntmps,3,false⟩ (jo f86) [19] 12 [(yu.e _)] [] () ze self q:=by kernel_rfl
theorem q0v{U:Type}(u:U):(ze:Cut U).Sound E ⟨f86.ntmps,3,false⟩ (jo f86) u:=qya (S:=(ze (U:=Unit)).S) (outs:=(ze (U:=Unit)).outs) [(yu.e _)] [] envOK ⟨(yu.s _ _),trivial⟩ trivial q0s
def q3n{U:Type}:Ent U:=⟨140,[.d .str,.fx (.ptr 0 0),.fx (.ptr 1 0),.fx (.ptr 2 0)],[.var [.fx (.ptr 3 0)],.var [.fn (.func 86) [.fx (.ptr 3 0)] []],.dat (.int .i64),.var [.d y07,.fx (.own .str 4 false),.fx (.own .str 5 false)],.arr .str false,.arr .str false],F00,fun _ q=>Plain.z07 q⟩
def jdt{U:Type}:Ent U:=⟨86,[.fx (.ptr 0 0),.d .str,.d (.int .i64)],[.var [.d y07,.fx (.own .str 1 false),.fx (.own .str 2 false)],.arr .str false,.arr .str false],[⟨false,⟨L00,[.var [D0a,D0f,D0g],.gone,.gone,B03,B03]⟩⟩],fun _ q=>Plain.z0h q⟩
def jds{U:Type}:Ent U:=⟨70,[.d y01,.fn (.func 140) [] [.fx (.ptr 0 0),.fx (.ptr 1 0),.fx (.ptr 2 0)]],[.var [.fx (.ptr 3 0)],.var [.fn (.func 86) [.fx (.ptr 3 0)] []],.dat (.int .i64),.var [.d y07,.fx (.own .str 4 false),.fx (.own .str 5 false)],.arr .str false,.arr .str false],F00,fun _ q=>Plain.z0d q⟩
def q2g{U:Type}:Cut U:=⟨3,⟨[(10,.d (.int .i64)),(1,.fn (.func 140) [] [.fx (.ptr 0 0),.fx (.ptr 1 0),.fx (.ptr 2 0)]),(8,.d y01),(9,.d (.int .i64))],[.var [.fx (.ptr 3 0)],.var [.fn (.func 86) [.fx (.ptr 3 0)] []],.dat (.int .i64),.var [.d y07,.fx (.own .str 6 false),.fx (.own .str 7 false)],.gone,.gone,.arr .str false,.arr .str false]⟩,[⟨.ret,⟨[(4,.d (.int .i64))],[.var [.fx (.ptr 3 0)],.var [.fn (.func 86) [.fx (.ptr 3 0)] []],.dat (.int .i64),.var [.d y07,.fx (.own .str 6 false),.fx (.own .str 7 false)],.gone,.gone,.arr .str false,.arr .str false]⟩⟩,⟨.exit 0,⟨[],[.var [.fx (.ptr 3 0)],.var [.fn (.func 86) [.fx (.ptr 3 0)] []],.dat (.int .i64),.var [.d y07,.fx (.own .str 6 false),.fx (.own .str 7 false)],.gone,.gone,.arr .str false,.arr .str false]⟩⟩],fun _ q=>Plain.xv q⟩
def qig:Ent (Un Plain.qf7 Plain.qcm):={ (q3n:Ent (Un Plain.qf7 Plain.qcm)) with G:=fun u q=>u (.inl q) }
def qik:Ent (Un Plain.qf7 Plain.qcm):={ (jdt:Ent (Un Plain.qf7 Plain.qcm)) with G:=fun u q=>u (.inr (.inl q)) }
def qij:Ent (Un Plain.qf7 Plain.qcm):={ (jds:Ent (Un Plain.qf7 Plain.qcm)) with G:=fun u q=>u (.inr (.inr (.inl q))) }
def xj:Cut (Un Plain.qf7 Plain.qcm):={ (q2g:Cut (Un Plain.qf7 Plain.qcm)) with L:=fun u q=>u (.inr (.inr (.inr q))) }
theorem jep u q:gx u (.inl q)=Ent.runs E f140 [] 12 [(yu.e _),qik] [] u qig q:=by kernel_rfl
theorem jet u q:gx u (.inr (.inl q))=Ent.runs E f86 [19] 12 [(qia.e _),(qn7.e _),qij,(qso.e _)] [ze] u qik q:=by kernel_rfl
theorem jes u q:gx u (.inr (.inr (.inl q)))=Ent.runs E f70 [3] 12 [] [xj] u qij q:=by kernel_rfl
theorem q44 u q:gx u (.inr (.inr (.inr q)))=Cut.go E ⟨f70.ntmps,6,false⟩ (jo f70) [3] 12 [qig] [] u xj (fun q=>u (.inr (.inr (.inr q)))) q:=by kernel_rfl
def z36: ∀a,Plain.qcm a→Prop
 |(.inl x),y=>qd0 E qig.f qig.ins qig.hin qig.outs x y
 |(.inr (.inl x)),y=>qd0 E qik.f qik.ins qik.hin qik.outs x y
 |(.inr (.inr (.inl x))),y=>qd0 E qij.f qij.ins qij.hin qij.outs x y
 |(.inr (.inr (.inr x))),y=>qg1 E ⟨f70.ntmps,6,false⟩ (jo f70) xj.k xj.S xj.outs x y
theorem jff: ∀a y,xw Plain.gx a=some y→z36 a y:=qbg fun u hu a=>match a with
 |(.inl x)=>fun y h=>vn (fn:=f140) (es:=[(yu.e _),qik]) (cs:=[]) (e:=qig) envOK func140 rfl rfl rfl ⟨(yu.s _ _),fun x y h=>hu (.inr (.inl x)) y h,trivial⟩ trivial ((jep u x).symm.trans h)
 |(.inr (.inl x))=>fun y h=>vn (fn:=f86) (es:=[(qia.e _),(qn7.e _),qij,(qso.e _)]) (cs:=[ze]) (e:=qik) envOK func86 rfl rfl rfl ⟨(qia.s _ _),(qn7.s _ _),fun x y h=>hu (.inr (.inr (.inl x))) y h,(qso.s _ _),trivial⟩ ⟨q0v _,trivial⟩ ((jet u x).symm.trans h)
 |(.inr (.inr (.inl x)))=>fun y h=>vn (fn:=f70) (es:=[]) (cs:=[xj]) (e:=qij) envOK func70 rfl rfl rfl trivial ⟨fun x y h=>hu (.inr (.inr (.inr x))) y h,trivial⟩ ((jes u x).symm.trans h)
 |(.inr (.inr (.inr x)))=>fun y h=>qa7 (E:=E) (F:=⟨f70.ntmps,6,false⟩) (body:=jo f70) (k:=xj.k) (S:=xj.S) (outs:=xj.outs) (es:=[qig]) (cs:=[]) envOK ⟨fun x y h=>hu (.inl x) y h,trivial⟩ trivial (fun x y h=>hu (.inr (.inr (.inr x))) y h) ((q44 u x).symm.trans h)
theorem je0{U:Type}(u:U):(q3n:Ent U).Sound E u:=fun x y h=>jff (.inl x) y h
def jb2:SE E:=⟨fun _=>q3n,fun _=>je0⟩
def q3b:SC E f70 4:=mL 3 ⟨[(10,.d (.int .i64)),(1,.fn (.func 140) [] [.fx (.ptr 0 0),.fx (.ptr 1 0),.fx (.ptr 2 0)]),(8,.d y01),(9,.d (.int .i64))],[.var [.fx (.ptr 3 0)],.var [.fn (.func 86) [.fx (.ptr 3 0)] []],.dat (.int .i64),.var [.d y07,.fx (.own .str 4 false),.fx (.own .str 5 false)],.arr .str false,.arr .str false]⟩ [⟨.ret,⟨[(4,.d (.int .i64))],[.var [.fx (.ptr 3 0)],.var [.fn (.func 86) [.fx (.ptr 3 0)] []],.dat (.int .i64),.var [.d y07,.fx (.own .str 4 false),.fx (.own .str 5 false)],.arr .str false,.arr .str false]⟩⟩,⟨.exit 0,⟨[],[.var [.fx (.ptr 3 0)],.var [.fn (.func 86) [.fx (.ptr 3 0)] []],.dat (.int .i64),.var [.d y07,.fx (.own .str 4 false),.fx (.own .str 5 false)],.arr .str false,.arr .str false]⟩⟩] qgv [3] [jb2] []
def jci:SE E:=mF 70 f70 [D09,.fn (.func 140) [] [.fx (.ptr 0 0),.fx (.ptr 1 0),.fx (.ptr 2 0)]] [.var [.fx (.ptr 3 0)],.var [.fn (.func 86) [.fx (.ptr 3 0)] []],B0d,B09] [⟨false,⟨[(0,.d (.int .i64))],[.var [.fx (.ptr 3 0)],.var [.fn (.func 86) [.fx (.ptr 3 0)] []],.dat (.int .i64),.var [.d y07,.fx (.own .str 4 false),.fx (.own .str 5 false)],.arr .str false,.arr .str false]⟩⟩] z14 [3] [] [q3b]
def qzr:SC E f86 1:=mL 19 ⟨[(47,D00),(3,D03),(45,D09),(1,D02),(46,D00)],H02⟩ [⟨.exit 0,⟨[(1,D02),(3,D03)],H02⟩⟩] qcq [19] [yu] []
def jch:SE E:=mF 86 f86 [D01,D02,D00] [B09] [⟨false,⟨L00,[.var [D0a,.fx (.own .str 1 false),D0r],B03,B03]⟩⟩] z13 [19] [qia,qn7,jci,qso] [qzr]
def q8x:SE E:=mF 39 f39 [D0a,D02] [] [⟨false,⟨[(0,.tup [.d (.pair y01 y01),.d (.int .i64)])],[]⟩⟩] z26 [] [jch] []
def jdc:SE E:=mF 83 f83 [D02,D01] [B08,B02] F0b z2s [] [yu] []
def q29:SC E f139 2:=mL 3 ⟨[(8,.d (.int .i64)),(0,.d y01),(1,.fn (.func 83) [] [.fx (.ptr 0 0)]),(7,.d (.int .i64))],[.var [.fx (.ptr 1 0)],.dat y0j]⟩ C01 qgs [3] [jdc] []
def jcf:SE E:=mF 139 f139 [D09,D0s] [B08,B02] [⟨false,⟨L00,H00⟩⟩] z11 [3] [] [q29]
def jc3:SE E:=mF 85 f85 [D09,D0s] [B08,B02] F0b z2i [] [jcf] []
def jdd:SE E:=mF 84 f84 [D02,D01] [B08,B02] F0b z2t [] [yu] []
def q3a:SC E f139 2:=mL 3 ⟨[(8,.d (.int .i64)),(0,.d y01),(1,.fn (.func 84) [] [.fx (.ptr 0 0)]),(7,.d (.int .i64))],[.var [.fx (.ptr 1 0)],.dat y0j]⟩ C01 qgt [3] [jdd] []
def jcg:SE E:=mF 139 f139 [D09,D0t] [B08,B02] [⟨false,⟨L00,H00⟩⟩] z12 [3] [] [q3a]
def jc4:SE E:=mF 85 f85 [D09,D0t] [B08,B02] F0b z2j [] [jcg] []
def q8t:SE E:=mF 38 f38 [D01,.d y0l] [B02] F09 z1y [] [qso,jc3,jc4] []
def qzj:SC E f68 1:=mL 16 ⟨[(78,D00),(0,D01),(1,D0a),(76,D09),(77,D00)],[B02]⟩ [⟨.ret,U0c⟩,⟨.exit 2,⟨[(0,D01)],[B02]⟩⟩] qcf [6,16,28] [qia,qn7,q8x,q8t] []
def q2v:SC E f72 0:=mL 3 ⟨[(7,D00),(0,D02),(6,D00)],[]⟩ [⟨.ret,U04⟩,⟨.exit 0,U02⟩] qgg [3] [q8y] []
def q12:SE E:=mF 72 f72 [D02] [] F01 z0j [3] [] [q2v]
def qzk:SC E f68 1:=mL 28 ⟨[(117,D00),(0,D01),(115,D0a),(116,D00)],[B02]⟩ [⟨.ret,U0c⟩,⟨.exit 4,⟨[],[B02]⟩⟩] qcg [6,16,28] [q12,yu] []
def kb:SE E:=⟨fun _=>qbc,fun _=>qll⟩
def jbz:SE E:=mF 68 f68 [D01,D0a] [B02] F09 z03 [6,16,28] [kb,jca] [q2m,qzj,qzk]
def q2s:SC E f27 0:=mL 3 ⟨[(9,D00),(1,D01),(7,.d y0n),(8,D00)],[B05]⟩ [⟨.ret,U04⟩,⟨.exit 0,⟨[(1,D01)],[B05]⟩⟩] qge [3] [jbz] []
def jdj:SE E:=mF 160 f160 [.d y00,D01] [B01] F08 z2z [] [] []
def q28:SC E f104 1:=mL 3 ⟨[(8,.d (.int .i64)),(0,.d y07),(1,.fn (.func 160) [] [.fx (.ptr 0 0)]),(7,.d (.int .i64))],[.dat .str]⟩ C00 qgr [3] [jdj] []
def jce:SE E:=mF 104 f104 [D0a,D0o] [B01] [⟨false,U0a⟩] z10 [3] [] [q28]
def jdb:SE E:=mF 159 f159 [D0a,D0o] [B01] [⟨false,U0a⟩] z2r [] [jce] []
def jcr:SE E:=mF 126 f126 [.d y0k,D02] [] F02 z1j [] [jdb] []
def q2p:SC E f69 0:=mL 3 ⟨[(10,D00),(1,D01),(8,D0a),(9,D00)],[B0e]⟩ [⟨.ret,U04⟩,⟨.exit 0,⟨[(1,D01)],[B0e]⟩⟩] qf8 [3,12] [q8w,jcr] []
def qzp:SC E f69 0:=mL 12 ⟨[(39,D00),(1,D01),(37,.d y08),(38,D00)],[B0e]⟩ [⟨.ret,U04⟩,⟨.exit 2,⟨[(1,D01)],[B0e]⟩⟩] qcn [3,12] [] []
def q20:SC E f127 0:=mL 4 ⟨[(9,D00),(3,D00),(7,D0a),(8,D00)],[]⟩ [⟨.exit 0,⟨[(3,D00)],[]⟩⟩] qgk [4] [] []
def jb7:SE E:=mF 127 f127 [.d y0k] [] F02 z0s [4] [] [q20]
def jb3:SE E:=mF 69 f69 [.d y0k] [] F01 z08 [3,12] [jb7] [q2p,qzp]
def qn6:SE E:=mF 27 f27 [D0h] [] F01 z0e [3] [jb3] [q2s]
def q2q:SC E f60 0:=mL 3 ⟨[(1,D02),(11,D00),(9,.d y0n),(2,D01),(10,D00)],[B05]⟩ [⟨.ret,⟨[(4,D00),(5,D04)],[]⟩⟩,⟨.exit 0,⟨[(2,D01)],[B05]⟩⟩] qga [3] [] []
def qh9:SE E:=mF 60 f60 [D0h,D02] [] [⟨false,⟨[(0,D0i)],[]⟩⟩] z0b [3] [] [q2q]
def q8u:SE E:=mF 40 f40 [D0a] [] [⟨false,⟨[(0,.fs y00)],[]⟩⟩] z1z [] [] []
def q25:SC E f41 0:=mL 8 ⟨[(28,D00),(10,D00),(26,D0a),(6,D01),(3,D03),(2,D02),(1,D02),(27,D00)],[B0e,B0e]⟩ [⟨.exit 0,⟨[(6,D01),(3,D03),(2,D02),(1,D02),(10,D00)],[B0e,B0e]⟩⟩] qgo [8] [] []
def jcb:SE E:=mF 41 f41 [.d y0k,D02,D02] [] [⟨false,⟨[(0,.tup [.d y0k,.d (.int .i64)])],[]⟩⟩] z0x [8] [qia,q8u] [q25]
def jdi:SE E:=mF 87 f87 [D09] [] [⟨false,⟨[(0,.fs .str)],[]⟩⟩] z2y [] [] []
def q17:SE E:=mF 42 f42 [D09,D02] [] [⟨false,⟨[(0,D09)],[]⟩⟩] z1q [] [yu,jdi] []
def jc0:SE E:=mF 36 f36 [D01,D03,D05,D0p,.fx (.ptr 4 0)] [B02,B01,B05,B01,B0e] [⟨false,⟨L00,[B02,B01,B05,B01,B0e]⟩⟩] z2f [] [qn7,q8t,q8u,q8x,jcb,q17] []
def qsq:SE E:=⟨fun _=>q85,fun _=>je2⟩
def qsp:SE E:=⟨fun _=>q84,fun _=>je1⟩
def jc5:SE E:=mF 35 f35 [D0h,D02,D04,.fn (.func 36) [] [.fx (.ptr 0 0),.fx (.ptr 1 0),.fx (.ptr 2 0),.fx (.ptr 3 0)]] [B01,B05,B01,B0e] [⟨false,⟨[(0,D06)],[B01,B05,B01,B0e]⟩⟩] z2l [] [qn6,kb,qh9,jc0,qsq,qsp] []
def jco:SE E:=mF 10 f10 I00 [] [⟨false,⟨[(0,.tup [.d y0p,.d .str,.d (.int .i64)])],[]⟩⟩] z1c [] [q8r,jc5] []
def jcv:SE E:=mF 56 f56 [D01,D03,D05] [B02,B05,B01] [⟨false,⟨L00,[B02,B05,B01]⟩⟩] z29 [] [qia,q17] []
def jc6:SE E:=mF 35 f35 [D0h,D02,D04,.fn (.func 56) [] [.fx (.ptr 0 0),.fx (.ptr 1 0)]] [B05,B01] [⟨false,⟨[(0,D06)],[B05,B01]⟩⟩] z2m [] [qn6,kb,qh9,jcv,qsq,qsp] []
def q8n:SE E:=mF 17 f17 I00 [] F0c z15 [] [jc6] []
def q8m:SE E:=mF 30 f30 I00 [] F01 z0r [] [qh9,yu] []
def jcs:SE E:=mF 11 f11 [] [] F01 z1r [] [q8r,q8p,jco,q8n,q8m] []
def q27:SC E f31 0:=mL 6 ⟨[(13,D00),(1,D0a),(0,D0a),(12,D00)],[]⟩ [⟨.ret,⟨[(4,D04)],[]⟩⟩,⟨.exit 0,U0f⟩] qgq [6] [] []
def jcd:SE E:=mF 31 f31 [D0a,D0a] [] F01 z0z [6] [] [q27]
def jcx:SE E:=mF 59 f59 [D01,D03,D05,D0p] [B02,B05,B01,B01] [⟨false,⟨L00,[B02,B05,B01,B01]⟩⟩] z2c [] [qh9,yu,q17] []
def jdf:SE E:=mF 35 f35 [D0h,D02,D04,.fn (.func 59) [] [.fx (.ptr 0 0),.fx (.ptr 1 0),.fx (.ptr 2 0)]] [B05,B01,B01] [⟨false,⟨[(0,D06)],[B05,B01,B01]⟩⟩] z2v [] [qn6,kb,qh9,jcx,qsq,qsp] []
def jcn:SE E:=mF 18 f18 [D0h,D02,D02,D02] [] F0c z1b [] [kb,jdf] []
def q8s:SE E:=mF 32 f32 [D0h,D02] [] [⟨false,⟨[(0,D0a)],[]⟩⟩] z1x [] [qh9] []
def q23:SC E f29 0:=mL 3 ⟨[(14,D00),(2,D02),(12,D0a),(13,D00)],[]⟩ [⟨.ret,⟨[(6,D02),(7,D00)],[]⟩⟩,⟨.exit 0,U0f⟩] qgm [3] [] []
def jb9:SE E:=mF 29 f29 I00 [] F04 z0v [3] [q8s] [q23]
def qnl:SE E:=⟨fun _=>qdu,fun _=>qnu⟩
def q8z:SE E:=mF 130 f130 [.d y00,D02] [] F02 z2b [] [qnl] []
def q21:SC E f129 0:=mL 4 ⟨[(1,.d .str),(0,.d y07),(2,.fn (.func 130) [] []),(10,.d (.int .i64)),(9,.d (.int .i64)),(8,.d (.int .i64))],[]⟩ [⟨.exit 0,⟨[(1,.d .str),(9,.d (.int .i64)),(0,.d y07),(2,.fn (.func 130) [] []),(8,.d (.int .i64))],[]⟩⟩] qdl [4] [q8z] []
def jb8:SE E:=mF 129 f129 [D0a,D02,.fn (.func 130) [] []] [] [⟨false,⟨[(0,D0i)],[]⟩⟩] z0t [4] [q8z] [q21]
def q8v:SE E:=mF 74 f74 [D01,D02] [B02] [⟨false,⟨[(0,D0i)],[B02]⟩⟩] z22 [] [jb8] []
def q80:SE E:=⟨fun _=>q86,fun _=>je4⟩
def jdm:SE E:=⟨fun _=>q87,fun _=>je5⟩
def jcw:SE E:=mF 73 f73 [D01,D03,D05] [B02,B01,B01] [⟨false,⟨L00,[B02,B01,B01]⟩⟩] z2a [] [q8v,yu,q80,jdm] []
def jdg:SE E:=mF 35 f35 [D0h,D02,D04,.fn (.func 73) [] [.fx (.ptr 0 0),.fx (.ptr 1 0)]] [B01,B01] [⟨false,⟨[(0,D06)],[B01,B01]⟩⟩] z2w [] [qn6,kb,qh9,jcw,qsq,qsp] []
def jcq:SE E:=mF 33 f33 [D0h,D02,D02,D02] [] F0c z1g [] [q12,jdg] []
def jdn:SE E:=⟨fun _=>q88,fun _=>je6⟩
def jcu:SE E:=mF 77 f77 [D01,D03] [B02,B01] [⟨false,⟨L00,[B02,B01]⟩⟩] z28 [] [q8v,q80,jdn] []
def jde:SE E:=mF 35 f35 [D0h,D02,D04,.fn (.func 77) [] [.fx (.ptr 0 0)]] [B01] [⟨false,⟨[(0,D06)],[B01]⟩⟩] z2u [] [qn6,kb,qh9,jcu,qsq,qsp] []
def jcp:SE E:=mF 34 f34 I00 [] F0c z1d [] [q12,jde] []
def b_law12_RegistryApart:SE E:=mF 8 f8 [D0h,D02,D02,D02,D02] [] F01 wq [] [jb1,qn6,jcs,jcq,jb9,jcp,q8s,jcd,q8n,q8m,jcn] []
end Go.Proofs.Tryz
