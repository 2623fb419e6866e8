/-
  Walks and plain laws that the law rests on, laid together. No conditions but those that each theorem names.
-/
import Derived.Test.YtchkamdekbbgeaaGreatDoorMnAnalyseCounts2
set_option linter.unusedVariables false
set_option maxRecDepth 20000
set_option maxHeartbeats 1000000
open Bool renaming noConfusion→c7
open Go.IntKind renaming u64→dR
open Go.Proofs.Tryz renaming prog→ao
open Go.Sort renaming Below→Cr,PermIn→nG,SortedIn→sN,heapBuild→Jk,heapSort→Jl,insInner→Jm,insertionSort→Jn,partLoop→Ct,partialIns→qd,partialInsertionSort→sO,partition→qe,partitionEqual→uX,permIn_refl→Jo,permIn_trans→q7,reverseRange→Cu,scanDown→nH,scanSorted→sP,scanUp→nI,shiftDown→x4,shiftUp→Cv,siftDown→qf,swp→bV
open Go.Sort.Below renaming perm→Cs
open Go.Value renaming bool→bU,oneCell'→eQ,pointer→x5,slice→bC,tuple→j8
open Go.World renaming ownsRow→bq
open List renaming drop_drop→yc,drop_eq_nil_of_le→lK,length_append→bJ,length_pos_iff→mN,length_singleton→iG,length_take→eE,take_of_length_le→fu,take_zero→pB,toArray→a7
open Nat renaming blt→fV,le_refl→cj,lt_or_ge→jk
open Prod renaming fst→gr
open UInt8 renaming toNat_lt→jN
open Go.Proofs.Tryz
open Go.Proofs

section
namespace Go.Hb
abbrev aj (n:Nat):Value:= .int .i64 (n:Nat)
abbrev aU (b:Nat):Value:= .pointer<|some ⟨b,0,none⟩
variable {P:Program} {N:Fm} {ops:Array Oper} {Q:Exit→(Nat→Value)→World→Prop} {σ:Nat→Value} {w:World} {S:World→Prop} {r fuel:Nat} {aW:Array Bool} {d:Nat} {op:Op} {ty:TypeId} {pos :String} {af:Array Edge} {v:Value}
theorem aK (i:Nat) (hi:ops[i]? =some ⟨some d,op,ty,pos,af,none⟩) (C:∀ w,S w→(execOp (ev N σ) ⟨some d,op,ty,pos,af,none⟩).run P w= .ok (.value v) w) (c:S w) (k:fK P N ops Q S fuel (aW.setIfInBounds i true) (c6 σ d v) w) (A:iT N.F ops aW i=true :=by kernel_rfl):fK P N ops Q S (fuel+1) aW σ w:=hp i hi A C c k
theorem eC (i:Nat) (hi:ops[i]? =some ⟨some d,op,ty,pos,af,none⟩) (C:∀ w,S w→(execOp (ev N σ) ⟨some d,op,ty,pos,af,none⟩).run P w= .ok (.value v) w) (c:S w) (k:gG P N ops Q S r fuel (aW.setIfInBounds i true) (c6 σ d v) w) (A:Ae N.F ops aW r i=true :=by kernel_rfl):gG P N ops Q S r (fuel+1) aW σ w:=jW i hi A C c k
theorem bF (i:Nat) (hi:ops[i]? =some ⟨some d,op,ty,pos,af,none⟩) (C:∀ w,(execOp (ev N σ) ⟨some d,op,ty,pos,af,none⟩).run P w= .ok (.value v) w) (c:aW.getD r false =false→S w) (k:gG P N ops Q S r fuel (aW.setIfInBounds i true) (c6 σ d v) w) (A:wu N.F ops aW r i=true :=by kernel_rfl):gG P N ops Q S r (fuel+1) aW σ w:=cC i hi A C c k
theorem bY {x:Operand} (i:Nat) (hi:ops[i]? =some ⟨some d,.move x,ty,pos,af,none⟩) (v:Value) (c:S w) (k:fK P N ops Q S fuel (aW.setIfInBounds i true) (c6 σ d v) w) (C:ev N σ x=v:=by exact aa) (A:iT N.F ops aW i=true :=by kernel_rfl):fK P N ops Q S (fuel+1) aW σ w:=hp i hi A (fun _ _=>aH v C) c k
theorem bp {x:Operand} (i:Nat) (hi:ops[i]? =some ⟨some d,.move x,ty,pos,af,none⟩) (v:Value) (c:S w) (k:gG P N ops Q S r fuel (aW.setIfInBounds i true) (c6 σ d v) w) (C:ev N σ x=v:=by exact aa) (A:wu N.F ops aW r i=true :=by kernel_rfl):gG P N ops Q S r (fuel+1) aW σ w:=cC i hi A (fun _=>aH v C) (fun _=>c) k
theorem bh {P:Program} {f:FuncId} {fn:Func} (A:P.funcs[f]? =some fn) (hn:(fn.name== "runtime.NumGoroutine")=false :=by kernel_rfl) (c:fn.body.isNone=false :=by kernel_rfl):bd P f:=M6 A hn c
section
variable {rest:List Oper} {x:Operand} {K:(Nat→Value)→World→Prop} {l:List Oper} {id:Nat} {y z:Code} {j t:Nat} {want b:Bool} {fn:Func} {R:Value→World→Prop}
theorem aB (h:∀ {K:(Nat→Value)→World→Prop},(∀ {σ w},di P N y Q σ w→k9 K Q .normal σ w)→di P N z (k9 K Q) σ w):di P N (.seq z y) Q σ w:=sq fun K c=>h fun hw=>c _ _ hw
theorem ak (h:∀ {K:(Nat→Value)→World→Prop},(∀ {σ w},di P N y Q σ w→k9 K Q .normal σ w)→dX P N l.toArray (k9 K Q) l σ w) (A:sh N.r l=true :=by exact aa):di P N (.seq (.region id l.toArray false) y) Q σ w:=sq fun K c=>rg A<|h fun hw=>c _ _ hw
theorem ay (h:Q .normal (c6 σ d<|ev N σ x) w):dX P N ops Q [⟨some d,.assign x,ty,pos,af,none⟩] σ w:=p aE<|nl h
theorem bj {id:Nat} (h:Q (.exit id) σ w):k9 K Q (.exit id) σ w:=h
theorem aT (h:(jF ops j,fV t N.n,σ t,b==want)=(some t,true,.bool b,false)) (k:dX P N ops Q rest (c6 σ d undef) w):dX P N ops Q (⟨some d,op,ty,pos,af,some (j,want)⟩::rest) σ w:=sk (congrArg gr h) (congrArg (·.2.1) h) (congrArg (·.2.2.1) h) (congrArg (·.2.2.2) h) k
theorem fS (h:(jF ops j,fV t N.n,σ t)=(some t,true,undef)) (k:dX P N ops Q rest (c6 σ d undef) w):dX P N ops Q (⟨some d,op,ty,pos,af,some (j,want)⟩::rest) σ w:=xo (congrArg gr h) (congrArg (·.2.1) h) (congrArg (·.2.2) h) k
theorem a6 (h:(jF ops j,fV t N.n,σ t)=(some t,true,.bool want)) (c:(execOp (ev N σ) ⟨some d,op,ty,pos,af,some (j,want)⟩).run P w= .ok (.value v) w) (k:dX P N ops Q rest (c6 σ d v) w):dX P N ops Q (⟨some d,op,ty,pos,af,some (j,want)⟩::rest) σ w:=pg (congrArg gr h) (congrArg (·.2.1) h) (congrArg (·.2.2) h) c k
theorem bm (i:Nat) (h:(ops[i]?,jF ops j,fV t N.n,σ t,b==want)=(some ⟨some d,op,ty,pos,af,some (j,want)⟩,some t,true,.bool b,false)) (c:S w) (k:fK P N ops Q S fuel (aW.setIfInBounds i true) (c6 σ d undef) w) (A:iT N.F ops aW i=true :=by kernel_rfl):fK P N ops Q S (fuel+1) aW σ w:=n9 i (congrArg gr h) A (congrArg (·.2.1) h) (congrArg (·.2.2.1) h) (congrArg (·.2.2.2.1) h) (congrArg (·.2.2.2.2) h) c k
theorem bw (i:Nat) (h:(ops[i]?,jF ops j,fV t N.n,σ t)=(some ⟨some d,op,ty,pos,af,some (j,want)⟩,some t,true,.bool want)) (C:∀ w,S w→(execOp (ev N σ) ⟨some d,op,ty,pos,af,some (j,want)⟩).run P w= .ok (.value v) w) (c:S w) (k:fK P N ops Q S fuel (aW.setIfInBounds i true) (c6 σ d v) w) (A:iT N.F ops aW i=true :=by kernel_rfl):fK P N ops Q S (fuel+1) aW σ w:=n5 i (congrArg gr h) A (congrArg (·.2.1) h) (congrArg (·.2.2.1) h) (congrArg (·.2.2.2) h) C c k
theorem a8 (h:(fn.results,ev N σ (.tmp t))=(#[.tmp t],v)) (c:R v w):fin P fn N R .ret σ w:=f1 (congrArg gr h) (congrArg Prod.snd h) c
theorem au (v:Value) (h:dX P N ops Q rest (c6 σ d v) w) (c:ev N σ x=v:=by exact aa):dX P N ops Q (⟨some d,.move x,ty,pos,af,none⟩::rest) σ w:=p (aH v c) h
end
end Go.Hb
end
namespace Go.Hb.dI
theorem jR:dt ao 100=some none:=ag
theorem yB:dt ao 102=some (some 13):=ag
theorem rA:dt ao 103=some none:=ag
theorem Kz:dt ao 112=some (some 2):=ag
theorem CQ:dt ao 117=some none:=ag
theorem yC:dt ao 129=some none:=ag
theorem CR:dt ao 130=some none:=ag
theorem jx:dt ao 134=some (some 7):=ag
theorem rB:dt ao 156=some none:=ag
theorem ti:dt ao 162=some none:=ag
theorem rC:dt ao 165=some none:=ag
theorem CS:dt ao 172=some none:=ag
theorem vu:dt ao 181=some (some 2):=ag
theorem yD:dt ao 182=some none:=ag
theorem tj:dt ao 192=some (some 5):=ag
theorem gM:dt ao 24=some none:=ag
theorem rD:dt ao 242=some none:=ag
theorem yE:dt ao 261=some none:=ag
theorem mR:dt ao 273=some none:=ag
theorem mi:dt ao 275=some (some 1):=ag
theorem qp:dt ao 287=some none:=ag
theorem bH:dt ao 3=some none:=ag
theorem CT:dt ao 307=some none:=ag
theorem kg:dt ao 321=some (some 4):=ag
theorem mS:dt ao 35=some none:=ag
theorem jS:dt ao 4=some none:=ag
theorem kD:dt ao 45=some (some 3):=ag
theorem kR:dt ao 49=some (some 5):=ag
theorem yF:dt ao 5=some none:=ag
theorem mj:dt ao 51=some none:=ag
theorem kS:dt ao 53=some (some 2):=ag
theorem vv:dt ao 85=some none:=ag
theorem eY:dt ao 88=some none:=ag
theorem cR:dt ao 9=some none:=ag
theorem yG:dt ao 91=some none:=ag
theorem bZ:dt ao 95=some none:=ag
theorem CU:dt ao 96=some (some 5):=ag
theorem CV:dt ao 97=some none:=ag
theorem qq:dt ao 98=some none:=ag
theorem vw:dt ao 99=some none:=ag
theorem qs:qt ao 321=some (4,1):=ag
theorem C8:qt ao 337=some (256,1):=ag
theorem tp:qt ao 96=some (5,1):=ag
theorem C9:yI ao 321=some ([.int .u64 0,.int .u64 0,.int .u64 0,.int .u64 0]):=ag
theorem yO:vD ao 261 5 9=true :=ag
theorem kU:bd ao 10:=bh func10
theorem yQ:bd ao 101:=bh func101
theorem LB:bd ao 102:=bh func102
theorem Di:bd ao 103:=bh func103
theorem Dj:bd ao 104:=bh func104
theorem LC:bd ao 106:=bh func106
theorem vG:bd ao 107:=bh func107
theorem ll:bd ao 11:=bh func11
theorem LD:bd ao 113:=bh func113
theorem LF:bd ao 124:=bh func124
theorem Dk:bd ao 125:=bh func125
theorem LG:bd ao 126:=bh func126
theorem LH:bd ao 127:=bh func127
theorem LI:bd ao 128:=bh func128
theorem LJ:bd ao 129:=bh func129
theorem tu:bd ao 130:=bh func130
theorem LK:bd ao 131:=bh func131
theorem LL:bd ao 132:=bh func132
theorem LM:bd ao 133:=bh func133
theorem Dl:bd ao 134:=bh func134
theorem nY:bd ao 135:=bh func135
theorem yR:bd ao 136:=bh func136
theorem vH:bd ao 137:=bh func137
theorem yS:bd ao 138:=bh func138
theorem Dm:bd ao 139:=bh func139
theorem LN:bd ao 14:=bh func14
theorem Dn:bd ao 140:=bh func140
theorem LO:bd ao 141:=bh func141
theorem LP:bd ao 142:=bh func142
theorem LQ:bd ao 143:=bh func143
theorem LR:bd ao 144:=bh func144
theorem Dp:bd ao 145:=bh func145
theorem Dq:bd ao 146:=bh func146
theorem yT:bd ao 147:=bh func147
theorem tv:bd ao 15:=bh func15
theorem Dr:bd ao 16:=bh func16
theorem LS:bd ao 161:=bh func161
theorem LU:bd ao 162:=bh func162
theorem LV:bd ao 163:=bh func163
theorem Ds:bd ao 164:=bh func164
theorem LW:bd ao 165:=bh func165
theorem LX:bd ao 166:=bh func166
theorem LY:bd ao 167:=bh func167
theorem Dt:bd ao 168:=bh func168
theorem Du:bd ao 177:=bh func177
theorem LZ:bd ao 184:=bh func184
theorem L0:bd ao 185:=bh func185
theorem Dv:bd ao 189:=bh func189
theorem L1:bd ao 190:=bh func190
theorem yU:bd ao 191:=bh func191
theorem Dw:bd ao 192:=bh func192
theorem yV:bd ao 193:=bh func193
theorem L4:bd ao 194:=bh func194
theorem yW:bd ao 195:=bh func195
theorem vI:bd ao 196:=bh func196
theorem yX:bd ao 197:=bh func197
theorem Dx:bd ao 198:=bh func198
theorem Dy:bd ao 199:=bh func199
theorem Dz:bd ao 200:=bh func200
theorem L5:bd ao 201:=bh func201
theorem yY:bd ao 202:=bh func202
theorem L7:bd ao 203:=bh func203
theorem DA:bd ao 204:=bh func204
theorem DB:bd ao 205:=bh func205
theorem DC:bd ao 206:=bh func206
theorem L8:bd ao 207:=bh func207
theorem DD:bd ao 209:=bh func209
theorem L9:bd ao 210:=bh func210
theorem Ma:bd ao 215:=bh func215
theorem vJ:bd ao 216:=bh func216
theorem yZ:bd ao 217:=bh func217
theorem Mb:bd ao 218:=bh func218
theorem y0:bd ao 219:=bh func219
theorem qv:bd ao 22:=bh func22
theorem DE:bd ao 220:=bh func220
theorem Mc:bd ao 221:=bh func221
theorem DF:bd ao 23:=bh func23
theorem Me:bd ao 232:=bh func232
theorem Mf:bd ao 233:=bh func233
theorem Mg:bd ao 234:=bh func234
theorem DG:bd ao 235:=bh func235
theorem DH:bd ao 236:=bh func236
theorem Mh:bd ao 237:=bh func237
theorem DI:bd ao 238:=bh func238
theorem Mi:bd ao 239:=bh func239
theorem rK:bd ao 24:=bh func24
theorem Mj:bd ao 240:=bh func240
theorem Mk:bd ao 241:=bh func241
theorem Ml:bd ao 242:=bh func242
theorem Mm:bd ao 25:=bh func25
theorem Mn:bd ao 257:=bh func257
theorem Mo:bd ao 258:=bh func258
theorem y1:bd ao 259:=bh func259
theorem DJ:bd ao 263:=bh func263
theorem Mp:bd ao 264:=bh func264
theorem y4:bd ao 265:=bh func265
theorem Mq:bd ao 266:=bh func266
theorem y5:bd ao 268:=bh func268
theorem y6:bd ao 27:=bh func27
theorem DK:bd ao 275:=bh func275
theorem y7:bd ao 28:=bh func28
theorem Mr:bd ao 280:=bh func280
theorem DL:bd ao 281:=bh func281
theorem Ms:bd ao 282:=bh func282
theorem Mt:bd ao 283:=bh func283
theorem Mu:bd ao 284:=bh func284
theorem Mv:bd ao 285:=bh func285
theorem Mx:bd ao 286:=bh func286
theorem My:bd ao 287:=bh func287
theorem Mz:bd ao 288:=bh func288
theorem MA:bd ao 289:=bh func289
theorem lr:bd ao 290:=bh func290
theorem MB:bd ao 291:=bh func291
theorem MC:bd ao 292:=bh func292
theorem MD:bd ao 298:=bh func298
theorem ME:bd ao 299:=bh func299
theorem DM:bd ao 30:=bh func30
theorem DN:bd ao 300:=bh func300
theorem y8:bd ao 301:=bh func301
theorem DO:bd ao 302:=bh func302
theorem MF:bd ao 303:=bh func303
theorem y9:bd ao 308:=bh func308
theorem MG:bd ao 31:=bh func31
theorem DP:bd ao 33:=bh func33
theorem MH:bd ao 39:=bh func39
theorem MI:bd ao 40:=bh func40
theorem tw:bd ao 41:=bh func41
theorem MJ:bd ao 42:=bh func42
theorem DQ:bd ao 43:=bh func43
theorem rL:bd ao 44:=bh func44
theorem DR:bd ao 45:=bh func45
theorem za:bd ao 46:=bh func46
theorem DS:bd ao 47:=bh func47
theorem MK:bd ao 48:=bh func48
theorem zb:bd ao 49:=bh func49
theorem vK:bd ao 51:=bh func51
theorem ML:bd ao 52:=bh func52
theorem MM:bd ao 53:=bh func53
theorem MN:bd ao 54:=bh func54
theorem MO:bd ao 57:=bh func57
theorem DT:bd ao 58:=bh func58
theorem zc:bd ao 59:=bh func59
theorem MP:bd ao 60:=bh func60
theorem MQ:bd ao 61:=bh func61
theorem MR:bd ao 63:=bh func63
theorem MS:bd ao 64:=bh func64
theorem DU:bd ao 66:=bh func66
theorem DV:bd ao 70:=bh func70
theorem DW:bd ao 71:=bh func71
theorem MT:bd ao 72:=bh func72
theorem MU:bd ao 73:=bh func73
theorem DX:bd ao 74:=bh func74
theorem gz:bd ao 75:=bh func75
theorem MV:bd ao 76:=bh func76
theorem rM:bd ao 77:=bh func77
theorem MW:bd ao 78:=bh func78
theorem MX:bd ao 79:=bh func79
theorem MY:bd ao 80:=bh func80
theorem MZ:bd ao 81:=bh func81
theorem M0:bd ao 82:=bh func82
theorem M1:bd ao 83:=bh func83
theorem M2:bd ao 84:=bh func84
theorem M3:bd ao 85:=bh func85
theorem zd:bd ao 86:=bh func86
theorem DY:bd ao 87:=bh func87
theorem M4:bd ao 88:=bh func88
theorem vL:bd ao 89:=bh func89
theorem DZ:bd ao 90:=bh func90
theorem M5:bd ao 92:=bh func92
theorem N9:∀ (l:List UInt8) (c:UInt8) (w:World),(callFunc 307 #[str l,.int .u8 c.toNat]).run ao w= .ok (.value<|.int .i64 (l.count c:Nat)) w:=U4 func307 ag ag ag ag
theorem OQ:∀ v w,(callFunc 267 #[v]).run ao w= .ok (.value v) w:=fun v w=>ag
theorem El:ed ao 100=some 1:=ag
theorem zp:ed ao 102=some 13:=ag
theorem Em:ed ao 103=some 1:=ag
theorem OR:ed ao 112=some 2:=ag
theorem na:ed ao 134=some 7:=ag
theorem En:ed ao 156=some 1:=ag
theorem OS:ed ao 174=some 2:=ag
theorem Eo:ed ao 181=some 2:=ag
theorem qw:ed ao 192=some 5:=ag
theorem zq:ed ao 24=some 1:=ag
theorem OT:ed ao 242=some 1:=ag
theorem OU:ed ao 261=some 1:=ag
theorem Ep:ed ao 273=some 1:=ag
theorem pM:ed ao 275=some 1:=ag
theorem vP:ed ao 287=some 1:=ag
theorem eZ:ed ao 3=some 1:=ag
theorem OV:ed ao 307=some 1:=ag
theorem oO:ed ao 321=some 4:=ag
theorem Er:ed ao 35=some 1:=ag
theorem nb:ed ao 4=some 1:=ag
theorem iP:ed ao 45=some 3:=ag
theorem rP:ed ao 49=some 5:=ag
theorem rQ:ed ao 51=some 1:=ag
theorem jy:ed ao 53=some 2:=ag
theorem Es:ed ao 85=some 1:=ag
theorem zr:ed ao 88=some 1:=ag
theorem oP:ed ao 9=some 1:=ag
theorem fz:ed ao 95=some 1:=ag
theorem OW:ed ao 96=some 5:=ag
theorem Et:ed ao 97=some 1:=ag
theorem Eu:ed ao 98=some 1:=ag
theorem Ev:ed ao 99=some 1:=ag
theorem kG:gN ao 100=some 7:=ag
theorem zD:gN ao 103=some 2:=ag
theorem EK:gN ao 108=some 1:=ag
theorem P7:gN ao 113=some 2:=ag
theorem rU:gN ao 156=some 2:=ag
theorem qC:gN ao 261=some 1:=ag
theorem EL:gN ao 273=some 4:=ag
theorem vU:gN ao 29=some 5:=ag
theorem ec:gN ao 35=some 1:=ag
theorem bL:gN ao 51=some 1:=ag
theorem oS:gN ao 85=some 1:=ag
theorem zE:gN ao 98=some 1:=ag
theorem P8:gN ao 99=some 5:=ag
theorem zL:zO ao 102 8=some 12:=ag
theorem rW:cM ao 102 0=some 0:=ag
theorem QN:cM ao 102 1=some 1:=ag
theorem QO:cM ao 102 2=some 2:=ag
theorem wg:cM ao 102 3=some 3:=ag
theorem zX:cM ao 102 4=some 8:=ag
theorem wh:cM ao 102 5=some 9:=ag
theorem oT:cM ao 102 6=some 10:=ag
theorem rX:cM ao 102 7=some 11:=ag
theorem ng:cM ao 102 8=some 12:=ag
theorem tN:cM ao 105 0=some 0:=ag
theorem zY:cM ao 105 1=some 1:=ag
theorem tO:cM ao 105 2=some 2:=ag
theorem zZ:cM ao 105 3=some 15:=ag
theorem QP:cM ao 112 0=some 0:=ag
theorem QQ:cM ao 112 1=some 1:=ag
theorem Fi:cM ao 132 0=some 0:=ag
theorem wi:cM ao 132 1=some 1:=ag
theorem z1:cM ao 132 2=some 2:=ag
theorem Fj:cM ao 132 3=some 3:=ag
theorem tP:cM ao 134 0=some 0:=ag
theorem tQ:cM ao 134 2=some 2:=ag
theorem pO:cM ao 134 3=some 3:=ag
theorem tR:cM ao 134 4=some 4:=ag
theorem Fk:cM ao 134 5=some 5:=ag
theorem pP:cM ao 134 6=some 6:=ag
theorem fZ:cM ao 164 0=some 0:=ag
theorem Fl:cM ao 164 1=some 13:=ag
theorem gx:cM ao 167 0=some 0:=ag
theorem tS:cM ao 167 1=some 1:=ag
theorem tT:cM ao 167 2=some 2:=ag
theorem QR:cM ao 167 3=some 3:=ag
theorem rY:cM ao 167 4=some 4:=ag
theorem z6:cM ao 167 5=some 5:=ag
theorem z7:cM ao 167 6=some 6:=ag
theorem Fo:cM ao 174 0=some 0:=ag
theorem Fp:cM ao 174 1=some 1:=ag
theorem wj:cM ao 181 0=some 0:=ag
theorem tU:cM ao 181 1=some 1:=ag
theorem tV:cM ao 184 0=some 0:=ag
theorem z8:cM ao 184 1=some 1:=ag
theorem Aa:cM ao 192 0=some 0:=ag
theorem tW:cM ao 192 1=some 1:=ag
theorem Fq:cM ao 192 2=some 2:=ag
theorem Fs:cM ao 192 3=some 3:=ag
theorem wm:cM ao 192 4=some 4:=ag
theorem rZ:cM ao 201 0=some 0:=ag
theorem tX:cM ao 201 1=some 1:=ag
theorem Ab:cM ao 201 2=some 2:=ag
theorem Ac:cM ao 201 3=some 3:=ag
theorem Ft:cM ao 201 4=some 4:=ag
theorem Fu:cM ao 201 5=some 5:=ag
theorem lS:cM ao 275 0=some 0:=ag
theorem Ad:cM ao 309 0=some 0:=ag
theorem wo:cM ao 309 1=some 1:=ag
theorem r4:cM ao 49 0=some 0:=ag
theorem oU:cM ao 49 1=some 1:=ag
theorem lT:cM ao 49 2=some 2:=ag
theorem lU:cM ao 49 3=some 3:=ag
theorem n4:cM ao 49 4=some 4:=ag
theorem wq:cM ao 53 0=some 0:=ag
theorem qE:cM ao 53 1=some 1:=ag
theorem RT:(ao.info? 309).isSome=true :=ag
theorem Sc:∀ (l:List UInt8) (c:UInt8) (w:World),(callFunc 295 #[str l,.int .u8 c.toNat]).run ao w= .ok (.value<|.int .i64<|eB c l) w:=U5 func295 ag ag ag ag
theorem Av:lg ao 3 (jU .i64):=F9 (q:= .i64) ag
theorem gO:lg ao 9 iu:=Sl ag
theorem qH:lg ao 95 (jU .u16):=F9 (q:= .u16) ag
theorem AM:qJ ao 45=true :=ag
theorem Us:ptrTo ao 342 5=true :=ag
theorem xp:gy ao 100 134 7 88=true :=ag
theorem xq:gy ao 103 53 2 40=true :=ag
theorem Vv:gy ao 113 112 2 32=true :=ag
theorem HM:gy ao 156 181 2 32=true :=ag
theorem qO:gy ao 261 5 1 1=true :=ag
theorem xr:gy ao 273 321 4 32=true :=ag
theorem xu:gy ao 29 49 5 48=true :=ag
theorem kp:gy ao 35 9 1 16=true :=ag
theorem xv:gy ao 51 95 1 2=true :=ag
theorem nu:gy ao 85 3 1 8=true :=ag
theorem xw:gy ao 97 189 2 32=true :=ag
theorem xx:gy ao 98 51 1 24=true :=ag
theorem xy:gy ao 99 192 5 40=true :=ag
theorem VI:j5 ao 105=some ([(0,1),(1,1),(2,13),(15,1)],[.pointer none,.pointer none,.int .i64 0,.string ⟨⟨[]⟩⟩,.string ⟨⟨[]⟩⟩,.int .u16 0,.int .u16 0,.int .u16 0,.int .u16 0,.int .u16 0,.int .i64 0,.slice none 0 0,.slice none 0 0,.slice none 0 0,.slice none 0 0,.slice none 0 0]):=ag
theorem Bz:j5 ao 112=some ([(0,1),(1,1)],[.slice none 0 0,.int .i64 0]):=ag
theorem VJ:j5 ao 132=some ([(0,1),(1,1),(2,1),(3,1)],[.pointer none,.slice none 0 0,.map none,.map none]):=ag
theorem BA:j5 ao 134=some ([(0,1),(1,1),(2,1),(3,1),(4,1),(5,1),(6,1)],[.int .i64 0,.int .u16 0,.bool false,.string ⟨⟨[]⟩⟩,.string ⟨⟨[]⟩⟩,.string ⟨⟨[]⟩⟩,.slice none 0 0]):=ag
theorem VK:j5 ao 164=some ([(0,13),(13,1)],[.int .i64 0,.string ⟨⟨[]⟩⟩,.string ⟨⟨[]⟩⟩,.int .u16 0,.int .u16 0,.int .u16 0,.int .u16 0,.int .u16 0,.int .i64 0,.slice none 0 0,.slice none 0 0,.slice none 0 0,.slice none 0 0,.map none]):=ag
theorem VL:j5 ao 167=some ([(0,1),(1,1),(2,1),(3,1),(4,1),(5,1),(6,1)],[.pointer none,.slice none 0 0,.int .i64 0,.int .i64 0,.map none,.map none,.slice none 0 0]):=ag
theorem l8:j5 ao 174=some ([(0,1),(1,1)],[.int .i64 0,.nilFunc]):=ag
theorem VM:j5 ao 181=some ([(0,1),(1,1)],[.int .i64 0,.slice none 0 0]):=ag
theorem VN:j5 ao 184=some ([(0,1),(1,1)],[.slice none 0 0,.map none]):=ag
theorem VO:j5 ao 189=some ([(0,1),(1,1)],[.string ⟨⟨[]⟩⟩,.string ⟨⟨[]⟩⟩]):=ag
theorem BB:j5 ao 192=some ([(0,1),(1,1),(2,1),(3,1),(4,1)],[.int .u16 0,.int .i64 0,.bool false,.int .i64 0,.int .i64 0]):=ag
theorem VP:j5 ao 201=some ([(0,1),(1,1),(2,1),(3,1),(4,1),(5,1)],[.pointer none,.slice none 0 0,.int .i64 0,.string ⟨⟨[]⟩⟩,.slice none 0 0,.nilFunc]):=ag
theorem uB:j5 ao 275=some ([(0,1)],[.slice none 0 0]):=ag
theorem ss:j5 ao 45=some ([(0,1),(1,1),(2,1)],[.int .i64 0,.int .i64 0,.int .i64 0]):=ag
theorem xz:j5 ao 49=some ([(0,1),(1,1),(2,1),(3,1),(4,1)],[.string ⟨⟨[]⟩⟩,.int .i64 0,.int .i64 0,.int .i64 0,.int .i64 0]):=ag
theorem nv:j5 ao 53=some ([(0,1),(1,1)],[.string ⟨⟨[]⟩⟩,.slice none 0 0]):=ag
theorem pY:ao.underlying 100=some (.slice 134):=ag
theorem uE:ao.underlying 103=some (.slice 53):=ag
theorem H8:ao.underlying 108=some (.slice 95):=ag
theorem Wy:ao.underlying 113=some (.slice 112):=ag
theorem BH:ao.underlying 129=some (.map 3 85):=ag
theorem BI:ao.underlying 130=some (.map 49 3):=ag
theorem H9:ao.underlying 145=some (.int .u64):=ag
theorem xG:ao.underlying 156=some (.slice 181):=ag
theorem qQ:ao.underlying 162=some (.map 95 3):=ag
theorem pZ:ao.underlying 165=some (.map 9 3):=ag
theorem lG:ao.underlying 169=some (.map 9 174):=ag
theorem BJ:ao.underlying 182=some (.map 9 85):=ag
theorem nz:ao.underlying 24=some (.pointer 105):=ag
theorem p5:ao.underlying 261=some (.slice 5):=ag
theorem p6:ao.underlying 273=some (.slice 321):=ag
theorem Wz:ao.underlying 287=some (.int .u64):=ag
theorem uF:ao.underlying 29=some (.slice 49):=ag
theorem u3:ao.underlying 3=some (.int .i64):=ag
theorem Ib:ao.underlying 307=some (.pointer 309):=ag
theorem gU:ao.underlying 35=some (.slice 9):=ag
theorem u4:ao.underlying 4=some (.bool):=ag
theorem u5:ao.underlying 5=some (.int .u8):=ag
theorem oq:ao.underlying 51=some (.slice 95):=ag
theorem o3:ao.underlying 85=some (.slice 3):=ag
theorem uG:ao.underlying 88=some (.pointer 164):=ag
theorem u9:ao.underlying 9=some (.string):=ag
theorem xH:ao.underlying 91=some (.pointer 184):=ag
theorem xI:ao.underlying 95=some (.int .u16):=ag
theorem WC:ao.underlying 97=some (.slice 189):=ag
theorem xJ:ao.underlying 98=some (.slice 51):=ag
theorem If:ao.underlying 99=some (.slice 192):=ag
theorem Ih:uH ao 307 364 309 2=true :=ag
theorem WJ:(ao.underlying 145).isSome=true :=ag
theorem WK:(ao.underlying 242).isSome=true :=ag
theorem sA:(ao.underlying 3).isSome=true :=ag
theorem uI:(ao.underlying 5).isSome=true :=ag
theorem wide:ao.follows .mixedOrders=true :=ag
theorem II:zeroOf ao 102=some (some [.int .i64 0,.string ⟨⟨[]⟩⟩,.string ⟨⟨[]⟩⟩,.int .u16 0,.int .u16 0,.int .u16 0,.int .u16 0,.int .u16 0,.int .i64 0,.slice none 0 0,.slice none 0 0,.slice none 0 0,.slice none 0 0]):=ag
theorem Xn:zeroOf ao 112=some (some [.slice none 0 0,.int .i64 0]):=ag
theorem pc:zeroOf ao 134=some (some [.int .i64 0,.int .u16 0,.bool false,.string ⟨⟨[]⟩⟩,.string ⟨⟨[]⟩⟩,.string ⟨⟨[]⟩⟩,.slice none 0 0]):=ag
theorem Xo:zeroOf ao 156=some (some [.slice none 0 0]):=ag
theorem Xp:zeroOf ao 174=some (some [.int .i64 0,.nilFunc]):=ag
theorem IJ:zeroOf ao 181=some (some [.int .i64 0,.slice none 0 0]):=ag
theorem sG:zeroOf ao 192=some (some [.int .u16 0,.int .i64 0,.bool false,.int .i64 0,.int .i64 0]):=ag
theorem BY:zeroOf ao 24=some (some [.pointer none]):=ag
theorem xQ:zeroOf ao 275=some (some [.slice none 0 0]):=ag
theorem Xq:zeroOf ao 287=some (some [.int .u64 0]):=ag
theorem sH:zeroOf ao 3=some (some [.int .i64 0]):=ag
theorem IK:zeroOf ao 309=some (some [.pointer none,.slice none 0 0]):=ag
theorem qS:zeroOf ao 321=some (some [.int .u64 0,.int .u64 0,.int .u64 0,.int .u64 0]):=ag
theorem IL:zeroOf ao 35=some (some [.slice none 0 0]):=ag
theorem uK:zeroOf ao 4=some (some [.bool false]):=ag
theorem nB:zeroOf ao 45=some (some [.int .i64 0,.int .i64 0,.int .i64 0]):=ag
theorem sI:zeroOf ao 49=some (some [.string ⟨⟨[]⟩⟩,.int .i64 0,.int .i64 0,.int .i64 0,.int .i64 0]):=ag
theorem pd:zeroOf ao 53=some (some [.string ⟨⟨[]⟩⟩,.slice none 0 0]):=ag
theorem Xr:zeroOf ao 88=some (some [.pointer none]):=ag
theorem Xs:zeroOf ao 9=some (some [.string ⟨⟨[]⟩⟩]):=ag
theorem Xt:zeroOf ao 96=some (some [.int .u16 0,.int .u16 0,.int .u16 0,.int .u16 0,.int .u16 0]):=ag
theorem Xu:zeroOf ao 337=some (some<|List.replicate 256<|.bool false):=ag
theorem Xv:zeroV ao 174=some (.agg #[.int .i64 0,.nilFunc]):=ag
theorem mH:zeroV ao 3=some (.int .i64 0):=ag
theorem Xw:zeroV ao 45=some (.agg #[.int .i64 0,.int .i64 0,.int .i64 0]):=ag
theorem Xx:zeroV ao 5=some (.int .u8 0):=ag
theorem xR:zeroV ao 85=some (.slice none 0 0):=ag
theorem Xy:zeroV ao 95=some (.int .u16 0):=ag
end Go.Hb.dI
section
namespace Go.Hb
open Go.Hb.dI
theorem Ot (b:Nat) (A:Option Addr) (E:Value) (w:World) (c:w.heap[b]? =some (.cells [x5 A,E].toArray 309 (0,0))) (hp:A=none∨A=some ⟨b,0,none⟩):
 bf ao 240 (a7 [aU b]) w (fun v w'=>v= .tuple #[]∧w'.heap[b]? =some (.cells [x5 (some ⟨b,0,none⟩),E].toArray 309 (0,0))∧Md (fun k=>k=b) w w'):=by
 refine enter func240 aa ntmps240 aa<|ak fun G=>au (aU b)<|p (nc aa)<|p (fa Ad aa)<|p (ld CT aa<|(aV c).trans aa)<|p (iZ Ib aa aa)<|nl<|G<|cb aa (fun C=> ?_) fun C=> ?_
 obtain rfl :A=none:=by simpa using C
 exact rg aa<|au (aU b)<|au (aU b)<|p (Wn Ih aa c aa)<|p (N4 OQ aa)<|p (QZ Ih aa c aa)<|p (nc aa)<|p (fa Ad aa)<|e<|bW OV aa aa aa c (by simp) fun V O J=>nl<|f0 aa<|⟨aa,J,O⟩
 obtain rfl :A=some ⟨b,0,none⟩:=hp.resolve_left<|by rintro rfl; simp at C
 exact ak fun I=>au (aU b)<|p (nc aa)<|p (fa Ad aa)<|p (ld CT aa<|(aV c).trans aa)<|au (aU b)<|p (Ts Ib RT aa aa)<|nl<|I<|cf aa<|aR<|f0 aa<|⟨aa,c,Md.refl _ _⟩
theorem ID (b:Nat) (A:Value) (l:List UInt8) (c:UInt8) (w:World) (an:Bd 309 5 w b A l) (aF:l.length≤70368744177664):
 bf ao 204 (a7 [aU b,.int .u8 c.toNat]) w (fun v w'=>v= .nilIface∧∃ I,Bd 309 5 w' b I (l++ [c])∧Md (BF b A) w w'∧∀ k,BF b I k→BF b A k∨w.heap.size≤k):=by
 obtain ⟨⟨aB,Y,ax⟩,hown,hnil⟩:=an
 have aH:b < w.heap.size:=(Array.getElem?_eq_some_iff.1 Y).1
 have Z:∀ k,A.ownBlock=some k→k≠b∧k < w.heap.size:=fun k hk=>by have :=hown.lt k hk; exact ⟨ab,this.2⟩
 refine enter func204 aa ntmps204 aa<|ak fun ad=>ay<|ad<|ak fun ae=>au (aU b)<|e<|cl Mj (Ot b aB A w Y ax) aa fun v6 aM am=> ?_
 obtain ⟨_,V,E⟩:=am
 have aw:=cD hown E fun k hk=>(Z k hk).1
 have aI:=E.size
 refine nl<|ae<|ak fun ag=>au (aU b)<|au (aU b)<|p (nc aa)<|p (fa wo aa)<|p (ld yE aa<|(aV V).trans aa)<|au (.int .u8 c.toNat)<|e<|lk qO aa aa fun aC aJ aD C aj=>e<|ap qO (ba aw C.md) aa (by have :=C.size; omega) aa (aG.gl aj) (aa) (aa) ab ab fun ac aK G J aA av=> ?_
 have aq:=J.az (Wk.az C.md V) fun h=>(Z b h).1 rfl
 refine p (nc aa)<|p (fa wo aa)<|e<|bW OU aa aa (by obtain ⟨a,c,h,_⟩:=si G; exact congrArg eQ h) aq (by simp) fun aL O al=>nl<|ag<|ak fun ah=>p aE<|nl<|ah<|rt<|a8 aa ?_
 have ai:∀ k,ac.ownBlock=some k→k≠b:=fun k hk=>by have :=G.lt k hk; omega
 refine ⟨aa,ac,⟨⟨_,al,.inr aa⟩,?_,?_⟩,?_,?_⟩
 rw [bJ,vp]; exact cD G O fun k hk=>ai k hk
 rw [aA]; simp
 refine Md.trans' (Md.trans' (Md.trans' (E.mono fun k _ h=> .inl h) C.md fun _ _ h=>h.elim) J fun k _ h=> .inr h) O fun k _ h=> .inl h
 rintro k (rfl | hk)
 exact .inl<|.inl aa
 by_cases h:A.ownBlock=some k
 exact .inl<|.inr h
 have :=av k hk; have h1:=E.size; have h2:=C.md.size; exact .inr<|by rcases this with h3 | h3; exact absurd h3 h; omega
theorem BE (b:Nat) (G:Value) (l:List UInt8) (w:World) (Y:Bd 309 5 w b G l) (ae:l.length≤70368744177664):
 bf ao 202 (a7 [aU b]) w (fun v w'=>v=str l∧Md (fun k=>G.ownBlock=some k) w w'):=by
 obtain ⟨⟨aj,I,ah⟩,hown,hnil⟩:=Y
 obtain ⟨a,c,rfl,ac,hle,hk,ad⟩:=si hown
 refine enter func202 aa ntmps202 aa<|ak fun J=>ay<|J<|aB fun O=> ?_
 have A:(fun w'=>Md (fun k=>(bC a l.length c).ownBlock=some k) w w') w.drew:=(Md.refl _ _).drew
 refine bR (fun w'=>Md (fun k=>(bC a l.length c).ownBlock=some k) w w') aa wide A<|bY 0 aa (aU b) A<|aK 1 aa (fun _ _=>nc aa) A<|aK 2 aa (fun _ _=>fa wo aa) A<|aK 3 aa (fun w' C=>ld yE aa<|C.aJ ((aV I).trans aa) fun h=>by have :=hown.lt _ h; omega) A<|bY 5 aa (aU b) A<|aK 6 aa (fun _ _=>nc aa) A<|aK 7 aa (fun _ _=>fa wo aa) A<|aK 8 aa (fun w' C=>ld yE aa<|C.aJ ((aV I).trans aa) fun h=>by have :=hown.lt _ h; omega) A<|aK 9 aa (fun _ _=>bP p5 aa aa) A ?_
 refine aK 4 aa (fun _ _=>WL (v:= .nilFunc) aa (by
  by_cases h:l= []
  have :=hnil.2 h; simp only [Value.slice.injEq] at this; exact .inl this.1
  right; have :0 < l.length:=mN.2 h; omega)) A ?_
 refine he 10 aa ag<|WM Us aa aa hown aa ab fun Z V ai=> ?_
 have E:(fun w'=>Md (fun k=>(bC a l.length c).ownBlock=some k) w w') Z:=A.trans' V fun _ _ h=>h
 refine ⟨E,?_⟩
 exact aK 11 aa (fun _ _=>aE) E<|hn ag<|O<|rt<|a8 aa<|⟨aa,E⟩
end Go.Hb
end
section
namespace Go.Hb
open Go.Hb.dI
theorem mr (b:UInt8):qD b=decide ((b.toNat:Int)=92∨(b.toNat:Int)=47∨(b.toNat:Int)=35):=by
 unfold qD; exact decide_eq_decide.2 ab
theorem E3 (b:UInt8):iR b=decide (32 < (b.toNat:Int)∧(b.toNat:Int)≠127):=by
 unfold iR; exact decide_eq_decide.2 ab
theorem Qr {b:UInt8} (h:¬(32 < (b.toNat:Int)∧(b.toNat:Int)≠127)):iR b=false :=by rw [E3]; exact decide_eq_false h
theorem E4 (b:UInt8) (w:World):
 bf ao 205 (a7 [.int .u8 b.toNat]) w (fun v w'=>v= .bool (iR b)∧Wk w w'):=by
 refine enter func205 aa ntmps205 aa<|ak fun A=>ay<|A<|ak fun c=>au (.int .u8 b.toNat)<|p (gt aa aa)<|p mv<|gs (t:=5) aa (fun C=> ?_) fun C=> ?_
 exact a6 aa (aH (.int .u8 b.toNat) aa)<|a6 aa (gF aa aa)<|p (bO aa)<|ay<|c<|rt<|a8 aa<|⟨by show bU (decide _)=_; rw [E3]; exact bv (by constructor <;> intro h <;> first | exact ⟨ab,h⟩ | exact h.2),Md.refl _ _⟩
 exact aT aa<|aT aa<|p (bG aa)<|ay<|c<|rt<|a8 aa<|⟨by show bU false =_; rw [Qr ab],Md.refl _ _⟩
theorem S2 (b:UInt8) (w:World):
 bf ao 203 (a7 [.int .u8 b.toNat]) w (fun v w'=>v= .bool (qD b)∧Wk w w'):=by
 refine enter func203 aa ntmps203 aa<|ak fun I=>ay<|I<|aB fun E=>ak fun J=>au (.int .u8 b.toNat)<|nl<|J<|az<|aB fun G=>ak fun O=>p (cx aa aa)<|ay<|O<|cd aa (fun c=> ?_) fun c=> ?_
 refine aR<|G<|cd aa (fun c=> ?_) fun c=> ?_
 refine ak fun C=>ay<|C<|rt<|br<|tr<|a8 aa ?_
 first | exact ⟨by show bU true =_; rw [mr,decide_eq_true ab],Md.refl _ _⟩ | exact ⟨by show bU false =_; rw [mr,decide_eq_false ab],Md.refl _ _⟩
 refine aR<|bn<|E<|ak fun C=>ay<|C<|rt<|a8 aa ?_
 first | exact ⟨by show bU true =_; rw [mr,decide_eq_true ab],Md.refl _ _⟩ | exact ⟨by show bU false =_; rw [mr,decide_eq_false ab],Md.refl _ _⟩
 refine ak fun C=>p (cx aa aa)<|ay<|C<|cd aa (fun c=> ?_) fun c=> ?_
 refine aR<|G<|cd aa (fun c=> ?_) fun c=> ?_
 refine ak fun A=>ay<|A<|rt<|br<|tr<|a8 aa ?_
 first | exact ⟨by show bU true =_; rw [mr,decide_eq_true ab],Md.refl _ _⟩ | exact ⟨by show bU false =_; rw [mr,decide_eq_false ab],Md.refl _ _⟩
 refine aR<|bn<|E<|ak fun A=>ay<|A<|rt<|a8 aa ?_
 first | exact ⟨by show bU true =_; rw [mr,decide_eq_true ab],Md.refl _ _⟩ | exact ⟨by show bU false =_; rw [mr,decide_eq_false ab],Md.refl _ _⟩
 refine rg aa<|p (cx aa aa)<|ay<|G<|cd aa (fun c=> ?_) fun c=> ?_
 refine ak fun A=>ay<|A<|rt<|br<|tr<|a8 aa ?_
 first | exact ⟨by show bU true =_; rw [mr,decide_eq_true ab],Md.refl _ _⟩ | exact ⟨by show bU false =_; rw [mr,decide_eq_false ab],Md.refl _ _⟩
 refine aR<|bn<|E<|ak fun A=>ay<|A<|rt<|a8 aa ?_
 first | exact ⟨by show bU true =_; rw [mr,decide_eq_true ab],Md.refl _ _⟩ | exact ⟨by show bU false =_; rw [mr,decide_eq_false ab],Md.refl _ _⟩
theorem Iq (s:List UInt8) (w:World) (hs:s.length≤1048576):
 bf ao 139 (a7 [str s]) w (fun v w'=>v= .bool (o5 s)∧Wk w w'):=by
 refine enter func139 aa ntmps139 aa<|ak fun ae=>ay<|ae<|aB fun ai=>ak fun O=>au (str s)<|p (jD aa aa)<|p mv<|gs (t:=6) aa (fun I=> ?_) fun I=> ?_
 exact aT aa<|aT aa<|aT aa<|p (bO aa)<|nl<|O<|ct aa<|aB fun c=>rg aa<|ay<|c<|rt<|tr<|a8 aa<|⟨by show bU false =_; unfold o5; rw [decide_eq_false (by rw [I]; simp)],Md.refl _ _⟩
 refine a6 aa (aH (str s) aa)<|a6 aa (dC u9 aa aa)<|a6 aa (gt aa aa)<|p (bG aa)<|nl<|O<|cd aa (fun aq=> ?_) fun aq=> ?_
 exact ak fun c=>ay<|c<|rt<|tr<|a8 aa<|⟨by show bU false =_; unfold o5; rw [decide_eq_false ab],Md.refl _ _⟩
 refine aR<|ai<|aB fun c=>ak fun aj=>au (str s)<|p (dC u9 aa aa)<|p mv<|nl<|aj<|az<|lp (fun V A ac=> ∃ (i:Nat),(i≤s.length∧1≤s.length∧s.length≤64)∧(∀ j,j < i→iR (s.getD j 0)=true)∧(Wk w ac)∧(A 0=str s)∧(A 12= .int .i64 s.length)∧(A 13= .int .i64 i)∧(s.length - i=V)) _ ⟨0,(⟨ab,by rcases Nat.eq_zero_or_pos s.length with h | h <;> first | exact absurd (List.length_eq_zero_iff.1 h) I | exact h,ab⟩),(fun j Z=>by omega),(Md.refl _ _),aa,aa,aa,aa⟩ ?_
 rintro V A ac ⟨i,hi,hp,E,aw,ax,aA,rfl⟩
 refine fx 0 aw<|fx 12 ax<|fx 13 aA<|ak fun al=>p (lt aa aa)<|nl<|al<|aB fun am=>cd aa (fun av=> ?_) fun av=> ?_
 refine aR<|am<|aB fun C=>az<|ak fun an=>au (.int .i64 i)<|p (cg (.int .i64 i) aa)<|nl<|an<|ak fun ag=>au (str s)<|au (.int .i64 i)<|p (kj u9 aa aa ab)<|e<|cl DB (E4 (s.getD i 0) _) aa fun aC aD ap=> ?_
 obtain ⟨rfl,Y⟩:=ap
 refine p (no aa)<|nl<|ag<|cb aa (fun G=> ?_) fun G=> ?_
 have J:iR (s.getD i 0)=false :=by simpa using G
 exact ak fun ah=>ay<|ah<|rt<|br<|tr<|tr<|br<|tr<|a8 aa<|⟨by show bU false =_; unfold o5; rw [vE (i:=i) ab J,decide_eq_false (by simp)],Md.trans E Y⟩
 have J:iR (s.getD i 0)=true :=by simpa using G
 exact aR<|bn<|C<|rg aa<|p (ad aa aa<|cz ab)<|p mv<|nl<|tn<|⟨_,ab,i+1,ab,(fun j Z=>by rcases jk j i with h | h <;> first | exact hp j h | (rw [show j=i by omega]; exact J)),(Md.trans E Y),aa,aa,aa,aa⟩
 exact ext<|bj<|bj<|be<|c<|ak fun C=>p aE<|nl<|C<|rt<|a8 aa<|⟨by show bU true =_; unfold o5; rw [vF (fun j Z=>hp j ab),decide_eq_true ⟨hi.2.1,hi.2.2,aa⟩],E⟩
theorem BW (s:List UInt8) (w:World) (hs:s.length≤1048576):
 bf ao 138 (a7 [str s]) w (fun v w'=>v=Uw (bD s)∧Wk w w'):=by
 refine enter func138 aa ntmps138 aa<|ak fun av=>p aE<|p aE<|p aE<|ay<|av<|ak fun aF=>e<|dY IK fun c bv bk aX aO=>nl<|aF<|aB fun aG=>ak fun aI=>ay<|aI<|az<|lp (fun ap O J=> ∃ (i:Nat) (acc:List UInt8) (A:Value),(i≤s.length∧acc.length≤i)∧(Bd 309 5 J c A acc)∧(Wk w J)∧(jh acc (s.drop i)=bD s)∧(O 0=str s)∧(O 6=aU c)∧(O 7= .int .i64 i)∧(s.length - i=ap)) _ ⟨0,[],.slice none 0 0,(by simp),(Bd.new aO),aX.md,aa,aa,aa,aa,aa⟩ ?_
 rintro ap O J ⟨i,acc,A,hi,C,E,hd,ba,bb,bc,rfl⟩
 refine fx 0 ba<|fx 6 bb<|fx 7 bc<|aB fun aJ=>ak fun aL=>au (.int .i64 i)<|au (str s)<|p (dC u9 aa aa)<|p (lt aa aa)<|nl<|aL<|cd aa (fun a3=> ?_) fun a3=> ?_
 refine aR<|aJ<|aB fun ac=>az<|ak fun aM=>au (str s)<|au (.int .i64 i)<|p (kj u9 aa aa ab)<|nl<|aM<|az ?_
 refine e8 (fun V al=> ∃ (k:Nat),(k < s.length∧i≤k∧k≤i+1)∧(Bd 309 5 al c A acc)∧(Wk w al)∧(jh (acc++ [s.getD k 0]) (s.drop<|k+1)=bD s)∧(V 0=str s)∧(V 6=aU c)∧(V 7= .int .i64 k)) ?_ ?_
 refine az<|aB fun ae=>az<|aB fun ax=>az<|aB fun aA=>aB fun aC=>aB fun aD=>rg aa<|p (cx aa aa)<|ay<|aD<|cd aa (fun a4=> ?_) fun a4=> ?_
 have a2:(s.getD i 0).toNat=47:=ab
 refine ext<|bj<|bj<|be<|ax<|aB fun am=>aB fun Y=> ?_
 have G:(fun w'=>True) J.drew:=trivial
 refine bR (fun w'=>True) aa wide G<|bY 1 aa (str s) G<|bY 2 aa (.int .i64 i) G<|aK 3 aa (fun _ _=>bK ((i+1:Nat):Int) aa aa<|bl ab ab) G<|aK 4 aa (fun _ _=>o0 u9 aa aa ab) G<|he 0 aa ag<|cl yY (BE c A acc _ (C.md (Md.refl (fun _=>False) _).drew fun _ _ h=>h) ab) aa fun v21 bi aY=> ?_
 obtain ⟨rfl,aS⟩:=aY
 have I:(fun w'=>True) bi:=trivial
 refine ⟨I,?_⟩
 refine aK 5 aa (fun _ _=>aE) I<|aK 6 aa (fun _ _=>aE) I<|aK 7 aa (fun _ _=>aE) I<|aK 8 aa (fun _ _=>aE) I<|hn ag<|Y<|rt<|tr<|br<|tr<|br<|tr<|br<|br<|tr<|tr<|br<|tr<|f4 aa aa aa aa aa ?_
 skip
 exact ⟨by rw [← hd,drop_cons 0 (by omega :i < s.length),IC a2]; rfl,C.BC E (Md.trans (Md.refl _ _).drew aS) ab⟩
 refine aR<|aC<|ak fun am=>p (cx aa aa)<|ay<|am<|cd aa (fun a5=> ?_) fun a5=> ?_
 have ai:(s.getD i 0).toNat=92:=ab
 refine ext<|bj<|nX aw<|bj<|be<|ae<|ak fun Y=>au (.int .i64 i)<|p (bK ((i+1:Nat):Int) aa aa<|bl ab ab)<|ay<|Y<|ak fun an=>p mv<|au (str s)<|p (dC u9 aa aa)<|p (cx aa aa)<|p mv<|gs (t:=32) aa (fun a9=> ?_) fun a9=> ?_
 refine aT aa<|aT aa<|aT aa<|aT aa<|aT aa<|p (bO aa)<|nl<|an<|ct aa<|ak fun Z=>p aE<|p aE<|p aE<|p aE<|nl<|Z<|rt<|br<|tr<|br<|br<|tr<|tr ?_
 exact br<|tr<|f4 aa aa aa aa aa<|⟨by rw [← hd,drop_cons 0 (by omega :i < s.length),lK ab,Iz ai]; rfl,E⟩
 refine a6 aa (aH (str s) aa)<|a6 aa mv<|a6 aa (kj u9 aa aa ab)<|eg aa aa aa<|cl L7 (S2 (s.getD (i+1) 0) _) aa fun bo bs aZ=> ?_
 obtain ⟨rfl,ah⟩:=aZ
 refine a6 aa (no aa)<|p (bG aa)<|nl<|an<|cb aa (fun aj=> ?_) fun aj=> ?_
 exact ak fun Z=>p aE<|p aE<|p aE<|ay<|Z<|rt<|br<|tr<|br<|br<|tr<|tr<|br<|tr<|f4 aa aa aa aa aa<|⟨by rw [← hd,drop_cons 0 (by omega :i < s.length),drop_cons 0 (by omega :i+1 < s.length),IA ai (by simpa using aj)]; rfl,Md.trans E ah⟩
 exact aR<|bn<|tn<|⟨i+1,ab,(C.md ah fun _ _ h=>h),(Md.trans E ah),(by rw [← hd,drop_cons 0 (by omega :i < s.length),drop_cons 0 (by omega :i+1 < s.length),Iy ai (by simpa using aj)]),aa,aa,aa⟩
 exact aR<|aA<|ext<|nX aw<|bj<|nX aw<|bj<|be<|tn<|⟨i,ab,C,E,(by rw [← hd,drop_cons 0 (by omega :i < s.length),IB ab ab]),aa,aa,aa⟩
 rintro V al ⟨k,hk,aq,aQ,a8,bd,bg,bh⟩
 refine fx 0 bd<|fx 6 bg<|fx 7 bh<|ak fun ae=>au (str s)<|au (.int .i64 k)<|p (kj u9 aa aa ab)<|e<|cl DA (ID c A (acc) (s.getD k 0) _ aq ab) aa fun bp bt a0=> ?_
 obtain ⟨rfl,aN,aP,aV,bm⟩:=a0
 exact nl<|ae<|ext<|be<|bn<|ac<|rg aa<|au (.int .i64 k)<|p (ad aa aa<|cz ab)<|p aE<|nl<|tn<|⟨_,ab,k+1,acc++ [s.getD k 0],aN,(by rw [bJ,iG]; omega),aP,(aq.step aQ aV ab),a8,aa,aa,aa,aa⟩
 refine ext<|bj<|bj<|be<|aG<|ak fun ac=>e<|cl yY (BE c A acc _ C ab) aa fun bq bu a1=> ?_
 obtain ⟨rfl,aW⟩:=a1
 exact p aE<|p aE<|p aE<|ay<|ac<|rt<|f4 aa aa aa aa aa<|⟨by rw [← hd,lK ab,BV]; rfl,C.BC E aW ab⟩
theorem SE (s:List UInt8) (w:World) (hs:s.length≤1048576):
 bf ao 194 (a7 [str s]) w (fun v w'=>v= .tuple #[str (letE s).1,.int .i64 (letE s).2]∧Wk w w'):=by
 refine enter func194 aa ntmps194 aa<|ak fun aG=>p aE<|ay<|aG<|ak fun aL=>e<|al Xu fun ac bg bi J aw=> ?_
 have aW:bE bg.heap ac (marksOf []):=by rw [S4]; exact aw
 refine nl<|aL<|aB fun aM=>ak fun aN=>au (str s)<|p (jD aa aa)<|nl<|aN<|cd aa (fun ap=> ?_) fun ap=> ?_
 exact ak fun Z=>p aE<|ay<|Z<|rt<|tr<|f2 aa aa aa<|⟨by show j8 #[str [],.int .i64 21]=_; unfold letE; rw [if_pos (.inl ap)]; rfl,J.md⟩
 refine aR<|aM<|ak fun Z=>e<|dY IK fun I bu bl aF aX=>nl<|Z<|aB fun aO=>ak fun aP=>au (str s)<|p (dC u9 aa aa)<|p mv<|nl<|aP<|az ?_
 have bk:=aw.lt
 refine lp (fun av c V=> ∃ (i:Nat) (A:Value),(i≤s.length)∧(∀ j,j < i→iR (s.getD j 0)=true)∧(bE V.heap ac<|marksOf<|lets<|s.take i)∧(Bd 309 5 V I A<|lets<|s.take i)∧(Wk w V)∧(c 0=str s)∧(c 4=aU ac)∧(c 5=aU I)∧(c 10= .int .i64 s.length)∧(c 11= .int .i64 i)∧(s.length - i=av)) _ ⟨0,.slice none 0 0,ab,(fun j aq=>by omega),(aF.md.B aW),(Bd.new aX),(Md.trans J.md aF.md),aa,aa,aa,aa,aa,aa⟩ ?_
 rintro av c V ⟨i,A,hi,hp,aD,ag,aj,a8,bb,bc,a9,ba,rfl⟩
 refine fx 0 a8<|fx 4 bb<|fx 5 bc<|fx 10 a9<|fx 11 ba ?_
 have a6:=Gk<|s.take i
 rw [eE] at a6
 have bm:=aD.lt
 refine ak fun aQ=>p (lt aa aa)<|nl<|aQ<|aB fun aS=>cd aa (fun a5=> ?_) fun a5=> ?_
 refine aR<|aS<|aB fun G=>az<|ak fun aH=>au (.int .i64 i)<|p (cg (.int .i64 i) aa)<|nl<|aH<|aB fun aI=>ak fun aJ=>au (str s)<|au (.int .i64 i)<|p (kj u9 aa aa ab)<|e<|cl DB (E4 (s.getD i 0) _) aa fun v17 bd a2=> ?_
 obtain ⟨rfl,C⟩:=a2
 refine p (no aa)<|nl<|aJ<|cb aa (fun am=> ?_) fun am=> ?_
 have O:iR (s.getD i 0)=false :=by simpa using am
 exact ak fun Y=>p aE<|ay<|Y<|rt<|tr<|br<|tr<|tr<|br<|tr<|f2 aa aa aa<|⟨by show j8 #[str [],.int .i64 21]=_; unfold letE; rw [if_pos (.inr<|vE ab O)]; rfl,Md.trans aj C⟩
 have O:iR (s.getD i 0)=true :=by simpa using am
 have ax:Wk w bd:=Md.trans aj C
 have ae:=C.B aD
 have ai:=ag.md C fun _ _ h=>h
 have bp:=C.size
 refine aR<|aI<|ak fun Y=>au (str s)<|au (.int .i64 i)<|p (kj u9 aa aa ab)<|p (lW C8 aa aa<|by have :=jN (s.getD i 0); omega)<|p (ld jS aa<|S6 ae _)<|p (no aa)<|nl<|Y<|cb aa (fun an=> ?_) fun an=> ?_
 have E:¬s.getD i 0∈lets (s.take i):=of_decide_eq_false<|by simpa using an
 refine ak fun aK=>au (str s)<|au (.int .i64 i)<|p (kj u9 aa aa ab)<|p (lW C8 aa aa<|by have :=jN (s.getD i 0); omega)<|e<|st nb aa aa (aa) (ae) (by rw [Gx]; have :=jN (s.getD i 0); omega) fun bh aA aV=> ?_
 have a1:=S7 aV
 have aZ:Wk w bh:=Md.trans' ax aA fun k hk h=>by omega
 have ah:=ai.md aA fun k hk h=>by have :=ai.ir hk; omega
 refine nl<|aK<|rg aa<|au (str s)<|au (.int .i64 i)<|p (kj u9 aa aa ab)<|e<|cl DA (ID I A (lets<|s.take i) (s.getD i 0) _ ah ab) aa fun v32 bs a3=> ?_
 obtain ⟨rfl,aT,aY,aC,bo⟩:=a3
 exact nl<|bn<|G<|rg aa<|p (ad aa aa<|cz ab)<|p mv<|nl<|tn<|⟨_,ab,i+1,aT,ab,(fun j aq=>by rcases jk j i with h | h <;> first | exact hp j h | (rw [show j=i by omega]; exact O)),(by rw [wz ab,if_neg E]; exact aC.B a1 fun h=>by have :=ah.ir h; omega),(by rw [wz ab,if_neg E]; exact aY),(ah.step aZ aC<|by have :=J.md.size; omega),aa,aa,aa,aa,aa,aa⟩
 have E:s.getD i 0∈lets (s.take i):=by simpa using an
 exact aR<|bn<|G<|rg aa<|p (ad aa aa<|cz ab)<|p mv<|nl<|tn<|⟨_,ab,i+1,A,ab,(fun j aq=>by rcases jk j i with h | h <;> first | exact hp j h | (rw [show j=i by omega]; exact O)),(by rw [wz ab,if_pos E]; exact ae),(by rw [wz ab,if_pos E]; exact ai),ax,aa,aa,aa,aa,aa,aa⟩
 refine ext<|bj<|bj<|be<|aO<|ak fun G=>e<|cl yY (BE I A (lets<|s.take i) _ ag<|by have :=Gk (s.take i); rw [eE] at this; omega) aa fun bq bt a4=> ?_
 obtain ⟨rfl,a0⟩:=a4
 exact p aE<|ay<|G<|rt<|f2 aa aa aa<|⟨by show j8 #[str (lets<|s.take i),.int .i64 0]=_; unfold letE; rw [if_neg (by rw [vF (fun j aq=>hp j ab)]; exact fun h=>h.elim ap c7),show s.take i=s from fu ab]; rfl,ag.BC aj a0<|by have :=J.md.size; omega⟩
end Go.Hb
end
section
namespace Go.Hb
open Go.Hb.dI
theorem FU {s:List UInt8} (h:¬s= []) (h1:¬(1 < s.length∧(s.getD 0 0).toNat=48)):¬qG s:=fun c=>c.elim h h1
theorem Up {s:List UInt8} (h:¬qG s):0 < s.length:=mN.2 fun e=>h<|.inl e
theorem wX (s:List UInt8) (most:Int) (w:World) (hs:s.length≤1048576) (hm: -9223372036854775808≤most∧most≤9223372036854775807):
 bf ao 137 (a7 [str s,.int .i64 most]) w (fun v w'=>v= .tuple #[.int .i64 (fH s most).1,.int .i64 (fH s most).2]∧Wk w w'):=by
 refine enter func137 aa ntmps137 aa<|ak fun ah=>p aE<|ay<|ah ?_
 refine e8 (fun Y V=>(¬qG s)∧(V=w)∧(Y 0=str s)∧(Y 1= .int .i64 most)) ?_ ?_
 refine ak fun C=>au (str s)<|p (jD aa aa)<|p mv<|gs (t:=11) aa (fun I=> ?_) fun I=> ?_
 exact aT aa<|aT aa<|aT aa<|aT aa<|fS aa<|fS aa<|fS aa<|aT aa<|p (bO aa)<|nl<|C<|ct aa<|ak fun E=>p aE<|p aE<|nl<|E<|rt<|tr<|f2 aa aa aa<|⟨by show j8 #[.int .i64 0,.int .i64 13]=_; rw [GS (.inl I)]; rfl,Md.refl _ _⟩
 refine a6 aa (aH (str s) aa)<|a6 aa (dC u9 aa aa)<|a6 aa (gt aa aa)<|a6 aa mv<|gs (t:=15) aa (fun aF=> ?_) fun aF=> ?_
 refine a6 aa (aH (str s) aa)<|a6 aa (nj 0 u9 aa aa ab)<|a6 aa (cx aa aa)<|a6 aa (bO aa)<|p (bG aa)<|nl<|C<|cd aa (fun ax=> ?_) fun ax=> ?_
 exact ak fun E=>p aE<|ay<|E<|rt<|tr<|f2 aa aa aa<|⟨by show j8 #[.int .i64 0,.int .i64 13]=_; rw [GS (.inr ⟨ab,ab⟩)]; rfl,Md.refl _ _⟩
 have J:=FU (s:=s) I ab
 exact aR<|tn<|⟨J,aa,aa,aa⟩
 exact aT aa<|aT aa<|aT aa<|a6 aa (bG aa)<|p (bG aa)<|nl<|C<|cf aa<|aR<|tn<|⟨(FU (s:=s) I ab),aa,aa,aa⟩
 rintro Y V ⟨J,av,aK,aL⟩
 refine fx 0 aK<|fx 1 aL ?_
 subst av
 have hp:=Up J
 refine ak fun C=>ay<|C<|aB fun E=>ak fun al=>au (str s)<|p (dC u9 aa aa)<|p mv<|nl<|al<|az<|lp (fun Z A ag=> ∃ (i:Nat),(i≤s.length)∧(ag=V)∧((fY (s.take i):Int)≤max 0 most∧(0 < i→(fY (s.take i):Int)≤most))∧(∀ j,j < i→tD (s.getD j 0)=true)∧(A 0=str s)∧(A 1= .int .i64 most)∧(A 6=aj (fY<|s.take i))∧(A 22= .int .i64 s.length)∧(A 23= .int .i64 i)∧(s.length - i=Z)) _ ⟨0,ab,aa,(by rw [pB]; show (0:Int)≤_∧_; omega),(fun j ae=>by omega),aa,aa,(iv<|by first | rfl | (rw [tB ab])),aa,aa,aa⟩ ?_
 rintro Z A ag ⟨i,hi,aw,hn,ac,aM,aN,aQ,aO,aP,rfl⟩
 refine fx 0 aM<|fx 1 aN<|fx 6 aQ<|fx 22 aO<|fx 23 aP ?_
 subst aw
 have aS:=jN<|s.getD i 0
 refine ak fun am=>p (lt aa aa)<|nl<|am<|aB fun an=>cd aa (fun aA=> ?_) fun aA=> ?_
 refine aR<|an<|aB fun O=>az<|ak fun ap=>au (.int .i64 i)<|p (cg (.int .i64 i) aa)<|nl<|ap<|ak fun aq=>au (str s)<|au (.int .i64 i)<|p (kj u9 aa aa ab)<|p (zo u3 uI aa<|cz ab)<|p (sb aa aa<|cz ab)<|ay<|aq<|aB fun ai=>ak fun G=>p mv<|p (lt aa aa)<|p mv<|gs (t:=33) aa (fun aG=> ?_) fun aG=> ?_
 refine aT aa<|aT aa<|p (bO aa)<|p mv<|aT aa<|aT aa<|aT aa<|p (bO aa)<|p mv<|aT aa<|aT aa<|aT aa<|aT aa<|aT aa<|aT aa<|p (bO aa)<|nl<|G<|ct aa<|ak fun c=>p aE<|p aE<|nl<|c<|rt<|tr<|br<|tr<|tr<|br<|tr ?_
 exact f2 aa aa aa<|⟨by show j8 #[.int .i64 0,.int .i64 13]=_; rw [GR (i:=i) ab (EB ab)]; rfl,Md.refl _ _⟩
 refine a6 aa mv<|a6 aa (gt aa aa)<|p (bG aa)<|p mv<|gs (t:=37) aa (fun aI=> ?_) fun aI=> ?_
 exact aT aa<|aT aa<|aT aa<|p (bO aa)<|p mv<|aT aa<|aT aa<|aT aa<|aT aa<|aT aa<|aT aa<|p (bO aa)<|nl<|G<|ct aa<|aB fun c=>rg aa<|p aE<|ay<|c<|rt<|tr<|br<|tr<|tr<|br<|tr<|f2 aa aa aa<|⟨by show j8 #[.int .i64 0,.int .i64 13]=_; rw [GR (i:=i) ab (EB ab)]; rfl,Md.refl _ _⟩
 refine a6 aa (aH (.int .i64 most) aa)<|a6 aa mv<|a6 aa (lt aa aa)<|p (bG aa)<|p mv<|gs (t:=42) aa (fun aJ=> ?_) fun aJ=> ?_
 refine aT aa<|aT aa<|aT aa<|aT aa<|aT aa<|aT aa<|p (bO aa)<|nl<|G<|ct aa<|ak fun c=>p aE<|ay<|c ?_
 exact rt<|tr<|br<|tr<|tr<|br<|tr<|f2 aa aa aa<|⟨by show j8 #[.int .i64 0,.int .i64 13]=_; rw [GP (i+1) (by rw [tB ab]; omega)]; rfl,Md.refl _ _⟩
 have aU:((s.getD i 0).toNat:Int) - 48≤most:=ab
 refine a6 aa (aH (aj<|fY<|s.take i) aa)<|a6 aa (aH (.int .i64 most) aa)<|a6 aa mv<|a6 aa (sb aa aa<|cz ab)<|a6 aa (pU (((most - (((s.getD i 0).toNat:Int) - 48)).toNat / 10:Nat):Int) aa aa ab<|bl ab ab)<|a6 aa (gt aa aa)<|p (bG aa)<|nl<|G<|cd aa (fun aC=> ?_) fun aC=> ?_
 exact ak fun c=>p aE<|ay<|c<|rt<|tr<|br<|tr<|tr<|br<|tr<|f2 aa aa aa<|⟨by show j8 #[.int .i64 0,.int .i64 13]=_; rw [GP (i+1) (by rw [tB ab]; omega)]; rfl,Md.refl _ _⟩
 have aD:tD (s.getD i 0)=true :=decide_eq_true ab
 exact aR<|ai<|rg aa<|au (aj<|fY<|s.take i)<|p (qL ((fY (s.take i)*10:Nat):Int) aa aa<|bl ab ab)<|p mv<|p (bK ((fY (s.take i)*10 +((s.getD i 0).toNat - 48):Nat):Int) aa aa<|bl ab ab)<|p aE<|nl<|bn<|O<|rg aa<|p (ad aa aa<|cz ab)<|p mv<|nl<|tn<|⟨_,ab,i+1,ab,aa,(by rw [tB ab]; omega),(fun j ae=>by rcases jk j i with h | h <;> first | exact ac j h | (rw [show j=i by omega]; exact aD)),aa,aa,(iv<|by first | rfl | (rw [tB ab])),aa,aa,aa⟩
 exact ext<|bj<|bj<|be<|E<|ak fun O=>au (aj<|fY<|s.take i)<|p (cg (aj<|fY<|s.take i) aa)<|ay<|O<|rt<|f2 aa aa aa<|⟨by show j8 #[aj (fY<|s.take i),.int .i64 0]=_; rw [show s.take i=s from fu ab,GU J (fun j ae=>ac j ab) (by rw [show s.take i=s from fu ab] at hn; omega)],Md.refl _ _⟩
end Go.Hb
end
section
namespace Go.Hb
open Go.Hb.dI
theorem Bc {s pr:List UInt8} (h:s.take pr.length=pr):pr.length≤s.length:=by
 have :=congrArg List.length h
 rw [eE] at this; omega
theorem V0 {s:List UInt8} (h:decide (1≤s.length∧s.drop (s.length - 1)= [13])=true):jT s=s.take (s.length - 1):=by
 have h1:=of_decide_eq_true h
 rw [Gd ab] at h1
 exact PE ab<|by simpa using h1.2
theorem V1 {s:List UInt8} (h:decide (1≤s.length∧s.drop (s.length - 1)= [13])=false):jT s=s:=by
 have h1:=of_decide_eq_false h
 refine PD fun h2=>h1 ⟨ab,?_⟩
 rw [Gd ab,h2.2]
theorem R9 (c:UInt8):eB c [c]=0:=by unfold eB; simp
theorem Aj (s pr:List UInt8) (w:World) (hs:s.length≤1099511627776) (hp:pr.length≤1099511627776):
 bf ao 217 (a7 [str s,str pr]) w (fun v w'=>v= .bool (decide (s.take pr.length=pr))∧Wk w w'):=by
 refine enter func217 aa ntmps217 aa<|ak fun A=>ay<|A<|ak fun c=>au (str s)<|p (dC u9 aa aa)<|au (str pr)<|p (dC u9 aa aa)<|p (ge aa aa)<|p mv<|gs (t:=10) aa (fun C=> ?_) fun C=> ?_
 exact a6 aa (aH (str s) aa)<|a6 aa (aH (str pr) aa)<|a6 aa (dC u9 aa aa)<|a6 aa (sr u9 aa aa ab)<|a6 aa (aH (str pr) aa)<|a6 aa (jD aa aa)<|p (bO aa)<|p aE<|nl<|c<|rt<|a8 aa<|⟨aa,Md.refl _ _⟩
 exact aT aa<|aT aa<|aT aa<|aT aa<|aT aa<|aT aa<|p (bG aa)<|p aE<|nl<|c<|rt<|a8 aa<|⟨by show bU false =_; rw [decide_eq_false (fun h=>by have :=Bc h; omega)],Md.refl _ _⟩
theorem Wp (s pr:List UInt8) (w:World) (hs:s.length≤1099511627776) (hp:pr.length≤1099511627776):
 bf ao 210 (a7 [str s,str pr]) w (fun v w'=>v=str (eO s pr)∧Wk w w'):=by
 refine enter func210 aa ntmps210 aa<|ak fun G=>ay<|G<|aB fun I=>ak fun J=>au (str s)<|au (str pr)<|e<|cl yZ (Aj s pr _ hs hp) aa fun Y Z O=> ?_
 obtain ⟨rfl,E⟩:=O
 refine nl<|J<|cb aa (fun C=> ?_) fun C=> ?_
 have c:=of_decide_eq_true C
 have V:=Bc c
 exact ak fun A=>au (str s)<|au (str pr)<|p (dC u9 aa aa)<|p (o0 u9 aa aa ab)<|p aE<|nl<|A<|rt<|tr<|a8 aa<|⟨by show str (s.drop (pr.length:Int).toNat)=_; unfold eO; rw [if_pos c]; rfl,E⟩
 have c:=of_decide_eq_false C
 exact aR<|I<|ak fun A=>au (str s)<|p (cg (str s) aa)<|nl<|A<|rt<|a8 aa<|⟨by show str s=_; unfold eO; rw [if_neg c],E⟩
theorem H4 (s pr:List UInt8) (w:World) (hs:s.length≤1099511627776) (hp:pr.length≤1099511627776):
 bf ao 146 (a7 [str s,str pr]) w (fun v w'=>v=str (eO s pr)∧Wk w w'):=by
 refine enter func146 aa ntmps146 aa<|ak fun c=>ay<|c<|ak fun A=>au (str s)<|au (str pr)<|e<|cl L9 (Wp s pr _ hs hp) aa fun G I E=> ?_
 obtain ⟨rfl,C⟩:=E
 exact ay<|A<|rt<|a8 aa<|⟨aa,C⟩
theorem wv (s pr:List UInt8) (w:World) (hs:s.length≤1099511627776) (hp:pr.length≤1099511627776):
 bf ao 216 (a7 [str s,str pr]) w (fun v w'=>v= .bool (decide (pr.length≤s.length∧s.drop (s.length - pr.length)=pr))∧Wk w w'):=by
 refine enter func216 aa ntmps216 aa<|ak fun A=>ay<|A<|ak fun c=>au (str s)<|p (dC u9 aa aa)<|au (str pr)<|p (dC u9 aa aa)<|p (ge aa aa)<|p mv<|gs (t:=10) aa (fun C=> ?_) fun C=> ?_
 exact a6 aa (aH (str s) aa)<|a6 aa (aH (str s) aa)<|a6 aa (dC u9 aa aa)<|a6 aa (aH (str pr) aa)<|a6 aa (dC u9 aa aa)<|a6 aa (sb aa aa<|cz ab)<|a6 aa (o0 u9 aa aa ab)<|a6 aa (aH (str pr) aa)<|a6 aa (jD aa aa)<|p (bO aa)<|ay<|c<|rt<|a8 aa<|⟨by show bU (decide (s.drop ((s.length:Int) - (pr.length:Int)).toNat=pr))=_; rw [show ((s.length:Int) - (pr.length:Int)).toNat=s.length - pr.length from by omega]; exact bv (by constructor <;> intro h <;> first | exact ⟨ab,h⟩ | exact h.2),Md.refl _ _⟩
 exact aT aa<|aT aa<|aT aa<|aT aa<|aT aa<|aT aa<|aT aa<|aT aa<|aT aa<|p (bG aa)<|ay<|c<|rt<|a8 aa<|⟨by show bU false =_; rw [decide_eq_false ab],Md.refl _ _⟩
theorem Wt (s:List UInt8) (w:World) (hs:s.length≤1099511627776):
 bf ao 209 (a7 [str s,str [13]]) w (fun v w'=>v=str (jT s)∧Wk w w'):=by
 refine enter func209 aa ntmps209 aa<|ak fun E=>ay<|E<|aB fun G=>ak fun I=>au (str s)<|au (str [13])<|e<|cl vJ (wv s [13] _ hs aw) aa fun Y Z J=> ?_
 obtain ⟨rfl,C⟩:=J
 refine nl<|I<|cb aa (fun c=> ?_) fun c=> ?_
 have V:=(of_decide_eq_true c).1
 have O:([13]:List UInt8).length=1:=rfl
 exact ak fun A=>au (str s)<|au (str s)<|p (dC u9 aa aa)<|au (str [13])<|p (dC u9 aa aa)<|p (sb aa aa<|cz ab)<|p (sr u9 aa aa ab)<|ay<|A<|rt<|tr<|a8 aa<|⟨by show str (s.take ((s.length:Int) - (([13]:List UInt8).length:Int)).toNat)=_; rw [V0 c,show ((s.length:Int) - (([13]:List UInt8).length:Int)).toNat=s.length - 1 from by simp only [iG]; omega],C⟩
 exact aR<|G<|ak fun A=>au (str s)<|p (cg (str s) aa)<|nl<|A<|rt<|a8 aa<|⟨by show str s=_; rw [V1 c],C⟩
theorem Wu (s:List UInt8) (w:World) (hs:s.length≤1099511627776):
 bf ao 145 (a7 [str s,str [13]]) w (fun v w'=>v=str (jT s)∧Wk w w'):=by
 refine enter func145 aa ntmps145 aa<|ak fun c=>ay<|c<|ak fun A=>au (str s)<|au (str [13])<|e<|cl DD (Wt s _ hs) aa fun G I E=> ?_
 obtain ⟨rfl,C⟩:=E
 exact ay<|A<|rt<|a8 aa<|⟨aa,C⟩
theorem FX (s:List UInt8) (c:UInt8) (w:World):
 bf ao 275 (a7 [str s,.int .u8 c.toNat]) w (fun v w'=>v= .int .i64 (eB c s)∧Wk w w'):=by
 exact enter func275 aa ntmps275 aa<|ak fun A=>ay<|A<|ak fun C=>au (str s)<|au (.int .u8 c.toNat)<|p (Ef (Sc s c _) aa)<|ay<|C<|rt<|a8 aa<|⟨aa,Md.refl _ _⟩
theorem FW (s:List UInt8) (c:UInt8) (w:World):
 bf ao 263 (a7 [str s,str [c]]) w (fun v w'=>v= .int .i64 (eB c s)∧Wk w w'):=by
 refine enter func263 aa ntmps263 aa<|ak fun E=>ay<|E<|ak fun G=>au (str [c])<|p (dC u9 aa aa)<|ay<|G<|aB fun Y=>az<|ak fun I=>p mv<|p (cx aa aa)<|p mv<|gs (t:=19) aa (fun h=>absurd h<|by simp) fun ab=>a6 aa (aH (str [c]) aa)<|a6 aa (aH (str s) aa)<|a6 aa (jD aa aa)<|p (bG aa)<|ay<|I<|cd aa (fun C=> ?_) fun C=> ?_
 exact ak fun A=>ay<|A<|rt<|br<|tr<|a8 aa<|⟨by show Value.int .i64 0=_; rw [← C,R9],Md.refl _ _⟩
 refine ak fun A=>p mv<|p (cx aa aa)<|ay<|A<|cd aa (fun Z=> ?_) fun h=>absurd aa h
 refine ak fun J=>au (str s)<|au (str [c])<|p (nj 0 u9 aa aa<|by simp)<|e<|cl DK (FX s c _) aa fun v30 ac V=> ?_
 obtain ⟨rfl,O⟩:=V
 exact ay<|J<|rt<|br<|tr<|a8 aa<|⟨aa,O⟩
theorem RS (s:List UInt8) (c:UInt8) (w:World):
 bf ao 299 (a7 [str s,str [c]]) w (fun v w'=>v= .int .i64 (eB c s)∧Wk w w'):=by
 refine enter func299 aa ntmps299 aa<|ak fun A=>ay<|A<|ak fun C=>au (str s)<|au (str [c])<|e<|cl DJ (FW s c _) aa fun I J G=> ?_
 obtain ⟨rfl,E⟩:=G
 exact ay<|C<|rt<|a8 aa<|⟨aa,E⟩
theorem OJ (s:List UInt8) (c:UInt8) (w:World) (hs:s.length≤1099511627776):
 bf ao 232 (a7 [str s,str [c]]) w (fun v w'=>v= .tuple #[str (lR c s),str (mZ c s),.bool (!decide (eB c s < 0))]∧Wk w w'):=by
 refine enter func232 aa ntmps232 aa<|ak fun I=>p aE<|p aE<|ay<|I<|aB fun J=>ak fun O=>au (str s)<|au (str [c])<|e<|cl DJ (FW s c _) aa fun v10 E Y=> ?_
 obtain ⟨rfl,G⟩:=Y
 refine ay<|O<|ak fun V=>p mv<|p (ge aa aa)<|nl<|V<|cd aa (fun Z=> ?_) fun Z=> ?_
 have ac:=r8 (c:=c) (l:=s) ab
 have ad:[c].length=1:=rfl
 refine aB fun C=> ?_
 have A:(fun w'=>Wk E w') E.drew:=(Md.refl _ _).drew
 exact bR (fun w'=>Wk E w') aa wide A<|bY 0 aa (str s) A<|aK 1 aa (fun _ _=>mv) A<|aK 2 aa (fun _ _=>sr u9 aa aa ab) A<|bY 3 aa (str s) A<|aK 4 aa (fun _ _=>mv) A<|bY 5 aa (str [c]) A<|aK 6 aa (fun _ _=>dC u9 aa aa) A<|aK 7 aa (fun _ _=>bK ((s.idxOf c+1:Nat):Int) aa aa<|bl ab ab) A<|aK 8 aa (fun _ _=>o0 u9 aa aa ab) A<|aK 9 aa (fun _ _=>aE) A<|aK 10 aa (fun _ _=>aE) A<|aK 11 aa (fun _ _=>aE) A<|hn ag<|C<|rt<|tr<|f3 aa aa aa aa<|⟨by show j8 #[str (s.take (eB c s).toNat),str (s.drop<|s.idxOf c+1),.bool true]=_; unfold lR mZ; rw [if_neg ab,if_neg ab,ac.1,decide_eq_false ab]; rfl,Md.trans G (Md.refl _ _).drew⟩
 exact aR<|J<|ak fun C=>au (str s)<|p (cg (str s) aa)<|p aE<|p aE<|nl<|C<|rt<|f3 aa aa aa aa<|⟨by show j8 #[str s,str [],.bool false]=_; unfold lR mZ; rw [if_pos ab,if_pos ab,decide_eq_true ab]; rfl,G⟩
theorem OM (s:List UInt8) (c:UInt8) (w:World) (hs:s.length≤1099511627776):
 bf ao 190 (a7 [str s,str [c]]) w (fun v w'=>v= .tuple #[str (lR c s),str (mZ c s),.bool (!decide (eB c s < 0))]∧Wk w w'):=by
 refine enter func190 aa ntmps190 aa<|ak fun A=>p aE<|p aE<|ay<|A<|aB fun C=>rg aa<|au (str s)<|au (str [c])<|e<|cl Me (OJ s c _ hs) aa fun v9 I G=> ?_
 obtain ⟨rfl,E⟩:=G
 exact p (xt aa aa)<|p (xt aa aa)<|p (xt aa aa)<|p aE<|p aE<|ay<|C<|rt<|f3 aa aa aa aa<|⟨aa,E⟩
end Go.Hb
end
section
namespace Go.Hb
open Go.Hb.dI
theorem R6 (x:Nat) (w:World):
 bf ao 303 (a7 [aX x]) w (fun v w'=>v= .bool false∧Wk w w'):=by
 exact enter func303 aa ntmps303 aa<|ak fun c=>ay<|c<|ak fun A=>au (aX x)<|au (aX x)<|p (gF aa aa)<|ay<|A<|rt<|a8 aa<|⟨congrArg bU (decide_eq_false fun h=>h aa),Md.refl _ _⟩
theorem lA (x y:Nat) (w:World):
 bf ao 290 (a7 [aX x,aX y]) w (fun v w'=>v= .bool (bM x y)∧Wk w w'):=by
 refine enter func290 aa ntmps290 aa<|ak fun c=>ay<|c<|ak fun A=>au (aX x)<|e<|cl MF (R6 x _) aa fun v6 G E=> ?_
 obtain ⟨rfl,C⟩:=E
 exact p mv<|aT aa<|aT aa<|aT aa<|p (bG aa)<|p mv<|a6 aa (aH (aX x) aa)<|a6 aa (aH (aX y) aa)<|a6 aa (lt aa aa)<|p (bG aa)<|ay<|A<|rt<|a8 aa<|⟨by show bU (decide ((x:Int) < (y:Int)))=_; unfold bM; exact congrArg bU (decide_eq_decide.2 ab),C⟩
theorem R5 (d:Array Nat) (a b:Nat) (B n cp:Nat) (A:Option Addr) (w:World) (hO:w.ownsRow B 95 1 (.slice A n cp) n (LE aX d)) (a6:a≤b∧b≤n) (bd:n≤1099511627776):
 bf ao 284 (a7 [.slice A n cp,aj a,aj b]) w (fun v w'=>v= .tuple #[]∧w'.ownsRow B 95 1 (.slice A n cp) n (LE aX<|Jn bM d a b)∧Md (fun q=>(bC A n cp).ownBlock=some q) w w'):=by
 have a9:=eV hO
 refine enter func284 aa ntmps284 aa<|ak fun aA=>au (aj a)<|p (bK ((a+1:Nat):Int) aa aa<|bl ab ab)<|ay<|aA<|az<|lp (fun ac ae an=> ∃ (i:Nat) (Z:Array Nat),(a+1≤i∧i≤n+1)∧(Go.Sort.insOuter bM a b i Z=Jn bM d a b)∧(an.ownsRow B 95 1 (.slice A n cp) n<|LE aX Z)∧(Md (fun q=>(bC A n cp).ownBlock=some q) w an)∧(ae 0= .slice A n cp)∧(ae 1=aj a)∧(ae 2=aj b)∧(ae 6=aj i)∧(b - i=ac)) _ ⟨a+1,d,ab,aa,hO,(Md.refl _ _),aa,aa,aa,aa,aa⟩ ?_
 rintro ac ae an ⟨i,Z,hi,al,aw,av,aV,aW,aZ,a0,rfl⟩
 refine fx 0 aV<|fx 1 aW<|fx 2 aZ<|fx 6 a0<|aB fun aC=>ak fun aD=>au (aj i)<|au (aj b)<|p (lt aa aa)<|nl<|aD<|cd aa (fun aS=> ?_) fun aS=> ?_
 refine aR<|aC<|aB fun ap=>az<|ak fun aF=>au (aj i)<|p (cg (aj i) aa)<|nl<|aF<|az<|lp (fun ac Y O=> ∃ (j:Nat) (E:Array Nat),(a≤j∧j≤i)∧(Jm bM a j E=Jm bM a i Z)∧(O.ownsRow B 95 1 (.slice A n cp) n<|LE aX E)∧(Md (fun q=>(bC A n cp).ownBlock=some q) w O)∧(Y 0= .slice A n cp)∧(Y 1=aj a)∧(Y 2=aj b)∧(Y 6=aj i)∧(Y 7=aj j)∧(j=ac)) _ ⟨i,Z,ab,aa,aw,av,aa,aa,aa,aa,aa,aa⟩ ?_
 rintro ac Y O ⟨j,E,bb,am,I,ah,a1,a2,a3,a4,a5,rfl⟩
 refine fx 0 a1<|fx 1 a2<|fx 2 a3<|fx 6 a4<|fx 7 a5<|aB fun aI=>aB fun aq=> ?_
 have a8:=eV I
 have c:(fun w'=>Wk O w') O.drew:=(Md.refl _ _).drew
 refine bR (fun w'=>Wk O w') aa wide c<|bY 0 aa (aj j) c<|bY 1 aa (aj a) c<|aK 2 aa (fun _ _=>gt aa aa) c<|aK 3 aa (fun _ _=>mv) c<|kH (t:=19) aa (fun aQ=> ?_) fun aQ=> ?_
 refine bw 4 aa (fun _ _=>aH (.slice A n cp) aa) c<|bw 5 aa (fun _ _=>aH (aj j) aa) c<|bw 6 aa (fun _ _=>bc bL aa aa ab<|aG.ok ((aY I).2)<|bN ab) c<|bw 7 aa (fun w' G=>ld bZ aa<|cW (i:=j) ((aY I).2.wk G) ab) c<|bw 8 aa (fun _ _=>aH (.slice A n cp) aa) c<|bw 9 aa (fun _ _=>aH (aj j) aa) c<|bw 10 aa (fun _ _=>dz ((j - 1:Nat):Int) aa aa<|bl ab ab) c<|bw 11 aa (fun _ _=>bc bL aa aa ab<|aG.ok ((aY I).2)<|bN ab) c<|bw 12 aa (fun w' G=>ld bZ aa<|cW (i:=j - 1) ((aY I).2.wk G) ab) c<|lV 13 aa ag aa aa aa<|cl lr (lA E[j]! E[j - 1]! _) aa fun bg ad aP=> ?_
 obtain ⟨rfl,aL⟩:=aP
 have V:(fun w'=>Wk O w') ad:=Md.trans c aL
 refine ⟨V,?_⟩
 refine aK 14 aa (fun _ _=>bO aa) V<|hn ag<|aq<|cb aa (fun ai=> ?_) fun ai=> ?_
 refine aR<|aI<|aB fun aJ=>az ?_
 have J:=ba I V
 have C:(fun w'=>Wk ad w') ad.drew:=(Md.refl _ _).drew
 refine eG (fun w'=>Wk ad w') 15 aa wide C<|bp 0 aa (.slice A n cp) C<|bp 1 aa (aj j) C<|bp 2 aa (.slice A n cp) C<|bp 3 aa (aj j) C<|bF 4 aa (fun _=>dz ((j - 1:Nat):Int) aa aa<|bl ab ab) (fun _=>C)<|bp 5 aa (.slice A n cp) C<|bp 6 aa (aj j) C<|bF 7 aa (fun _=>dz ((j - 1:Nat):Int) aa aa<|bl ab ab) (fun _=>C)<|bF 8 aa (fun _=>bc bL aa aa ab<|aG.ok ((aY J).2)<|bN ab) (fun _=>C)<|eC 9 aa (fun w' G=>ld bZ aa<|cW (i:=j - 1) ((aY J).2.wk G) ab) C<|bp 10 aa (.slice A n cp) C<|bp 11 aa (aj j) C<|bF 12 aa (fun _=>bc bL aa aa ab<|aG.ok ((aY J).2)<|bN ab) (fun _=>C)<|eC 13 aa (fun w' G=>ld bZ aa<|cW (i:=j) ((aY J).2.wk G) ab) C<|bF 14 aa (fun _=>bc bL aa aa ab<|aG.ok ((aY J).2)<|bN ab) (fun _=>C) ?_
 refine dw 15 aa ag ag<|fI (u:=E[j - 1]!) (j) (ba J C) fz aa aa aa ab fun bh aN aT=>bF 16 aa (fun _=>bc bL aa aa ab<|aG.ok ((aY J).2)<|bN ab) (fun h=>c7<|(show true =_ from by kernel_rfl).trans h)<|dw 17 aa ag ag<|fI (u:=E[j]!) (j - 1) aT fz aa aa aa ab fun ax aO aU=> ?_
 have G:ax.ownsRow B 95 1 (.slice A n cp) n (LE aX<|bV E (j)<|j - 1):=aU
 have aM:Md (fun q=>(bC A n cp).ownBlock=some q) ad ax:=Md.trans (C.mono fun _ _ h=>h.elim)<|Md.trans aN aO
 exact eF ag<|bn<|aJ<|rg aa<|au (aj j)<|p (dz ((j - 1:Nat):Int) aa aa<|bl ab ab)<|p aE<|nl<|tn<|⟨_,ab,j - 1,bV E j (j - 1),ab,(by rw [← am,RX (show a < j by omega) ai]),G,(Md.trans ah<|Md.trans (V.mono fun _ _ h=>h.elim) aM),aa,aa,aa,aa,aa,aa⟩
 exact ext<|bj<|bj<|be<|bn<|ap<|rg aa<|au (aj i)<|p (bK ((i+1:Nat):Int) aa aa<|bl ab ab)<|p aE<|nl<|tn<|⟨_,ab,i+1,E,ab,(by rw [← al,F1 (show i < b by omega),← am,RY (by simpa using ai)]),(ba I V),(Md.trans ah<|V.mono fun _ _ h=>h.elim),aa,aa,aa,aa,aa⟩
 exact bm 4 aa c<|bm 5 aa c<|bm 6 aa c<|bm 7 aa c<|bm 8 aa c<|bm 9 aa c<|bm 10 aa c<|bm 11 aa c<|bm 12 aa c<|bm 13 aa c<|aK 14 aa (fun _ _=>bG aa) c<|hn ag<|aq<|cf aa<|ext<|bj<|bj<|be<|bn<|ap<|rg aa<|au (aj i)<|p (bK ((i+1:Nat):Int) aa aa<|bl ab ab)<|p aE<|nl<|tn<|⟨_,ab,i+1,E,ab,(by rw [← al,F1 (show i < b by omega),← am,RZ ab]),(ba I (Md.refl _ _).drew),ah.drew,aa,aa,aa,aa,aa⟩
 exact ext<|bj<|bj<|be<|f0 aa<|⟨aa,by rw [← al,RW ab]; exact aw,av⟩
theorem Vr (d:Array Nat) (lo hi first :Nat) (B n cp:Nat) (E:Option Addr) (w:World) (hO:w.ownsRow B 95 1 (.slice E n cp) n (LE aX d)) (bh:lo≤hi∧first+hi≤n) (bk:n≤1099511627776):
 bf ao 300 (a7 [.slice E n cp,aj lo,aj hi,aj first]) w (fun v w'=>v= .tuple #[]∧w'.ownsRow B 95 1 (.slice E n cp) n (LE aX<|qf bM hi first lo d)∧Md (fun q=>(bC E n cp).ownBlock=some q) w w'):=by
 refine enter func300 aa ntmps300 aa<|ak fun aD=>au (aj lo)<|p (cg (aj lo) aa)<|nl<|aD<|az<|lp (fun ax al ac=> ∃ (r:Nat) (G:Array Nat),(r≤hi)∧(qf bM hi first r G=qf bM hi first lo d)∧(ac.ownsRow B 95 1 (.slice E n cp) n<|LE aX G)∧(Md (fun q=>(bC E n cp).ownBlock=some q) w ac)∧(al 0= .slice E n cp)∧(al 2=aj hi)∧(al 3=aj first)∧(al 8=aj r)∧(hi - r=ax)) _ ⟨lo,d,ab,aa,hO,(Md.refl _ _),aa,aa,aa,aa,aa⟩ ?_
 rintro ax al ac ⟨r,G,bo,av,O,an,a2,a3,a4,a5,rfl⟩
 refine fx 0 a2<|fx 2 a3<|fx 3 a4<|fx 8 a5<|az<|ak fun aF=>au (aj r)<|p (qL ((2 *r:Nat):Int) aa aa<|bl ab ab)<|p (bK ((2 *r+1:Nat):Int) aa aa<|bl ab ab)<|p aE<|nl<|aF<|aB fun aI=>ak fun aJ=>p mv<|au (aj hi)<|p (ge aa aa)<|nl<|aJ<|cd aa (fun aV=> ?_) fun aV=> ?_
 exact ext<|bj<|nX aw<|bj<|be<|f0 aa<|⟨aa,by rw [← av,Vp ab]; exact O,an⟩
 refine aR<|aI ?_
 refine e8 (fun ah Z=> ∃ (c:Nat),(r < c∧c < hi)∧(qf bM hi first r G=if (!bM G[first+r]! G[first+c]!)=true then G else qf bM hi first c (bV G (first+r)<|first+c))∧(Z.ownsRow B 95 1 (.slice E n cp) n<|LE aX G)∧(Md (fun q=>(bC E n cp).ownBlock=some q) w Z)∧(ah 0= .slice E n cp)∧(ah 2=aj hi)∧(ah 3=aj first)∧(ah 8=aj r)∧(ah 9=aj c)) ?_ ?_
 refine aB fun am=> ?_
 have aW:=eV O
 have A:(fun w'=>Wk ac w') ac.drew:=(Md.refl _ _).drew
 refine bR (fun w'=>Wk ac w') aa wide A<|aK 0 aa (fun _ _=>mv) A<|aK 1 aa (fun _ _=>bK ((2 *r+1 +1:Nat):Int) aa aa<|bl ab ab) A<|bY 2 aa (aj hi) A<|aK 3 aa (fun _ _=>lt aa aa) A<|aK 4 aa (fun _ _=>mv) A<|kH (t:=21) aa (fun aZ=> ?_) fun aZ=> ?_
 refine bw 5 aa (fun _ _=>aH (.slice E n cp) aa) A<|bw 6 aa (fun _ _=>aH (aj first) aa) A<|bw 7 aa (fun _ _=>mv) A<|bw 8 aa (fun _ _=>bK ((first+(2 *r+1):Nat):Int) aa aa<|bl ab ab) A<|bw 9 aa (fun _ _=>bc bL aa aa ab<|aG.ok ((aY O).2)<|bN ab) A<|bw 10 aa (fun w' J=>ld bZ aa<|cW (i:=first+(2 *r+1)) ((aY O).2.wk J) ab) A<|bw 11 aa (fun _ _=>aH (.slice E n cp) aa) A<|bw 12 aa (fun _ _=>aH (aj first) aa) A<|bw 13 aa (fun _ _=>mv) A<|bw 14 aa (fun _ _=>bK ((first+(2 *r+1):Nat):Int) aa aa<|bl ab ab) A<|bw 15 aa (fun _ _=>bK ((first+(2 *r+1)+1:Nat):Int) aa aa<|bl ab ab) A<|bw 16 aa (fun _ _=>bc bL aa aa ab<|aG.ok ((aY O).2)<|bN ab) A<|bw 17 aa (fun w' J=>ld bZ aa<|cW (i:=first+(2 *r+1)+1) ((aY O).2.wk J) ab) A<|lV 18 aa ag aa aa aa<|cl lr (lA G[first+(2 *r+1)]! G[first+(2 *r+1)+1]! _) aa fun v35 bg aT=> ?_
 obtain ⟨rfl,aN⟩:=aT
 have ad:(fun w'=>Wk ac w') bg:=Md.trans A aN
 refine ⟨ad,?_⟩
 refine aK 19 aa (fun _ _=>bO aa) ad<|hn ag<|am<|cb aa (fun ap=> ?_) fun ap=> ?_
 exact rg aa<|p mv<|p (bK ((2 *r+2:Nat):Int) aa aa<|bl ab ab)<|p aE<|nl<|tn<|⟨2 *r+2,ab,(Vq ab ap),(ba O ad),(Md.trans an<|ad.mono fun _ _ h=>h.elim),aa,aa,aa,aa,aa⟩
 exact aR<|tn<|⟨2 *r+1,ab,(HI ab<|.inr ap),(ba O ad),(Md.trans an<|ad.mono fun _ _ h=>h.elim),aa,aa,aa,aa,aa⟩
 exact bm 5 aa A<|bm 6 aa A<|bm 7 aa A<|bm 8 aa A<|bm 9 aa A<|bm 10 aa A<|bm 11 aa A<|bm 12 aa A<|bm 13 aa A<|bm 14 aa A<|bm 15 aa A<|bm 16 aa A<|bm 17 aa A<|bm 18 aa A<|aK 19 aa (fun _ _=>bG aa) A<|hn ag<|am<|cf aa<|aR<|tn<|⟨2 *r+1,ab,(HI ab<|.inl ab),(ba O (Md.refl _ _).drew),an.drew,aa,aa,aa,aa,aa⟩
 rintro ah Z ⟨c,bi,aA,Y,ay,a6,a8,a9,bb,bd⟩
 refine fx 0 a6<|fx 2 a8<|fx 3 a9<|fx 8 bb<|fx 9 bd<|aB fun am=>aB fun aL=> ?_
 have aW:=eV Y
 have I:(fun w'=>Wk Z w') Z.drew:=(Md.refl _ _).drew
 refine bR (fun w'=>Wk Z w') aa wide I<|bY 0 aa (.slice E n cp) I<|bY 1 aa (aj first) I<|bY 2 aa (aj r) I<|aK 3 aa (fun _ _=>bK ((first+r:Nat):Int) aa aa<|bl ab ab) I<|aK 4 aa (fun _ _=>bc bL aa aa ab<|aG.ok ((aY Y).2)<|bN ab) I<|aK 5 aa (fun w' J=>ld bZ aa<|cW (i:=first+r) ((aY Y).2.wk J) ab) I<|bY 6 aa (.slice E n cp) I<|bY 7 aa (aj first) I<|bY 8 aa (aj c) I<|aK 9 aa (fun _ _=>bK ((first+c:Nat):Int) aa aa<|bl ab ab) I<|aK 10 aa (fun _ _=>bc bL aa aa ab<|aG.ok ((aY Y).2)<|bN ab) I<|aK 11 aa (fun w' J=>ld bZ aa<|cW (i:=first+c) ((aY Y).2.wk J) ab) I<|he 12 aa ag<|cl lr (lA G[first+r]! G[first+c]! _) aa fun v51 ai aU=> ?_
 obtain ⟨rfl,aO⟩:=aU
 have ae:(fun w'=>Wk Z w') ai:=Md.trans I aO
 refine ⟨ae,?_⟩
 refine aK 13 aa (fun _ _=>no aa) ae<|hn ag<|aL<|cb aa (fun aq=> ?_) fun aq=> ?_
 exact rt<|tr<|br<|tr<|br<|tK aa<|⟨aa,by rw [← av,aA,if_pos aq]; exact ba Y ae,Md.trans ay<|ae.mono fun _ _ h=>h.elim⟩
 refine aR<|am<|aB fun aM=> ?_
 have V:=ba Y ae
 have C:(fun w'=>Wk ai w') ai.drew:=(Md.refl _ _).drew
 refine eG (fun w'=>Wk ai w') 21 aa wide C<|bp 0 aa (.slice E n cp) C<|bp 1 aa (aj first) C<|bp 2 aa (aj r) C<|bF 3 aa (fun _=>bK ((first+r:Nat):Int) aa aa<|bl ab ab) (fun _=>C)<|bp 4 aa (.slice E n cp) C<|bp 5 aa (aj first) C<|bp 6 aa (aj c) C<|bF 7 aa (fun _=>bK ((first+c:Nat):Int) aa aa<|bl ab ab) (fun _=>C)<|bp 8 aa (.slice E n cp) C<|bp 9 aa (aj first) C<|bp 10 aa (aj c) C<|bF 11 aa (fun _=>bK ((first+c:Nat):Int) aa aa<|bl ab ab) (fun _=>C)<|bF 12 aa (fun _=>bc bL aa aa ab<|aG.ok ((aY V).2)<|bN ab) (fun _=>C)<|eC 13 aa (fun w' J=>ld bZ aa<|cW (i:=first+c) ((aY V).2.wk J) ab) C<|bp 14 aa (.slice E n cp) C<|bp 15 aa (aj first) C<|bp 16 aa (aj r) C<|bF 17 aa (fun _=>bK ((first+r:Nat):Int) aa aa<|bl ab ab) (fun _=>C)<|bF 18 aa (fun _=>bc bL aa aa ab<|aG.ok ((aY V).2)<|bN ab) (fun _=>C)<|eC 19 aa (fun w' J=>ld bZ aa<|cW (i:=first+r) ((aY V).2.wk J) ab) C<|bF 20 aa (fun _=>bc bL aa aa ab<|aG.ok ((aY V).2)<|bN ab) (fun _=>C)<|dw 21 aa ag ag<|fI (u:=G[first+c]!) (first+r) (ba V C) fz aa aa aa ab fun bq aQ a0=> ?_
 refine bF 22 aa (fun _=>bc bL aa aa ab<|aG.ok ((aY V).2)<|bN ab) (fun h=>c7<|(show true =_ from by kernel_rfl).trans h)<|dw 23 aa ag ag<|fI (u:=G[first+r]!) (first+c) a0 fz aa aa aa ab fun aC aS a1=> ?_
 have J:aC.ownsRow B 95 1 (.slice E n cp) n (LE aX<|bV G (first+r)<|first+c):=a1
 have aP:Md (fun q=>(bC E n cp).ownBlock=some q) ai aC:=Md.trans (C.mono fun _ _ h=>h.elim)<|Md.trans aQ aS
 exact eF ag<|aM<|rg aa<|au (aj c)<|p (cg (aj c) aa)<|nl<|bn<|tn<|⟨_,ab,c,bV G (first+r) (first+c),ab,(by rw [← av,aA,if_neg (by rw [aq]; exact c7)]),J,(Md.trans ay<|Md.trans (ae.mono fun _ _ h=>h.elim) aP),aa,aa,aa,aa,aa⟩
theorem HJ (d:Array Nat) (lo hi first :Nat) (C A:Int) (B n cp:Nat) (c:Option Addr) (w:World) (hO:w.ownsRow B 95 1 (.slice c n cp) n (LE aX d)) (E:lo≤hi∧first+hi≤n) (I:C=(lo:Nat)) (G:A=(hi:Nat)) (J:n≤1099511627776):
 bf ao 300 (a7 [.slice c n cp,.int .i64 C,.int .i64 A,.int .i64 (first :Nat)]) w (fun v w'=>v= .tuple #[]∧w'.ownsRow B 95 1 (.slice c n cp) n (LE aX<|qf bM hi first lo d)∧Md (fun q=>(bC c n cp).ownBlock=some q) w w'):=by
 subst I G; exact Vr d lo hi first B n cp c w hO E J
theorem RD (d:Array Nat) (a b:Nat) (B n cp:Nat) (c:Option Addr) (w:World) (hO:w.ownsRow B 95 1 (.slice c n cp) n (LE aX d)) (a6:a < b∧b≤n) (ae:n≤1099511627776):
 bf ao 285 (a7 [.slice c n cp,aj a,aj b]) w (fun v w'=>v= .tuple #[]∧w'.ownsRow B 95 1 (.slice c n cp) n (LE aX<|Jl bM d a b)∧Md (fun q=>(bC c n cp).ownBlock=some q) w w'):=by
 refine enter func285 aa ntmps285 aa<|ak fun al=>au (aj a)<|p (cg (aj a) aa)<|nl<|al<|ak fun aq=>ay<|aq<|ak fun av=>au (aj b)<|au (aj a)<|p (dz ((b - a:Nat):Int) aa aa<|bl ab ab)<|ay<|av<|aB fun aw=>ak fun ax=>p mv<|p (dz ((b - a - 1:Nat):Int) aa aa<|bl ab ab)<|p (pU (((b - a - 1) / 2:Nat):Int) aa aa ab<|bl ab ab)<|ay<|ax<|az<|lp (fun O I ad=> ∃ (k:Nat) (C:Array Nat),(k≤b - a)∧(Jk bM (b - a) a k C=Jk bM (b - a) a ((b - a - 1) / 2 +1) d)∧(ad.ownsRow B 95 1 (.slice c n cp) n<|LE aX C)∧(Md (fun q=>(bC c n cp).ownBlock=some q) w ad)∧(I 0= .slice c n cp)∧(I 6=aj a)∧(I 7= .int .i64 0)∧(I 8=aj (b - a))∧(I 9= .int .i64 ((k:Nat) - 1:Int))∧(k=O)) _ ⟨(b - a - 1) / 2 +1,d,ab,aa,hO,(Md.refl _ _),aa,aa,aa,aa,(iv ab),aa⟩ ?_
 rintro O I ad ⟨k,C,hk,ac,E,V,aU,aV,aW,aZ,a0,rfl⟩
 refine fx 0 aU<|fx 6 aV<|fx 7 aW<|fx 8 aZ<|fx 9 a0<|aB fun aA=>ak fun aC=>au (.int .i64 ((k:Nat) - 1:Int))<|p (ge aa aa)<|nl<|aC<|cd aa (fun aP=> ?_) fun aP=> ?_
 refine aR<|aA<|aB fun Z=>az<|rg aa<|au (.slice c n cp)<|au (.int .i64 ((k:Nat) - 1:Int))<|au (aj<|b - a)<|au (aj a)<|e<|cl DN (HJ C (k - 1) (b - a) a _ _ B n cp c _ E ab ab aa ae) aa fun v26 bb aN=> ?_
 obtain ⟨rfl,aL,aF⟩:=aN
 exact nl<|bn<|Z<|rg aa<|au (.int .i64 ((k:Nat) - 1:Int))<|p (sb aa aa<|cz ab)<|p aE<|nl<|tn<|⟨_,ab,k - 1,qf bM (b - a) a (k - 1) C,ab,(by rw [← ac,Rf (show 0 < k by omega)]),aL,(Md.trans V aF),aa,aa,aa,aa,(iv ab),aa⟩
 refine ext<|bj<|bj<|be<|aw<|ak fun Z=>au (aj<|b - a)<|p (dz ((b - a - 1:Nat):Int) aa aa<|bl ab ab)<|ay<|Z<|az<|lp (fun O J G=> ∃ (k:Nat) (C:Array Nat),(k≤b - a)∧(Go.Sort.heapPop bM a k C=Jl bM d a b)∧(G.ownsRow B 95 1 (.slice c n cp) n<|LE aX C)∧(Md (fun q=>(bC c n cp).ownBlock=some q) w G)∧(J 0= .slice c n cp)∧(J 6=aj a)∧(J 7= .int .i64 0)∧(J 8=aj (b - a))∧(J 10= .int .i64 ((k:Nat) - 1:Int))∧(k=O)) _ ⟨b - a,C,ab,(by rw [show k=0 by omega,Rg] at ac; rw [ac]; rfl),E,V,aa,aa,aa,aa,(iv ab),aa⟩ ?_
 rintro O J G ⟨k,C,a9,ah,E,V,a1,a3,a4,a5,a2,rfl⟩
 refine fx 0 a1<|fx 6 a3<|fx 7 a4<|fx 8 a5<|fx 10 a2<|aB fun aD=>ak fun am=>au (.int .i64 ((k:Nat) - 1:Int))<|p (ge aa aa)<|nl<|am<|cd aa (fun aQ=> ?_) fun aQ=> ?_
 refine aR<|aD<|aB fun an=>az<|aB fun ap=> ?_
 have a8:=eV E
 have A:(fun w'=>Wk G w') G.drew:=(Md.refl _ _).drew
 refine eG (fun w'=>Wk G w') 17 aa wide A<|bp 0 aa (.slice c n cp) A<|bp 1 aa (aj a) A<|bp 2 aa (.slice c n cp) A<|bp 3 aa (aj a) A<|bp 4 aa (.int .i64 ((k:Nat) - 1:Int)) A<|bF 5 aa (fun _=>bK ((a+(k - 1):Nat):Int) aa aa<|bl ab ab) (fun _=>A)<|bp 6 aa (.slice c n cp) A<|bp 7 aa (aj a) A<|bp 8 aa (.int .i64 ((k:Nat) - 1:Int)) A<|bF 9 aa (fun _=>bK ((a+(k - 1):Nat):Int) aa aa<|bl ab ab) (fun _=>A)<|bF 10 aa (fun _=>bc bL aa aa ab<|aG.ok ((aY E).2)<|bN ab) (fun _=>A)<|eC 11 aa (fun w' Y=>ld bZ aa<|cW (i:=a+(k - 1)) ((aY E).2.wk Y) ab) A<|bp 12 aa (.slice c n cp) A<|bp 13 aa (aj a) A<|bF 14 aa (fun _=>bc bL aa aa ab<|aG.ok ((aY E).2)<|bN ab) (fun _=>A) ?_
 refine eC 15 aa (fun w' Y=>ld bZ aa<|cW (i:=a) ((aY E).2.wk Y) ab) A<|bF 16 aa (fun _=>bc bL aa aa ab<|aG.ok ((aY E).2)<|bN ab) (fun _=>A)<|dw 17 aa ag ag<|fI (u:=C[a+(k - 1)]!) (a) (ba E A) fz aa aa aa ab fun bg aJ aS=>bF 18 aa (fun _=>bc bL aa aa ab<|aG.ok ((aY E).2)<|bN ab) (fun h=>c7<|(show true =_ from by kernel_rfl).trans h)<|dw 19 aa ag ag<|fI (u:=C[a]!) (a+(k - 1)) aS fz aa aa aa ab fun ai aK aT=> ?_
 have Y:ai.ownsRow B 95 1 (.slice c n cp) n (LE aX<|bV C (a)<|a+(k - 1)):=aT
 have aI:Md (fun q=>(bC c n cp).ownBlock=some q) G ai:=Md.trans (A.mono fun _ _ h=>h.elim)<|Md.trans aJ aK
 refine eF ag<|ap<|rg aa<|au (.slice c n cp)<|au (.int .i64 0)<|au (.int .i64 ((k:Nat) - 1:Int))<|au (aj a)<|e<|cl DN (HJ (bV C a<|a+(k - 1)) 0 (k - 1) a _ _ B n cp c _ Y ab aa ab ae) aa fun v55 bd aO=> ?_
 obtain ⟨rfl,aM,aH⟩:=aO
 exact nl<|bn<|an<|rg aa<|au (.int .i64 ((k:Nat) - 1:Int))<|p (sb aa aa<|cz ab)<|p aE<|nl<|tn<|⟨_,ab,k - 1,qf bM (k - 1) a 0 (bV C a<|a+(k - 1)),ab,(by rw [← ah,RG (show 0 < k by omega)]),aM,(Md.trans V<|Md.trans aI aH),aa,aa,aa,aa,(iv ab),aa⟩
 exact ext<|bj<|bj<|be<|f0 aa<|⟨aa,by rw [← ah,show k=0 by omega]; exact E,V⟩
theorem US (d:Array Nat) (a b:Nat) (B n cp:Nat) (A:Option Addr) (w:World) (hO:w.ownsRow B 95 1 (.slice A n cp) n (LE aX d)) (aD:a < b∧b≤n) (aH:n≤1099511627776):
 bf ao 288 (a7 [.slice A n cp,aj a,aj b]) w (fun v w'=>v= .tuple #[]∧w'.ownsRow B 95 1 (.slice A n cp) n (LE aX<|Cu d a b)∧Md (fun q=>(bC A n cp).ownBlock=some q) w w'):=by
 refine enter func288 aa ntmps288 aa<|ak fun ac=>au (aj a)<|p (cg (aj a) aa)<|nl<|ac<|ak fun ad=>au (aj b)<|p (dz ((b - 1:Nat):Int) aa aa<|bl ab ab)<|ay<|ad<|az<|lp (fun O J G=> ∃ (i j:Nat) (E:Array Nat),(i≤n∧j < n)∧(Go.Sort.reverseLoop i j E=Cu d a b)∧(G.ownsRow B 95 1 (.slice A n cp) n<|LE aX E)∧(Md (fun q=>(bC A n cp).ownBlock=some q) w G)∧(J 0= .slice A n cp)∧(J 6=aj i)∧(J 7=aj j)∧(j - i=O)) _ ⟨a,b - 1,d,ab,aa,hO,(Md.refl _ _),aa,aa,aa,aa⟩ ?_
 rintro O J G ⟨i,j,E,hi,Y,C,V,ax,aA,aC,rfl⟩
 refine fx 0 ax<|fx 6 aA<|fx 7 aC<|aB fun ae=>ak fun ah=>au (aj i)<|au (aj j)<|p (lt aa aa)<|nl<|ah<|cd aa (fun aq=> ?_) fun aq=> ?_
 refine aR<|ae<|az<|aB fun ai=> ?_
 have aF:=eV C
 have c:(fun w'=>Wk G w') G.drew:=(Md.refl _ _).drew
 refine eG (fun w'=>Wk G w') 13 aa wide c<|bp 0 aa (.slice A n cp) c<|bp 1 aa (aj i) c<|bp 2 aa (.slice A n cp) c<|bp 3 aa (aj j) c<|bp 4 aa (.slice A n cp) c<|bp 5 aa (aj j) c<|bF 6 aa (fun _=>bc bL aa aa ab<|aG.ok ((aY C).2)<|bN ab) (fun _=>c)<|eC 7 aa (fun w' I=>ld bZ aa<|cW (i:=j) ((aY C).2.wk I) ab) c<|bp 8 aa (.slice A n cp) c<|bp 9 aa (aj i) c<|bF 10 aa (fun _=>bc bL aa aa ab<|aG.ok ((aY C).2)<|bN ab) (fun _=>c)<|eC 11 aa (fun w' I=>ld bZ aa<|cW (i:=i) ((aY C).2.wk I) ab) c<|bF 12 aa (fun _=>bc bL aa aa ab<|aG.ok ((aY C).2)<|bN ab) (fun _=>c)<|dw 13 aa ag ag<|fI (u:=E[j]!) (i) (ba C c) fz aa aa aa ab fun aI an av=> ?_
 refine bF 14 aa (fun _=>bc bL aa aa ab<|aG.ok ((aY C).2)<|bN ab) (fun h=>c7<|(show true =_ from by kernel_rfl).trans h)<|dw 15 aa ag ag<|fI (u:=E[i]!) (j) av fz aa aa aa ab fun Z ap aw=> ?_
 have I:Z.ownsRow B 95 1 (.slice A n cp) n (LE aX<|bV E (i)<|j):=aw
 have am:Md (fun q=>(bC A n cp).ownBlock=some q) G Z:=Md.trans (c.mono fun _ _ h=>h.elim)<|Md.trans an ap
 refine eF ag<|ai<|ak fun al=>au (aj i)<|p (bK ((i+1:Nat):Int) aa aa<|bl ab ab)<|ay<|al ?_
 exact rg aa<|au (aj j)<|p (dz ((j - 1:Nat):Int) aa aa<|bl ab ab)<|p aE<|nl<|bn<|tn<|⟨_,ab,i+1,j - 1,bV E i j,ab,(by rw [← Y,UQ (show i < j by omega)]),I,(Md.trans V am),aa,aa,aa,aa⟩
 exact ext<|bj<|bj<|be<|f0 aa<|⟨aa,by rw [← Y,UR ab]; exact C,V⟩
end Go.Hb
end
section
namespace Go.Hb
open Go.Hb.dI
theorem WB {n:Nat} {l:List UInt8} (h:n < 256) (c:∀ k:Fin 256,(l.getD k.val 0).toNat=kn k.val):IntKind.i64.wrap ((l.getD n 0).toNat:Int)=(kn n:Int):=by
 rw [c ⟨n,h⟩]; have :=wy h; exact cz<|by simp only; omega
theorem Vl {k:Nat} (h:k≤8):dR.wrap ((1:Int)*2 ^ min ((k:Nat):Int).toNat dR.bits)=((2 ^ k:Nat):Int):=by
 have h2:(dR.bits:Nat)=64:=rfl
 rw [Int.toNat_natCast,h2,Nat.min_eq_left ab,Int.one_mul]
 have h3:(2:Nat) ^ k≤2 ^ 8:=Nat.pow_le_pow_right aw h
 have h4:((2:Int) ^ k)=((2 ^ k:Nat):Int):=by simp
 rw [h4]
 obtain ⟨m,hm⟩:∃ m:Nat,2 ^ k=m:=⟨_,rfl⟩
 rw [hm] at h3 ⊢; exact ow ab
theorem Uc {d d1 d2:Array Nat} {a b i j:Nat} (h:nG a b d d1) (hi:a≤i∧i < b) (c:a≤j∧j < b) (A:b≤d1.size) (h2:d2=bV d1 i j):nG a b d d2:=by
 subst h2; exact q7 _ _ _ a b h<|Go.Sort.swp_permIn d1 a b i j hi.1 hi.2 c.1 c.2 A
theorem A4 (d:Array Nat) (i j s lo hi E:Nat) (B n cp:Nat) (C:Option Addr) (w:World) (hO:w.ownsRow B 95 1 (.slice C n cp) n (LE aX d)) (V:bE w.heap E [aj s]) (ap:(bC C n cp).ownBlock≠some E) (az:lo≤i∧i < hi∧lo≤j∧j < hi∧hi≤n) (hs:s≤1000) (ax:n≤1099511627776):
 bf ao 308 (a7 [.slice C n cp,aj i,aj j,aU E]) w (fun v w'=> ∃ J O s1:Nat,v= .tuple #[aj J,aj O]∧(lo≤J∧J < hi)∧(lo≤O∧O < hi)∧s1≤s+1∧bE w'.heap E [aj s1]∧w'.ownsRow B 95 1 (.slice C n cp) n (LE aX d)∧Md (fun q=>q=E) w w'):=by
 refine enter func308 aa ntmps308 aa<|ak fun ac=>p aE<|ay<|ac<|aB fun ad=>aB fun ae=> ?_
 have aw:=eV hO
 have c:(fun w'=>Wk w w') w.drew:=(Md.refl _ _).drew
 refine bR (fun w'=>Wk w w') aa wide c<|bY 0 aa (.slice C n cp) c<|bY 1 aa (aj j) c<|aK 2 aa (fun _ _=>bc bL aa aa ab<|aG.ok ((aY hO).2)<|bN ab) c<|aK 3 aa (fun w' I=>ld bZ aa<|cW (i:=j) ((aY hO).2.wk I) ab) c<|bY 4 aa (.slice C n cp) c<|bY 5 aa (aj i) c<|aK 6 aa (fun _ _=>bc bL aa aa ab<|aG.ok ((aY hO).2)<|bN ab) c<|aK 7 aa (fun w' I=>ld bZ aa<|cW (i:=i) ((aY hO).2.wk I) ab) c<|he 8 aa ag<|cl lr (lA d[j]! d[i]! _) aa fun aA av an=> ?_
 obtain ⟨rfl,al⟩:=an
 have A:(fun w'=>Wk w w') av:=Md.trans c al
 refine ⟨A,?_⟩
 refine hn ag<|ae<|cb aa (fun aq=> ?_) fun aq=> ?_
 have Y:=A.B V
 have am:=ba hO A
 exact ak fun G=>au (aU E)<|p (nc aa)<|p (ld bH aa<|Y.aJ 0)<|p (bK ((s+1:Nat):Int) aa aa<|bl ab ab)<|p (nc aa)<|e<|st eZ aa aa (aa) (Y) (by simp) fun aC Z ai=>nl<|G<|ak fun ah=>au (aj j)<|au (aj i)<|p (cg (aj j) aa)<|p (cg (aj i) aa)<|nl<|ah<|rt<|tr<|f2 aa aa aa<|⟨j,i,s+1,aa,ab,ab,ab,ai,cD am Z (fun k hk h=>ap<|h ▸ hk),Md.trans (A.mono fun _ _ h=>h.elim) Z⟩
 exact aR<|ad<|ak fun G=>au (aj i)<|au (aj j)<|p (cg (aj i) aa)<|p (cg (aj j) aa)<|nl<|G<|rt<|f2 aa aa aa<|⟨i,j,s,aa,ab,ab,ab,A.B V,ba hO A,A.mono fun _ _ h=>h.elim⟩
theorem GD (d:Array Nat) (i j k s lo hi c:Nat) (B n cp:Nat) (A:Option Addr) (w:World) (hO:w.ownsRow B 95 1 (.slice A n cp) n (LE aX d)) (Z:bE w.heap c [aj s]) (C:(bC A n cp).ownBlock≠some c) (aJ:(lo≤i∧i < hi)∧(lo≤j∧j < hi)∧(lo≤k∧k < hi)∧hi≤n) (hs:s≤900) (E:n≤1099511627776):
 bf ao 302 (a7 [.slice A n cp,aj i,aj j,aj k,aU c]) w (fun v w'=> ∃ G s1:Nat,v=aj G∧(lo≤G∧G < hi)∧s1≤s+3∧bE w'.heap c [aj s1]∧w'.ownsRow B 95 1 (.slice A n cp) n (LE aX d)∧Md (fun q=>q=c) w w'):=by
 refine enter func302 aa ntmps302 aa<|ak fun I=>ay<|I<|ak fun J=>au (.slice A n cp)<|au (aj i)<|au (aj j)<|au (aU c)<|e<|cl y9 (A4 d i j s lo hi c B n cp A _ hO Z C ab ab E) aa fun aO aP ap=> ?_
 obtain ⟨i1,ax,s1,rfl,aD,aG,aK,ac,al,ag⟩:=ap
 refine p mv<|p (xt aa aa)<|p (xt aa aa)<|p aE<|ay<|J<|aB fun O=>rg aa<|au (.slice A n cp)<|p mv<|au (aj k)<|au (aU c)<|e<|cl y9 (A4 d ax k s1 lo hi c B n cp A _ al ac C ab ab E) aa fun v24 aQ aq=> ?_
 obtain ⟨az,aN,s2,rfl,aH,aI,aL,ad,am,ah⟩:=aq
 refine p mv<|p (xt aa aa)<|p (xt aa aa)<|p aE<|ay<|O<|aB fun V=>rg aa<|au (.slice A n cp)<|p mv<|p mv<|au (aU c)<|e<|cl y9 (A4 d i1 az s2 lo hi c B n cp A _ am ad C ab ab E) aa fun v32 aR av=> ?_
 obtain ⟨i3,aA,aC,rfl,aF,aw,aM,ae,an,ai⟩:=av
 exact p mv<|p (xt aa aa)<|p (xt aa aa)<|p aE<|ay<|V<|aB fun Y=>rg aa<|p mv<|ay<|Y<|rt<|a8 aa<|⟨aA,aC,aa,aw,ab,ae,an,Md.trans ag<|Md.trans ah ai⟩
theorem AH (d:Array Nat) (i s lo hi c:Nat) (B n cp:Nat) (A:Option Addr) (w:World) (hO:w.ownsRow B 95 1 (.slice A n cp) n (LE aX d)) (I:bE w.heap c [aj s]) (O:(bC A n cp).ownBlock≠some c) (Y:lo+1≤i∧i+1 < hi∧hi≤n) (hs:s≤900) (V:n≤1099511627776):
 bf ao 301 (a7 [.slice A n cp,aj i,aU c]) w (fun v w'=> ∃ C s1:Nat,v=aj C∧(lo≤C∧C < hi)∧s1≤s+3∧bE w'.heap c [aj s1]∧w'.ownsRow B 95 1 (.slice A n cp) n (LE aX d)∧Md (fun q=>q=c) w w'):=by
 exact enter func301 aa ntmps301 aa<|ak fun E=>ay<|E<|ak fun G=>au (.slice A n cp)<|au (aj i)<|p (dz ((i - 1:Nat):Int) aa aa<|bl ab ab)<|au (aj i)<|au (aj i)<|p (bK ((i+1:Nat):Int) aa aa<|bl ab ab)<|au (aU c)<|e<|cl DO (GD d (i - 1) i (i+1) s lo hi c B n cp A _ hO I O ab ab V) aa fun Z ac J=>p aE<|nl<|G<|rt<|a8 aa<|J
theorem Nn (d:Array Nat) (a b:Nat) (B n cp:Nat) (c:Option Addr) (w:World) (hO:w.ownsRow B 95 1 (.slice c n cp) n (LE aX d)) (bt:a+12 < b∧b≤n) (V:n≤1099511627776):
 bf ao 287 (a7 [.slice c n cp,aj a,aj b]) w (fun v w'=> ∃ (ap:Nat) (bn:Int),v= .tuple #[aj ap,.int .i64 bn]∧(a≤ap∧ap < b)∧w'.ownsRow B 95 1 (.slice c n cp) n (LE aX d)∧Wk w w'):=by
 refine enter func287 aa ntmps287 aa<|ak fun aw=>p aE<|ay<|aw<|ak fun ax=>au (aj b)<|au (aj a)<|p (dz ((b - a:Nat):Int) aa aa<|bl ab ab)<|ay<|ax<|ak fun aA=>e<|al sH fun C bP bu ah aq=> ?_
 have av:=ba hO ah.md
 have O:(bC c n cp).ownBlock≠some C:=fun h=>by have :=da hO h; omega
 refine nl<|aA<|ak fun aC=>au (aj a)<|p mv<|p (pU (((b - a) / 4:Nat):Int) aa aa ab<|bl ab ab)<|p (qL (((b - a) / 4:Nat):Int) aa aa<|bl ab ab)<|p (bK ((a+(b - a) / 4:Nat):Int) aa aa<|bl ab ab)<|ay<|aC<|ak fun aD=>au (aj a)<|p mv<|p (pU (((b - a) / 4:Nat):Int) aa aa ab<|bl ab ab)<|p (qL (((b - a) / 4 *2:Nat):Int) aa aa<|bl ab ab)<|p (bK ((a+(b - a) / 4 *2:Nat):Int) aa aa<|bl ab ab)<|ay<|aD<|ak fun aF=>au (aj a)<|p mv<|p (pU (((b - a) / 4:Nat):Int) aa aa ab<|bl ab ab)<|p (qL (((b - a) / 4 *3:Nat):Int) aa aa<|bl ab ab)<|p (bK ((a+(b - a) / 4 *3:Nat):Int) aa aa<|bl ab ab)<|ay<|aF ?_
 refine aB fun aG=>ak fun aH=>p mv<|p (ge aa aa)<|nl<|aH<|cd aa (fun bv=> ?_) fun h=>absurd ab h
 refine e8 (fun A Z=> ∃ (E G I Y:Nat),(a≤E∧E < b)∧(a≤G∧G < b)∧(a≤I∧I < b)∧(Y≤9)∧(bE Z.heap C [aj Y])∧(Z.ownsRow B 95 1 (.slice c n cp) n<|LE aX d)∧(Wk w Z)∧(A 0= .slice c n cp)∧(A 1=aj a)∧(A 2=aj b)∧(A 8=aj (b - a))∧(A 9=aU C)∧(A 10=aj E)∧(A 11=aj G)∧(A 12=aj I)) ?_ ?_
 refine ak fun ae=>p mv<|p (ge aa aa)<|nl<|ae<|cd aa (fun a4=> ?_) fun a4=> ?_
 refine ak fun ac=>au (.slice c n cp)<|p mv<|e<|cl y8 (AH d (a+(b - a) / 4) 0 a b C B n cp c _ av aq O ab ab V) aa fun v37 bM a0=> ?_
 obtain ⟨i1,s1,rfl,a8,bA,aI,aV,aP⟩:=a0
 refine ay<|ac<|ak fun J=>au (.slice c n cp)<|p mv<|e<|cl y8 (AH d (a+(b - a) / 4 *2) s1 a b C B n cp c _ aV aI O ab ab V) aa fun v40 bN a1=> ?_
 obtain ⟨bo,s2,rfl,a9,bB,aK,aW,aQ⟩:=a1
 refine ay<|J<|rg aa<|au (.slice c n cp)<|p mv<|e<|cl y8 (AH d (a+(b - a) / 4 *3) s2 a b C B n cp c _ aW aK O ab ab V) aa fun bJ bO a2=> ?_
 obtain ⟨bp,bq,rfl,bb,bD,aL,aY,aS⟩:=a2
 exact p aE<|nl<|tn<|⟨i1,bo,bp,bq,a8,a9,bb,ab,aL,aY,(Md.trans' ah.md (Md.trans aP<|Md.trans aQ aS) fun k hk h=>by omega),aa,aa,aa,aa,aa,aa,aa,aa⟩
 exact aR<|tn<|⟨a+(b - a) / 4,a+(b - a) / 4 *2,a+(b - a) / 4 *3,0,ab,ab,ab,ab,aq,av,ah.md,aa,aa,aa,aa,aa,aa,aa,aa⟩
 rintro A Z ⟨E,G,I,Y,bw,bx,bz,bG,aN,aZ,aO,bc,bd,bj,bk,bm,bg,bh,bi⟩
 refine fx 0 bc<|fx 1 bd<|fx 2 bj<|fx 8 bk<|fx 9 bm<|fx 10 bg<|fx 11 bh<|fx 12 bi<|rg aa<|au (.slice c n cp)<|au (aj E)<|au (aj G)<|au (aj I)<|e<|cl DO (GD d E G I Y a b C B n cp c _ aZ aN O ab ab V) aa fun bL bs a3=> ?_
 obtain ⟨an,bI,rfl,am,bF,aM,ai,aT⟩:=a3
 have ag:Wk w bs:=Md.trans' aO aT fun k hk h=>by omega
 refine ay<|aG<|ak fun ae=>p (ld bH aa<|aM.aJ 0)<|nl<|ae<|az<|ak fun ac=>p (cx aa aa)<|ay<|ac<|cd aa (fun a5=> ?_) fun a5=> ?_
 exact ak fun J=>p mv<|p aE<|ay<|J<|rt<|br<|f2 aa aa aa<|⟨an,_,aa,am,ai,ag⟩
 refine ak fun J=>p (cx aa aa)<|ay<|J<|cd aa (fun a6=> ?_) fun a6=> ?_
 exact ak fun ad=>p mv<|p aE<|ay<|ad<|rt<|br<|f2 aa aa aa<|⟨an,_,aa,am,ai,ag⟩
 exact ak fun ad=>p mv<|p aE<|ay<|ad<|rt<|br<|f2 aa aa aa<|⟨an,_,aa,am,ai,ag⟩
theorem Tv (c:Nat) (r:Int) (w:World) (J:bE w.heap c [.int .u64 r]):
 bf ao 185 (a7 [aU c]) w (fun v w'=> ∃ I:Int,v= .int .u64 I∧0≤I∧I < 18446744073709551616∧bE w'.heap c [.int .u64 I]∧Md (fun q=>q=c) w w'):=by
 refine enter func185 aa ntmps185 aa<|ak fun ac=>ay<|ac<|aB fun ad=> ?_
 have C:(fun w'=>Wk w w') w.drew:=(Md.refl _ _).drew
 refine eG (fun w'=>Wk w w') 9 aa wide C<|lq 0 aa ag (fun _ _=>aH (aU c) aa) C<|lq 1 aa ag (fun _ _=>nc aa) C<|lq 2 aa ag (fun w' A=>ld qp aa<|Wk.aJ A<|J.aJ 0) C<|lq 3 aa ag (fun _ _=>aH (aU c) aa) C<|lq 4 aa ag (fun _ _=>nc aa) C<|lq 5 aa ag (fun w' A=>ld qp aa<|Wk.aJ A<|J.aJ 0) C<|lq 6 aa ag (fun _ _=>shl aa aa aw aa) C<|lq 7 aa ag (fun _ _=>yN aa aa aa) C<|lq 8 aa ag (fun _ _=>nc aa) C<|dw 9 aa ag ag<|st vP aa aa (aa) (C.B J) (by simp) fun Y aj O=>eF ag<|ad<|aB fun ae=> ?_
 have E:(fun w'=>Wk Y w') Y.drew:=(Md.refl _ _).drew
 refine eG (fun w'=>Wk Y w') 9 aa wide E<|lq 0 aa ag (fun _ _=>aH (aU c) aa) E<|lq 1 aa ag (fun _ _=>nc aa) E<|lq 2 aa ag (fun w' A=>ld qp aa<|Wk.aJ A<|O.aJ 0) E<|lq 3 aa ag (fun _ _=>aH (aU c) aa) E<|lq 4 aa ag (fun _ _=>nc aa) E<|lq 5 aa ag (fun w' A=>ld qp aa<|Wk.aJ A<|O.aJ 0) E<|lq 6 aa ag (fun _ _=>shr aa aa aw aa) E<|lq 7 aa ag (fun _ _=>yN aa aa aa) E<|lq 8 aa ag (fun _ _=>nc aa) E<|dw 9 aa ag ag<|st vP aa aa (aa) (E.B O) (by simp) fun Z al V=>eF ag<|ae<|aB fun ah=> ?_
 have G:(fun w'=>Wk Z w') Z.drew:=(Md.refl _ _).drew
 refine eG (fun w'=>Wk Z w') 9 aa wide G<|lq 0 aa ag (fun _ _=>aH (aU c) aa) G<|lq 1 aa ag (fun _ _=>nc aa) G<|lq 2 aa ag (fun w' A=>ld qp aa<|Wk.aJ A<|V.aJ 0) G<|lq 3 aa ag (fun _ _=>aH (aU c) aa) G<|lq 4 aa ag (fun _ _=>nc aa) G<|lq 5 aa ag (fun w' A=>ld qp aa<|Wk.aJ A<|V.aJ 0) G<|lq 6 aa ag (fun _ _=>shl aa aa aw aa) G<|lq 7 aa ag (fun _ _=>yN aa aa aa) G<|lq 8 aa ag (fun _ _=>nc aa) G<|dw 9 aa ag ag<|st vP aa aa (aa) (G.B V) (by simp) fun an am ab=>eF ag<|ah<|ak fun ai=>au (aU c)<|p (nc aa)<|p (ld qp aa<|ab.aJ 0)<|p aE<|nl ?_
 refine ai<|rt<|a8 aa ?_
 refine ⟨_,aa,(Ic _).1,(Ic _).2,ab,?_⟩
 exact Md.trans (Md.refl _ _).drew<|Md.trans aj<|Md.trans (Md.refl _ _).drew<|Md.trans al<|Md.trans (Md.refl _ _).drew am
theorem SB (n:Nat) (w:World) (hn:n < 256):
 bf ao 124 (a7 [.int .u64 (n:Nat)]) w (fun v w'=>v=aj (kn n)∧Wk w w'):=by
 have ac:=wy hn
 refine enter func124 aa ntmps124 aa<|ak fun c=>ay<|c<|aB fun A=>ak fun C=>au (.int .u64 (n:Nat))<|p (ge aa aa)<|nl<|C<|cd aa (fun h=>absurd h ab) fun Y=>aR<|A<|aB fun E=>ak fun G=>au (.int .u64 (n:Nat))<|p (ge aa aa)<|nl<|G<|cd aa (fun h=>absurd h ab) fun Z=> ?_
 refine aR<|E<|aB fun I=>ak fun J=>au (.int .u64 (n:Nat))<|p (ge aa aa)<|nl<|J<|cd aa (fun h=>absurd h ab) fun V=> ?_
 exact aR<|I<|ak fun O=>au (.int .i64 0)<|au (.int .u64 (n:Nat))<|p (zo u5 WK aa<|BX ab)<|p (kj u9 aa aa (by have :n < 256:=hn; simpa using this))<|p (n2 u3 uI aa<|WB hn<|by decide+kernel)<|p (bK ((kn n:Nat):Int) aa aa<|bl ab ab)<|ay<|O<|rt<|a8 aa<|⟨aa,Md.refl _ _⟩
theorem Gj (n:Nat) (w:World) (hn:n < 256):
 bf ao 66 (a7 [.int .u64 (n:Nat)]) w (fun v w'=>v=aj (kn n)∧Wk w w'):=by
 refine enter func66 aa ntmps66 aa<|ak fun c=>ay<|c<|aB fun A=>cf aa<|aR<|A<|ak fun C=>au (.int .u64 (n:Nat))<|e<|cl LF (SB n _ hn) aa fun G I E=>ay<|C ?_
 exact rt<|a8 aa<|E
theorem Tw (n:Nat) (w:World) (hn:n < 256):
 bf ao 184 (a7 [aj n]) w (fun v w'=>v= .int .u64 (2 ^ kn n:Nat)∧Wk w w'):=by
 refine enter func184 aa ntmps184 aa<|ak fun c=>ay<|c<|ak fun A=>au (aj n)<|p (n2 H9 sA aa<|ow ab)<|e<|cl DU (Gj n _ hn) aa fun v5 I E=> ?_
 obtain ⟨rfl,C⟩:=E
 have G:=wy hn
 exact p (shl aa aa ab<|Vl G)<|ay<|A<|rt<|a8 aa<|⟨aa,C⟩
theorem Lp (d:Array Nat) (a b:Nat) (B n cp:Nat) (A:Option Addr) (w:World) (hO:w.ownsRow B 95 1 (.slice A n cp) n (LE aX d)) (bv:a+12 < b∧b≤n) (bD:n≤255):
 bf ao 286 (a7 [.slice A n cp,aj a,aj b]) w (fun v w'=> ∃ d1,v= .tuple #[]∧nG a b d d1∧w'.ownsRow B 95 1 (.slice A n cp) n (LE aX d1)∧Md (fun q=>(bC A n cp).ownBlock=some q) w w'):=by
 refine enter func286 aa ntmps286 aa<|ak fun aA=>au (aj b)<|au (aj a)<|p (dz ((b - a:Nat):Int) aa aa<|bl ab ab)<|ay<|aA<|ak fun aD=>p mv<|p (ge aa aa)<|nl<|aD<|cd aa (fun bx=> ?_) fun h=>absurd ab h
 refine ak fun aF=>p mv<|p (n2 Wz sA aa<|ow ab)<|e<|al Xq fun Y bS bw a0 aP=>e<|st vP aa aa (aa) (aP) (by simp) fun bu aT aO=> ?_
 have av:Wk w bu:=Md.trans' a0.md aT fun k hk h=>by omega
 refine nl<|aF<|ak fun aH=>p mv<|e<|cl LZ (Tw (b - a) _ ab) aa fun bO bQ a1=> ?_
 obtain ⟨rfl,ah⟩:=a1
 have bB:=SC (n:=b - a) ab ab
 refine ay<|aH<|ak fun aI=>au (aj a)<|p mv<|p (pU (((b - a) / 4:Nat):Int) aa aa ab<|bl ab ab)<|p (qL (((b - a) / 4 *2:Nat):Int) aa aa<|bl ab ab)<|p (bK ((a+(b - a) / 4 *2:Nat):Int) aa aa<|bl ab ab)<|p (dz ((a+(b - a) / 4 *2 - 1:Nat):Int) aa aa<|bl ab ab)<|ay<|aI<|az ?_
 have ac:(bC A n cp).ownBlock≠some Y:=fun h=>by have :=da hO h; omega
 refine lp (fun ap V ae=> ∃ (C:Nat) (r:Int) (G:Array Nat),(a+(b - a) / 4 *2 - 1≤C∧C≤a+(b - a) / 4 *2 +2)∧(nG a b d G)∧(bE ae.heap Y [.int .u64 r])∧(ae.ownsRow B 95 1 (.slice A n cp) n<|LE aX G)∧(Md (fun q=>(bC A n cp).ownBlock=some q) w ae)∧(V 0= .slice A n cp)∧(V 1=aj a)∧(V 6=aj (b - a))∧(V 7=aU Y)∧(V 8= .int .u64 (2 ^ kn (b - a):Nat))∧(V 9=aj C)∧(a+(b - a) / 4 *2 +3 - C=ap)) _ ⟨a+(b - a) / 4 *2 - 1,(b - a:Nat),d,ab,(Jo d a b),(ah.B aO),(ba (ba hO av) ah),((Md.trans av ah).mono fun _ _ h=>h.elim),aa,aa,aa,aa,aa,aa,aa⟩ ?_
 rintro ap V ae ⟨C,r,G,bA,aK,aS,am,ai,a9,bb,bd,bg,bh,bi,rfl⟩
 refine fx 0 a9<|fx 1 bb<|fx 6 bd<|fx 7 bg<|fx 8 bh<|fx 9 bi<|aB fun aJ=>ak fun aL=>au (aj C)<|au (aj a)<|au (aj<|b - a)<|p (pU (((b - a) / 4:Nat):Int) aa aa ab<|bl ab ab)<|p (qL (((b - a) / 4 *2:Nat):Int) aa aa<|bl ab ab)<|p (bK ((a+(b - a) / 4 *2:Nat):Int) aa aa<|bl ab ab)<|p (bK ((a+(b - a) / 4 *2 +1:Nat):Int) aa aa<|bl ab ab)<|p (le aa aa)<|nl<|aL<|cd aa (fun a3=> ?_) fun a3=> ?_
 refine aR<|aJ<|aB fun aM=>az<|ak fun aN=>e<|cl L0 (Tv Y r _ aS) aa fun bP bR a2=> ?_
 obtain ⟨an,rfl,bJ,bM,aq,ad⟩:=a2
 obtain ⟨o,bH,a8⟩:=KR an (2 ^ kn (b - a)) ab
 have bG:=ac
 refine au (.int .u64 (2 ^ kn (b - a):Nat))<|p (sb aa aa<|ow ab)<|p (eL aa aa a8)<|p (zo u3 WJ aa<|cz ab)<|ay<|aN ?_
 refine e8 (fun O J=> ∃ (E:Nat),(E < b - a)∧(bE J.heap Y [.int .u64 an])∧(J.ownsRow B 95 1 (.slice A n cp) n<|LE aX G)∧(Md (fun q=>(bC A n cp).ownBlock=some q) w J)∧(O 0= .slice A n cp)∧(O 1=aj a)∧(O 6=aj (b - a))∧(O 7=aU Y)∧(O 8= .int .u64 (2 ^ kn (b - a):Nat))∧(O 9=aj C)∧(O 10=aj E)) ?_ ?_
 refine ak fun aC=>p mv<|au (aj<|b - a)<|p (ge aa aa)<|nl<|aC<|cd aa (fun a4=> ?_) fun a4=> ?_
 exact rg aa<|p mv<|au (aj<|b - a)<|p (dz ((o - (b - a):Nat):Int) aa aa<|bl ab ab)<|p aE<|nl<|tn<|⟨o - (b - a),ab,aq,(cD am ad fun k hk h=>ac<|h ▸ hk),(Md.trans' ai ad fun k hk h=>by omega),aa,aa,aa,aa,aa,aa,aa⟩
 exact aR<|tn<|⟨o,ab,aq,(cD am ad fun k hk h=>ac<|h ▸ hk),(Md.trans' ai ad fun k hk h=>by omega),aa,aa,aa,aa,aa,aa,aa⟩
 rintro O J ⟨E,bI,aQ,I,aZ,bk,bm,bq,br,bs,bt,bo⟩
 refine fx 0 bk<|fx 1 bm<|fx 6 bq<|fx 7 br<|fx 8 bs<|fx 9 bt<|fx 10 bo ?_
 have bz:=eV I
 have c:(fun w'=>Wk J w') J.drew:=(Md.refl _ _).drew
 refine eG (fun w'=>Wk J w') 17 aa wide c<|bp 0 aa (.slice A n cp) c<|bp 1 aa (aj C) c<|bp 2 aa (.slice A n cp) c<|bp 3 aa (aj a) c<|bp 4 aa (aj E) c<|bF 5 aa (fun _=>bK ((a+E:Nat):Int) aa aa<|bl ab ab) (fun _=>c)<|bp 6 aa (.slice A n cp) c<|bp 7 aa (aj a) c<|bp 8 aa (aj E) c<|bF 9 aa (fun _=>bK ((a+E:Nat):Int) aa aa<|bl ab ab) (fun _=>c)<|bF 10 aa (fun _=>bc bL aa aa ab<|aG.ok ((aY I).2)<|bN ab) (fun _=>c)<|eC 11 aa (fun w' Z=>ld bZ aa<|cW (i:=a+E) ((aY I).2.wk Z) ab) c<|bp 12 aa (.slice A n cp) c<|bp 13 aa (aj C) c<|bF 14 aa (fun _=>bc bL aa aa ab<|aG.ok ((aY I).2)<|bN ab) (fun _=>c)<|eC 15 aa (fun w' Z=>ld bZ aa<|cW (i:=C) ((aY I).2.wk Z) ab) c<|bF 16 aa (fun _=>bc bL aa aa ab<|aG.ok ((aY I).2)<|bN ab) (fun _=>c)<|dw 17 aa ag ag<|fI (u:=G[a+E]!) (C) (ba I c) fz aa aa aa ab fun bT aV a5=> ?_
 refine bF 18 aa (fun _=>bc bL aa aa ab<|aG.ok ((aY I).2)<|bN ab) (fun h=>c7<|(show true =_ from by kernel_rfl).trans h)<|dw 19 aa ag ag<|fI (u:=G[C]!) (a+E) a5 fz aa aa aa ab fun ax aW a6=> ?_
 have Z:ax.ownsRow B 95 1 (.slice A n cp) n (LE aX<|bV G (C)<|a+E):=a6
 have aw:Md (fun q=>(bC A n cp).ownBlock=some q) J ax:=Md.trans (c.mono fun _ _ h=>h.elim)<|Md.trans aV aW
 exact eF ag<|bn<|aM<|rg aa<|au (aj C)<|p (bK ((C+1:Nat):Int) aa aa<|bl ab ab)<|p aE<|nl<|tn<|⟨_,ab,C+1,an,bV G C (a+E),ab,(Uc aK ab ab ab aa),(aw.B aQ fun h=>ac h),Z,(Md.trans aZ aw),aa,aa,aa,aa,aa,aa,aa⟩
 exact ext<|bj<|bj<|be<|f0 aa<|⟨G,aa,aK,am,ai⟩
end Go.Hb
end
section
namespace Go.Hb
open Go.Hb.dI
theorem T4 {d:Array Nat} {a b c i j:Nat} (h1:nI (fun x=>bM x (bV d a c)[a]!) (bV d a c) (b - 1) (a+1)=i) (h2:nH (fun x=> !bM x (bV d a c)[a]!) (bV d a c) i (b - 1)=j) (h:i > j):
 qe bM d a b c=(j,true,bV (bV d a c) j a):=by
 unfold qe; simp only [h1,h2,if_pos h]
theorem part_go {d:Array Nat} {a b c i j A:Nat} {C:Array Nat} (h1:nI (fun x=>bM x (bV d a c)[a]!) (bV d a c) (b - 1) (a+1)=i) (h2:nH (fun x=> !bM x (bV d a c)[a]!) (bV d a c) i (b - 1)=j) (h:¬i > j)
 (h3:Ct bM a (i+1) (j - 1) (bV (bV d a c) i j)=(A,C)):
 qe bM d a b c=(A,false,bV C A a):=by
 unfold qe; simp only [h1,h2,if_neg h,h3]
theorem T6 (d:Array Nat) (a b A:Nat) (B n cp:Nat) (c:Option Addr) (w:World) (hO:w.ownsRow B 95 1 (.slice c n cp) n (LE aX d)) (dB:a≤A∧A < b∧b≤n) (dF:n≤1099511627776):
 bf ao 292 (a7 [.slice c n cp,aj a,aj b,aj A]) w (fun v w'=>v= .tuple #[aj ((qe bM d a b A).1),.bool (qe bM d a b A).2.1]∧w'.ownsRow B 95 1 (.slice c n cp) n (LE aX (qe bM d a b A).2.2)∧Md (fun q=>(bC c n cp).ownBlock=some q) w w'):=by
 refine enter func292 aa ntmps292 aa<|ak fun bS=>p aE<|ay<|bS<|aB fun bT=> ?_
 have dC:=eV hO
 have ah:(fun w'=>Wk w w') w.drew:=(Md.refl _ _).drew
 refine eG (fun w'=>Wk w w') 13 aa wide ah<|bp 0 aa (.slice c n cp) ah<|bp 1 aa (aj a) ah<|bp 2 aa (.slice c n cp) ah<|bp 3 aa (aj A) ah<|bp 4 aa (.slice c n cp) ah<|bp 5 aa (aj A) ah<|bF 6 aa (fun _=>bc bL aa aa ab<|aG.ok ((aY hO).2)<|bN ab) (fun _=>ah)<|eC 7 aa (fun w' E=>ld bZ aa<|cW (i:=A) ((aY hO).2.wk E) ab) ah<|bp 8 aa (.slice c n cp) ah<|bp 9 aa (aj a) ah<|bF 10 aa (fun _=>bc bL aa aa ab<|aG.ok ((aY hO).2)<|bN ab) (fun _=>ah)<|eC 11 aa (fun w' E=>ld bZ aa<|cW (i:=a) ((aY hO).2.wk E) ab) ah<|bF 12 aa (fun _=>bc bL aa aa ab<|aG.ok ((aY hO).2)<|bN ab) (fun _=>ah)<|dw 13 aa ag ag<|fI (u:=d[A]!) (a) (ba hO ah) fz aa aa aa ab fun dI b6 cH=> ?_
 refine bF 14 aa (fun _=>bc bL aa aa ab<|aG.ok ((aY hO).2)<|bN ab) (fun h=>c7<|(show true =_ from by kernel_rfl).trans h)<|dw 15 aa ag ag<|fI (u:=d[a]!) (A) cH fz aa aa aa ab fun bH b7 cI=> ?_
 have cs:bH.ownsRow B 95 1 (.slice c n cp) n (LE aX<|bV d (a)<|A):=cI
 have b5:Md (fun q=>(bC c n cp).ownBlock=some q) w bH:=Md.trans (ah.mono fun _ _ h=>h.elim)<|Md.trans b6 b7
 refine eF ag<|bT<|ak fun bU=>au (aj a)<|p (bK ((a+1:Nat):Int) aa aa<|bl ab ab)<|au (aj b)<|p (dz ((b - 1:Nat):Int) aa aa<|bl ab ab)<|p aE ?_
 refine ay<|bU ?_
 refine e8 (fun aZ bt=> ∃ (J:Nat),(a+1≤J∧(J=a+1∨J≤b - 1 +1))∧(nI (fun x=>bM x (bV d a A)[a]!) (bV d a A) (b - 1) (a+1)=J)∧(bt.ownsRow B 95 1 (.slice c n cp) n<|LE aX<|bV d a A)∧(Md (fun q=>(bC c n cp).ownBlock=some q) w bt)∧(aZ 0= .slice c n cp)∧(aZ 1=aj a)∧(aZ 10=aj J)∧(aZ 11=aj (b - 1))) ?_ ?_
 refine az<|lp (fun av a0 aM=> ∃ (q:Nat),(a+1≤q∧(q=a+1∨q≤b - 1 +1))∧(nI (fun x=>bM x (bV d a A)[a]!) (bV d a A) (b - 1) (q)=nI (fun x=>bM x (bV d a A)[a]!) (bV d a A) (b - 1) (a+1))∧(aM.ownsRow B 95 1 (.slice c n cp) n<|LE aX<|bV d a A)∧(Md (fun q=>(bC c n cp).ownBlock=some q) w aM)∧(a0 0= .slice c n cp)∧(a0 1=aj a)∧(a0 10=aj q)∧(a0 11=aj (b - 1))∧(b - 1 +1 - q=av)) _ ⟨a+1,ab,aa,cs,b5,aa,aa,aa,aa,aa⟩ ?_
 rintro av a0 aM ⟨q,ax,aq,C,ap,cV,cX,cY,cZ,rfl⟩
 refine fx 0 cV<|fx 1 cX<|fx 10 cY<|fx 11 cZ<|aB fun aU=>aB fun aF=> ?_
 have aL:=eV C
 have ac:(fun w'=>Wk aM w') aM.drew:=(Md.refl _ _).drew
 refine bR (fun w'=>Wk aM w') aa wide ac<|bY 0 aa (aj q) ac<|bY 1 aa (aj<|b - 1) ac<|aK 2 aa (fun _ _=>le aa aa) ac<|aK 3 aa (fun _ _=>mv) ac<|kH (t:=33) aa (fun cF=> ?_) fun cF=> ?_
 refine bw 4 aa (fun _ _=>aH (.slice c n cp) aa) ac<|bw 5 aa (fun _ _=>aH (aj q) aa) ac<|bw 6 aa (fun _ _=>bc bL aa aa ab<|aG.ok ((aY C).2)<|bN ab) ac<|bw 7 aa (fun w' E=>ld bZ aa<|cW (i:=q) ((aY C).2.wk E) ab) ac<|bw 8 aa (fun _ _=>aH (.slice c n cp) aa) ac<|bw 9 aa (fun _ _=>aH (aj a) aa) ac<|bw 10 aa (fun _ _=>bc bL aa aa ab<|aG.ok ((aY C).2)<|bN ab) ac<|bw 11 aa (fun w' E=>ld bZ aa<|cW (i:=a) ((aY C).2.wk E) ab) ac<|lV 12 aa ag aa aa aa<|cl lr (lA (bV d a A)[q]! (bV d a A)[a]! _) aa fun dH dy cz=> ?_
 obtain ⟨rfl,b2⟩:=cz
 have aS:(fun w'=>Wk aM w') dy:=Md.trans ac b2
 refine ⟨aS,?_⟩
 refine aK 13 aa (fun _ _=>bO aa) aS<|hn ag<|aF<|cb aa (fun bq=> ?_) fun bq=> ?_
 exact aR<|aU<|az<|rg aa<|au (aj q)<|p (bK ((q+1:Nat):Int) aa aa<|bl ab ab)<|p aE<|nl<|bn<|tn<|⟨_,ab,q+1,ab,(by rw [← aq,BR (show q≤b - 1 by omega) (by simpa using bq)]),(ba C aS),(Md.trans ap<|aS.mono fun _ _ h=>h.elim),aa,aa,aa,aa,aa⟩
 exact ext<|bj<|bj<|be<|tn<|⟨q,ax,(by rw [← aq,sy (.inr<|by simpa using bq)]),(ba C aS),(Md.trans ap<|aS.mono fun _ _ h=>h.elim),aa,aa,aa,aa⟩
 exact bm 4 aa ac<|bm 5 aa ac<|bm 6 aa ac<|bm 7 aa ac<|bm 8 aa ac<|bm 9 aa ac<|bm 10 aa ac<|bm 11 aa ac<|bm 12 aa ac<|aK 13 aa (fun _ _=>bG aa) ac<|hn ag<|aF<|cf aa<|ext<|bj<|bj<|be<|tn<|⟨q,ax,(by rw [← aq,sy (.inl ab)]),(ba C (Md.refl _ _).drew),ap.drew,aa,aa,aa,aa⟩
 rintro aZ bt ⟨J,dD,bD,bi,bh,cR,cS,cT,cU⟩
 refine fx 0 cR<|fx 1 cS<|fx 10 cT<|fx 11 cU ?_
 refine e8 (fun a1 aA=> ∃ (O:Nat),(a≤O∧O≤b - 1)∧(nH (fun x=> !bM x (bV d a A)[a]!) (bV d a A) (J) (b - 1)=O)∧(aA.ownsRow B 95 1 (.slice c n cp) n<|LE aX<|bV d a A)∧(Md (fun q=>(bC c n cp).ownBlock=some q) w aA)∧(a1 0= .slice c n cp)∧(a1 1=aj a)∧(a1 10=aj J)∧(a1 11=aj O)) ?_ ?_
 refine az<|lp (fun av a2 aO=> ∃ (q:Nat),(a≤q∧q≤b - 1)∧(nH (fun x=> !bM x (bV d a A)[a]!) (bV d a A) (J) (q)=nH (fun x=> !bM x (bV d a A)[a]!) (bV d a A) (J) (b - 1))∧(aO.ownsRow B 95 1 (.slice c n cp) n<|LE aX<|bV d a A)∧(Md (fun q=>(bC c n cp).ownBlock=some q) w aO)∧(a2 0= .slice c n cp)∧(a2 1=aj a)∧(a2 10=aj J)∧(a2 11=aj q)∧(q=av)) _ ⟨b - 1,ab,aa,bi,bh,aa,aa,aa,aa,aa⟩ ?_
 rintro av a2 aO ⟨q,ax,aq,C,ap,c4,c5,c6,c8,rfl⟩
 refine fx 0 c4<|fx 1 c5<|fx 10 c6<|fx 11 c8<|aB fun aU=>aB fun aF=> ?_
 have aL:=eV C
 have Y:(fun w'=>Wk aO w') aO.drew:=(Md.refl _ _).drew
 refine bR (fun w'=>Wk aO w') aa wide Y<|bY 0 aa (aj J) Y<|bY 1 aa (aj q) Y<|aK 2 aa (fun _ _=>le aa aa) Y<|aK 3 aa (fun _ _=>mv) Y<|kH (t:=49) aa (fun cG=> ?_) fun cG=> ?_
 refine bw 4 aa (fun _ _=>aH (.slice c n cp) aa) Y<|bw 5 aa (fun _ _=>aH (aj q) aa) Y<|bw 6 aa (fun _ _=>bc bL aa aa ab<|aG.ok ((aY C).2)<|bN ab) Y<|bw 7 aa (fun w' E=>ld bZ aa<|cW (i:=q) ((aY C).2.wk E) ab) Y<|bw 8 aa (fun _ _=>aH (.slice c n cp) aa) Y<|bw 9 aa (fun _ _=>aH (aj a) aa) Y<|bw 10 aa (fun _ _=>bc bL aa aa ab<|aG.ok ((aY C).2)<|bN ab) Y<|bw 11 aa (fun w' E=>ld bZ aa<|cW (i:=a) ((aY C).2.wk E) ab) Y<|lV 12 aa ag aa aa aa<|cl lr (lA (bV d a A)[q]! (bV d a A)[a]! _) aa fun v58 dA cA=> ?_
 obtain ⟨rfl,b3⟩:=cA
 have aJ:(fun w'=>Wk aO w') dA:=Md.trans Y b3
 refine ⟨aJ,?_⟩
 refine bw 13 aa (fun _ _=>no aa) aJ<|aK 14 aa (fun _ _=>bO aa) aJ<|hn ag<|aF<|cb aa (fun br=> ?_) fun br=> ?_
 exact aR<|aU<|az<|rg aa<|au (aj q)<|p (dz ((q - 1:Nat):Int) aa aa<|bl ab ab)<|p aE<|nl<|bn<|tn<|⟨_,ab,q - 1,ab,(by rw [← aq,zw (show 0 < q by omega) (show J≤q by omega) (by simpa using br)]),(ba C aJ),(Md.trans ap<|aJ.mono fun _ _ h=>h.elim),aa,aa,aa,aa,aa⟩
 exact ext<|bj<|bj<|be<|tn<|⟨q,ax,(by rw [← aq,rS (.inr<|by simpa using br)]),(ba C aJ),(Md.trans ap<|aJ.mono fun _ _ h=>h.elim),aa,aa,aa,aa⟩
 exact bm 4 aa Y<|bm 5 aa Y<|bm 6 aa Y<|bm 7 aa Y<|bm 8 aa Y<|bm 9 aa Y<|bm 10 aa Y<|bm 11 aa Y<|bm 12 aa Y<|bm 13 aa Y<|aK 14 aa (fun _ _=>bG aa) Y<|hn ag<|aF<|cf aa<|ext<|bj<|bj<|be<|tn<|⟨q,ax,(by rw [← aq,rS (.inl ab)]),(ba C (Md.refl _ _).drew),ap.drew,aa,aa,aa,aa⟩
 rintro a1 aA ⟨O,dE,bv,G,aV,c0,c1,c2,c3⟩
 refine fx 0 c0<|fx 1 c1<|fx 10 c2<|fx 11 c3<|aB fun aU=>ak fun aF=>au (aj J)<|au (aj O)<|p (gt aa aa)<|nl<|aF<|cd aa (fun cC=> ?_) fun cC=> ?_
 refine aB fun bd=> ?_
 have aL:=eV G
 have an:(fun w'=>Wk aA w') aA.drew:=(Md.refl _ _).drew
 refine eG (fun w'=>Wk aA w') 13 aa wide an<|bp 0 aa (.slice c n cp) an<|bp 1 aa (aj O) an<|bp 2 aa (.slice c n cp) an<|bp 3 aa (aj a) an<|bp 4 aa (.slice c n cp) an<|bp 5 aa (aj a) an<|bF 6 aa (fun _=>bc bL aa aa ab<|aG.ok ((aY G).2)<|bN ab) (fun _=>an)<|eC 7 aa (fun w' E=>ld bZ aa<|cW (i:=a) ((aY G).2.wk E) ab) an<|bp 8 aa (.slice c n cp) an<|bp 9 aa (aj O) an<|bF 10 aa (fun _=>bc bL aa aa ab<|aG.ok ((aY G).2)<|bN ab) (fun _=>an)<|eC 11 aa (fun w' E=>ld bZ aa<|cW (i:=O) ((aY G).2.wk E) ab) an<|bF 12 aa (fun _=>bc bL aa aa ab<|aG.ok ((aY G).2)<|bN ab) (fun _=>an)<|dw 13 aa ag ag<|fI (u:=(bV d a A)[a]!) (O) (ba G an) fz aa aa aa ab fun dJ b9 cJ=> ?_
 refine bF 14 aa (fun _=>bc bL aa aa ab<|aG.ok ((aY G).2)<|bN ab) (fun h=>c7<|(show true =_ from by kernel_rfl).trans h)<|dw 15 aa ag ag<|fI (u:=(bV d a A)[O]!) (a) cJ fz aa aa aa ab fun bI ca cK=> ?_
 have ct:bI.ownsRow B 95 1 (.slice c n cp) n (LE aX<|bV (bV d a A) (O)<|a):=cK
 have b8:Md (fun q=>(bC c n cp).ownBlock=some q) aA bI:=Md.trans (an.mono fun _ _ h=>h.elim)<|Md.trans b9 ca
 refine eF ag<|bd<|ak fun bg=>au (aj O)<|p (cg (aj O) aa)<|ay<|bg ?_
 refine rt<|tr<|f2 aa aa aa ?_
 have aW:=T4 bD bv ab
 exact ⟨by rw [aW]; rfl,by rw [aW]; exact ct,Md.trans aV b8⟩
 refine aR<|aU<|aB fun bd=> ?_
 have aL:=eV G
 have ai:(fun w'=>Wk aA w') aA.drew:=(Md.refl _ _).drew
 refine eG (fun w'=>Wk aA w') 13 aa wide ai<|bp 0 aa (.slice c n cp) ai<|bp 1 aa (aj J) ai<|bp 2 aa (.slice c n cp) ai<|bp 3 aa (aj O) ai<|bp 4 aa (.slice c n cp) ai<|bp 5 aa (aj O) ai<|bF 6 aa (fun _=>bc bL aa aa ab<|aG.ok ((aY G).2)<|bN ab) (fun _=>ai)<|eC 7 aa (fun w' E=>ld bZ aa<|cW (i:=O) ((aY G).2.wk E) ab) ai<|bp 8 aa (.slice c n cp) ai<|bp 9 aa (aj J) ai<|bF 10 aa (fun _=>bc bL aa aa ab<|aG.ok ((aY G).2)<|bN ab) (fun _=>ai)<|eC 11 aa (fun w' E=>ld bZ aa<|cW (i:=J) ((aY G).2.wk E) ab) ai<|bF 12 aa (fun _=>bc bL aa aa ab<|aG.ok ((aY G).2)<|bN ab) (fun _=>ai)<|dw 13 aa ag ag<|fI (u:=(bV d a A)[O]!) (J) (ba G ai) fz aa aa aa ab fun dK ce cL=> ?_
 refine bF 14 aa (fun _=>bc bL aa aa ab<|aG.ok ((aY G).2)<|bN ab) (fun h=>c7<|(show true =_ from by kernel_rfl).trans h)<|dw 15 aa ag ag<|fI (u:=(bV d a A)[J]!) (O) cL fz aa aa aa ab fun bJ ch cM=> ?_
 have cu:bJ.ownsRow B 95 1 (.slice c n cp) n (LE aX<|bV (bV d a A) (J)<|O):=cM
 have cc:Md (fun q=>(bC c n cp).ownBlock=some q) aA bJ:=Md.trans (ai.mono fun _ _ h=>h.elim)<|Md.trans ce ch
 refine eF ag<|bd<|ak fun bg=>au (aj J)<|p (bK ((J+1:Nat):Int) aa aa<|bl ab ab)<|ay<|bg ?_
 refine ak fun bW=>au (aj O)<|p (dz ((O - 1:Nat):Int) aa aa<|bl ab ab)<|ay<|bW<|aB fun bX=>az<|lp (fun av a3 bs=> ∃ (i j:Nat) (I:Array Nat),(a+2≤i∧i≤b∧a≤j∧j < b∧i≤j+2)∧(Ct bM a i j I=Ct bM a (J+1) (O - 1) (bV (bV d a A) J O))∧(bs.ownsRow B 95 1 (.slice c n cp) n<|LE aX I)∧(Md (fun q=>(bC c n cp).ownBlock=some q) w bs)∧(a3 0= .slice c n cp)∧(a3 1=aj a)∧(a3 10=aj i)∧(a3 11=aj j)∧(j+1 - i=av)) _ ⟨J+1,O - 1,bV (bV d a A) J O,ab,aa,cu,(Md.trans aV cc),aa,aa,aa,aa,aa⟩ ?_
 rintro av a3 bs ⟨i,j,I,hi,bB,cq,b4,c9,da,db,dc,rfl⟩
 refine fx 0 c9<|fx 1 da<|fx 10 db<|fx 11 dc<|az ?_
 refine e8 (fun a4 bu=> ∃ (ad:Nat),(i≤ad∧(ad=i∨ad≤j+1))∧(nI (fun x=>bM x I[a]!) I (j) (i)=ad)∧(bu.ownsRow B 95 1 (.slice c n cp) n<|LE aX I)∧(Md (fun q=>(bC c n cp).ownBlock=some q) w bu)∧(a4 0= .slice c n cp)∧(a4 1=aj a)∧(a4 10=aj ad)∧(a4 11=aj j)) ?_ ?_
 refine az<|lp (fun av a5 aN=> ∃ (q:Nat),(i≤q∧(q=i∨q≤j+1))∧(nI (fun x=>bM x I[a]!) I (j) (q)=nI (fun x=>bM x I[a]!) I (j) (i))∧(aN.ownsRow B 95 1 (.slice c n cp) n<|LE aX I)∧(Md (fun q=>(bC c n cp).ownBlock=some q) w aN)∧(a5 0= .slice c n cp)∧(a5 1=aj a)∧(a5 10=aj q)∧(a5 11=aj j)∧(j+1 - q=av)) _ ⟨i,ab,aa,cq,b4,aa,aa,aa,aa,aa⟩ ?_
 rintro av a5 aN ⟨q,ax,aq,C,ap,dh,di,dj,dk,rfl⟩
 refine fx 0 dh<|fx 1 di<|fx 10 dj<|fx 11 dk<|aB fun aT=>aB fun aD=> ?_
 have aL:=eV C
 have Z:(fun w'=>Wk aN w') aN.drew:=(Md.refl _ _).drew
 refine bR (fun w'=>Wk aN w') aa wide Z<|bY 0 aa (aj q) Z<|bY 1 aa (aj j) Z<|aK 2 aa (fun _ _=>le aa aa) Z<|aK 3 aa (fun _ _=>mv) Z<|kH (t:=102) aa (fun cD=> ?_) fun cD=> ?_
 refine bw 4 aa (fun _ _=>aH (.slice c n cp) aa) Z<|bw 5 aa (fun _ _=>aH (aj q) aa) Z<|bw 6 aa (fun _ _=>bc bL aa aa ab<|aG.ok ((aY C).2)<|bN ab) Z<|bw 7 aa (fun w' E=>ld bZ aa<|cW (i:=q) ((aY C).2.wk E) ab) Z<|bw 8 aa (fun _ _=>aH (.slice c n cp) aa) Z<|bw 9 aa (fun _ _=>aH (aj a) aa) Z<|bw 10 aa (fun _ _=>bc bL aa aa ab<|aG.ok ((aY C).2)<|bN ab) Z<|bw 11 aa (fun w' E=>ld bZ aa<|cW (i:=a) ((aY C).2.wk E) ab) Z<|lV 12 aa ag aa aa aa<|cl lr (lA I[q]! I[a]! _) aa fun dG dv cx=> ?_
 obtain ⟨rfl,b0⟩:=cx
 have aQ:(fun w'=>Wk aN w') dv:=Md.trans Z b0
 refine ⟨aQ,?_⟩
 refine aK 13 aa (fun _ _=>bO aa) aQ<|hn ag<|aD<|cb aa (fun bk=> ?_) fun bk=> ?_
 exact aR<|aT<|az<|rg aa<|au (aj q)<|p (bK ((q+1:Nat):Int) aa aa<|bl ab ab)<|p aE<|nl<|bn<|tn<|⟨_,ab,q+1,ab,(by rw [← aq,BR (show q≤j by omega) (by simpa using bk)]),(ba C aQ),(Md.trans ap<|aQ.mono fun _ _ h=>h.elim),aa,aa,aa,aa,aa⟩
 exact ext<|bj<|bj<|be<|tn<|⟨q,ax,(by rw [← aq,sy (.inr<|by simpa using bk)]),(ba C aQ),(Md.trans ap<|aQ.mono fun _ _ h=>h.elim),aa,aa,aa,aa⟩
 exact bm 4 aa Z<|bm 5 aa Z<|bm 6 aa Z<|bm 7 aa Z<|bm 8 aa Z<|bm 9 aa Z<|bm 10 aa Z<|bm 11 aa Z<|bm 12 aa Z<|aK 13 aa (fun _ _=>bG aa) Z<|hn ag<|aD<|cf aa<|ext<|bj<|bj<|be<|tn<|⟨q,ax,(by rw [← aq,sy (.inl ab)]),(ba C (Md.refl _ _).drew),ap.drew,aa,aa,aa,aa⟩
 rintro a4 bu ⟨ad,bz,bE,bi,bh,dd,de,df,dg⟩
 refine fx 0 dd<|fx 1 de<|fx 10 df<|fx 11 dg ?_
 refine e8 (fun a6 aC=> ∃ (ae:Nat),(a≤ae∧ae≤j)∧(nH (fun x=> !bM x I[a]!) I (ad) (j)=ae)∧(aC.ownsRow B 95 1 (.slice c n cp) n<|LE aX I)∧(Md (fun q=>(bC c n cp).ownBlock=some q) w aC)∧(a6 0= .slice c n cp)∧(a6 1=aj a)∧(a6 10=aj ad)∧(a6 11=aj ae)) ?_ ?_
 refine az<|lp (fun av a8 aP=> ∃ (q:Nat),(a≤q∧q≤j)∧(nH (fun x=> !bM x I[a]!) I (ad) (q)=nH (fun x=> !bM x I[a]!) I (ad) (j))∧(aP.ownsRow B 95 1 (.slice c n cp) n<|LE aX I)∧(Md (fun q=>(bC c n cp).ownBlock=some q) w aP)∧(a8 0= .slice c n cp)∧(a8 1=aj a)∧(a8 10=aj ad)∧(a8 11=aj q)∧(q=av)) _ ⟨j,ab,aa,bi,bh,aa,aa,aa,aa,aa⟩ ?_
 rintro av a8 aP ⟨q,ax,aq,C,ap,dr,ds,dt,du,rfl⟩
 refine fx 0 dr<|fx 1 ds<|fx 10 dt<|fx 11 du<|aB fun aT=>aB fun aD=> ?_
 have aL:=eV C
 have V:(fun w'=>Wk aP w') aP.drew:=(Md.refl _ _).drew
 refine bR (fun w'=>Wk aP w') aa wide V<|bY 0 aa (aj ad) V<|bY 1 aa (aj q) V<|aK 2 aa (fun _ _=>le aa aa) V<|aK 3 aa (fun _ _=>mv) V<|kH (t:=118) aa (fun cE=> ?_) fun cE=> ?_
 refine bw 4 aa (fun _ _=>aH (.slice c n cp) aa) V<|bw 5 aa (fun _ _=>aH (aj q) aa) V<|bw 6 aa (fun _ _=>bc bL aa aa ab<|aG.ok ((aY C).2)<|bN ab) V<|bw 7 aa (fun w' E=>ld bZ aa<|cW (i:=q) ((aY C).2.wk E) ab) V<|bw 8 aa (fun _ _=>aH (.slice c n cp) aa) V<|bw 9 aa (fun _ _=>aH (aj a) aa) V<|bw 10 aa (fun _ _=>bc bL aa aa ab<|aG.ok ((aY C).2)<|bN ab) V<|bw 11 aa (fun w' E=>ld bZ aa<|cW (i:=a) ((aY C).2.wk E) ab) V<|lV 12 aa ag aa aa aa<|cl lr (lA I[q]! I[a]! _) aa fun v127 dx cy=> ?_
 obtain ⟨rfl,b1⟩:=cy
 have aI:(fun w'=>Wk aP w') dx:=Md.trans V b1
 refine ⟨aI,?_⟩
 refine bw 13 aa (fun _ _=>no aa) aI<|aK 14 aa (fun _ _=>bO aa) aI<|hn ag<|aD<|cb aa (fun bo=> ?_) fun bo=> ?_
 exact aR<|aT<|az<|rg aa<|au (aj q)<|p (dz ((q - 1:Nat):Int) aa aa<|bl ab ab)<|p aE<|nl<|bn<|tn<|⟨_,ab,q - 1,ab,(by rw [← aq,zw (show 0 < q by omega) (show ad≤q by omega) (by simpa using bo)]),(ba C aI),(Md.trans ap<|aI.mono fun _ _ h=>h.elim),aa,aa,aa,aa,aa⟩
 exact ext<|bj<|bj<|be<|tn<|⟨q,ax,(by rw [← aq,rS (.inr<|by simpa using bo)]),(ba C aI),(Md.trans ap<|aI.mono fun _ _ h=>h.elim),aa,aa,aa,aa⟩
 exact bm 4 aa V<|bm 5 aa V<|bm 6 aa V<|bm 7 aa V<|bm 8 aa V<|bm 9 aa V<|bm 10 aa V<|bm 11 aa V<|bm 12 aa V<|bm 13 aa V<|aK 14 aa (fun _ _=>bG aa) V<|hn ag<|aD<|cf aa<|ext<|bj<|bj<|be<|tn<|⟨q,ax,(by rw [← aq,rS (.inl ab)]),(ba C (Md.refl _ _).drew),ap.drew,aa,aa,aa,aa⟩
 rintro a6 aC ⟨ae,bA,bx,G,aV,dl,dn,dp,dq⟩
 refine fx 0 dl<|fx 1 dn<|fx 10 dp<|fx 11 dq<|aB fun aT=>ak fun aD=>au (aj ad)<|au (aj ae)<|p (gt aa aa)<|nl<|aD<|cd aa (fun cB=> ?_) fun cB=> ?_
 refine ext<|bj<|nX aw<|bj<|be<|bX<|aB fun a9=> ?_
 have aL:=eV G
 have am:(fun w'=>Wk aC w') aC.drew:=(Md.refl _ _).drew
 refine eG (fun w'=>Wk aC w') 13 aa wide am<|bp 0 aa (.slice c n cp) am<|bp 1 aa (aj ae) am<|bp 2 aa (.slice c n cp) am<|bp 3 aa (aj a) am<|bp 4 aa (.slice c n cp) am<|bp 5 aa (aj a) am<|bF 6 aa (fun _=>bc bL aa aa ab<|aG.ok ((aY G).2)<|bN ab) (fun _=>am)<|eC 7 aa (fun w' E=>ld bZ aa<|cW (i:=a) ((aY G).2.wk E) ab) am<|bp 8 aa (.slice c n cp) am<|bp 9 aa (aj ae) am<|bF 10 aa (fun _=>bc bL aa aa ab<|aG.ok ((aY G).2)<|bN ab) (fun _=>am)<|eC 11 aa (fun w' E=>ld bZ aa<|cW (i:=ae) ((aY G).2.wk E) ab) am<|bF 12 aa (fun _=>bc bL aa aa ab<|aG.ok ((aY G).2)<|bN ab) (fun _=>am)<|dw 13 aa ag ag<|fI (u:=I[a]!) (ae) (ba G am) fz aa aa aa ab fun dM cn cP=> ?_
 refine bF 14 aa (fun _=>bc bL aa aa ab<|aG.ok ((aY G).2)<|bN ab) (fun h=>c7<|(show true =_ from by kernel_rfl).trans h)<|dw 15 aa ag ag<|fI (u:=I[ae]!) (a) cP fz aa aa aa ab fun bQ co cQ=> ?_
 have cw:bQ.ownsRow B 95 1 (.slice c n cp) n (LE aX<|bV I (ae)<|a):=cQ
 have cm:Md (fun q=>(bC c n cp).ownBlock=some q) aC bQ:=Md.trans (am.mono fun _ _ h=>h.elim)<|Md.trans cn co
 refine eF ag<|a9<|ak fun bb=>au (aj ae)<|p (cg (aj ae) aa)<|ay<|bb ?_
 refine rt<|f2 aa aa aa ?_
 have aW:=part_go bD bv ab<|bB.symm.trans<|by rw [Ha bE bx bz.1 bA.2,if_pos ab]
 exact ⟨by rw [aW]; rfl,by rw [aW]; exact cw,Md.trans aV cm⟩
 refine aR<|aT<|aB fun a9=> ?_
 have aL:=eV G
 have al:(fun w'=>Wk aC w') aC.drew:=(Md.refl _ _).drew
 refine eG (fun w'=>Wk aC w') 13 aa wide al<|bp 0 aa (.slice c n cp) al<|bp 1 aa (aj ad) al<|bp 2 aa (.slice c n cp) al<|bp 3 aa (aj ae) al<|bp 4 aa (.slice c n cp) al<|bp 5 aa (aj ae) al<|bF 6 aa (fun _=>bc bL aa aa ab<|aG.ok ((aY G).2)<|bN ab) (fun _=>al)<|eC 7 aa (fun w' E=>ld bZ aa<|cW (i:=ae) ((aY G).2.wk E) ab) al<|bp 8 aa (.slice c n cp) al<|bp 9 aa (aj ad) al<|bF 10 aa (fun _=>bc bL aa aa ab<|aG.ok ((aY G).2)<|bN ab) (fun _=>al)<|eC 11 aa (fun w' E=>ld bZ aa<|cW (i:=ad) ((aY G).2.wk E) ab) al<|bF 12 aa (fun _=>bc bL aa aa ab<|aG.ok ((aY G).2)<|bN ab) (fun _=>al)<|dw 13 aa ag ag<|fI (u:=I[ae]!) (ad) (ba G al) fz aa aa aa ab fun dL cj cN=> ?_
 refine bF 14 aa (fun _=>bc bL aa aa ab<|aG.ok ((aY G).2)<|bN ab) (fun h=>c7<|(show true =_ from by kernel_rfl).trans h)<|dw 15 aa ag ag<|fI (u:=I[ad]!) (ae) cN fz aa aa aa ab fun bP ck cO=> ?_
 have cv:bP.ownsRow B 95 1 (.slice c n cp) n (LE aX<|bV I (ad)<|ae):=cO
 have ci:Md (fun q=>(bC c n cp).ownBlock=some q) aC bP:=Md.trans (al.mono fun _ _ h=>h.elim)<|Md.trans cj ck
 refine eF ag<|a9<|ak fun bb=>au (aj ad)<|p (bK ((ad+1:Nat):Int) aa aa<|bl ab ab)<|ay<|bb ?_
 exact rg aa<|au (aj ae)<|p (dz ((ae - 1:Nat):Int) aa aa<|bl ab ab)<|p aE<|nl<|bn<|tn<|⟨_,ab,ad+1,ae - 1,bV I ad ae,ab,(by rw [← bB,Ha bE bx bz.1 bA.2,if_neg ab,if_pos ab]),cv,(Md.trans aV ci),aa,aa,aa,aa,aa⟩
theorem T8 (d:Array Nat) (a b Z:Nat) (B n cp:Nat) (c:Option Addr) (w:World) (hO:w.ownsRow B 95 1 (.slice c n cp) n (LE aX d)) (ch:a≤Z∧Z < b∧b≤n) (cm:n≤1099511627776):
 bf ao 291 (a7 [.slice c n cp,aj a,aj b,aj Z]) w (fun v w'=>v=aj ((uX bM d a b Z).1)∧w'.ownsRow B 95 1 (.slice c n cp) n (LE aX (uX bM d a b Z).2)∧Md (fun q=>(bC c n cp).ownBlock=some q) w w'):=by
 refine enter func291 aa ntmps291 aa<|ak fun a0=>ay<|a0<|aB fun a1=> ?_
 have ci:=eV hO
 have J:(fun w'=>Wk w w') w.drew:=(Md.refl _ _).drew
 refine eG (fun w'=>Wk w w') 13 aa wide J<|bp 0 aa (.slice c n cp) J<|bp 1 aa (aj a) J<|bp 2 aa (.slice c n cp) J<|bp 3 aa (aj Z) J<|bp 4 aa (.slice c n cp) J<|bp 5 aa (aj Z) J<|bF 6 aa (fun _=>bc bL aa aa ab<|aG.ok ((aY hO).2)<|bN ab) (fun _=>J)<|eC 7 aa (fun w' Y=>ld bZ aa<|cW (i:=Z) ((aY hO).2.wk Y) ab) J<|bp 8 aa (.slice c n cp) J<|bp 9 aa (aj a) J<|bF 10 aa (fun _=>bc bL aa aa ab<|aG.ok ((aY hO).2)<|bN ab) (fun _=>J)<|eC 11 aa (fun w' Y=>ld bZ aa<|cW (i:=a) ((aY hO).2.wk Y) ab) J<|bF 12 aa (fun _=>bc bL aa aa ab<|aG.ok ((aY hO).2)<|bN ab) (fun _=>J)<|dw 13 aa ag ag<|fI (u:=d[Z]!) (a) (ba hO J) fz aa aa aa ab fun cn bd bB=> ?_
 refine bF 14 aa (fun _=>bc bL aa aa ab<|aG.ok ((aY hO).2)<|bN ab) (fun h=>c7<|(show true =_ from by kernel_rfl).trans h)<|dw 15 aa ag ag<|fI (u:=d[a]!) (Z) bB fz aa aa aa ab fun aW bg bD=> ?_
 have bs:aW.ownsRow B 95 1 (.slice c n cp) n (LE aX<|bV d (a)<|Z):=bD
 have bb:Md (fun q=>(bC c n cp).ownBlock=some q) w aW:=Md.trans (J.mono fun _ _ h=>h.elim)<|Md.trans bd bg
 refine eF ag<|a1<|ak fun a2=>au (aj a)<|p (bK ((a+1:Nat):Int) aa aa<|bl ab ab)<|au (aj b)<|p (dz ((b - 1:Nat):Int) aa aa<|bl ab ab)<|p aE ?_
 refine ay<|a2<|aB fun a3=>az<|lp (fun ad aA aN=> ∃ (i j:Nat) (A:Array Nat),(a+1≤i∧i≤b∧a≤j∧j < b∧i≤j+2)∧(Go.Sort.partEqLoop bM a i j A=uX bM d a b Z)∧(aN.ownsRow B 95 1 (.slice c n cp) n<|LE aX A)∧(Md (fun q=>(bC c n cp).ownBlock=some q) w aN)∧(aA 0= .slice c n cp)∧(aA 1=aj a)∧(aA 9=aj i)∧(aA 10=aj j)∧(j+1 - i=ad)) _ ⟨a+1,b - 1,(bV d a Z),ab,aa,bs,bb,aa,aa,aa,aa,aa⟩ ?_
 rintro ad aA aN ⟨i,j,A,hi,aT,bq,a9,bI,bJ,bQ,bP,rfl⟩
 refine fx 0 bI<|fx 1 bJ<|fx 9 bQ<|fx 10 bP<|az ?_
 refine e8 (fun aC aO=> ∃ (C:Nat),(i≤C∧(C=i∨C≤j+1))∧(nI (fun x=> !bM A[a]! x) A (j) (i)=C)∧(aO.ownsRow B 95 1 (.slice c n cp) n<|LE aX A)∧(Md (fun q=>(bC c n cp).ownBlock=some q) w aO)∧(aC 0= .slice c n cp)∧(aC 1=aj a)∧(aC 9=aj C)∧(aC 10=aj j)) ?_ ?_
 refine az<|lp (fun ad aD am=> ∃ (q:Nat),(i≤q∧(q=i∨q≤j+1))∧(nI (fun x=> !bM A[a]! x) A (j) (q)=nI (fun x=> !bM A[a]! x) A (j) (i))∧(am.ownsRow B 95 1 (.slice c n cp) n<|LE aX A)∧(Md (fun q=>(bC c n cp).ownBlock=some q) w am)∧(aD 0= .slice c n cp)∧(aD 1=aj a)∧(aD 9=aj q)∧(aD 10=aj j)∧(j+1 - q=ad)) _ ⟨i,ab,aa,bq,a9,aa,aa,aa,aa,aa⟩ ?_
 rintro ad aD am ⟨q,ax,al,I,ah,bX,b0,b2,b1,rfl⟩
 refine fx 0 bX<|fx 1 b0<|fx 9 b2<|fx 10 b1<|aB fun av=>aB fun ae=> ?_
 have aQ:=eV I
 have E:(fun w'=>Wk am w') am.drew:=(Md.refl _ _).drew
 refine bR (fun w'=>Wk am w') aa wide E<|bY 0 aa (aj q) E<|bY 1 aa (aj j) E<|aK 2 aa (fun _ _=>le aa aa) E<|aK 3 aa (fun _ _=>mv) E<|kH (t:=32) aa (fun bz=> ?_) fun bz=> ?_
 refine bw 4 aa (fun _ _=>aH (.slice c n cp) aa) E<|bw 5 aa (fun _ _=>aH (aj a) aa) E<|bw 6 aa (fun _ _=>bc bL aa aa ab<|aG.ok ((aY I).2)<|bN ab) E<|bw 7 aa (fun w' Y=>ld bZ aa<|cW (i:=a) ((aY I).2.wk Y) ab) E<|bw 8 aa (fun _ _=>aH (.slice c n cp) aa) E<|bw 9 aa (fun _ _=>aH (aj q) aa) E<|bw 10 aa (fun _ _=>bc bL aa aa ab<|aG.ok ((aY I).2)<|bN ab) E<|bw 11 aa (fun w' Y=>ld bZ aa<|cW (i:=q) ((aY I).2.wk Y) ab) E<|lV 12 aa ag aa aa aa<|cl lr (lA A[a]! A[q]! _) aa fun v41 cc bu=> ?_
 obtain ⟨rfl,a5⟩:=bu
 have ai:(fun w'=>Wk am w') cc:=Md.trans E a5
 refine ⟨ai,?_⟩
 refine bw 13 aa (fun _ _=>no aa) ai<|aK 14 aa (fun _ _=>bO aa) ai<|hn ag<|ae<|cb aa (fun aL=> ?_) fun aL=> ?_
 exact aR<|av<|az<|rg aa<|au (aj q)<|p (bK ((q+1:Nat):Int) aa aa<|bl ab ab)<|p aE<|nl<|bn<|tn<|⟨_,ab,q+1,ab,(by rw [← al,BR (show q≤j by omega) (by simpa using aL)]),(ba I ai),(Md.trans ah<|ai.mono fun _ _ h=>h.elim),aa,aa,aa,aa,aa⟩
 exact ext<|bj<|bj<|be<|tn<|⟨q,ax,(by rw [← al,sy (.inr<|by simpa using aL)]),(ba I ai),(Md.trans ah<|ai.mono fun _ _ h=>h.elim),aa,aa,aa,aa⟩
 exact bm 4 aa E<|bm 5 aa E<|bm 6 aa E<|bm 7 aa E<|bm 8 aa E<|bm 9 aa E<|bm 10 aa E<|bm 11 aa E<|bm 12 aa E<|bm 13 aa E<|aK 14 aa (fun _ _=>bG aa) E<|hn ag<|ae<|cf aa<|ext<|bj<|bj<|be<|tn<|⟨q,ax,(by rw [← al,sy (.inl ab)]),(ba I (Md.refl _ _).drew),ah.drew,aa,aa,aa,aa⟩
 rintro aC aO ⟨C,cj,aU,br,bo,bS,bT,bW,bU⟩
 refine fx 0 bS<|fx 1 bT<|fx 9 bW<|fx 10 bU ?_
 refine e8 (fun aF ap=> ∃ (V:Nat),(a≤V∧V≤j)∧(nH (fun x=>bM A[a]! x) A (C) (j)=V)∧(ap.ownsRow B 95 1 (.slice c n cp) n<|LE aX A)∧(Md (fun q=>(bC c n cp).ownBlock=some q) w ap)∧(aF 0= .slice c n cp)∧(aF 1=aj a)∧(aF 9=aj C)∧(aF 10=aj V)) ?_ ?_
 refine az<|lp (fun ad aI an=> ∃ (q:Nat),(a≤q∧q≤j)∧(nH (fun x=>bM A[a]! x) A (C) (q)=nH (fun x=>bM A[a]! x) A (C) (j))∧(an.ownsRow B 95 1 (.slice c n cp) n<|LE aX A)∧(Md (fun q=>(bC c n cp).ownBlock=some q) w an)∧(aI 0= .slice c n cp)∧(aI 1=aj a)∧(aI 9=aj C)∧(aI 10=aj q)∧(q=ad)) _ ⟨j,ab,aa,br,bo,aa,aa,aa,aa,aa⟩ ?_
 rintro ad aI an ⟨q,ax,al,I,ah,b7,b8,ca,b9,rfl⟩
 refine fx 0 b7<|fx 1 b8<|fx 9 ca<|fx 10 b9<|aB fun av=>aB fun ae=> ?_
 have aQ:=eV I
 have G:(fun w'=>Wk an w') an.drew:=(Md.refl _ _).drew
 refine bR (fun w'=>Wk an w') aa wide G<|bY 0 aa (aj C) G<|bY 1 aa (aj q) G<|aK 2 aa (fun _ _=>le aa aa) G<|aK 3 aa (fun _ _=>mv) G<|kH (t:=49) aa (fun bA=> ?_) fun bA=> ?_
 refine bw 4 aa (fun _ _=>aH (.slice c n cp) aa) G<|bw 5 aa (fun _ _=>aH (aj a) aa) G<|bw 6 aa (fun _ _=>bc bL aa aa ab<|aG.ok ((aY I).2)<|bN ab) G<|bw 7 aa (fun w' Y=>ld bZ aa<|cW (i:=a) ((aY I).2.wk Y) ab) G<|bw 8 aa (fun _ _=>aH (.slice c n cp) aa) G<|bw 9 aa (fun _ _=>aH (aj q) aa) G<|bw 10 aa (fun _ _=>bc bL aa aa ab<|aG.ok ((aY I).2)<|bN ab) G<|bw 11 aa (fun w' Y=>ld bZ aa<|cW (i:=q) ((aY I).2.wk Y) ab) G<|lV 12 aa ag aa aa aa<|cl lr (lA A[a]! A[q]! _) aa fun v58 ce bv=> ?_
 obtain ⟨rfl,a6⟩:=bv
 have aq:(fun w'=>Wk an w') ce:=Md.trans G a6
 refine ⟨aq,?_⟩
 refine aK 13 aa (fun _ _=>bO aa) aq<|hn ag<|ae<|cb aa (fun aM=> ?_) fun aM=> ?_
 exact aR<|av<|az<|rg aa<|au (aj q)<|p (dz ((q - 1:Nat):Int) aa aa<|bl ab ab)<|p aE<|nl<|bn<|tn<|⟨_,ab,q - 1,ab,(by rw [← al,zw (show 0 < q by omega) (show C≤q by omega) (by simpa using aM)]),(ba I aq),(Md.trans ah<|aq.mono fun _ _ h=>h.elim),aa,aa,aa,aa,aa⟩
 exact ext<|bj<|bj<|be<|tn<|⟨q,ax,(by rw [← al,rS (.inr<|by simpa using aM)]),(ba I aq),(Md.trans ah<|aq.mono fun _ _ h=>h.elim),aa,aa,aa,aa⟩
 exact bm 4 aa G<|bm 5 aa G<|bm 6 aa G<|bm 7 aa G<|bm 8 aa G<|bm 9 aa G<|bm 10 aa G<|bm 11 aa G<|bm 12 aa G<|aK 13 aa (fun _ _=>bG aa) G<|hn ag<|ae<|cf aa<|ext<|bj<|bj<|be<|tn<|⟨q,ax,(by rw [← al,rS (.inl ab)]),(ba I (Md.refl _ _).drew),ah.drew,aa,aa,aa,aa⟩
 rintro aF ap ⟨V,ck,aS,ac,aP,b3,b4,b6,b5⟩
 refine fx 0 b3<|fx 1 b4<|fx 9 b6<|fx 10 b5<|aB fun av=>ak fun ae=>au (aj C)<|au (aj V)<|p (gt aa aa)<|nl<|ae<|cd aa (fun bx=> ?_) fun bx=> ?_
 refine ext<|bj<|nX aw<|bj<|be<|a3<|ak fun aJ=>au (aj C)<|p (cg (aj C) aa)<|nl<|aJ<|rt<|a8 aa ?_
 have aV:uX bM d a b Z=(C,A):=by rw [← aT,G6 aU aS,if_pos ab]
 exact ⟨by rw [aV]; rfl,by rw [aV]; exact ac,aP⟩
 refine aR<|av<|aB fun aJ=> ?_
 have aQ:=eV ac
 have O:(fun w'=>Wk ap w') ap.drew:=(Md.refl _ _).drew
 refine eG (fun w'=>Wk ap w') 13 aa wide O<|bp 0 aa (.slice c n cp) O<|bp 1 aa (aj C) O<|bp 2 aa (.slice c n cp) O<|bp 3 aa (aj V) O<|bp 4 aa (.slice c n cp) O<|bp 5 aa (aj V) O<|bF 6 aa (fun _=>bc bL aa aa ab<|aG.ok ((aY ac).2)<|bN ab) (fun _=>O)<|eC 7 aa (fun w' Y=>ld bZ aa<|cW (i:=V) ((aY ac).2.wk Y) ab) O<|bp 8 aa (.slice c n cp) O<|bp 9 aa (aj C) O<|bF 10 aa (fun _=>bc bL aa aa ab<|aG.ok ((aY ac).2)<|bN ab) (fun _=>O)<|eC 11 aa (fun w' Y=>ld bZ aa<|cW (i:=C) ((aY ac).2.wk Y) ab) O<|bF 12 aa (fun _=>bc bL aa aa ab<|aG.ok ((aY ac).2)<|bN ab) (fun _=>O)<|dw 13 aa ag ag<|fI (u:=A[V]!) (C) (ba ac O) fz aa aa aa ab fun co bi bE=> ?_
 refine bF 14 aa (fun _=>bc bL aa aa ab<|aG.ok ((aY ac).2)<|bN ab) (fun h=>c7<|(show true =_ from by kernel_rfl).trans h)<|dw 15 aa ag ag<|fI (u:=A[C]!) (V) bE fz aa aa aa ab fun aZ bk bH=> ?_
 have bt:aZ.ownsRow B 95 1 (.slice c n cp) n (LE aX<|bV A (C)<|V):=bH
 have bh:Md (fun q=>(bC c n cp).ownBlock=some q) ap aZ:=Md.trans (O.mono fun _ _ h=>h.elim)<|Md.trans bi bk
 refine eF ag<|aJ<|ak fun a4=>au (aj C)<|p (bK ((C+1:Nat):Int) aa aa<|bl ab ab)<|ay<|a4 ?_
 exact rg aa<|au (aj V)<|p (dz ((V - 1:Nat):Int) aa aa<|bl ab ab)<|p aE<|nl<|bn<|tn<|⟨_,ab,C+1,V - 1,bV A C V,ab,(by rw [← aT,G6 aU aS,if_neg ab,if_pos ab]),bt,(Md.trans aP bh),aa,aa,aa,aa,aa⟩
end Go.Hb
end
section
namespace Go.Hb
open Go.Hb.dI
theorem Ud {d:Array Nat} {a b s i i2:Nat} (c:0 < s) (h:sP bM d b i=i2) (h1:i2=b):qd bM a b s i d=(d,true):=by
 cases s with
 | zero=>omega
 | succ s=>rw [qd]; simp only [h,if_pos h1]
theorem pi_short {d:Array Nat} {a b s i i2:Nat} (c:0 < s) (h:sP bM d b i=i2) (h1:¬i2=b) (h2:b - a < 50):qd bM a b s i d=(d,false):=by
 cases s with
 | zero=>omega
 | succ s=>rw [qd]; simp only [h,if_neg h1,if_pos h2]
theorem pi_go {d c A:Array Nat} {a b s i i2:Nat} (G:0 < s) (h:sP bM d b i=i2) (h1:¬i2=b) (h2:¬b - a < 50)
 (C:c=if i2 - a≥2 then x4 bM (i2 - 1) (bV d i2<|i2 - 1) else bV d i2 (i2 - 1)) (E:A=if b - i2≥2 then Cv bM b (i2+1) c else c):
 qd bM a b s i d=qd bM a b (s - 1) i2 A:=by
 cases s with
 | zero=>omega
 | succ s=>rw [qd]; simp only [h,if_neg h1,if_neg h2]; rw [← C,← E]; rfl
theorem Un (d:Array Nat) (a b:Nat) (B n cp:Nat) (c:Option Addr) (w:World) (hO:w.ownsRow B 95 1 (.slice c n cp) n (LE aX d)) (de:a < b∧b≤n) (di:n≤1099511627776):
 bf ao 289 (a7 [.slice c n cp,aj a,aj b]) w (fun v w'=>v= .bool (sO bM d a b).2∧w'.ownsRow B 95 1 (.slice c n cp) n (LE aX (sO bM d a b).1)∧Md (fun q=>(bC c n cp).ownBlock=some q) w w'):=by
 refine enter func289 aa ntmps289 aa<|ak fun bT=>ay<|bT<|ak fun bW=>au (aj a)<|p (bK ((a+1:Nat):Int) aa aa<|bl ab ab)<|ay<|bW<|aB fun bX=>ak fun b0=>p aE<|nl<|b0<|az<|lp (fun Y aM bz=> ∃ (s i:Nat) (E:Array Nat),(a+1≤i∧i≤b∧s≤5)∧(qd bM a b (5 - s) i E=(sO bM d a b))∧(bz.ownsRow B 95 1 (.slice c n cp) n<|LE aX E)∧(Md (fun q=>(bC c n cp).ownBlock=some q) w bz)∧(aM 0= .slice c n cp)∧(aM 1=aj a)∧(aM 2=aj b)∧(aM 7=aj i)∧(aM 8=aj s)∧(5 - s=Y)) _ ⟨0,a+1,d,ab,aa,hO,(Md.refl _ _),aa,aa,aa,aa,aa,aa⟩ ?_
 rintro Y aM bz ⟨s,i,E,hi,aL,bE,bA,cF,cG,cH,cI,cJ,rfl⟩
 refine fx 0 cF<|fx 1 cG<|fx 2 cH<|fx 7 cI<|fx 8 cJ<|aB fun b1=>ak fun b2=>au (aj s)<|p (lt aa aa)<|nl<|b2<|cd aa (fun co=> ?_) fun co=> ?_
 refine aR<|b1<|aB fun aQ=>az ?_
 refine e8 (fun aN av=> ∃ (i2:Nat),(i≤i2∧i2≤b)∧(sP bM E b i=i2)∧(av.ownsRow B 95 1 (.slice c n cp) n<|LE aX E)∧(Md (fun q=>(bC c n cp).ownBlock=some q) w av)∧(aN 0= .slice c n cp)∧(aN 1=aj a)∧(aN 2=aj b)∧(aN 7=aj i2)∧(aN 8=aj s)) ?_ ?_
 refine az<|lp (fun Y aO aC=> ∃ (q:Nat),(i≤q∧q≤b)∧(sP bM E b q=sP bM E b i)∧(aC.ownsRow B 95 1 (.slice c n cp) n<|LE aX E)∧(Md (fun q=>(bC c n cp).ownBlock=some q) w aC)∧(aO 0= .slice c n cp)∧(aO 1=aj a)∧(aO 2=aj b)∧(aO 7=aj q)∧(aO 8=aj s)∧(b - q=Y)) _ ⟨i,ab,aa,bE,bA,aa,aa,aa,aa,aa,aa⟩ ?_
 rintro Y aO aC ⟨q,bJ,bt,ae,bg,cP,cQ,cR,cS,cT,rfl⟩
 refine fx 0 cP<|fx 1 cQ<|fx 2 cR<|fx 7 cS<|fx 8 cT<|aB fun bb=>aB fun aV=> ?_
 have cw:=eV ae
 have A:(fun w'=>Wk aC w') aC.drew:=(Md.refl _ _).drew
 refine bR (fun w'=>Wk aC w') aa wide A<|bY 0 aa (aj q) A<|bY 1 aa (aj b) A<|aK 2 aa (fun _ _=>lt aa aa) A<|aK 3 aa (fun _ _=>mv) A<|kH (t:=20) aa (fun cy=> ?_) fun cy=> ?_
 refine bw 4 aa (fun _ _=>aH (.slice c n cp) aa) A<|bw 5 aa (fun _ _=>aH (aj q) aa) A<|bw 6 aa (fun _ _=>bc bL aa aa ab<|aG.ok ((aY ae).2)<|bN ab) A<|bw 7 aa (fun w' C=>ld bZ aa<|cW (i:=q) ((aY ae).2.wk C) ab) A<|bw 8 aa (fun _ _=>aH (.slice c n cp) aa) A<|bw 9 aa (fun _ _=>aH (aj q) aa) A<|bw 10 aa (fun _ _=>dz ((q - 1:Nat):Int) aa aa<|bl ab ab) A<|bw 11 aa (fun _ _=>bc bL aa aa ab<|aG.ok ((aY ae).2)<|bN ab) A<|bw 12 aa (fun w' C=>ld bZ aa<|cW (i:=q - 1) ((aY ae).2.wk C) ab) A<|lV 13 aa ag aa aa aa<|cl lr (lA E[q]! E[q - 1]! _) aa fun v30 dd ck=> ?_
 obtain ⟨rfl,b4⟩:=ck
 have aq:(fun w'=>Wk aC w') dd:=Md.trans A b4
 refine ⟨aq,?_⟩
 refine bw 14 aa (fun _ _=>no aa) aq<|aK 15 aa (fun _ _=>bO aa) aq<|hn ag<|aV<|cb aa (fun bo=> ?_) fun bo=> ?_
 exact aR<|bb<|az<|rg aa<|au (aj q)<|p (bK ((q+1:Nat):Int) aa aa<|bl ab ab)<|p aE<|nl<|bn<|tn<|⟨_,ab,q+1,ab,(by rw [← bt,VH (show q < b by omega) (by simpa using bo)]),(ba ae aq),(Md.trans bg<|aq.mono fun _ _ h=>h.elim),aa,aa,aa,aa,aa,aa⟩
 exact ext<|bj<|bj<|be<|tn<|⟨q,ab,(by rw [← bt,HP (.inr<|by simpa using bo)]),(ba ae aq),(Md.trans bg<|aq.mono fun _ _ h=>h.elim),aa,aa,aa,aa,aa⟩
 exact bm 4 aa A<|bm 5 aa A<|bm 6 aa A<|bm 7 aa A<|bm 8 aa A<|bm 9 aa A<|bm 10 aa A<|bm 11 aa A<|bm 12 aa A<|bm 13 aa A<|bm 14 aa A<|aK 15 aa (fun _ _=>bG aa) A<|hn ag<|aV<|cf aa<|ext<|bj<|bj<|be<|tn<|⟨q,ab,(by rw [← bt,HP (.inl ab)]),(ba ae (Md.refl _ _).drew),bg.drew,aa,aa,aa,aa,aa⟩
 rintro aN av ⟨i2,dh,aS,ad,aW,cK,cL,cM,cN,cO⟩
 refine fx 0 cK<|fx 1 cL<|fx 2 cM<|fx 7 cN<|fx 8 cO<|aB fun bb=>ak fun aV=>au (aj i2)<|au (aj b)<|p (cx aa aa)<|nl<|aV<|cd aa (fun cq=> ?_) fun cq=> ?_
 refine ak fun aZ=>ay<|aZ<|rt<|tr<|br<|tr<|tr<|br<|tr<|a8 aa ?_
 have al:(sO bM d a b)=(E,true):=by rw [← aL,Ud (show 0 < 5 - s by omega) aS ab]
 exact ⟨by rw [al]; rfl,by rw [al]; exact ad,aW⟩
 have bd:¬i2=b:=ab
 refine aR<|bb<|aB fun aZ=>ak fun bU=>au (aj b)<|au (aj a)<|p (dz ((b - a:Nat):Int) aa aa<|bl ab ab)<|p (lt aa aa)<|nl<|bU<|cd aa (fun cs=> ?_) fun cs=> ?_
 refine ak fun a0=>ay<|a0<|rt<|tr<|br<|tr<|tr<|br<|tr<|a8 aa ?_
 have al:(sO bM d a b)=(E,false):=by rw [← aL,pi_short (show 0 < 5 - s by omega) aS ab ab]
 exact ⟨by rw [al]; rfl,by rw [al]; exact ad,aW⟩
 refine aR<|aZ<|aB fun a0=> ?_
 have cw:=eV ad
 have G:(fun w'=>Wk av w') av.drew:=(Md.refl _ _).drew
 refine eG (fun w'=>Wk av w') 15 aa wide G<|bp 0 aa (.slice c n cp) G<|bp 1 aa (aj i2) G<|bp 2 aa (.slice c n cp) G<|bp 3 aa (aj i2) G<|bF 4 aa (fun _=>dz ((i2 - 1:Nat):Int) aa aa<|bl ab ab) (fun _=>G)<|bp 5 aa (.slice c n cp) G<|bp 6 aa (aj i2) G<|bF 7 aa (fun _=>dz ((i2 - 1:Nat):Int) aa aa<|bl ab ab) (fun _=>G)<|bF 8 aa (fun _=>bc bL aa aa ab<|aG.ok ((aY ad).2)<|bN ab) (fun _=>G)<|eC 9 aa (fun w' C=>ld bZ aa<|cW (i:=i2 - 1) ((aY ad).2.wk C) ab) G<|bp 10 aa (.slice c n cp) G<|bp 11 aa (aj i2) G<|bF 12 aa (fun _=>bc bL aa aa ab<|aG.ok ((aY ad).2)<|bN ab) (fun _=>G)<|eC 13 aa (fun w' C=>ld bZ aa<|cW (i:=i2) ((aY ad).2.wk C) ab) G<|bF 14 aa (fun _=>bc bL aa aa ab<|aG.ok ((aY ad).2)<|bN ab) (fun _=>G) ?_
 refine dw 15 aa ag ag<|fI (u:=E[i2 - 1]!) (i2) (ba ad G) fz aa aa aa ab fun dk b6 cz=>bF 16 aa (fun _=>bc bL aa aa ab<|aG.ok ((aY ad).2)<|bN ab) (fun h=>c7<|(show true =_ from by kernel_rfl).trans h)<|dw 17 aa ag ag<|fI (u:=E[i2]!) (i2 - 1) cz fz aa aa aa ab fun bP b7 cA=> ?_
 have bI:bP.ownsRow B 95 1 (.slice c n cp) n (LE aX<|bV E (i2)<|i2 - 1):=cA
 have bB:Md (fun q=>(bC c n cp).ownBlock=some q) av bP:=Md.trans (G.mono fun _ _ h=>h.elim)<|Md.trans b6 b7
 refine eF ag<|a0 ?_
 refine e8 (fun aP bx=> ∃ (am:Array Nat),(am=if i2 - a≥2 then x4 bM (i2 - 1) (bV E i2<|i2 - 1) else (bV E i2<|i2 - 1))∧(bx.ownsRow B 95 1 (.slice c n cp) n<|LE aX am)∧(Md (fun q=>(bC c n cp).ownBlock=some q) w bx)∧(aP 0= .slice c n cp)∧(aP 1=aj a)∧(aP 2=aj b)∧(aP 7=aj i2)∧(aP 8=aj s)) ?_ ?_
 refine ak fun a1=>au (aj i2)<|au (aj a)<|p (dz ((i2 - a:Nat):Int) aa aa<|bl ab ab)<|p (ge aa aa)<|nl<|a1<|cd aa (fun ct=> ?_) fun ct=> ?_
 refine ak fun a2=>au (aj i2)<|p (dz ((i2 - 1:Nat):Int) aa aa<|bl ab ab)<|ay<|a2<|az<|lp (fun Y aD ax=> ∃ (q:Nat) (V:Array Nat),(q≤i2 - 1)∧(x4 bM q V=x4 bM (i2 - 1) (bV E i2<|i2 - 1))∧(ax.ownsRow B 95 1 (.slice c n cp) n<|LE aX V)∧(Md (fun q=>(bC c n cp).ownBlock=some q) w ax)∧(aD 0= .slice c n cp)∧(aD 1=aj a)∧(aD 2=aj b)∧(aD 7=aj i2)∧(aD 8=aj s)∧(aD 9=aj q)∧(q=Y)) _ ⟨i2 - 1,(bV E i2<|i2 - 1),ab,aa,bI,(Md.trans aW bB),aa,aa,aa,aa,aa,aa,aa⟩ ?_
 rintro Y aD ax ⟨q,V,bJ,bu,ah,bh,c0,c1,c2,c3,c4,c5,rfl⟩
 refine fx 0 c0<|fx 1 c1<|fx 2 c2<|fx 7 c3<|fx 8 c4<|fx 9 c5<|aB fun a3=>ak fun a4=>au (aj q)<|p (ge aa aa)<|nl<|a4<|cd aa (fun cu=> ?_) fun cu=> ?_
 refine aR<|a3<|aB fun a5=>az<|aB fun a6=>aB fun a9=> ?_
 have df:=eV ah
 have Z:(fun w'=>Wk ax w') ax.drew:=(Md.refl _ _).drew
 refine bR (fun w'=>Wk ax w') aa wide Z<|bY 0 aa (.slice c n cp) Z<|bY 1 aa (aj q) Z<|aK 2 aa (fun _ _=>bc bL aa aa ab<|aG.ok ((aY ah).2)<|bN ab) Z<|aK 3 aa (fun w' C=>ld bZ aa<|cW (i:=q) ((aY ah).2.wk C) ab) Z<|bY 4 aa (.slice c n cp) Z<|bY 5 aa (aj q) Z<|aK 6 aa (fun _ _=>dz ((q - 1:Nat):Int) aa aa<|bl ab ab) Z<|aK 7 aa (fun _ _=>bc bL aa aa ab<|aG.ok ((aY ah).2)<|bN ab) Z<|aK 8 aa (fun w' C=>ld bZ aa<|cW (i:=q - 1) ((aY ah).2.wk C) ab) Z<|he 9 aa ag<|cl lr (lA V[q]! V[q - 1]! _) aa fun v77 aU cm=> ?_
 obtain ⟨rfl,b5⟩:=cm
 have aI:(fun w'=>Wk ax w') aU:=Md.trans Z b5
 refine ⟨aI,?_⟩
 refine aK 10 aa (fun _ _=>no aa) aI<|hn ag<|a9<|cb aa (fun bq=> ?_) fun bq=> ?_
 exact ext<|bj<|nX aw<|bj<|bj<|be<|tn<|⟨V,(by rw [if_pos ab,← bu,Hv (.inr<|by simpa using bq)]),(ba ah aI),(Md.trans bh<|aI.mono fun _ _ h=>h.elim),aa,aa,aa,aa,aa⟩
 refine aR<|a6 ?_
 have an:=ba ah aI
 have I:(fun w'=>Wk aU w') aU.drew:=(Md.refl _ _).drew
 refine eG (fun w'=>Wk aU w') 15 aa wide I<|bp 0 aa (.slice c n cp) I<|bp 1 aa (aj q) I<|bp 2 aa (.slice c n cp) I<|bp 3 aa (aj q) I<|bF 4 aa (fun _=>dz ((q - 1:Nat):Int) aa aa<|bl ab ab) (fun _=>I)<|bp 5 aa (.slice c n cp) I<|bp 6 aa (aj q) I<|bF 7 aa (fun _=>dz ((q - 1:Nat):Int) aa aa<|bl ab ab) (fun _=>I)<|bF 8 aa (fun _=>bc bL aa aa ab<|aG.ok ((aY an).2)<|bN ab) (fun _=>I)<|eC 9 aa (fun w' C=>ld bZ aa<|cW (i:=q - 1) ((aY an).2.wk C) ab) I<|bp 10 aa (.slice c n cp) I<|bp 11 aa (aj q) I<|bF 12 aa (fun _=>bc bL aa aa ab<|aG.ok ((aY an).2)<|bN ab) (fun _=>I)<|eC 13 aa (fun w' C=>ld bZ aa<|cW (i:=q) ((aY an).2.wk C) ab) I<|bF 14 aa (fun _=>bc bL aa aa ab<|aG.ok ((aY an).2)<|bN ab) (fun _=>I) ?_
 refine dw 15 aa ag ag<|fI (u:=V[q - 1]!) (q) (ba an I) fz aa aa aa ab fun dl b9 cB=>bF 16 aa (fun _=>bc bL aa aa ab<|aG.ok ((aY an).2)<|bN ab) (fun h=>c7<|(show true =_ from by kernel_rfl).trans h)<|dw 17 aa ag ag<|fI (u:=V[q]!) (q - 1) cB fz aa aa aa ab fun bQ ca cC=> ?_
 have ch:bQ.ownsRow B 95 1 (.slice c n cp) n (LE aX<|bV V (q)<|q - 1):=cC
 have b8:Md (fun q=>(bC c n cp).ownBlock=some q) aU bQ:=Md.trans (I.mono fun _ _ h=>h.elim)<|Md.trans b9 ca
 exact eF ag<|bn<|a5<|rg aa<|au (aj q)<|p (dz ((q - 1:Nat):Int) aa aa<|bl ab ab)<|p aE<|nl<|tn<|⟨_,ab,q - 1,bV V q (q - 1),ab,(by rw [← bu,Vb (show 0 < q by omega) (by simpa using bq)]),ch,(Md.trans bh<|Md.trans (aI.mono fun _ _ h=>h.elim) b8),aa,aa,aa,aa,aa,aa,aa⟩
 exact ext<|bj<|bj<|be<|tn<|⟨V,(by rw [if_pos ab,← bu,Hv (.inl ab)]),ah,bh,aa,aa,aa,aa,aa⟩
 exact aR<|tn<|⟨(bV E i2<|i2 - 1),(by rw [if_neg ab]),bI,(Md.trans aW bB),aa,aa,aa,aa,aa⟩
 rintro aP bx ⟨am,bs,bH,bD,cU,cV,cX,cY,cZ⟩
 refine fx 0 cU<|fx 1 cV<|fx 2 cX<|fx 7 cY<|fx 8 cZ<|ak fun a1=>au (aj b)<|au (aj i2)<|p (dz ((b - i2:Nat):Int) aa aa<|bl ab ab)<|p (ge aa aa)<|nl<|a1<|cd aa (fun cv=> ?_) fun cv=> ?_
 refine ak fun a2=>au (aj i2)<|p (bK ((i2+1:Nat):Int) aa aa<|bl ab ab)<|ay<|a2<|az<|lp (fun Y aF aA=> ∃ (q:Nat) (O:Array Nat),(i2+1≤q∧q≤b)∧(Cv bM b q O=Cv bM b (i2+1) am)∧(aA.ownsRow B 95 1 (.slice c n cp) n<|LE aX O)∧(Md (fun q=>(bC c n cp).ownBlock=some q) w aA)∧(aF 0= .slice c n cp)∧(aF 1=aj a)∧(aF 2=aj b)∧(aF 7=aj i2)∧(aF 8=aj s)∧(aF 10=aj q)∧(b - q=Y)) _ ⟨i2+1,am,ab,aa,bH,bD,aa,aa,aa,aa,aa,aa,aa⟩ ?_
 rintro Y aF aA ⟨q,O,bJ,bv,ai,bi,c6,c8,da,db,dc,c9,rfl⟩
 refine fx 0 c6<|fx 1 c8<|fx 2 da<|fx 7 db<|fx 8 dc<|fx 10 c9<|aB fun a3=>ak fun a4=>au (aj q)<|au (aj b)<|p (lt aa aa)<|nl<|a4<|cd aa (fun cn=> ?_) fun cn=> ?_
 refine aR<|a3<|aB fun a5=>az<|aB fun a6=>aB fun a9=> ?_
 have dg:=eV ai
 have ac:(fun w'=>Wk aA w') aA.drew:=(Md.refl _ _).drew
 refine bR (fun w'=>Wk aA w') aa wide ac<|bY 0 aa (.slice c n cp) ac<|bY 1 aa (aj q) ac<|aK 2 aa (fun _ _=>bc bL aa aa ab<|aG.ok ((aY ai).2)<|bN ab) ac<|aK 3 aa (fun w' C=>ld bZ aa<|cW (i:=q) ((aY ai).2.wk C) ab) ac<|bY 4 aa (.slice c n cp) ac<|bY 5 aa (aj q) ac<|aK 6 aa (fun _ _=>dz ((q - 1:Nat):Int) aa aa<|bl ab ab) ac<|aK 7 aa (fun _ _=>bc bL aa aa ab<|aG.ok ((aY ai).2)<|bN ab) ac<|aK 8 aa (fun w' C=>ld bZ aa<|cW (i:=q - 1) ((aY ai).2.wk C) ab) ac<|he 9 aa ag<|cl lr (lA O[q]! O[q - 1]! _) aa fun dj aT cj=> ?_
 obtain ⟨rfl,b3⟩:=cj
 have aJ:(fun w'=>Wk aA w') aT:=Md.trans ac b3
 refine ⟨aJ,?_⟩
 refine aK 10 aa (fun _ _=>no aa) aJ<|hn ag<|a9<|cb aa (fun bk=> ?_) fun bk=> ?_
 exact ext<|bj<|nX aw<|bj<|bj<|be<|bn<|aQ<|rg aa<|au (aj s)<|p (bK ((s+1:Nat):Int) aa aa<|bl ab ab)<|p aE<|nl<|tn<|⟨_,ab,s+1,i2,O,ab,(by rw [← aL,pi_go (show 0 < 5 - s by omega) aS bd ab bs (show O=_ by rw [if_pos ab,← bv,HS (.inr<|by simpa using bk)])]; rfl),(ba ai aJ),(Md.trans bi<|aJ.mono fun _ _ h=>h.elim),aa,aa,aa,aa,aa,aa⟩
 refine aR<|a6 ?_
 have ap:=ba ai aJ
 have J:(fun w'=>Wk aT w') aT.drew:=(Md.refl _ _).drew
 refine eG (fun w'=>Wk aT w') 15 aa wide J<|bp 0 aa (.slice c n cp) J<|bp 1 aa (aj q) J<|bp 2 aa (.slice c n cp) J<|bp 3 aa (aj q) J<|bF 4 aa (fun _=>dz ((q - 1:Nat):Int) aa aa<|bl ab ab) (fun _=>J)<|bp 5 aa (.slice c n cp) J<|bp 6 aa (aj q) J<|bF 7 aa (fun _=>dz ((q - 1:Nat):Int) aa aa<|bl ab ab) (fun _=>J)<|bF 8 aa (fun _=>bc bL aa aa ab<|aG.ok ((aY ap).2)<|bN ab) (fun _=>J)<|eC 9 aa (fun w' C=>ld bZ aa<|cW (i:=q - 1) ((aY ap).2.wk C) ab) J<|bp 10 aa (.slice c n cp) J<|bp 11 aa (aj q) J<|bF 12 aa (fun _=>bc bL aa aa ab<|aG.ok ((aY ap).2)<|bN ab) (fun _=>J)<|eC 13 aa (fun w' C=>ld bZ aa<|cW (i:=q) ((aY ap).2.wk C) ab) J<|bF 14 aa (fun _=>bc bL aa aa ab<|aG.ok ((aY ap).2)<|bN ab) (fun _=>J) ?_
 refine dw 15 aa ag ag<|fI (u:=O[q - 1]!) (q) (ba ap J) fz aa aa aa ab fun dn ce cD=>bF 16 aa (fun _=>bc bL aa aa ab<|aG.ok ((aY ap).2)<|bN ab) (fun h=>c7<|(show true =_ from by kernel_rfl).trans h)<|dw 17 aa ag ag<|fI (u:=O[q]!) (q - 1) cD fz aa aa aa ab fun bS cg cE=> ?_
 have ci:bS.ownsRow B 95 1 (.slice c n cp) n (LE aX<|bV O (q)<|q - 1):=cE
 have cc:Md (fun q=>(bC c n cp).ownBlock=some q) aT bS:=Md.trans (J.mono fun _ _ h=>h.elim)<|Md.trans ce cg
 exact eF ag<|bn<|a5<|rg aa<|au (aj q)<|p (bK ((q+1:Nat):Int) aa aa<|bl ab ab)<|p aE<|nl<|tn<|⟨_,ab,q+1,bV O q (q - 1),ab,(by rw [← bv,VZ (show q < b by omega) (by simpa using bk)]),ci,(Md.trans bi<|Md.trans (aJ.mono fun _ _ h=>h.elim) cc),aa,aa,aa,aa,aa,aa,aa⟩
 exact ext<|bj<|bj<|be<|bn<|aQ<|rg aa<|au (aj s)<|p (bK ((s+1:Nat):Int) aa aa<|bl ab ab)<|p aE<|nl<|tn<|⟨_,ab,s+1,i2,O,ab,(by rw [← aL,pi_go (show 0 < 5 - s by omega) aS bd ab bs (show O=_ by rw [if_pos ab,← bv,HS (.inl ab)])]; rfl),ai,bi,aa,aa,aa,aa,aa,aa⟩
 exact aR<|bn<|aQ<|rg aa<|au (aj s)<|p (bK ((s+1:Nat):Int) aa aa<|bl ab ab)<|p aE<|nl<|tn<|⟨_,ab,s+1,i2,am,ab,(by rw [← aL,pi_go (show 0 < 5 - s by omega) aS bd ab bs (show am=_ by rw [if_neg ab])]; rfl),bH,bD,aa,aa,aa,aa,aa,aa⟩
 refine ext<|bj<|bj<|be<|bX<|ak fun aQ=>p aE<|nl<|aQ<|rt<|a8 aa ?_
 have al:(sO bM d a b)=(E,false):=by rw [← aL,show 5 - s=0 by omega]; rfl
 exact ⟨by rw [al]; rfl,by rw [al]; exact bE,bA⟩
end Go.Hb
end
section
namespace Go.Hb
open Go.Hb.dI
theorem T7 (d:Array Nat) (a b A:Nat) (B n cp:Nat) (c:Option Addr) (w:World) (hO:w.ownsRow B 95 1 (.slice c n cp) n (LE aX d)) (E:a≤A∧A < b∧b≤n) (G:n≤1099511627776):bf ao 292 (a7 [.slice c n cp,.int .i64 (a:Nat),.int .i64 (b:Nat),.int .i64 (A:Nat)]) w
 (fun v w'=> ∃ C ap d4,qe bM d a b A=(C,ap,d4)∧v= .tuple #[.int .i64 (C:Nat),.bool ap]∧w'.ownsRow B 95 1 (.slice c n cp) n (LE aX d4)∧Md (fun q=>(bC c n cp).ownBlock=some q) w w'):=
 (T6 d a b A B n cp c w hO E G).mono fun _ _ h=>⟨_,_,_,rfl,h⟩
theorem T9 (d:Array Nat) (a b A:Nat) (B n cp:Nat) (c:Option Addr) (w:World) (hO:w.ownsRow B 95 1 (.slice c n cp) n (LE aX d)) (E:a≤A∧A < b∧b≤n) (G:n≤1099511627776):bf ao 291 (a7 [.slice c n cp,.int .i64 (a:Nat),.int .i64 (b:Nat),.int .i64 (A:Nat)]) w
 (fun v w'=> ∃ C d4,uX bM d a b A=(C,d4)∧v= .int .i64 (C:Nat)∧w'.ownsRow B 95 1 (.slice c n cp) n (LE aX d4)∧Md (fun q=>(bC c n cp).ownBlock=some q) w w'):=
 (T8 d a b A B n cp c w hO E G).mono fun _ _ h=>⟨_,_,rfl,h⟩
theorem Ua (m:Nat) (d:Array Nat) (a b lim:Nat) (B n cp:Nat) (C:Option Addr) (w:World) (hO:w.ownsRow B 95 1 (.slice C n cp) n (LE aX d)) (hm:b - a < m) (dt:a≤b∧b≤n) (cJ:n≤255) (dA:lim≤64) (bV:Cr bM a b d):
 bf ao 268 (a7 [.slice C n cp,aj a,aj b,aj lim]) w (fun v w'=> ∃ d1,v= .tuple #[]∧nG a b d d1∧sN bM a b d1∧w'.ownsRow B 95 1 (.slice C n cp) n (LE aX d1)∧Md (fun q=>(bC C n cp).ownBlock=some q) w w'):=by
 have bE:True:=trivial
 induction m generalizing d a b lim w with
 | zero=>omega
 | succ m bE=>
   have bD:∀ (d:Array Nat) (a b lim:Nat) (w:World),w.ownsRow B 95 1 (.slice C n cp) n (LE aX d)→b - a < m→(a≤b∧b≤n)→lim≤64→Cr bM a b d→_:=fun d a b lim w h1 h2 h3 h4 h5=>bE d a b lim w h1 h2 h3 h4 h5
   have dy:=eV hO
   refine enter func268 aa ntmps268 aa<|ak fun bH=>ay<|bH<|ak fun bP=>p aE<|nl<|bP<|az<|lp (fun bo an bk=> ∃ (c A ae:Nat) (wb wp:Bool) (G:Array Nat),(a≤c∧c≤A∧A≤b∧ae≤64)∧(Cr bM c A G)∧(∀ R,nG c A G R→sN bM c A R→nG a b d R∧sN bM a b R)∧(bk.ownsRow B 95 1 (.slice C n cp) n<|LE aX G)∧(Md (fun q=>(bC C n cp).ownBlock=some q) w bk)∧(an 0= .slice C n cp)∧(an 1=aj c)∧(an 2=aj A)∧(an 3=aj ae)∧(an 8= .bool wb)∧(an 9= .bool wp)∧(A - c=bo)) _ ⟨a,b,lim,true,true,d,ab,bV,(fun R h1 h2=>⟨h1,h2⟩),hO,(Md.refl _ _),aa,aa,aa,aa,aa,aa,aa⟩ ?_
   rintro bo an bk ⟨c,A,ae,wb,wp,G,dD,aU,aq,aD,aM,cL,cM,cN,cO,cP,cQ,rfl⟩
   refine fx 0 cL<|fx 1 cM<|fx 2 cN<|fx 3 cO<|fx 8 cP<|fx 9 cQ ?_
   have dx:=eV aD
   refine az<|ak fun bQ=>au (aj A)<|au (aj c)<|p (dz ((A - c:Nat):Int) aa aa<|bl ab ab)<|p aE<|nl<|bQ<|aB fun bS=>ak fun bT=>p mv<|p (le aa aa)<|nl<|bT ?_
   refine cd aa (fun cu=> ?_) fun cu=> ?_
   refine ak fun aS=>au (.slice C n cp)<|au (aj c)<|au (aj A)<|e<|cl Mu (R5 G c A B n cp C _ aD ab ab) aa fun dG dL ch=> ?_
   obtain ⟨rfl,b6,b0⟩:=ch
   refine nl<|aS<|rt<|tr<|br<|tr<|br<|tK aa ?_
   obtain ⟨h1,h2⟩:=Go.Sort.insertionSort_holds uc G c A ab ab
   obtain ⟨aJ,aL⟩:=aq _ (h1)<|h2
   exact ⟨_,aa,aJ,aL,b6,Md.trans aM b0⟩
   refine aR<|bS<|aB fun aS=>ak fun bU=>au (aj ae)<|p (cx aa aa)<|nl<|bU<|cd aa (fun cv=> ?_) fun cv=> ?_
   refine ak fun ax=>au (.slice C n cp)<|au (aj c)<|au (aj A)<|e<|cl Mv (RD G c A B n cp C _ aD ab ab) aa fun v33 dM ci=> ?_
   obtain ⟨rfl,b7,b1⟩:=ci
   refine nl<|ax<|rt<|tr<|br<|tr<|br<|tK aa ?_
   obtain ⟨h1,h2⟩:=Go.Sort.heapSort_holds uc G c A ab ab
   obtain ⟨aJ,aL⟩:=aq _ (h1)<|h2
   exact ⟨_,aa,aJ,aL,b7,Md.trans aM b1⟩
   refine aR<|aS ?_
   refine e8 (fun ah wB=> ∃ (I:Nat) (d1:Array Nat),(I≤64)∧(nG c A G d1)∧(wB.ownsRow B 95 1 (.slice C n cp) n<|LE aX d1)∧(Md (fun q=>(bC C n cp).ownBlock=some q) w wB)∧(ah 0= .slice C n cp)∧(ah 1=aj c)∧(ah 2=aj A)∧(ah 3=aj I)∧(ah 8= .bool wb)∧(ah 9= .bool wp)∧(ah 10=aj (A - c))) ?_ ?_
   refine ak fun ax=>au (.bool wb)<|p (no aa)<|nl<|ax<|cb aa (fun cw=> ?_) fun cw=> ?_
   refine ak fun O=>au (.slice C n cp)<|au (aj c)<|au (aj A)<|e<|cl Mx (Lp G c A B n cp C _ aD ab cJ) aa fun v39 dN cj=> ?_
   obtain ⟨d1,rfl,cK,b8,b2⟩:=cj
   exact nl<|O<|rg aa<|au (aj ae)<|p (dz ((ae - 1:Nat):Int) aa aa<|bl ab ab)<|p aE<|nl<|tn<|⟨ae - 1,d1,ab,cK,b8,(Md.trans aM b2),aa,aa,aa,aa,aa,aa,aa⟩
   exact aR<|tn<|⟨ae,G,ab,(Jo G c A),aD,aM,aa,aa,aa,aa,aa,aa,aa⟩
   rintro ah wB ⟨I,d1,dB,bB,cc,b5,cR,cS,cU,cV,cX,cY,cT⟩
   refine fx 0 cR<|fx 1 cS<|fx 2 cU<|fx 3 cV<|fx 8 cX<|fx 9 cY<|fx 10 cT<|ak fun ax=>au (.slice C n cp)<|au (aj c)<|au (aj A)<|e<|cl My (Nn d1 c A B n cp C _ cc ab ab) aa fun v46 dO ck=> ?_
   obtain ⟨aO,dr,rfl,dC,aZ,bW⟩:=ck
   have bp:=Md.trans b5<|bW.mono fun _ _ h=>h.elim
   refine p mv<|p (xt aa aa)<|p (xt aa aa)<|p aE<|ay<|ax ?_
   refine e8 (fun Y bh=> ∃ (J:Nat) (bd:Int) (d2:Array Nat),(c≤J∧J < A)∧(nG c A G d2)∧(bh.ownsRow B 95 1 (.slice C n cp) n<|LE aX d2)∧(Md (fun q=>(bC C n cp).ownBlock=some q) w bh)∧(Y 0= .slice C n cp)∧(Y 1=aj c)∧(Y 2=aj A)∧(Y 3=aj I)∧(Y 8= .bool wb)∧(Y 9= .bool wp)∧(Y 10=aj (A - c))∧(Y 11=aj J)∧(Y 12= .int .i64 bd)) ?_ ?_
   refine ak fun O=>p mv<|p (cx aa aa)<|nl<|O<|cd aa (fun cy=> ?_) fun cy=> ?_
   refine ak fun ai=>au (.slice C n cp)<|au (aj c)<|au (aj A)<|e<|cl Mz (US d1 c A B n cp C _ aZ ab ab) aa fun v54 dP cm=> ?_
   obtain ⟨rfl,b9,b3⟩:=cm
   have du:=eV aZ
   exact nl<|ai<|ak fun aw=>au (aj A)<|p (dz ((A - 1:Nat):Int) aa aa<|bl ab ab)<|p mv<|au (aj c)<|p (dz ((aO - c:Nat):Int) aa aa<|bl ab ab)<|p (dz ((A - 1 - (aO - c):Nat):Int) aa aa<|bl ab ab)<|ay<|aw<|rg aa<|p aE<|nl<|tn<|⟨A - 1 - (aO - c),1,Cu d1 c A,ab,(q7 _ _ _ c A bB<|Go.Sort.reverseRange_holds d1 c A ab ab),b9,(Md.trans bp b3),aa,aa,aa,aa,aa,aa,aa,aa,aa⟩
   exact aR<|tn<|⟨aO,dr,d1,ab,bB,aZ,bp,aa,aa,aa,aa,aa,aa,aa,aa,aa⟩
   rintro Y bh ⟨J,bd,d2,aN,av,aF,aC,cZ,c0,c4,c5,c6,c7,c1,c2,c3⟩
   refine fx 0 cZ<|fx 1 c0<|fx 2 c4<|fx 3 c5<|fx 8 c6<|fx 9 c7<|fx 10 c1<|fx 11 c2<|fx 12 c3 ?_
   refine e8 (fun Z am=> ∃ (d3:Array Nat),(nG c A G d3)∧(am.ownsRow B 95 1 (.slice C n cp) n<|LE aX d3)∧(Md (fun q=>(bC C n cp).ownBlock=some q) w am)∧(Z 0= .slice C n cp)∧(Z 1=aj c)∧(Z 2=aj A)∧(Z 3=aj I)∧(Z 8= .bool wb)∧(Z 9= .bool wp)∧(Z 10=aj (A - c))∧(Z 11=aj J)) ?_ ?_
   refine ak fun O=>au (.bool wb)<|au (.bool wb)<|gb (t:=62) aa (fun cB=> ?_) fun cB=> ?_
   refine a6 aa (aH (.bool wp) aa)<|p (bO aa)<|p mv<|gb (t:=65) aa (fun cC=> ?_) fun cC=> ?_
   refine a6 aa (aH (.int .i64 bd) aa)<|a6 aa (cx aa aa)<|p (bO aa)<|nl<|O<|cd aa (fun cz=> ?_) fun cz=> ?_
   refine ak fun ai=>au (.slice C n cp)<|au (aj c)<|au (aj A)<|e<|cl MA (Un d2 c A B n cp C _ aF ab ab) aa fun v72 dQ cn=> ?_
   obtain ⟨rfl,bu,bq⟩:=cn
   have dv:=eV aF
   obtain ⟨bA,cE⟩:=Go.Sort.partialInsertionSort_holds uc d2 c A ab ab<|Cs aU ab av
   refine nl<|ai<|cb aa (fun bx=> ?_) fun bx=> ?_
   have dq:=cE bx
   refine rt<|tr<|br<|tr<|br<|tK aa ?_
   obtain ⟨aJ,aL⟩:=aq _ (q7 _ _ _ c A av bA)<|dq
   exact ⟨_,aa,aJ,aL,bu,Md.trans aC bq⟩
   exact aR<|tn<|⟨_,(q7 _ _ _ c A av bA),bu,(Md.trans aC bq),aa,aa,aa,aa,aa,aa,aa,aa⟩
   exact aR<|tn<|⟨d2,av,aF,aC,aa,aa,aa,aa,aa,aa,aa,aa⟩
   exact aT aa<|aT aa<|p (bG aa)<|nl<|O<|cf aa<|aR<|tn<|⟨d2,av,aF,aC,aa,aa,aa,aa,aa,aa,aa,aa⟩
   exact aT aa<|p (bG aa)<|p mv<|aT aa<|aT aa<|p (bG aa)<|nl<|O<|cf aa<|aR<|tn<|⟨d2,av,aF,aC,aa,aa,aa,aa,aa,aa,aa,aa⟩
   rintro Z am ⟨d3,aI,ad,aV,c8,c9,dc,dd,de,df,da,db⟩
   refine fx 0 c8<|fx 1 c9<|fx 2 dc<|fx 3 dd<|fx 8 de<|fx 9 df<|fx 10 da<|fx 11 db ?_
   refine e8 (fun ac bi=>(bi.ownsRow B 95 1 (.slice C n cp) n<|LE aX d3)∧(Md (fun q=>(bC C n cp).ownBlock=some q) w bi)∧(ac 0= .slice C n cp)∧(ac 1=aj c)∧(ac 2=aj A)∧(ac 3=aj I)∧(ac 8= .bool wb)∧(ac 9= .bool wp)∧(ac 10=aj (A - c))∧(ac 11=aj J)) ?_ ?_
   refine aB fun O=> ?_
   have cA:=eV ad
   have E:(fun w'=>Wk am w') am.drew:=(Md.refl _ _).drew
   refine bR (fun w'=>Wk am w') aa wide E<|bY 0 aa (aj c) E<|aK 1 aa (fun _ _=>gt aa aa) E<|aK 2 aa (fun _ _=>mv) E<|kH (t:=75) aa (fun cD=> ?_) fun cD=> ?_
   refine bw 3 aa (fun _ _=>aH (.slice C n cp) aa) E<|bw 4 aa (fun _ _=>aH (aj c) aa) E<|bw 5 aa (fun _ _=>dz ((c - 1:Nat):Int) aa aa<|bl ab ab) E<|bw 6 aa (fun _ _=>bc bL aa aa ab<|aG.ok ((aY ad).2)<|bN ab) E<|bw 7 aa (fun w' a2=>ld bZ aa<|cW (i:=c - 1) ((aY ad).2.wk a2) ab) E<|bw 8 aa (fun _ _=>aH (.slice C n cp) aa) E<|bw 9 aa (fun _ _=>aH (aj J) aa) E<|bw 10 aa (fun _ _=>bc bL aa aa ab<|aG.ok ((aY ad).2)<|bN ab) E<|bw 11 aa (fun w' a2=>ld bZ aa<|cW (i:=J) ((aY ad).2.wk a2) ab) E<|lV 12 aa ag aa aa aa<|cl lr (lA d3[c - 1]! d3[J]! _) aa fun v85 ds co=> ?_
   obtain ⟨rfl,bX⟩:=co
   have al:(fun w'=>Wk am w') ds:=Md.trans E bX
   refine ⟨al,?_⟩
   refine bw 13 aa (fun _ _=>no aa) al<|aK 14 aa (fun _ _=>bO aa) al<|hn ag<|O<|cb aa (fun bz=> ?_) fun bz=> ?_
   refine ak fun ai=>au (.slice C n cp)<|au (aj c)<|au (aj A)<|au (aj J)<|e<|cl MB (T9 d3 c A J B n cp C _ (ba ad al) ab ab) aa fun dH dR cq=> ?_
   obtain ⟨V,d4,bg,rfl,ca,b4⟩:=cq
   obtain ⟨bY,cF,cG,a5,a8⟩:=Go.Sort.round_eq uc (Go.Sort.partitionEqual_holds bM) (show 0 < c by omega) aN.1 aN.2 ab (Cs aU ab aI) (by simpa using bz) bg
   exact ay<|ai<|ak fun aw=>p mv<|p aE<|nl<|aw<|ext<|bj<|be<|tn<|⟨_,ab,V,A,I,wb,wp,d4,ab,a5,(fun R h1 h2=>by obtain ⟨h3,h4⟩:=a8 R h1 h2; exact aq R (q7 _ _ _ c A aI h3) h4),ca,(Md.trans aV<|Md.trans (al.mono fun _ _ h=>h.elim) b4),aa,aa,aa,aa,aa,aa,aa⟩
   exact aR<|tn<|⟨(ba ad al),(Md.trans aV<|al.mono fun _ _ h=>h.elim),aa,aa,aa,aa,aa,aa,aa,aa⟩
   exact bm 3 aa E<|bm 4 aa E<|bm 5 aa E<|bm 6 aa E<|bm 7 aa E<|bm 8 aa E<|bm 9 aa E<|bm 10 aa E<|bm 11 aa E<|bm 12 aa E<|bm 13 aa E<|aK 14 aa (fun _ _=>bG aa) E<|hn ag<|O<|cf aa<|aR<|tn<|⟨(ba ad (Md.refl _ _).drew),aV.drew,aa,aa,aa,aa,aa,aa,aa,aa⟩
   rintro ac bi ⟨bv,bt,dg,dh,dk,dl,dn,dp,di,dj⟩
   refine fx 0 dg<|fx 1 dh<|fx 2 dk<|fx 3 dl<|fx 8 dn<|fx 9 dp<|fx 10 di<|fx 11 dj<|ak fun O=>au (.slice C n cp)<|au (aj c)<|au (aj A)<|au (aj J)<|e<|cl MC (T7 d3 c A J B n cp C _ bv ab ab) aa fun dI bF cs=> ?_
   obtain ⟨V,ap,d4,bg,rfl,a0,bs⟩:=cs
   have cA:=eV bv
   have dw:=eV a0
   obtain ⟨bY,cF,cG,a5,a8,cH,cI⟩:=Go.Sort.round_part uc (Go.Sort.partition_holds bM) aN.1 aN.2 ab (Cs aU ab aI) bg
   refine p mv<|p (xt aa aa)<|p (xt aa aa)<|p aE<|ay<|O<|aB fun ai=>rg aa<|p mv<|ay<|ai<|ak fun aw=>p mv<|au (aj c)<|p (dz ((V - c:Nat):Int) aa aa<|bl ab ab)<|au (aj A)<|p mv<|p (dz ((A - V:Nat):Int) aa aa<|bl ab ab)<|p aE<|p aE<|nl<|aw<|ak fun bI=>au (aj<|A - c)<|p (pU (((A - c) / 8:Nat):Int) aa aa ab<|bl ab ab)<|ay<|bI ?_
   refine ak fun bJ=>p mv<|p mv<|p (lt aa aa)<|nl<|bJ<|cd aa (fun ct=> ?_) fun ct=> ?_
   refine ak fun aP=>p mv<|p mv<|p (ge aa aa)<|ay<|aP<|ak fun aQ=>au (.slice C n cp)<|au (aj c)<|p mv<|au (aj I)<|e<|cl y5 (bD d4 c V I bF a0 ab ab ab a5) aa fun dE dJ ce=> ?_
   obtain ⟨aA,rfl,a9,bb,a1,aW⟩:=ce
   obtain ⟨a3,a4⟩:=cH aA a9 bb
   exact nl<|aQ<|rg aa<|p mv<|p (bK ((V+1:Nat):Int) aa aa<|bl ab ab)<|p aE<|nl<|bn<|tn<|⟨_,ab,V+1,A,I,decide (((V - c:Nat):Int)≥(((A - c) / 8:Nat):Int)),ap,aA,ab,a3,(fun R h1 h2=>by obtain ⟨h3,h4⟩:=a4 R h1 h2; exact aq R (q7 _ _ _ c A aI h3) h4),a1,(Md.trans bt<|Md.trans bs aW),aa,aa,aa,aa,aa,aa,aa⟩
   refine ak fun aP=>p mv<|p mv<|p (ge aa aa)<|ay<|aP<|ak fun aQ=>au (.slice C n cp)<|p mv<|p (bK ((V+1:Nat):Int) aa aa<|bl ab ab)<|au (aj A)<|au (aj I)<|e<|cl y5 (bD d4 (V+1) A I bF a0 ab ab ab a8) aa fun dF dK cg=> ?_
   obtain ⟨aA,rfl,a9,bb,a1,aW⟩:=cg
   obtain ⟨a3,a4⟩:=cI aA a9 bb
   exact nl<|aQ<|rg aa<|p mv<|p aE<|nl<|bn<|tn<|⟨_,ab,c,V,I,decide (((A - V:Nat):Int)≥(((A - c) / 8:Nat):Int)),ap,aA,ab,a3,(fun R h1 h2=>by obtain ⟨h3,h4⟩:=a4 R h1 h2; exact aq R (q7 _ _ _ c A aI h3) h4),a1,(Md.trans bt<|Md.trans bs aW),aa,aa,aa,aa,aa,aa,aa⟩
theorem VA (d:Array Nat) (B n cp:Nat) (c:Option Addr) (w:World) (hO:w.ownsRow B 95 1 (.slice c n cp) n (LE aX d)) (I:n≤255):
 bf ao 241 (a7 [.slice c n cp]) w (fun v w'=> ∃ d1,v= .tuple #[]∧nG 0 n d d1∧sN bM 0 n d1∧w'.ownsRow B 95 1 (.slice c n cp) n (LE aX d1)∧Md (fun q=>(bC c n cp).ownBlock=some q) w w'):=by
 refine enter func241 aa ntmps241 aa<|ak fun C=>au (.slice c n cp)<|p (bP oq aa aa)<|ay<|C<|rg aa<|au (.slice c n cp)<|p mv<|p mv<|p (n2 H9 sA aa<|ow ab)<|e<|cl DU (Gj n _ ab) aa fun v9 V G=> ?_
 obtain ⟨rfl,A⟩:=G
 have J:=wy (n:=n) ab
 refine e<|cl y5 (Ua (n+1) d 0 n (kn n) B n cp c _ (ba hO A) ab ab I ab<|.inl aa) aa fun v10 O E=> ?_
 obtain ⟨d1,rfl,h1,h2,h3,h4⟩:=E
 exact nl<|f0 aa<|⟨d1,aa,h1,h2,h3,Md.trans (A.mono fun _ _ h=>h.elim) h4⟩
end Go.Hb
end
section
namespace Go.Hb.fw
open Go.Hb.dI
theorem sv {w:World} {B e n cp i:Nat} {a:Option Addr} {d:Array Nat} (h:w.ownsRow B e 1 (.slice a n cp) n (LE aX d)):aG w.heap (fD a cp i 1) ((LE aX d).drop i):=by
 have :=(aY h).2.drop (cap:=cp) (k:=i) (size:=1)<|by rw [ub]; have h1:=eV h; have h2:=(aY h).1; omega
 rwa [Nat.mul_one] at this
theorem SZ (l:List Nat):l.map aX=LE aX l.toArray:=by simp [LE]
theorem rE (l:List Nat):(l.map aX).all eQ=true :=by
 rw [List.all_eq_true]; intro v c; obtain ⟨x,_,rfl⟩:=List.mem_map.1 c; rfl
theorem We (d:Array Nat) (k:Nat):(LE aX d).take k=(d.toList.take k).map aX:=by simp [LE,List.map_take]
theorem uw (b:UInt8):iz b=decide ((b.toNat:Int) > 32∧(b.toNat:Int) < 127∧(b.toNat:Int)≠47∧(b.toNat:Int)≠44∧(b.toNat:Int)≠35):=by
 unfold iz; exact decide_eq_decide.2 ab
theorem A7 {w:World} {B e size n cp:Nat} {a:Option Addr} {xs:List Value} (h:w.ownsRow B e size (.slice a n cp) n xs) (hn:0 < n):a≠none:=by
 rintro rfl
 rcases h.2 with ⟨_,h5⟩ | ⟨g,cap,cur,h4,_⟩
 · omega
 · simp at h4
theorem rN (a:Option Addr) (n c:Nat) (xs:List Value) (w:World) (Y:aG w.heap a xs) (ai:xs.length=n*1) (ad:a=none→n=0) (h1:xs.all eQ=true) (hn:n≤1048576):
 bf ao 44 (a7 [.slice a n c]) w (fun v w'=>bq w' w.heap.size 95 1 v n xs∧Wk w w'):=by
 refine enter func44 aa ntmps44 aa<|ak fun I=>ay<|I<|aB fun J=>ak fun O=>au (.slice a n c)<|p (pN oq aa aa)<|nl<|O<|cb aa (fun E=> ?_) fun E=> ?_
 have ae:a=none:=by simpa using E
 refine ak fun A=>ay<|A<|rt<|tr<|a8 aa ?_
 have ag:=ad ae
 subst ag
 obtain rfl :=List.eq_nil_of_length_eq_zero (show xs.length=0 by omega)
 exact ⟨World.ownsRow_nil _ _ _ _,Md.refl _ _⟩
 refine aR<|J<|ak fun A=>e<|pJ xv fun an ax aq C V=> ?_
 have G:=V w.heap.size ab
 refine au (.slice a n c)<|e<|ap xv (G) aa (by have :=C.size; omega) aa (Y.wk C.md) (ai) (h1) ab ab fun al am ah ac aw av=> ?_
 have Z:=Wk.own C.md G ac<|cj _
 refine ay<|A<|rt<|a8 aa ?_
 have aj:bq am w.heap.size 95 1 al n xs:=by simpa using ah
 exact ⟨aj,Z⟩
theorem Oe (d:Array Nat) (B n cp:Nat) (c:Option Addr) (w:World) (hO:w.ownsRow B 95 1 (.slice c n cp) n (LE aX d)) (bt:n≤1048576):
 bf ao 242 (a7 [.slice c n cp]) w (fun v w'=> ∃ k,v= .slice c k cp∧k=(gA d.toList).length∧bq w' B 95 1 (.slice c k cp) k ((gA d.toList).map aX)∧Md (fun q=>(bC c n cp).ownBlock=some q) w w'):=by
 have bs:=eV hO
 have bo:=(aY hO).1
 refine enter func242 aa ntmps242 aa<|ak fun aC=>ay<|aC<|aB fun aN=>ak fun aO=>au (.slice c n cp)<|p (bP oq aa aa)<|p (lt aa aa)<|nl<|aO<|cd aa (fun a2=> ?_) fun a2=> ?_
 refine ak fun ap=>au (.slice c n cp)<|p (cg (.slice c n cp) aa)<|nl<|ap<|rt<|tr<|a8 aa ?_
 have am:gA d.toList=d.toList:=by
  have aw:d.toList.length < 2:=by rw [sx]; omega
  revert aw
  generalize d.toList=l
  intro aw
  match l,aw with
  | [],_=>rfl
  | [x],_=>rfl
 exact ⟨n,aa,by rw [am,sx]; omega,by rw [am]; exact hO,Md.refl _ _⟩
 refine aR<|aN<|aB fun ap=>ak fun aP=>ay<|aP<|az<|lp (fun Y ax ae=> ∃ (i:Nat),(1≤i∧i≤n∧2≤n)∧(gA (d.toList.take i)=d.toList.take i)∧(Wk w ae)∧(ax 0= .slice c n cp)∧(ax 3=aj i)∧(n - i=Y)) _ ⟨1,ab,(by have h1:=xE (d:=d) (i:=0) ab; rw [h1]; rfl),(Md.refl _ _),aa,aa,aa⟩ ?_
 rintro Y ax ae ⟨i,hi,Z,I,bd,bg,rfl⟩
 refine fx 0 bd<|fx 3 bg<|aB fun aQ=>ak fun aS=>au (aj i)<|au (.slice c n cp)<|p (bP oq aa aa)<|p (lt aa aa)<|nl<|aS<|cd aa (fun aW=> ?_) fun aW=> ?_
 refine aR<|aQ<|aB fun aq=>az<|aB fun aT=> ?_
 have C:(fun w'=>Wk ae w') ae.drew:=(Md.refl _ _).drew
 refine bR (fun w'=>Wk ae w') aa wide C<|bY 0 aa (.slice c n cp) C<|bY 1 aa (aj i) C<|aK 2 aa (fun _ _=>bc bL aa aa ab<|aG.ok ((aY hO).2)<|bN ab) C<|aK 3 aa (fun w' J=>ld bZ aa<|Wk.aJ J<|cW (i:=i) (aY<|ba hO I).2 ab) C<|bY 4 aa (.slice c n cp) C<|bY 5 aa (aj i) C<|aK 6 aa (fun _ _=>dz ((i - 1:Nat):Int) aa aa<|bl ab ab) C<|aK 7 aa (fun _ _=>bc bL aa aa ab<|aG.ok ((aY hO).2)<|bN ab) C<|aK 8 aa (fun w' J=>ld bZ aa<|Wk.aJ J<|cW (i:=i - 1) (aY<|ba hO I).2 ab) C<|aK 9 aa (fun _ _=>cx aa aa) C<|hn ag<|aT<|cd aa (fun aZ=> ?_) fun aZ=> ?_
 have heq:d[i - 1]! =d[i]! :=ab
 refine ak fun aD=>au (.slice c n cp)<|au (aj i)<|p (uy bL aa aa ab)<|ay<|aD<|aB fun aF=>ak fun aH=>ay<|aH<|az<|lp (fun Y ah V=> ∃ (k i2:Nat) (E:Array Nat),(1≤k∧k < i+i2∧1≤i2∧i2≤n - i)∧(E.toList.drop k=d.toList.drop k)∧(E.toList.take k=gA (d.toList.take<|i+i2))∧(V.ownsRow B 95 1 (.slice c n cp) n<|LE aX E)∧(Md (fun q=>(bC c n cp).ownBlock=some q) w V)∧(ah 0= .slice c n cp)∧(ah 3=aj k)∧(ah 4= .slice (fD c cp i 1) (n - i) (cp - i))∧(ah 5=aj i2)∧(n - i2=Y)) _ ⟨i,1,d,ab,aa,(by rw [vQ ab ab,if_pos heq,Z]),(ba hO<|Md.trans I (Md.refl _ _).drew),((Md.trans I (Md.refl _ _).drew).mono fun _ _ h=>h.elim),aa,aa,aa,aa,aa⟩ ?_
 rintro Y ah V ⟨k,i2,E,hk,O,ac,G,av,bh,bi,bk,bm,rfl⟩
 refine fx 0 bh<|fx 3 bi<|fx 4 bk<|fx 5 bm ?_
 have bp:=eV G
 refine aB fun aI=>ak fun aL=>au (aj i2)<|au (.slice (fD c cp i 1) (n - i)<|cp - i)<|p (bP oq aa aa)<|p (lt aa aa)<|nl<|aL<|cd aa (fun a0=> ?_) fun a0=> ?_
 refine aR<|aI<|aB fun ai=>az<|aB fun an=> ?_
 have A:(fun w'=>Wk V w') V.drew:=(Md.refl _ _).drew
 refine bR (fun w'=>Wk V w') aa wide A<|bY 0 aa (.slice (fD c cp i 1) (n - i)<|cp - i) A<|bY 1 aa (aj i2) A<|aK 2 aa (fun _ _=>bc bL aa aa ab<|aG.ok (sv G)<|Az ab) A<|aK 3 aa (fun w' J=>ld bZ aa<|Wk.aJ J<|Ay (j:=i2) (sv G) ab) A<|bY 4 aa (.slice (fD c cp i 1) (n - i)<|cp - i) A<|bY 5 aa (aj i2) A<|aK 6 aa (fun _ _=>dz ((i2 - 1:Nat):Int) aa aa<|bl ab ab) A<|aK 7 aa (fun _ _=>bc bL aa aa ab<|aG.ok (sv G)<|Az ab) A<|aK 8 aa (fun w' J=>ld bZ aa<|Wk.aJ J<|Ay (j:=i2 - 1) (sv G) ab) A<|aK 9 aa (fun _ _=>gF aa aa) A<|hn ag<|an<|cd aa (fun a1=> ?_) fun a1=> ?_
 have al:=ba G A
 have g1:=vS O (show k≤i+i2 by omega)
 have g2:=vS O (show k≤i+(i2 - 1) by omega)
 have a5:¬d[i+i2 - 1]! =d[i+i2]! :=by rw [show i+i2 - 1=i+(i2 - 1) by omega,← g1,← g2]; omega
 exact ak fun aM=>au (.slice c n cp)<|au (aj k)<|au (.slice (fD c cp i 1) (n - i)<|cp - i)<|au (aj i2)<|p (bc bL aa aa ab<|aG.ok (sv al)<|Az ab)<|p (ld bZ aa<|Ay (j:=i2) (sv al) ab)<|p (bc bL aa aa ab<|aG.ok ((aY al).2)<|bN ab)<|e<|fI (u:=E[i+i2]!) (k) al fz aa aa aa ab fun bu aU a9=>nl<|aM<|rg aa<|au (aj k)<|p (bK ((k+1:Nat):Int) aa aa<|bl ab ab)<|p aE<|nl<|bn<|ai<|rg aa<|au (aj i2)<|p (bK ((i2+1:Nat):Int) aa aa<|bl ab ab)<|p aE<|nl<|tn<|⟨_,ab,k+1,i2+1,E.setIfInBounds k E[i+i2]!,ab,(by rw [set_drop ab]; have h3:=congrArg (List.drop 1) O; rwa [yc,yc] at h3),(by rw [Bs ab,ac,show i+(i2+1)=i+i2+1 from aa,vQ ab ab,if_neg a5,g1]),a9,(Md.trans av<|Md.trans (A.mono fun _ _ h=>h.elim) aU),aa,aa,aa,aa,aa⟩
 have g1:=vS O (show k≤i+i2 by omega)
 have g2:=vS O (show k≤i+(i2 - 1) by omega)
 have a3:d[i+i2 - 1]! =d[i+i2]! :=by rw [show i+i2 - 1=i+(i2 - 1) by omega,← g1,← g2]; omega
 exact aR<|bn<|ai<|rg aa<|au (aj i2)<|p (bK ((i2+1:Nat):Int) aa aa<|bl ab ab)<|p aE<|nl<|tn<|⟨_,ab,k,i2+1,E,ab,O,(by rw [ac,show i+(i2+1)=i+i2+1 from aa,vQ ab ab,if_pos a3]),(ba G (Md.refl _ _).drew),av.drew,aa,aa,aa,aa,aa⟩
 refine ext<|bj<|bj<|be<|aF<|ak fun ai=>au (.slice c n cp)<|au (aj k)<|p (uy bL aa aa ab)<|e<|NR (k:=k) oq Xy aa G aa aa ab fun bv aV bb=>nl<|ai<|ak fun an=>au (.slice c n cp)<|au (aj k)<|p (ux bL aa aa ab)<|ay<|an<|rt<|br<|tr<|tr<|br<|tr<|a8 aa ?_
 have am:d.toList.take (i+i2)=d.toList:=fu<|by rw [sx]; omega
 rw [am] at ac
 have a4:k=(gA d.toList).length:=by rw [← ac,eE,sx]; omega
 refine ⟨k,aa,a4,?_,Md.trans av aV⟩
 have aA:=G4 bb (show k≤n by omega)<|A7 hO ab
 rw [Nat.mul_one,List.take_append,fu (l:=(LE aX E).take k) (by rw [eE]; omega),eE,ub,show k - min k E.size=0 by omega,pB,List.append_nil,We,ac] at aA
 exact aA
 have a6:¬d[i - 1]! =d[i]! :=ab
 exact aR<|bn<|aq<|rg aa<|au (aj i)<|p (ad aa aa<|cz ab)<|p aE<|nl<|tn<|⟨_,ab,i+1,ab,(by rw [vQ ab ab,if_neg a6,Z,xE ab]),(Md.trans I (Md.refl _ _).drew),aa,aa,aa⟩
 refine ext<|bj<|bj<|be<|ap<|ak fun aq=>au (.slice c n cp)<|p (cg (.slice c n cp) aa)<|nl<|aq<|rt<|a8 aa ?_
 rw [show d.toList.take i=d.toList from fu (by rw [sx]; omega)] at Z
 exact ⟨n,aa,by rw [Z,sx]; omega,by rw [Z]; exact ba hO I,I.mono fun _ _ h=>h.elim⟩
theorem wY (l:List Nat) (a:Option Addr) (c:Nat) (w:World) (Z:aG w.heap a (l.map aX)) (al:a=none→l.length=0) (am:l.length≤255):
 bf ao 206 (a7 [.slice a l.length c]) w (fun v w'=>bq w' w.heap.size 95 1 v (kZ l).length ((kZ l).map aX)∧Wk w w'):=by
 refine enter func206 aa ntmps206 aa<|ak fun J=>ay<|J<|ak fun O=>au (.slice a l.length c)<|e<|cl rL (rN a l.length c (l.map aX) _ Z (by simp) al (rE l) ab) aa fun v5 aw ah=> ?_
 obtain ⟨E,ac⟩:=ah
 obtain ⟨A,C,rfl⟩:=c5 E
 rw [SZ] at E
 refine ay<|O<|ak fun V=>au (.slice A l.length C)<|e<|cl Mk (VA l.toArray w.heap.size l.length C A _ E am) aa fun av ax ai=> ?_
 obtain ⟨d1,rfl,an,ap,G,ae⟩:=ai
 refine nl<|V<|ak fun Y=>au (.slice A l.length C)<|e<|cl Ml (Oe d1 w.heap.size l.length C A _ G ab) aa fun v9 aq aj=> ?_
 obtain ⟨k,rfl,hk,I,ag⟩:=aj
 have ad:Wk w aq:=Wk.own (Wk.own ac E ae<|cj _) G ag<|cj _
 refine ay<|Y<|rt<|a8 aa ?_
 rw [Vz an ap] at hk I
 exact ⟨by rw [← hk]; exact I,ad⟩
theorem Bt (b:UInt8) (w:World):
 bf ao 265 (a7 [.int .u8 b.toNat]) w (fun v w'=>v= .bool (iz b)∧Wk w w'):=by
 refine enter func265 aa ntmps265 aa<|ak fun A=>ay<|A<|ak fun c=>au (.int .u8 b.toNat)<|p (gt aa aa)<|p mv<|gs (t:=5) aa (fun G=> ?_) fun G=> ?_
 refine a6 aa (aH (.int .u8 b.toNat) aa)<|a6 aa (lt aa aa)<|p (bO aa)<|p mv<|gs (t:=9) aa (fun I=> ?_) fun I=> ?_
 refine a6 aa (aH (.int .u8 b.toNat) aa)<|a6 aa (gF aa aa)<|p (bO aa)<|p mv<|gs (t:=13) aa (fun C=> ?_) fun C=> ?_
 refine a6 aa (aH (.int .u8 b.toNat) aa)<|a6 aa (gF aa aa)<|p (bO aa)<|p mv<|gs (t:=17) aa (fun E=> ?_) fun E=> ?_
 exact a6 aa (aH (.int .u8 b.toNat) aa)<|a6 aa (gF aa aa)<|p (bO aa)<|ay<|c<|rt<|a8 aa<|⟨by show bU (decide _)=_; rw [uw]; exact bv (by constructor <;> intro h <;> first | exact ⟨ab,ab,ab,ab,h⟩ | exact h.2.2.2.2),Md.refl _ _⟩
 exact aT aa<|aT aa<|p (bG aa)<|ay<|c<|rt<|a8 aa<|⟨by show bU false =_; rw [uw,decide_eq_false ab],Md.refl _ _⟩
 exact aT aa<|aT aa<|p (bG aa)<|p mv<|aT aa<|aT aa<|p (bG aa)<|p aE<|nl<|c<|rt<|a8 aa<|⟨by show bU false =_; rw [uw,decide_eq_false ab],Md.refl _ _⟩
 exact aT aa<|aT aa<|p (bG aa)<|p mv<|aT aa<|aT aa<|p (bG aa)<|p mv<|aT aa<|aT aa<|p (bG aa)<|ay<|c<|rt<|a8 aa<|⟨by show bU false =_; rw [uw,decide_eq_false ab],Md.refl _ _⟩
 exact aT aa<|aT aa<|p (bG aa)<|p mv<|aT aa<|aT aa<|p (bG aa)<|p mv<|aT aa<|aT aa<|p (bG aa)<|p mv<|aT aa<|aT aa<|p (bG aa)<|p aE<|nl<|c<|rt<|a8 aa<|⟨by show bU false =_; rw [uw,decide_eq_false ab],Md.refl _ _⟩
theorem Gb (k:Nat) (w:World):
 bf ao 236 (a7 [aj k]) w (fun v w'=>v= .bool (decide (1≤k∧k≤3))∧Wk w w'):=by
 refine enter func236 aa ntmps236 aa<|ak fun A=>ay<|A<|ak fun c=>au (aj k)<|p (ge aa aa)<|p mv<|gs (t:=5) aa (fun C=> ?_) fun C=> ?_
 exact a6 aa (aH (aj k) aa)<|a6 aa (le aa aa)<|p (bO aa)<|ay<|c<|rt<|a8 aa<|⟨by show bU (decide _)=_; exact bv ab,Md.refl _ _⟩
 exact aT aa<|aT aa<|p (bG aa)<|ay<|c<|rt<|a8 aa<|⟨by show bU false =_; rw [decide_eq_false ab],Md.refl _ _⟩
end Go.Hb.fw
end
