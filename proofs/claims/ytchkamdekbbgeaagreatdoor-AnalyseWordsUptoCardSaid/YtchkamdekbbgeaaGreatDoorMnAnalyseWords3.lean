/-
  Walks and plain laws that the law rests on, laid together. No conditions but those that each theorem names.
-/
import Derived.Test.YtchkamdekbbgeaaGreatDoorMnAnalyseWords2
set_option linter.unusedVariables false
set_option maxRecDepth 20000
set_option maxHeartbeats 1000000
open Bool renaming noConfusion→ep
open Go.IntKind renaming u64→e8
open Go.Proofs.Tryz renaming prog→aw
open Go.Sort renaming Below→GA,PermIn→pR,SortedIn→vJ,heapBuild→PH,heapSort→PI,insInner→PJ,insertionSort→PK,partLoop→GC,partialIns→sM,partialInsertionSort→vK,partition→sN,partitionEqual→yq,permIn_refl→PL,permIn_trans→tW,reverseRange→GD,scanDown→pS,scanSorted→vL,scanUp→pT,shiftDown→Bx,shiftUp→GF,siftDown→sO,swp→dq
open Go.Sort.Below renaming perm→GB
open Go.Value renaming bool→ca,oneCell'→gw,pointer→By,slice→bW,tuple→gV
open Go.World renaming ownsRow→bz
open List renaming drop_drop→tX,drop_eq_nil_of_le→iJ,length_append→bL,length_eq_zero_iff→yy,length_pos_iff→l7,length_singleton→fu,length_take→dP,take_of_length_le→e9,take_zero→mA,toArray→bh
open Nat renaming blt→iL,le_refl→cU,lt_or_ge→fM
open Prod renaming fst→iN
open UInt8 renaming toNat_lt→jy
open Go.Proofs.Tryz
open Go.Proofs

section
namespace Go.Hb
abbrev ak (n:Nat):Value:= .int .i64 (n:Nat)
abbrev aV (b:Nat):Value:= .pointer<|some ⟨b,0,none⟩
variable {P:Program} {N:Fm} {ops:Array Oper} {Q:Exit→(Nat→Value)→World→Prop} {σ:Nat→Value} {w:World} {S:World→Prop} {r fuel:Nat} {bw:Array Bool} {d:Nat} {op:Op} {ty:TypeId} {pos :String} {af:Array Edge} {v:Value}
theorem bR (i:Nat) (hi:ops[i]? =some ⟨some d,op,ty,pos,af,none⟩) (E:∀ w,S w→(execOp (ev N σ) ⟨some d,op,ty,pos,af,none⟩).run P w= .ok (.value v) w) (A:S w) (k:fF P N ops Q S fuel (bw.setIfInBounds i true) (dT σ d v) w) (C:kI N.F ops bw i=true :=by kernel_rfl):fF P N ops Q S (fuel+1) bw σ w:=hp i hi C E A k
theorem ea (i:Nat) (hi:ops[i]? =some ⟨some d,op,ty,pos,af,none⟩) (E:∀ w,S w→(execOp (ev N σ) ⟨some d,op,ty,pos,af,none⟩).run P w= .ok (.value v) w) (A:S w) (k:hY P N ops Q S r fuel (bw.setIfInBounds i true) (dT σ d v) w) (C:DP N.F ops bw r i=true :=by kernel_rfl):hY P N ops Q S r (fuel+1) bw σ w:=k8 i hi C E A k
theorem ko (i:Nat) (hi:ops[i]? =some ⟨some d,op,ty,pos,af,none⟩) (E:∀ w,(execOp (ev N σ) ⟨some d,op,ty,pos,af,none⟩).run P w= .ok (.value v) w) (A:bw.getD r false =false→S w) (k:hY P N ops Q S r fuel (bw.setIfInBounds i true) (dT σ d v) w) (C:xq N.F ops bw r i=true :=by kernel_rfl):hY P N ops Q S r (fuel+1) bw σ w:=dH i hi C E A k
theorem aR (i:Nat) (hi:ops[i]? =some ⟨some d,op,ty,pos,af,none⟩) (E:∀ {w},(execOp (ev N σ) ⟨some d,op,ty,pos,af,none⟩).run P w= .ok (.value v) w) (A:S w) (k:fF P N ops Q S fuel (bw.setIfInBounds i true) (dT σ d v) w) (C:kI N.F ops bw i=true :=by kernel_rfl):fF P N ops Q S (fuel+1) bw σ w:=hp i hi C (fun _ _=>E) A k
theorem eJ (i:Nat) (hi:ops[i]? =some ⟨some d,op,ty,pos,af,none⟩) (E:∀ {w},(execOp (ev N σ) ⟨some d,op,ty,pos,af,none⟩).run P w= .ok (.value v) w) (A:S w) (k:hY P N ops Q S r fuel (bw.setIfInBounds i true) (dT σ d v) w) (C:DQ N.F ops bw r i=true :=by kernel_rfl):hY P N ops Q S r (fuel+1) bw σ w:=lq i hi C (fun _ _=>E) A k
theorem bN (i:Nat) (hi:ops[i]? =some ⟨some d,op,ty,pos,af,none⟩) (E:∀ {w},(execOp (ev N σ) ⟨some d,op,ty,pos,af,none⟩).run P w= .ok (.value v) w) (A:S w) (k:hY P N ops Q S r fuel (bw.setIfInBounds i true) (dT σ d v) w) (C:xq N.F ops bw r i=true :=by kernel_rfl):hY P N ops Q S r (fuel+1) bw σ w:=dH i hi C (fun _=>E) (fun _=>A) k
theorem bO {x:Operand} (i:Nat) (hi:ops[i]? =some ⟨some d,.move x,ty,pos,af,none⟩) (v:Value) (A:S w) (k:fF P N ops Q S fuel (bw.setIfInBounds i true) (dT σ d v) w) (E:ev N σ x=v:=by exact aa) (C:kI N.F ops bw i=true :=by kernel_rfl):fF P N ops Q S (fuel+1) bw σ w:=hp i hi C (fun _ _=>aX v E) A k
theorem bI {x:Operand} (i:Nat) (hi:ops[i]? =some ⟨some d,.move x,ty,pos,af,none⟩) (v:Value) (A:S w) (k:hY P N ops Q S r fuel (bw.setIfInBounds i true) (dT σ d v) w) (E:ev N σ x=v:=by exact aa) (C:xq N.F ops bw r i=true :=by kernel_rfl):hY P N ops Q S r (fuel+1) bw σ w:=dH i hi C (fun _=>aX v E) (fun _=>A) k
theorem bu {P:Program} {f:FuncId} {fn:Func} (C:P.funcs[f]? =some fn) (hn:(fn.name== "runtime.NumGoroutine")=false :=by kernel_rfl) (A:fn.body.isNone=false :=by kernel_rfl):bl P f:=TN C hn A
section
variable {rest:List Oper} {x:Operand} {K:(Nat→Value)→World→Prop} {l:List Oper} {id:Nat} {y z:Code} {j t:Nat} {want b:Bool} {fn:Func} {R:Value→World→Prop}
theorem az (h:∀ {K:(Nat→Value)→World→Prop},(∀ {σ w},eA P N y Q σ w→mY K Q .normal σ w)→eA P N z (mY K Q) σ w):eA P N (.seq z y) Q σ w:=sq fun K A=>h fun hw=>A _ _ hw
theorem ag (h:∀ {K:(Nat→Value)→World→Prop},(∀ {σ w},eA P N y Q σ w→mY K Q .normal σ w)→fg P N l.toArray (mY K Q) l σ w) (C:vj N.r l=true :=by exact aa):eA P N (.seq (.region id l.toArray false) y) Q σ w:=sq fun K A=>rg C<|h fun hw=>A _ _ hw
theorem ay (h:Q .normal (dT σ d<|ev N σ x) w):fg P N ops Q [⟨some d,.assign x,ty,pos,af,none⟩] σ w:=p aE<|nl h
theorem bf {id:Nat} (h:Q (.exit id) σ w):mY K Q (.exit id) σ w:=h
theorem aH (h:(lA ops j,iL t N.n,σ t,b==want)=(some t,true,.bool b,false)) (k:fg P N ops Q rest (dT σ d undef) w):fg P N ops Q (⟨some d,op,ty,pos,af,some (j,want)⟩::rest) σ w:=sk (congrArg iN h) (congrArg (·.2.1) h) (congrArg (·.2.2.1) h) (congrArg (·.2.2.2) h) k
theorem ek (h:(lA ops j,iL t N.n,σ t)=(some t,true,undef)) (k:fg P N ops Q rest (dT σ d undef) w):fg P N ops Q (⟨some d,op,ty,pos,af,some (j,want)⟩::rest) σ w:=AI (congrArg iN h) (congrArg (·.2.1) h) (congrArg (·.2.2) h) k
theorem aJ (h:(lA ops j,iL t N.n,σ t)=(some t,true,.bool want)) (A:(execOp (ev N σ) ⟨some d,op,ty,pos,af,some (j,want)⟩).run P w= .ok (.value v) w) (k:fg P N ops Q rest (dT σ d v) w):fg P N ops Q (⟨some d,op,ty,pos,af,some (j,want)⟩::rest) σ w:=pg (congrArg iN h) (congrArg (·.2.1) h) (congrArg (·.2.2) h) A k
theorem a8 (i:Nat) (h:(ops[i]?,lA ops j,iL t N.n,σ t,b==want)=(some ⟨some d,op,ty,pos,af,some (j,want)⟩,some t,true,.bool b,false)) (A:S w) (k:fF P N ops Q S fuel (bw.setIfInBounds i true) (dT σ d undef) w) (C:kI N.F ops bw i=true :=by kernel_rfl):fF P N ops Q S (fuel+1) bw σ w:=qg i (congrArg iN h) C (congrArg (·.2.1) h) (congrArg (·.2.2.1) h) (congrArg (·.2.2.2.1) h) (congrArg (·.2.2.2.2) h) A k
theorem bq (i:Nat) (h:(ops[i]?,lA ops j,iL t N.n,σ t)=(some ⟨some d,op,ty,pos,af,some (j,want)⟩,some t,true,.bool want)) (E:∀ w,S w→(execOp (ev N σ) ⟨some d,op,ty,pos,af,some (j,want)⟩).run P w= .ok (.value v) w) (A:S w) (k:fF P N ops Q S fuel (bw.setIfInBounds i true) (dT σ d v) w) (C:kI N.F ops bw i=true :=by kernel_rfl):fF P N ops Q S (fuel+1) bw σ w:=qf i (congrArg iN h) C (congrArg (·.2.1) h) (congrArg (·.2.2.1) h) (congrArg (·.2.2.2) h) E A k
theorem a6 (h:(fn.results,ev N σ (.tmp t))=(#[.tmp t],v)) (A:R v w):fin P fn N R .ret σ w:=f1 (congrArg iN h) (congrArg Prod.snd h) A
theorem au (v:Value) (h:fg P N ops Q rest (dT σ d v) w) (A:ev N σ x=v:=by exact aa):fg P N ops Q (⟨some d,.move x,ty,pos,af,none⟩::rest) σ w:=p (aX v A) h
end
end Go.Hb
end
namespace Go.Hb.dZ
theorem np:dG aw 100=some none:=aj
theorem BX:dG aw 102=some (some 13):=aj
theorem wc:dG aw 103=some none:=aj
theorem QT:dG aw 112=some (some 2):=aj
theorem BY:dG aw 129=some none:=aj
theorem Ha:dG aw 130=some none:=aj
theorem lS:dG aw 134=some (some 7):=aj
theorem QU:dG aw 149=some none:=aj
theorem yO:dG aw 150=some none:=aj
theorem rK:dG aw 151=some none:=aj
theorem kD:dG aw 152=some none:=aj
theorem uq:dG aw 156=some none:=aj
theorem wg:dG aw 162=some none:=aj
theorem ur:dG aw 165=some none:=aj
theorem Hc:dG aw 172=some none:=aj
theorem yP:dG aw 181=some (some 2):=aj
theorem BZ:dG aw 182=some none:=aj
theorem wh:dG aw 192=some (some 5):=aj
theorem B4:dG aw 202=some none:=aj
theorem s5:dG aw 214=some (some 8):=aj
theorem uu:dG aw 216=some (some 5):=aj
theorem yQ:dG aw 24=some none:=aj
theorem uv:dG aw 242=some none:=aj
theorem B5:dG aw 261=some none:=aj
theorem o4:dG aw 273=some none:=aj
theorem oa:dG aw 275=some (some 1):=aj
theorem s6:dG aw 287=some none:=aj
theorem bD:dG aw 3=some none:=aj
theorem Hd:dG aw 307=some none:=aj
theorem He:dG aw 32=some none:=aj
theorem lr:dG aw 321=some (some 4):=aj
theorem kj:dG aw 35=some none:=aj
theorem uw:dG aw 359=some (some 1):=aj
theorem nq:dG aw 4=some none:=aj
theorem lT:dG aw 45=some (some 3):=aj
theorem oc:dG aw 49=some (some 5):=aj
theorem qN:dG aw 5=some none:=aj
theorem od:dG aw 51=some none:=aj
theorem ma:dG aw 53=some (some 2):=aj
theorem B6:dG aw 69=some (some 3):=aj
theorem s7:dG aw 74=some (some 5):=aj
theorem iS:dG aw 75=some none:=aj
theorem wi:dG aw 76=some none:=aj
theorem qO:dG aw 85=some none:=aj
theorem p5:dG aw 87=some (some 2):=aj
theorem gF:dG aw 88=some none:=aj
theorem bX:dG aw 9=some none:=aj
theorem Hf:dG aw 91=some none:=aj
theorem du:dG aw 95=some none:=aj
theorem Hg:dG aw 96=some (some 5):=aj
theorem Hh:dG aw 97=some none:=aj
theorem s8:dG aw 98=some none:=aj
theorem yR:dG aw 99=some none:=aj
theorem uy:rM aw 148=some (5,1):=aj
theorem ta:rM aw 321=some (4,1):=aj
theorem Ht:rM aw 337=some (256,1):=aj
theorem wm:rM aw 96=some (5,1):=aj
theorem Hu:Cc aw 321=some ([.int .u64 0,.int .u64 0,.int .u64 0,.int .u64 0]):=aj
theorem oh:yX aw 261 5 9=true :=aj
theorem lU:bl aw 10:=bu func10
theorem RE:bl aw 100:=bu func100
theorem Cj:bl aw 101:=bu func101
theorem RF:bl aw 102:=bu func102
theorem HH:bl aw 103:=bu func103
theorem HI:bl aw 104:=bu func104
theorem RG:bl aw 106:=bu func106
theorem yY:bl aw 107:=bu func107
theorem RH:bl aw 108:=bu func108
theorem Ck:bl aw 109:=bu func109
theorem kF:bl aw 11:=bu func11
theorem RI:bl aw 110:=bu func110
theorem Cl:bl aw 111:=bu func111
theorem RJ:bl aw 112:=bu func112
theorem RK:bl aw 113:=bu func113
theorem lu:bl aw 12:=bu func12
theorem RL:bl aw 124:=bu func124
theorem HJ:bl aw 125:=bu func125
theorem RM:bl aw 126:=bu func126
theorem RN:bl aw 127:=bu func127
theorem RO:bl aw 128:=bu func128
theorem RP:bl aw 129:=bu func129
theorem RQ:bl aw 13:=bu func13
theorem wu:bl aw 130:=bu func130
theorem RR:bl aw 131:=bu func131
theorem RS:bl aw 132:=bu func132
theorem RT:bl aw 133:=bu func133
theorem HK:bl aw 134:=bu func134
theorem p7:bl aw 135:=bu func135
theorem Cm:bl aw 136:=bu func136
theorem yZ:bl aw 137:=bu func137
theorem Cn:bl aw 138:=bu func138
theorem HL:bl aw 139:=bu func139
theorem RU:bl aw 14:=bu func14
theorem HM:bl aw 140:=bu func140
theorem RV:bl aw 141:=bu func141
theorem RW:bl aw 142:=bu func142
theorem RX:bl aw 143:=bu func143
theorem RY:bl aw 144:=bu func144
theorem HN:bl aw 145:=bu func145
theorem HO:bl aw 146:=bu func146
theorem RZ:bl aw 148:=bu func148
theorem R5:bl aw 149:=bu func149
theorem wv:bl aw 15:=bu func15
theorem HP:bl aw 150:=bu func150
theorem Co:bl aw 151:=bu func151
theorem HQ:bl aw 152:=bu func152
theorem R6:bl aw 153:=bu func153
theorem wx:bl aw 154:=bu func154
theorem R7:bl aw 155:=bu func155
theorem Cp:bl aw 156:=bu func156
theorem R8:bl aw 157:=bu func157
theorem y4:bl aw 158:=bu func158
theorem HR:bl aw 159:=bu func159
theorem HS:bl aw 16:=bu func16
theorem R9:bl aw 160:=bu func160
theorem Sa:bl aw 161:=bu func161
theorem Sb:bl aw 162:=bu func162
theorem Sc:bl aw 163:=bu func163
theorem HT:bl aw 164:=bu func164
theorem Se:bl aw 165:=bu func165
theorem Sf:bl aw 166:=bu func166
theorem Sg:bl aw 167:=bu func167
theorem HU:bl aw 168:=bu func168
theorem HV:bl aw 177:=bu func177
theorem Cq:bl aw 178:=bu func178
theorem HW:bl aw 179:=bu func179
theorem HX:bl aw 180:=bu func180
theorem Sh:bl aw 181:=bu func181
theorem Si:bl aw 182:=bu func182
theorem Sj:bl aw 184:=bu func184
theorem Sk:bl aw 185:=bu func185
theorem HY:bl aw 189:=bu func189
theorem Sm:bl aw 190:=bu func190
theorem Cr:bl aw 191:=bu func191
theorem HZ:bl aw 192:=bu func192
theorem Cs:bl aw 193:=bu func193
theorem Sn:bl aw 194:=bu func194
theorem Ct:bl aw 195:=bu func195
theorem y5:bl aw 196:=bu func196
theorem Cu:bl aw 197:=bu func197
theorem H0:bl aw 198:=bu func198
theorem H2:bl aw 199:=bu func199
theorem H3:bl aw 200:=bu func200
theorem Sp:bl aw 201:=bu func201
theorem Cv:bl aw 202:=bu func202
theorem Sq:bl aw 203:=bu func203
theorem H4:bl aw 204:=bu func204
theorem H5:bl aw 205:=bu func205
theorem H6:bl aw 206:=bu func206
theorem Sr:bl aw 207:=bu func207
theorem H7:bl aw 209:=bu func209
theorem Ss:bl aw 210:=bu func210
theorem Su:bl aw 211:=bu func211
theorem Sv:bl aw 212:=bu func212
theorem Sw:bl aw 213:=bu func213
theorem H8:bl aw 214:=bu func214
theorem Sx:bl aw 215:=bu func215
theorem y6:bl aw 216:=bu func216
theorem Cw:bl aw 217:=bu func217
theorem Sy:bl aw 218:=bu func218
theorem Cx:bl aw 219:=bu func219
theorem wy:bl aw 22:=bu func22
theorem H9:bl aw 220:=bu func220
theorem Sz:bl aw 221:=bu func221
theorem SA:bl aw 225:=bu func225
theorem Cy:bl aw 226:=bu func226
theorem SB:bl aw 227:=bu func227
theorem Ia:bl aw 228:=bu func228
theorem SC:bl aw 229:=bu func229
theorem Ib:bl aw 23:=bu func23
theorem Ic:bl aw 230:=bu func230
theorem SD:bl aw 232:=bu func232
theorem SE:bl aw 233:=bu func233
theorem SF:bl aw 234:=bu func234
theorem Ie:bl aw 235:=bu func235
theorem If:bl aw 236:=bu func236
theorem SG:bl aw 237:=bu func237
theorem Ig:bl aw 238:=bu func238
theorem SH:bl aw 239:=bu func239
theorem rR:bl aw 24:=bu func24
theorem SI:bl aw 240:=bu func240
theorem SJ:bl aw 241:=bu func241
theorem SK:bl aw 242:=bu func242
theorem SL:bl aw 25:=bu func25
theorem Ih:bl aw 252:=bu func252
theorem Cz:bl aw 253:=bu func253
theorem Ii:bl aw 254:=bu func254
theorem SM:bl aw 255:=bu func255
theorem SN:bl aw 256:=bu func256
theorem SO:bl aw 257:=bu func257
theorem SP:bl aw 258:=bu func258
theorem CA:bl aw 259:=bu func259
theorem SQ:bl aw 261:=bu func261
theorem CB:bl aw 262:=bu func262
theorem Ij:bl aw 263:=bu func263
theorem SR:bl aw 264:=bu func264
theorem CC:bl aw 265:=bu func265
theorem SS:bl aw 266:=bu func266
theorem CD:bl aw 268:=bu func268
theorem CE:bl aw 272:=bu func272
theorem CF:bl aw 273:=bu func273
theorem SU:bl aw 274:=bu func274
theorem Ik:bl aw 275:=bu func275
theorem Il:bl aw 276:=bu func276
theorem SV:bl aw 280:=bu func280
theorem Im:bl aw 281:=bu func281
theorem SX:bl aw 282:=bu func282
theorem SY:bl aw 283:=bu func283
theorem SZ:bl aw 284:=bu func284
theorem S1:bl aw 285:=bu func285
theorem S2:bl aw 286:=bu func286
theorem S3:bl aw 287:=bu func287
theorem S4:bl aw 288:=bu func288
theorem S5:bl aw 289:=bu func289
theorem S6:bl aw 29:=bu func29
theorem mI:bl aw 290:=bu func290
theorem S7:bl aw 291:=bu func291
theorem S8:bl aw 292:=bu func292
theorem S9:bl aw 294:=bu func294
theorem Ta:bl aw 298:=bu func298
theorem Tb:bl aw 299:=bu func299
theorem CG:bl aw 30:=bu func30
theorem Io:bl aw 300:=bu func300
theorem CH:bl aw 301:=bu func301
theorem Ip:bl aw 302:=bu func302
theorem Tc:bl aw 303:=bu func303
theorem Iq:bl aw 304:=bu func304
theorem CI:bl aw 308:=bu func308
theorem Ir:bl aw 31:=bu func31
theorem y7:bl aw 32:=bu func32
theorem Is:bl aw 33:=bu func33
theorem CJ:bl aw 34:=bu func34
theorem Td:bl aw 37:=bu func37
theorem Te:bl aw 39:=bu func39
theorem Tf:bl aw 40:=bu func40
theorem y8:bl aw 41:=bu func41
theorem Th:bl aw 42:=bu func42
theorem It:bl aw 43:=bu func43
theorem uE:bl aw 44:=bu func44
theorem Ti:bl aw 45:=bu func45
theorem Iu:bl aw 46:=bu func46
theorem Tj:bl aw 47:=bu func47
theorem Tk:bl aw 48:=bu func48
theorem Tm:bl aw 49:=bu func49
theorem Tn:bl aw 55:=bu func55
theorem To:bl aw 56:=bu func56
theorem Tp:bl aw 57:=bu func57
theorem Iv:bl aw 58:=bu func58
theorem CK:bl aw 59:=bu func59
theorem Tq:bl aw 60:=bu func60
theorem Tr:bl aw 61:=bu func61
theorem Ts:bl aw 62:=bu func62
theorem Tt:bl aw 63:=bu func63
theorem Tu:bl aw 64:=bu func64
theorem Iw:bl aw 66:=bu func66
theorem CL:bl aw 67:=bu func67
theorem Ix:bl aw 68:=bu func68
theorem CM:bl aw 69:=bu func69
theorem Iy:bl aw 70:=bu func70
theorem Iz:bl aw 71:=bu func71
theorem Tv:bl aw 72:=bu func72
theorem Ty:bl aw 73:=bu func73
theorem IA:bl aw 74:=bu func74
theorem jc:bl aw 75:=bu func75
theorem Tz:bl aw 76:=bu func76
theorem uF:bl aw 77:=bu func77
theorem TA:bl aw 78:=bu func78
theorem TB:bl aw 79:=bu func79
theorem TC:bl aw 80:=bu func80
theorem TD:bl aw 81:=bu func81
theorem TE:bl aw 82:=bu func82
theorem TG:bl aw 83:=bu func83
theorem TH:bl aw 84:=bu func84
theorem TI:bl aw 85:=bu func85
theorem CN:bl aw 86:=bu func86
theorem IB:bl aw 87:=bu func87
theorem TJ:bl aw 88:=bu func88
theorem TK:bl aw 89:=bu func89
theorem c9:bl aw 9:=bu func9
theorem IC:bl aw 90:=bu func90
theorem y9:bl aw 93:=bu func93
theorem CO:bl aw 94:=bu func94
theorem TL:bl aw 95:=bu func95
theorem CP:bl aw 96:=bu func96
theorem TM:bl aw 97:=bu func97
theorem CQ:bl aw 98:=bu func98
theorem td:bl aw 99:=bu func99
theorem UI:∀ (l:List UInt8) (c:UInt8) (w:World),(callFunc 307 #[str l,.int .u8 c.toNat]).run aw w= .ok (.value<|.int .i64 (l.count c:Nat)) w:=abJ func307 aj aj aj aj
theorem Ve:∀ v w,(callFunc 267 #[v]).run aw w= .ok (.value v) w:=fun v w=>aj
theorem I6:eE aw 100=some 1:=aj
theorem C1:eE aw 102=some 13:=aj
theorem I7:eE aw 103=some 1:=aj
theorem Vf:eE aw 112=some 2:=aj
theorem po:eE aw 134=some 7:=aj
theorem Vg:eE aw 149=some 1:=aj
theorem Vh:eE aw 150=some 1:=aj
theorem Vi:eE aw 151=some 1:=aj
theorem I8:eE aw 152=some 1:=aj
theorem I9:eE aw 156=some 1:=aj
theorem Vj:eE aw 174=some 2:=aj
theorem Ja:eE aw 181=some 2:=aj
theorem th:eE aw 192=some 5:=aj
theorem C2:eE aw 214=some 8:=aj
theorem rS:eE aw 216=some 5:=aj
theorem Vk:eE aw 242=some 1:=aj
theorem Vl:eE aw 261=some 1:=aj
theorem Jb:eE aw 273=some 1:=aj
theorem rT:eE aw 275=some 1:=aj
theorem zj:eE aw 287=some 1:=aj
theorem gR:eE aw 3=some 1:=aj
theorem Vm:eE aw 307=some 1:=aj
theorem Vn:eE aw 32=some 1:=aj
theorem qR:eE aw 321=some 4:=aj
theorem Jc:eE aw 35=some 1:=aj
theorem Jd:eE aw 4=some 1:=aj
theorem km:eE aw 45=some 3:=aj
theorem zk:eE aw 49=some 5:=aj
theorem uJ:eE aw 51=some 1:=aj
theorem kZ:eE aw 53=some 2:=aj
theorem zl:eE aw 69=some 3:=aj
theorem Je:eE aw 74=some 5:=aj
theorem Jf:eE aw 85=some 1:=aj
theorem p8:eE aw 87=some 2:=aj
theorem C3:eE aw 88=some 1:=aj
theorem mi:eE aw 9=some 1:=aj
theorem gK:eE aw 95=some 1:=aj
theorem Vo:eE aw 96=some 5:=aj
theorem Jg:eE aw 97=some 1:=aj
theorem Jh:eE aw 98=some 1:=aj
theorem Ji:eE aw 99=some 1:=aj
theorem ny:gL aw 100=some 7:=aj
theorem Df:gL aw 103=some 2:=aj
theorem JL:gL aw 108=some 1:=aj
theorem Wq:gL aw 113=some 2:=aj
theorem Ws:gL aw 150=some 1:=aj
theorem zw:gL aw 151=some 5:=aj
theorem pA:gL aw 152=some 8:=aj
theorem uN:gL aw 156=some 2:=aj
theorem pB:gL aw 202=some 2:=aj
theorem mK:gL aw 261=some 1:=aj
theorem JM:gL aw 273=some 4:=aj
theorem uO:gL aw 29=some 5:=aj
theorem JN:gL aw 32=some 5:=aj
theorem JO:gL aw 331=some 1:=aj
theorem db:gL aw 35=some 1:=aj
theorem cy:gL aw 51=some 1:=aj
theorem JP:gL aw 76=some 2:=aj
theorem ke:gL aw 85=some 1:=aj
theorem Dg:gL aw 98=some 1:=aj
theorem Wt:gL aw 99=some 5:=aj
theorem JU:Dl aw 102 8=some 12:=aj
theorem uQ:cj aw 102 0=some 0:=aj
theorem WS:cj aw 102 1=some 1:=aj
theorem WT:cj aw 102 2=some 2:=aj
theorem zJ:cj aw 102 3=some 3:=aj
theorem Dz:cj aw 102 4=some 8:=aj
theorem zK:cj aw 102 5=some 9:=aj
theorem qV:cj aw 102 6=some 10:=aj
theorem uR:cj aw 102 7=some 11:=aj
theorem pC:cj aw 102 8=some 12:=aj
theorem zL:cj aw 105 0=some 0:=aj
theorem KD:cj aw 105 1=some 1:=aj
theorem xa:cj aw 105 2=some 2:=aj
theorem DA:cj aw 105 3=some 15:=aj
theorem WU:cj aw 112 0=some 0:=aj
theorem WV:cj aw 112 1=some 1:=aj
theorem KE:cj aw 132 0=some 0:=aj
theorem zM:cj aw 132 1=some 1:=aj
theorem DB:cj aw 132 2=some 2:=aj
theorem KF:cj aw 132 3=some 3:=aj
theorem xc:cj aw 134 0=some 0:=aj
theorem xd:cj aw 134 2=some 2:=aj
theorem rZ:cj aw 134 3=some 3:=aj
theorem xe:cj aw 134 4=some 4:=aj
theorem KG:cj aw 134 5=some 5:=aj
theorem r4:cj aw 134 6=some 6:=aj
theorem WW:cj aw 140 0=some 0:=aj
theorem WX:cj aw 140 1=some 1:=aj
theorem WY:cj aw 140 2=some 2:=aj
theorem zN:cj aw 140 3=some 3:=aj
theorem zO:cj aw 140 4=some 4:=aj
theorem uS:cj aw 140 5=some 5:=aj
theorem uT:cj aw 140 6=some 6:=aj
theorem DC:cj aw 140 7=some 7:=aj
theorem uU:cj aw 154 0=some 0:=aj
theorem WZ:cj aw 154 1=some 1:=aj
theorem W0:cj aw 154 2=some 2:=aj
theorem uV:cj aw 154 3=some 3:=aj
theorem W4:cj aw 154 4=some 8:=aj
theorem KH:cj aw 154 5=some 9:=aj
theorem xf:cj aw 154 6=some 10:=aj
theorem qW:cj aw 154 7=some 11:=aj
theorem kf:cj aw 154 8=some 12:=aj
theorem il:cj aw 164 0=some 0:=aj
theorem KI:cj aw 164 1=some 13:=aj
theorem iU:cj aw 167 0=some 0:=aj
theorem xg:cj aw 167 1=some 1:=aj
theorem xh:cj aw 167 2=some 2:=aj
theorem W5:cj aw 167 3=some 3:=aj
theorem uW:cj aw 167 4=some 4:=aj
theorem DD:cj aw 167 5=some 5:=aj
theorem DE:cj aw 167 6=some 6:=aj
theorem KJ:cj aw 174 0=some 0:=aj
theorem KK:cj aw 174 1=some 1:=aj
theorem zP:cj aw 181 0=some 0:=aj
theorem xi:cj aw 181 1=some 1:=aj
theorem zQ:cj aw 184 0=some 0:=aj
theorem DF:cj aw 184 1=some 1:=aj
theorem DG:cj aw 192 0=some 0:=aj
theorem xj:cj aw 192 1=some 1:=aj
theorem KL:cj aw 192 2=some 2:=aj
theorem KM:cj aw 192 3=some 3:=aj
theorem zR:cj aw 192 4=some 4:=aj
theorem mj:cj aw 208 0=some 0:=aj
theorem DH:cj aw 208 1=some 1:=aj
theorem qc:cj aw 208 2=some 2:=aj
theorem W6:cj aw 208 3=some 3:=aj
theorem qX:cj aw 208 4=some 4:=aj
theorem qY:cj aw 208 5=some 5:=aj
theorem uX:cj aw 209 0=some 0:=aj
theorem xk:cj aw 209 1=some 1:=aj
theorem xm:cj aw 214 0=some 0:=aj
theorem W7:cj aw 214 1=some 1:=aj
theorem W8:cj aw 214 2=some 2:=aj
theorem uY:cj aw 214 3=some 3:=aj
theorem DI:cj aw 214 4=some 4:=aj
theorem DJ:cj aw 214 5=some 5:=aj
theorem xn:cj aw 214 6=some 6:=aj
theorem KN:cj aw 214 7=some 7:=aj
theorem DK:cj aw 216 0=some 0:=aj
theorem zS:cj aw 216 1=some 1:=aj
theorem KO:cj aw 216 2=some 2:=aj
theorem KP:cj aw 23 0=some 0:=aj
theorem KQ:cj aw 23 1=some 1:=aj
theorem DL:cj aw 23 2=some 2:=aj
theorem DM:cj aw 23 3=some 3:=aj
theorem nz:cj aw 275 0=some 0:=aj
theorem DN:cj aw 309 0=some 0:=aj
theorem zT:cj aw 309 1=some 1:=aj
theorem W9:cj aw 359 0=some 0:=aj
theorem KR:cj aw 49 0=some 0:=aj
theorem qd:cj aw 49 1=some 1:=aj
theorem mM:cj aw 49 2=some 2:=aj
theorem mN:cj aw 49 3=some 3:=aj
theorem qe:cj aw 49 4=some 4:=aj
theorem DO:cj aw 53 0=some 0:=aj
theorem tk:cj aw 53 1=some 1:=aj
theorem xo:cj aw 74 0=some 0:=aj
theorem KS:cj aw 74 1=some 1:=aj
theorem zU:cj aw 74 2=some 2:=aj
theorem zV:cj aw 74 3=some 3:=aj
theorem tp:cj aw 74 4=some 4:=aj
theorem oy:cj aw 78 0=some 0:=aj
theorem xp:cj aw 78 1=some 1:=aj
theorem Xa:cj aw 87 0=some 0:=aj
theorem Xb:cj aw 87 1=some 1:=aj
theorem YE:(aw.info? 309).isSome=true :=aj
theorem YT:∀ (l:List UInt8) (c:UInt8) (w:World),(callFunc 295 #[str l,.int .u8 c.toNat]).run aw w= .ok (.value<|.int .i64<|fJ c l) w:=abK func295 aj aj aj aj
theorem Eg:mF aw 3 (k5 .i64):=LZ (q:= .i64) aj
theorem ju:mF aw 9 jT:=Y6 aj
theorem tt:mF aw 95 (k5 .u16):=LZ (q:= .u16) aj
theorem Ey:tz aw 45=true :=aj
theorem aaZ:ptrTo aw 342 5=true :=aj
theorem AJ:gp aw 100 134 7 88=true :=aj
theorem AK:gp aw 103 53 2 40=true :=aj
theorem ab7:gp aw 113 112 2 32=true :=aj
theorem NZ:gp aw 149 351 2 32=true :=aj
theorem N0:gp aw 150 85 1 24=true :=aj
theorem N1:gp aw 151 216 5 40=true :=aj
theorem AL:gp aw 152 214 8 104=true :=aj
theorem N2:gp aw 156 181 2 32=true :=aj
theorem AM:gp aw 202 209 2 32=true :=aj
theorem iX:gp aw 261 5 1 1=true :=aj
theorem AN:gp aw 273 321 4 32=true :=aj
theorem AO:gp aw 29 49 5 48=true :=aj
theorem AP:gp aw 32 74 5 48=true :=aj
theorem N3:gp aw 331 359 1 16=true :=aj
theorem gq:gp aw 35 9 1 16=true :=aj
theorem AQ:gp aw 51 95 1 2=true :=aj
theorem N4:gp aw 76 87 2 40=true :=aj
theorem lG:gp aw 85 3 1 8=true :=aj
theorem AR:gp aw 97 189 2 32=true :=aj
theorem AS:gp aw 98 51 1 24=true :=aj
theorem AT:gp aw 99 192 5 40=true :=aj
theorem ack:iu aw 105=some ([(0,1),(1,1),(2,13),(15,1)],[.pointer none,.pointer none,.int .i64 0,.string ⟨⟨[]⟩⟩,.string ⟨⟨[]⟩⟩,.int .u16 0,.int .u16 0,.int .u16 0,.int .u16 0,.int .u16 0,.int .i64 0,.slice none 0 0,.slice none 0 0,.slice none 0 0,.slice none 0 0,.slice none 0 0]):=aj
theorem FC:iu aw 112=some ([(0,1),(1,1)],[.slice none 0 0,.int .i64 0]):=aj
theorem acm:iu aw 132=some ([(0,1),(1,1),(2,1),(3,1)],[.pointer none,.slice none 0 0,.map none,.map none]):=aj
theorem FD:iu aw 134=some ([(0,1),(1,1),(2,1),(3,1),(4,1),(5,1),(6,1)],[.int .i64 0,.int .u16 0,.bool false,.string ⟨⟨[]⟩⟩,.string ⟨⟨[]⟩⟩,.string ⟨⟨[]⟩⟩,.slice none 0 0]):=aj
theorem acn:iu aw 140=some ([(0,1),(1,1),(2,1),(3,1),(4,1),(5,1),(6,1),(7,1)],[.bool false,.bool false,.string ⟨⟨[]⟩⟩,.int .i64 0,.int .i64 0,.int .i64 0,.int .i64 0,.slice none 0 0]):=aj
theorem aco:iu aw 154=some ([(0,1),(1,1),(2,1),(3,5),(8,1),(9,1),(10,1),(11,1),(12,1)],[.int .i64 0,.string ⟨⟨[]⟩⟩,.string ⟨⟨[]⟩⟩,.int .i64 0,.int .i64 0,.int .i64 0,.int .i64 0,.int .i64 0,.int .i64 0,.slice none 0 0,.slice none 0 0,.slice none 0 0,.slice none 0 0]):=aj
theorem acp:iu aw 164=some ([(0,13),(13,1)],[.int .i64 0,.string ⟨⟨[]⟩⟩,.string ⟨⟨[]⟩⟩,.int .u16 0,.int .u16 0,.int .u16 0,.int .u16 0,.int .u16 0,.int .i64 0,.slice none 0 0,.slice none 0 0,.slice none 0 0,.slice none 0 0,.map none]):=aj
theorem acq:iu aw 167=some ([(0,1),(1,1),(2,1),(3,1),(4,1),(5,1),(6,1)],[.pointer none,.slice none 0 0,.int .i64 0,.int .i64 0,.map none,.map none,.slice none 0 0]):=aj
theorem nP:iu aw 174=some ([(0,1),(1,1)],[.int .i64 0,.nilFunc]):=aj
theorem acr:iu aw 181=some ([(0,1),(1,1)],[.int .i64 0,.slice none 0 0]):=aj
theorem acs:iu aw 184=some ([(0,1),(1,1)],[.slice none 0 0,.map none]):=aj
theorem acu:iu aw 189=some ([(0,1),(1,1)],[.string ⟨⟨[]⟩⟩,.string ⟨⟨[]⟩⟩]):=aj
theorem FE:iu aw 192=some ([(0,1),(1,1),(2,1),(3,1),(4,1)],[.int .u16 0,.int .i64 0,.bool false,.int .i64 0,.int .i64 0]):=aj
theorem acv:iu aw 208=some ([(0,1),(1,1),(2,1),(3,1),(4,1),(5,1)],[.pointer none,.slice none 0 0,.int .i64 0,.int .i64 0,.slice none 0 0,.int .i64 0]):=aj
theorem Oa:iu aw 209=some ([(0,1),(1,1)],[.int .i64 0,.slice none 0 0]):=aj
theorem Ob:iu aw 214=some ([(0,1),(1,1),(2,1),(3,1),(4,1),(5,1),(6,1),(7,1)],[.int .i64 0,.int .i64 0,.bool false,.string ⟨⟨[]⟩⟩,.string ⟨⟨[]⟩⟩,.string ⟨⟨[]⟩⟩,.slice none 0 0,.int .i64 0]):=aj
theorem Oc:iu aw 216=some ([(0,1),(1,1),(2,1),(3,1),(4,1)],[.int .i64 0,.int .i64 0,.bool false,.int .i64 0,.int .i64 0]):=aj
theorem x4:iu aw 275=some ([(0,1)],[.slice none 0 0]):=aj
theorem acw:iu aw 351=some ([(0,1),(1,1)],[.string ⟨⟨[]⟩⟩,.string ⟨⟨[]⟩⟩]):=aj
theorem acx:iu aw 359=some ([(0,1)],[.string ⟨⟨[]⟩⟩]):=aj
theorem vp:iu aw 45=some ([(0,1),(1,1),(2,1)],[.int .i64 0,.int .i64 0,.int .i64 0]):=aj
theorem FF:iu aw 49=some ([(0,1),(1,1),(2,1),(3,1),(4,1)],[.string ⟨⟨[]⟩⟩,.int .i64 0,.int .i64 0,.int .i64 0,.int .i64 0]):=aj
theorem pM:iu aw 53=some ([(0,1),(1,1)],[.string ⟨⟨[]⟩⟩,.slice none 0 0]):=aj
theorem FG:iu aw 69=some ([(0,1),(1,1),(2,1)],[.int .i64 0,.int .i64 0,.int .i64 0]):=aj
theorem FH:iu aw 74=some ([(0,1),(1,1),(2,1),(3,1),(4,1)],[.string ⟨⟨[]⟩⟩,.int .i64 0,.int .i64 0,.int .i64 0,.int .i64 0]):=aj
theorem acy:iu aw 78=some ([(0,1),(1,1)],[.pointer none,.slice none 0 0]):=aj
theorem q9:iu aw 87=some ([(0,1),(1,1)],[.string ⟨⟨[]⟩⟩,.slice none 0 0]):=aj
theorem sy:aw.underlying 100=some (.slice 134):=aj
theorem A1:aw.underlying 103=some (.slice 53):=aj
theorem OA:aw.underlying 108=some (.slice 95):=aj
theorem ac3:aw.underlying 113=some (.slice 112):=aj
theorem FO:aw.underlying 129=some (.map 3 85):=aj
theorem FP:aw.underlying 130=some (.map 49 3):=aj
theorem OB:aw.underlying 145=some (.int .u64):=aj
theorem OC:aw.underlying 150=some (.slice 85):=aj
theorem FQ:aw.underlying 151=some (.slice 216):=aj
theorem vw:aw.underlying 152=some (.slice 214):=aj
theorem A2:aw.underlying 156=some (.slice 181):=aj
theorem tI:aw.underlying 162=some (.map 95 3):=aj
theorem sA:aw.underlying 165=some (.map 9 3):=aj
theorem na:aw.underlying 169=some (.map 9 174):=aj
theorem FR:aw.underlying 182=some (.map 9 85):=aj
theorem A3:aw.underlying 202=some (.slice 209):=aj
theorem x8:aw.underlying 24=some (.pointer 105):=aj
theorem FT:aw.underlying 25=some (.pointer 78):=aj
theorem nQ:aw.underlying 261=some (.slice 5):=aj
theorem sB:aw.underlying 273=some (.slice 321):=aj
theorem ac4:aw.underlying 287=some (.int .u64):=aj
theorem sD:aw.underlying 29=some (.slice 49):=aj
theorem u3:aw.underlying 3=some (.int .i64):=aj
theorem OE:aw.underlying 307=some (.pointer 309):=aj
theorem u32:aw.underlying 32=some (.slice 74):=aj
theorem tJ:aw.underlying 331=some (.slice 359):=aj
theorem fq:aw.underlying 35=some (.slice 9):=aj
theorem u4:aw.underlying 4=some (.bool):=aj
theorem u5:aw.underlying 5=some (.int .u8):=aj
theorem qn:aw.underlying 51=some (.slice 95):=aj
theorem A4:aw.underlying 76=some (.slice 87):=aj
theorem mr:aw.underlying 85=some (.slice 3):=aj
theorem x9:aw.underlying 88=some (.pointer 164):=aj
theorem u9:aw.underlying 9=some (.string):=aj
theorem FV:aw.underlying 91=some (.pointer 184):=aj
theorem A6:aw.underlying 95=some (.int .u16):=aj
theorem u97:aw.underlying 97=some (.slice 189):=aj
theorem A7:aw.underlying 98=some (.slice 51):=aj
theorem OG:aw.underlying 99=some (.slice 192):=aj
theorem OI:ya aw 307 364 309 2=true :=aj
theorem adi:(aw.underlying 145).isSome=true :=aj
theorem adj:(aw.underlying 242).isSome=true :=aj
theorem sE:(aw.underlying 3).isSome=true :=aj
theorem rj:(aw.underlying 5).isSome=true :=aj
theorem wide:aw.follows .mixedOrders=true :=aj
theorem O4:zeroOf aw 102=some (some [.int .i64 0,.string ⟨⟨[]⟩⟩,.string ⟨⟨[]⟩⟩,.int .u16 0,.int .u16 0,.int .u16 0,.int .u16 0,.int .u16 0,.int .i64 0,.slice none 0 0,.slice none 0 0,.slice none 0 0,.slice none 0 0]):=aj
theorem adS:zeroOf aw 112=some (some [.slice none 0 0,.int .i64 0]):=aj
theorem rp:zeroOf aw 134=some (some [.int .i64 0,.int .u16 0,.bool false,.string ⟨⟨[]⟩⟩,.string ⟨⟨[]⟩⟩,.string ⟨⟨[]⟩⟩,.slice none 0 0]):=aj
theorem adT:zeroOf aw 156=some (some [.slice none 0 0]):=aj
theorem adU:zeroOf aw 174=some (some [.int .i64 0,.nilFunc]):=aj
theorem O5:zeroOf aw 181=some (some [.int .i64 0,.slice none 0 0]):=aj
theorem vE:zeroOf aw 192=some (some [.int .u16 0,.int .i64 0,.bool false,.int .i64 0,.int .i64 0]):=aj
theorem Ga:zeroOf aw 214=some (some [.int .i64 0,.int .i64 0,.bool false,.string ⟨⟨[]⟩⟩,.string ⟨⟨[]⟩⟩,.string ⟨⟨[]⟩⟩,.slice none 0 0,.int .i64 0]):=aj
theorem tM:zeroOf aw 216=some (some [.int .i64 0,.int .i64 0,.bool false,.int .i64 0,.int .i64 0]):=aj
theorem Bg:zeroOf aw 275=some (some [.slice none 0 0]):=aj
theorem adV:zeroOf aw 287=some (some [.int .u64 0]):=aj
theorem zs3:zeroOf aw 3=some (some [.int .i64 0]):=aj
theorem O6:zeroOf aw 309=some (some [.pointer none,.slice none 0 0]):=aj
theorem tN:zeroOf aw 321=some (some [.int .u64 0,.int .u64 0,.int .u64 0,.int .u64 0]):=aj
theorem adW:zeroOf aw 35=some (some [.slice none 0 0]):=aj
theorem rq:zeroOf aw 45=some (some [.int .i64 0,.int .i64 0,.int .i64 0]):=aj
theorem Bi:zeroOf aw 49=some (some [.string ⟨⟨[]⟩⟩,.int .i64 0,.int .i64 0,.int .i64 0,.int .i64 0]):=aj
theorem sG:zeroOf aw 53=some (some [.string ⟨⟨[]⟩⟩,.slice none 0 0]):=aj
theorem O7:zeroOf aw 69=some (some [.int .i64 0,.int .i64 0,.int .i64 0]):=aj
theorem O8:zeroOf aw 74=some (some [.string ⟨⟨[]⟩⟩,.int .i64 0,.int .i64 0,.int .i64 0,.int .i64 0]):=aj
theorem O9:zeroOf aw 87=some (some [.string ⟨⟨[]⟩⟩,.slice none 0 0]):=aj
theorem adX:zeroOf aw 88=some (some [.pointer none]):=aj
theorem zs9:zeroOf aw 9=some (some [.string ⟨⟨[]⟩⟩]):=aj
theorem adY:zeroOf aw 96=some (some [.int .u16 0,.int .u16 0,.int .u16 0,.int .u16 0,.int .u16 0]):=aj
theorem adZ:zeroOf aw 337=some (some<|List.replicate 256<|.bool false):=aj
theorem ad0:zeroV aw 174=some (.agg #[.int .i64 0,.nilFunc]):=aj
theorem oO:zeroV aw 3=some (.int .i64 0):=aj
theorem ad1:zeroV aw 45=some (.agg #[.int .i64 0,.int .i64 0,.int .i64 0]):=aj
theorem zv5:zeroV aw 5=some (.int .u8 0):=aj
theorem Bj:zeroV aw 85=some (.slice none 0 0):=aj
theorem ad2:zeroV aw 95=some (.int .u16 0):=aj
end Go.Hb.dZ
section
namespace Go.Hb
open Go.Hb.dZ
theorem UT (b:Nat) (C:Option Addr) (G:Value) (w:World) (A:w.heap[b]? =some (.cells [By C,G].toArray 309 (0,0))) (hp:C=none∨C=some ⟨b,0,none⟩):
 bm aw 240 (bh [aV b]) w (fun v w'=>v= .tuple #[]∧w'.heap[b]? =some (.cells [By (some ⟨b,0,none⟩),G].toArray 309 (0,0))∧Md (fun k=>k=b) w w'):=by
 refine enter func240 aa ntmps240 aa<|ag fun I=>au (aV b)<|p (nc aa)<|p (fa DN aa)<|p (ld Hd aa<|(bg A).trans aa)<|p (ly OE aa aa)<|nl<|I<|cb aa (fun E=> ?_) fun E=> ?_;obtain rfl :C=none:=by simpa using E
 exact rg aa<|au (aV b)<|au (aV b)<|p (toU OI aa A aa)<|p (UD Ve aa)<|p (Xf OI aa A aa)<|p (nc aa)<|p (fa DN aa)<|e<|dx Vm aa aa aa A (by simp) fun Y V O=>nl<|f0 aa<|⟨aa,O,V⟩
 obtain rfl :C=some ⟨b,0,none⟩:=hp.resolve_left<|by rintro rfl; simp at E
 exact ag fun J=>au (aV b)<|p (nc aa)<|p (fa DN aa)<|p (ld Hd aa<|(bg A).trans aa)<|au (aV b)<|p (Z5 OE YE aa aa)<|nl<|J<|cf aa<|aQ<|f0 aa<|⟨aa,A,Md.refl _ _⟩
theorem O3 (b:Nat) (A:Value) (l:List UInt8) (c:UInt8) (w:World) (ao:Bd 309 5 w b A l) (aF:l.length≤70368744177664):
 bm aw 204 (bh [aV b,.int .u8 c.toNat]) w (fun v w'=>v= .nilIface∧∃ I,Bd 309 5 w' b I (l++ [c])∧Md (BF b A) w w'∧∀ k,BF b I k→BF b A k∨w.heap.size≤k):=by
 obtain ⟨⟨aB,Y,az⟩,hown,hnil⟩:=ao;have aG:b < w.heap.size:=(Array.getElem?_eq_some_iff.1 Y).1;have Z:∀ k,A.ownBlock=some k→k≠b∧k < w.heap.size:=fun k hk=>by have :=hown.lt k hk; exact ⟨ab,this.2⟩
 refine enter func204 aa ntmps204 aa<|ag fun ae=>ay<|ae<|ag fun ah=>au (aV b)<|e<|cl SI (UT b aB A w Y az) aa fun v6 aL an=> ?_;obtain ⟨_,V,E⟩:=an;have ax:=dw hown E fun k hk=>(Z k hk).1;have aH:=E.size;refine nl<|ah<|ag fun ai=>au (aV b)<|au (aV b)<|p (nc aa)<|p (fa zT aa)<|p (ld B5 aa<|(bg V).trans aa)<|au (.int .u8 c.toNat)<|e<|gz iX aa aa fun aC aI aD C al=>e<|ap iX (a7 ax C.md) aa (by have :=C.size; omega) aa (aM.ec al) (aa) (aa) ab ab fun ac aJ G J aA av=> ?_;have aq:=J.aT (Wk.aT C.md V) fun h=>(Z b h).1 rfl;refine p (nc aa)<|p (fa zT aa)<|e<|dx Vl aa aa (by obtain ⟨a,c,h,_⟩:=vk G; exact congrArg gw h) aq (by simp) fun aK O am=>nl<|ai<|ag fun aj=>p aE<|nl<|aj<|rt<|a6 aa ?_;have ak:∀ k,ac.ownBlock=some k→k≠b:=fun k hk=>by have :=G.lt k hk; omega
 refine ⟨aa,ac,⟨⟨_,am,.inr aa⟩,?_,?_⟩,?_,?_⟩;rw [bL,yK]; exact dw G O fun k hk=>ak k hk;rw [aA]; simp;refine Md.trans' (Md.trans' (Md.trans' (E.mono fun k _ h=> .inl h) C.md fun _ _ h=>h.elim) J fun k _ h=> .inr h) O fun k _ h=> .inl h;rintro k (rfl | hk);exact .inl<|.inl aa;by_cases h:A.ownBlock=some k;exact .inl<|.inr h;have :=av k hk; have h1:=E.size; have h2:=C.md.size; exact .inr<|by rcases this with h3 | h3; exact absurd h3 h; omega
theorem FK (b:Nat) (G:Value) (l:List UInt8) (w:World) (Y:Bd 309 5 w b G l) (ah:l.length≤70368744177664):
 bm aw 202 (bh [aV b]) w (fun v w'=>v=str l∧Md (fun k=>G.ownBlock=some k) w w'):=by
 obtain ⟨⟨al,I,ai⟩,hown,hnil⟩:=Y;obtain ⟨a,c,rfl,ac,hle,hk,ae⟩:=vk hown;refine enter func202 aa ntmps202 aa<|ag fun J=>ay<|J<|az fun O=> ?_;have A:(fun w'=>Md (fun k=>(bW a l.length c).ownBlock=some k) w w') w.drew:=(Md.refl _ _).drew;refine bY (fun w'=>Md (fun k=>(bW a l.length c).ownBlock=some k) w w') aa wide A<|bO 0 aa (aV b) A<|aR 1 aa (nc aa) A<|aR 2 aa (fa zT aa) A<|bR 3 aa (fun w' C=>ld B5 aa<|C.aW ((bg I).trans aa) fun h=>by have :=hown.lt _ h; omega) A<|bO 5 aa (aV b) A<|aR 6 aa (nc aa) A<|aR 7 aa (fa zT aa) A<|bR 8 aa (fun w' C=>ld B5 aa<|C.aW ((bg I).trans aa) fun h=>by have :=hown.lt _ h; omega) A<|aR 9 aa (bM nQ aa aa) A ?_;refine aR 4 aa (usd (v:= .nilFunc) aa (by
  by_cases h:l= []
  have :=hnil.2 h; simp only [Value.slice.injEq] at this; exact .inl this.1;right; have :0 < l.length:=l7.2 h; omega)) A ?_
 refine he 10 aa aj<|usg aaZ aa aa hown aa ab fun Z V ak=> ?_;have E:(fun w'=>Md (fun k=>(bW a l.length c).ownBlock=some k) w w') Z:=A.trans' V fun _ _ h=>h;refine ⟨E,?_⟩;exact aR 11 aa (aE) E<|hn aj<|O<|rt<|a6 aa<|⟨aa,E⟩
end Go.Hb
end
section
namespace Go.Hb
open Go.Hb.dZ
theorem lW (b:UInt8):tj b=decide ((b.toNat:Int)=92∨(b.toNat:Int)=47∨(b.toNat:Int)=35):=by
 unfold tj; exact decide_eq_decide.2 ab
theorem Dq (b:UInt8):jr b=decide (32 < (b.toNat:Int)∧(b.toNat:Int)≠127):=by
 unfold jr; exact decide_eq_decide.2 ab
theorem WM {b:UInt8} (h:32 < (b.toNat:Int)) (h1:(b.toNat:Int)≠127):jr b=true :=by rw [Dq]; exact decide_eq_true ⟨h,h1⟩
theorem Dp {b:UInt8} (h:¬(32 < (b.toNat:Int)∧(b.toNat:Int)≠127)):jr b=false :=by rw [Dq]; exact decide_eq_false h
theorem Kj (b:UInt8) (w:World):
 bm aw 205 (bh [.int .u8 b.toNat]) w (fun v w'=>v= .bool (jr b)∧Wk w w'):=by
 refine enter func205 aa ntmps205 aa<|ag fun C=>ay<|C<|ag fun A=>au (.int .u8 b.toNat)<|p (gt aa aa)<|p mv<|gs (t:=5) aa (fun E=> ?_) fun E=> ?_;exact aJ aa (aX (.int .u8 b.toNat) aa)<|aJ aa (dd aa aa)<|p (bH aa)<|ay<|A<|rt<|a6 aa<|⟨by show ca (decide _)=_; rw [Dq]; exact bv (by constructor <;> intro h <;> first | exact ⟨ab,h⟩ | exact h.2),Md.refl _ _⟩
 exact aH aa<|aH aa<|p (bA aa)<|ay<|A<|rt<|a6 aa<|⟨by show ca false =_; rw [Dp ab],Md.refl _ _⟩
theorem ZF (b:UInt8) (w:World):
 bm aw 203 (bh [.int .u8 b.toNat]) w (fun v w'=>v= .bool (tj b)∧Wk w w'):=by
 refine enter func203 aa ntmps203 aa<|ag fun J=>ay<|J<|az fun G=>ag fun O=>au (.int .u8 b.toNat)<|nl<|O<|aT<|az fun I=>ag fun V=>p (bQ aa aa)<|ay<|V<|cd aa (fun A=> ?_) fun A=> ?_;refine aQ<|I<|cd aa (fun A=> ?_) fun A=> ?_;refine ag fun E=>ay<|E<|rt<|br<|tr<|a6 aa ?_
 first | exact ⟨by show ca true =_; rw [lW,decide_eq_true ab],Md.refl _ _⟩ | exact ⟨by show ca false =_; rw [lW,decide_eq_false ab],Md.refl _ _⟩
 refine aQ<|bn<|G<|ag fun E=>ay<|E<|rt<|a6 aa ?_
 first | exact ⟨by show ca true =_; rw [lW,decide_eq_true ab],Md.refl _ _⟩ | exact ⟨by show ca false =_; rw [lW,decide_eq_false ab],Md.refl _ _⟩
 refine ag fun E=>p (bQ aa aa)<|ay<|E<|cd aa (fun A=> ?_) fun A=> ?_;refine aQ<|I<|cd aa (fun A=> ?_) fun A=> ?_;refine ag fun C=>ay<|C<|rt<|br<|tr<|a6 aa ?_
 first | exact ⟨by show ca true =_; rw [lW,decide_eq_true ab],Md.refl _ _⟩ | exact ⟨by show ca false =_; rw [lW,decide_eq_false ab],Md.refl _ _⟩
 refine aQ<|bn<|G<|ag fun C=>ay<|C<|rt<|a6 aa ?_
 first | exact ⟨by show ca true =_; rw [lW,decide_eq_true ab],Md.refl _ _⟩ | exact ⟨by show ca false =_; rw [lW,decide_eq_false ab],Md.refl _ _⟩
 refine rg aa<|p (bQ aa aa)<|ay<|I<|cd aa (fun A=> ?_) fun A=> ?_;refine ag fun C=>ay<|C<|rt<|br<|tr<|a6 aa ?_
 first | exact ⟨by show ca true =_; rw [lW,decide_eq_true ab],Md.refl _ _⟩ | exact ⟨by show ca false =_; rw [lW,decide_eq_false ab],Md.refl _ _⟩
 refine aQ<|bn<|G<|ag fun C=>ay<|C<|rt<|a6 aa ?_
 first | exact ⟨by show ca true =_; rw [lW,decide_eq_true ab],Md.refl _ _⟩ | exact ⟨by show ca false =_; rw [lW,decide_eq_false ab],Md.refl _ _⟩
theorem OR (s:List UInt8) (w:World) (hs:s.length≤1048576):
 bm aw 139 (bh [str s]) w (fun v w'=>v= .bool (rk s)∧Wk w w'):=by
 refine enter func139 aa ntmps139 aa<|ag fun ah=>ay<|ah<|az fun ak=>ag fun O=>au (str s)<|p (et aa aa)<|p mv<|gs (t:=6) aa (fun I=> ?_) fun I=> ?_;exact aH aa<|aH aa<|aH aa<|p (bH aa)<|nl<|O<|ct aa<|az fun A=>rg aa<|ay<|A<|rt<|tr<|a6 aa<|⟨by show ca false =_; unfold rk; rw [decide_eq_false (by rw [I]; simp)],Md.refl _ _⟩
 refine aJ aa (aX (str s) aa)<|aJ aa (cR u9 aa aa)<|aJ aa (gt aa aa)<|p (bA aa)<|nl<|O<|cd aa (fun aq=> ?_) fun aq=> ?_;exact ag fun A=>ay<|A<|rt<|tr<|a6 aa<|⟨by show ca false =_; unfold rk; rw [decide_eq_false ab],Md.refl _ _⟩
 refine aQ<|ak<|az fun A=>ag fun al=>au (str s)<|p (cR u9 aa aa)<|p mv<|nl<|al<|aT<|lp (fun V ae ac=> ∃ (i:Nat),(i≤s.length∧1≤s.length∧s.length≤64)∧(∀ j,j < i→jr (s.getD j 0)=true)∧(Wk w ac)∧(Sl ae [(0,str s),(12,.int .i64 s.length),(13,.int .i64 i)])∧(s.length - i=V)) _ ⟨0,(⟨ab,by rcases Nat.eq_zero_or_pos s.length with h | h <;> first | exact absurd (yy.1 h) I | exact h,ab⟩),(fun j Z=>by omega),(Md.refl _ _),aa,aa⟩ ?_;rintro V ae ac ⟨i,hi,hp,E,ax,rfl⟩;refine bG ax<|ag fun am=>p (lt aa aa)<|nl<|am<|az fun an=>cd aa (fun av=> ?_) fun av=> ?_;refine aQ<|an<|az fun C=>aT<|ag fun ao=>au (.int .i64 i)<|p (cE (.int .i64 i) aa)<|nl<|ao<|ag fun ai=>au (str s)<|au (.int .i64 i)<|p (fj u9 aa aa ab)<|e<|cl H5 (Kj (s.getD i 0) _) aa fun aA aB ap=> ?_;obtain ⟨rfl,Y⟩:=ap;refine p (no aa)<|nl<|ai<|cb aa (fun G=> ?_) fun G=> ?_;have J:jr (s.getD i 0)=false :=by simpa using G
 exact ag fun aj=>ay<|aj<|rt<|br<|tr<|tr<|br<|tr<|a6 aa<|⟨by show ca false =_; unfold rk; rw [uD (i:=i) ab J,decide_eq_false (by simp)],Md.trans E Y⟩
 have J:jr (s.getD i 0)=true :=by simpa using G
 exact aQ<|bn<|C<|rg aa<|p (ad aa aa<|cB ab)<|p mv<|nl<|tn<|⟨_,ab,i+1,ab,(fun j Z=>by rcases fM j i with h | h <;> first | exact hp j h | (rw [show j=i by omega]; exact J)),(Md.trans E Y),aa,aa⟩
 exact ext<|bf<|bf<|be<|A<|ag fun C=>p aE<|nl<|C<|rt<|a6 aa<|⟨by show ca true =_; unfold rk; rw [wq (fun j Z=>hp j ab),decide_eq_true ⟨hi.2.1,hi.2.2,aa⟩],E⟩
theorem F9 (s:List UInt8) (w:World) (hs:s.length≤1048576):
 bm aw 138 (bh [str s]) w (fun v w'=>v=Nj (bF s)∧Wk w w'):=by
 refine enter func138 aa ntmps138 aa<|ag fun av=>p aE<|p aE<|p aE<|ay<|av<|ag fun aF=>e<|gk O6 fun A bs bd aZ aO=>nl<|aF<|az fun aG=>ag fun aI=>ay<|aI<|aT<|lp (fun an ap O=> ∃ (i:Nat) (acc:List UInt8) (C:Value),(i≤s.length∧acc.length≤i)∧(Bd 309 5 O A C acc)∧(Wk w O)∧(jV acc (s.drop i)=bF s)∧(Sl ap [(0,str s),(6,aV A),(7,.int .i64 i)])∧(s.length - i=an)) _ ⟨0,[],.slice none 0 0,(by simp),(Bd.new aO),aZ.md,aa,aa,aa⟩ ?_;rintro an ap O ⟨i,acc,C,hi,E,G,hd,ba,rfl⟩;refine bG ba<|az fun aK=>ag fun aL=>au (.int .i64 i)<|au (str s)<|p (cR u9 aa aa)<|p (lt aa aa)<|nl<|aL<|cd aa (fun a5=> ?_) fun a5=> ?_;refine aQ<|aK<|az fun Z=>aT<|ag fun aM=>au (str s)<|au (.int .i64 i)<|p (fj u9 aa aa ab)<|nl<|aM<|aT ?_;refine eo (fun aq ak=> ∃ (k:Nat),(k < s.length∧i≤k∧k≤i+1)∧(Bd 309 5 ak A C acc)∧(Wk w ak)∧(jV (acc++ [s.getD k 0]) (s.drop<|k+1)=bF s)∧(Sl aq [(0,str s),(6,aV A),(7,.int .i64 k)])) ?_ ?_;refine aT<|az fun ac=>aT<|az fun ax=>aT<|az fun aA=>az fun aC=>az fun aD=>rg aa<|p (bQ aa aa)<|ay<|aD<|cd aa (fun a6=> ?_) fun a6=> ?_;have a4:(s.getD i 0).toNat=47:=ab;refine ext<|bf<|bf<|be<|ax<|az fun al=>az fun V=> ?_;have I:(fun w'=>True) O.drew:=trivial;refine bY (fun w'=>True) aa wide I<|bO 1 aa (str s) I<|bO 2 aa (.int .i64 i) I<|aR 3 aa (bJ ((i+1:Nat):Int) aa aa<|bp ab ab) I<|aR 4 aa (mX u9 aa aa ab) I<|he 0 aa aj<|cl Cv (FK A C acc _ (E.md (Md.refl (fun _=>False) _).drew fun _ _ h=>h) ab) aa fun v21 bc a0=> ?_;obtain ⟨rfl,aU⟩:=a0;have J:(fun w'=>True) bc:=trivial;refine ⟨J,?_⟩;refine aR 5 aa (aE) J<|aR 6 aa (aE) J<|aR 7 aa (aE) J<|aR 8 aa (aE) J<|hn aj<|V<|rt<|tr<|br<|tr<|br<|tr<|br<|br<|tr<|tr<|br<|tr<|f4 aa aa aa aa aa ?_
 skip
 exact ⟨by rw [← hd,drop_cons 0 (by omega :i < s.length),F8 a4]; rfl,E.FI G (Md.trans (Md.refl _ _).drew aU) ab⟩;refine aQ<|aC<|ag fun al=>p (bQ aa aa)<|ay<|al<|cd aa (fun a7=> ?_) fun a7=> ?_;have ah:(s.getD i 0).toNat=92:=ab;refine ext<|bf<|p6 aB<|bf<|be<|ac<|ag fun V=>au (.int .i64 i)<|p (bJ ((i+1:Nat):Int) aa aa<|bp ab ab)<|ay<|V<|ag fun am=>p mv<|au (str s)<|p (cR u9 aa aa)<|p (bQ aa aa)<|p mv<|gs (t:=32) aa (fun a9=> ?_) fun a9=> ?_;refine aH aa<|aH aa<|aH aa<|aH aa<|aH aa<|p (bH aa)<|nl<|am<|ct aa<|ag fun Y=>p aE<|p aE<|p aE<|p aE<|nl<|Y<|rt<|br<|tr<|br<|br<|tr<|tr ?_;exact br<|tr<|f4 aa aa aa aa aa<|⟨by rw [← hd,drop_cons 0 (by omega :i < s.length),iJ ab,F5 ah]; rfl,G⟩
 refine aJ aa (aX (str s) aa)<|aJ aa mv<|aJ aa (fj u9 aa aa ab)<|eg aa aa aa<|cl Sq (ZF (s.getD (i+1) 0) _) aa fun bi bl a1=> ?_;obtain ⟨rfl,ae⟩:=a1;refine aJ aa (no aa)<|p (bA aa)<|nl<|am<|cb aa (fun ai=> ?_) fun ai=> ?_;exact ag fun Y=>p aE<|p aE<|p aE<|ay<|Y<|rt<|br<|tr<|br<|br<|tr<|tr<|br<|tr<|f4 aa aa aa aa aa<|⟨by rw [← hd,drop_cons 0 (by omega :i < s.length),drop_cons 0 (by omega :i+1 < s.length),F6 ah (by simpa using ai)]; rfl,Md.trans G ae⟩
 exact aQ<|bn<|tn<|⟨i+1,ab,(E.md ae fun _ _ h=>h),(Md.trans G ae),(by rw [← hd,drop_cons 0 (by omega :i < s.length),drop_cons 0 (by omega :i+1 < s.length),yb ah (by simpa using ai)]),aa⟩
 exact aQ<|aA<|ext<|p6 aB<|bf<|p6 aB<|bf<|be<|tn<|⟨i,ab,E,G,(by rw [← hd,drop_cons 0 (by omega :i < s.length),F7 ab ab]),aa⟩
 rintro aq ak ⟨k,hk,ao,aS,a8,bb⟩;refine bG bb<|ag fun ac=>au (str s)<|au (.int .i64 k)<|p (fj u9 aa aa ab)<|e<|cl H4 (O3 A C (acc) (s.getD k 0) _ ao ab) aa fun bj bo a2=> ?_;obtain ⟨rfl,aN,aP,aW,bg⟩:=a2;exact nl<|ac<|ext<|be<|bn<|Z<|rg aa<|au (.int .i64 k)<|p (ad aa aa<|cB ab)<|p aE<|nl<|tn<|⟨_,ab,k+1,acc++ [s.getD k 0],aN,(by rw [bL,fu]; omega),aP,(ao.step aS aW ab),a8,aa,aa⟩
 refine ext<|bf<|bf<|be<|aG<|ag fun Z=>e<|cl Cv (FK A C acc _ E ab) aa fun bk bq a3=> ?_;obtain ⟨rfl,aY⟩:=a3;exact p aE<|p aE<|p aE<|ay<|Z<|rt<|f4 aa aa aa aa aa<|⟨by rw [← hd,iJ ab,Bf]; rfl,E.FI G aY ab⟩
theorem Zm (s:List UInt8) (w:World) (hs:s.length≤1048576):
 bm aw 194 (bh [str s]) w (fun v w'=>v= .tuple #[str (letE s).1,.int .i64 (letE s).2]∧Wk w w'):=by
 refine enter func194 aa ntmps194 aa<|ag fun aG=>p aE<|ay<|aG<|ag fun aL=>e<|al adZ fun ac ba bc J av=> ?_;have aX:bS ba.heap ac (marksOf []):=by rw [ZH]; exact av
 refine nl<|aL<|az fun aM=>ag fun aN=>au (str s)<|p (et aa aa)<|nl<|aN<|cd aa (fun ao=> ?_) fun ao=> ?_;exact ag fun Z=>p aE<|ay<|Z<|rt<|tr<|f2 aa aa aa<|⟨by show gV #[str [],.int .i64 21]=_; unfold letE; rw [if_pos (.inl ao)]; rfl,J.md⟩
 refine aQ<|aM<|ag fun Z=>e<|gk O6 fun I bq bg aD aY=>nl<|Z<|az fun aO=>ag fun aP=>au (str s)<|p (cR u9 aa aa)<|p mv<|nl<|aP<|aT ?_;have bd:=av.lt;refine lp (fun aq aF V=> ∃ (i:Nat) (A:Value),(i≤s.length)∧(∀ j,j < i→jr (s.getD j 0)=true)∧(bS V.heap ac<|marksOf<|lets<|s.take i)∧(Bd 309 5 V I A<|lets<|s.take i)∧(Wk w V)∧(Sl aF [(0,str s),(4,aV ac),(5,aV I),(10,.int .i64 s.length),(11,.int .i64 i)])∧(s.length - i=aq)) _ ⟨0,.slice none 0 0,ab,(fun j ap=>by omega),(aD.md.B aX),(Bd.new aY),(Md.trans J.md aD.md),aa,aa⟩ ?_;rintro aq aF V ⟨i,A,hi,hp,aC,ah,ak,a8,rfl⟩;refine bG a8 ?_;have a7:=Ek<|s.take i;rw [dP] at a7;have bi:=aC.lt;refine ag fun aR=>p (lt aa aa)<|nl<|aR<|az fun aS=>cd aa (fun a6=> ?_) fun a6=> ?_;refine aQ<|aS<|az fun G=>aT<|ag fun aH=>au (.int .i64 i)<|p (cE (.int .i64 i) aa)<|nl<|aH<|az fun aI=>ag fun aJ=>au (str s)<|au (.int .i64 i)<|p (fj u9 aa aa ab)<|e<|cl H5 (Kj (s.getD i 0) _) aa fun v17 a9 a3=> ?_;obtain ⟨rfl,C⟩:=a3;refine p (no aa)<|nl<|aJ<|cb aa (fun am=> ?_) fun am=> ?_;have O:jr (s.getD i 0)=false :=by simpa using am
 exact ag fun Y=>p aE<|ay<|Y<|rt<|tr<|br<|tr<|tr<|br<|tr<|f2 aa aa aa<|⟨by show gV #[str [],.int .i64 21]=_; unfold letE; rw [if_pos (.inr<|uD ab O)]; rfl,Md.trans ak C⟩
 have O:jr (s.getD i 0)=true :=by simpa using am
 have ax:Wk w a9:=Md.trans ak C;have ae:=C.B aC;have aj:=ah.md C fun _ _ h=>h;have bk:=C.size;refine aQ<|aI<|ag fun Y=>au (str s)<|au (.int .i64 i)<|p (fj u9 aa aa ab)<|p (kJ Ht aa aa<|by have :=jy (s.getD i 0); omega)<|p (ld nq aa<|ZJ ae _)<|p (no aa)<|nl<|Y<|cb aa (fun an=> ?_) fun an=> ?_;have E:¬s.getD i 0∈lets (s.take i):=of_decide_eq_false<|by simpa using an
 refine ag fun aK=>au (str s)<|au (.int .i64 i)<|p (fj u9 aa aa ab)<|p (kJ Ht aa aa<|by have :=jy (s.getD i 0); omega)<|e<|st Jd aa aa (aa) (ae) (by rw [Mp]; have :=jy (s.getD i 0); omega) fun bb aA aW=> ?_;have a2:=ZK aW;have a0:Wk w bb:=Md.trans' ax aA fun k hk h=>by omega
 have ai:=aj.md aA fun k hk h=>by have :=aj.jS hk; omega
 refine nl<|aK<|rg aa<|au (str s)<|au (.int .i64 i)<|p (fj u9 aa aa ab)<|e<|cl H4 (O3 I A (lets<|s.take i) (s.getD i 0) _ ai ab) aa fun v32 bo a4=> ?_;obtain ⟨rfl,aU,aZ,aB,bj⟩:=a4;exact nl<|bn<|G<|rg aa<|p (ad aa aa<|cB ab)<|p mv<|nl<|tn<|⟨_,ab,i+1,aU,ab,(fun j ap=>by rcases fM j i with h | h <;> first | exact hp j h | (rw [show j=i by omega]; exact O)),(by rw [se ab,if_neg E]; exact aB.B a2 fun h=>by have :=ai.jS h; omega),(by rw [se ab,if_neg E]; exact aZ),(ai.step a0 aB<|by have :=J.md.size; omega),aa,aa⟩
 have E:s.getD i 0∈lets (s.take i):=by simpa using an
 exact aQ<|bn<|G<|rg aa<|p (ad aa aa<|cB ab)<|p mv<|nl<|tn<|⟨_,ab,i+1,A,ab,(fun j ap=>by rcases fM j i with h | h <;> first | exact hp j h | (rw [show j=i by omega]; exact O)),(by rw [se ab,if_pos E]; exact ae),(by rw [se ab,if_pos E]; exact aj),ax,aa,aa⟩
 refine ext<|bf<|bf<|be<|aO<|ag fun G=>e<|cl Cv (FK I A (lets<|s.take i) _ ah<|by have :=Ek (s.take i); rw [dP] at this; omega) aa fun bl bp a5=> ?_;obtain ⟨rfl,a1⟩:=a5;exact p aE<|ay<|G<|rt<|f2 aa aa aa<|⟨by show gV #[str (lets<|s.take i),.int .i64 0]=_; unfold letE; rw [if_neg (by rw [wq (fun j ap=>hp j ab)]; exact fun h=>h.elim ao ep),show s.take i=s from e9 ab]; rfl,ah.FI ak a1<|by have :=J.md.size; omega⟩
end Go.Hb
end
section
namespace Go.Hb
open Go.Hb.dZ
theorem z8 {s:List UInt8} (h:¬s= []) (h1:¬(1 < s.length∧(s.getD 0 0).toNat=48)):¬r9 s:=fun A=>A.elim h h1
theorem Nc {s:List UInt8} (h:¬r9 s):0 < s.length:=l7.2 fun e=>h<|.inl e
theorem Ar (s:List UInt8) (most:Int) (w:World) (hs:s.length≤1048576) (hm: -9223372036854775808≤most∧most≤9223372036854775807):
 bm aw 137 (bh [str s,.int .i64 most]) w (fun v w'=>v= .tuple #[.int .i64 (ew s most).1,.int .i64 (ew s most).2]∧Wk w w'):=by
 refine enter func137 aa ntmps137 aa<|ag fun aj=>p aE<|ay<|aj ?_;refine eo (fun ai V=>(¬r9 s)∧(V=w)∧(Sl ai [(0,str s),(1,.int .i64 most)])) ?_ ?_;refine ag fun C=>au (str s)<|p (et aa aa)<|p mv<|gs (t:=11) aa (fun I=> ?_) fun I=> ?_;exact aH aa<|aH aa<|aH aa<|aH aa<|ek aa<|ek aa<|ek aa<|aH aa<|p (bH aa)<|nl<|C<|ct aa<|ag fun E=>p aE<|p aE<|nl<|E<|rt<|tr<|f2 aa aa aa<|⟨by show gV #[.int .i64 0,.int .i64 13]=_; rw [Aq (.inl I)]; rfl,Md.refl _ _⟩
 refine aJ aa (aX (str s) aa)<|aJ aa (cR u9 aa aa)<|aJ aa (gt aa aa)<|aJ aa mv<|gs (t:=15) aa (fun aF=> ?_) fun aF=> ?_;refine aJ aa (aX (str s) aa)<|aJ aa (jJ 0 u9 aa aa ab)<|aJ aa (bQ aa aa)<|aJ aa (bH aa)<|p (bA aa)<|nl<|C<|cd aa (fun aA=> ?_) fun aA=> ?_;exact ag fun E=>p aE<|ay<|E<|rt<|tr<|f2 aa aa aa<|⟨by show gV #[.int .i64 0,.int .i64 13]=_; rw [Aq (.inr ⟨ab,ab⟩)]; rfl,Md.refl _ _⟩
 have J:=z8 (s:=s) I ab;exact aQ<|tn<|⟨J,aa,aa⟩
 exact aH aa<|aH aa<|aH aa<|aJ aa (bA aa)<|p (bA aa)<|nl<|C<|cf aa<|aQ<|tn<|⟨(z8 (s:=s) I ab),aa,aa⟩
 rintro ai V ⟨J,av,aL⟩;refine bG aL ?_;subst av;have hp:=Nc J;refine ag fun C=>ay<|C<|az fun E=>ag fun am=>au (str s)<|p (cR u9 aa aa)<|p mv<|nl<|am<|aT<|lp (fun Z Y ah=> ∃ (i:Nat),(i≤s.length)∧(ah=V)∧((fi (s.take i):Int)≤max 0 most∧(0 < i→(fi (s.take i):Int)≤most))∧(∀ j,j < i→rU (s.getD j 0)=true)∧(Y 6=ak (fi<|s.take i))∧(Sl Y [(0,str s),(1,.int .i64 most),(22,.int .i64 s.length),(23,.int .i64 i)])∧(s.length - i=Z)) _ ⟨0,ab,aa,(by rw [mA]; show (0:Int)≤_∧_; omega),(fun j ae=>by omega),(iv<|by first | rfl | (rw [ou ab])),aa,aa⟩ ?_;rintro Z Y ah ⟨i,hi,ax,hn,ac,aN,aM,rfl⟩;refine bG aM<|fx 6 aN ?_;subst ax;have aO:=jy<|s.getD i 0;refine ag fun an=>p (lt aa aa)<|nl<|an<|az fun ao=>cd aa (fun aB=> ?_) fun aB=> ?_;refine aQ<|ao<|az fun O=>aT<|ag fun ap=>au (.int .i64 i)<|p (cE (.int .i64 i) aa)<|nl<|ap<|ag fun aq=>au (str s)<|au (.int .i64 i)<|p (fj u9 aa aa ab)<|p (zi u3 rj aa<|cB ab)<|p (sb aa aa<|cB ab)<|ay<|aq<|az fun al=>ag fun G=>p mv<|p (lt aa aa)<|p mv<|gs (t:=33) aa (fun aG=> ?_) fun aG=> ?_;refine aH aa<|aH aa<|p (bH aa)<|p mv<|aH aa<|aH aa<|aH aa<|p (bH aa)<|p mv<|aH aa<|aH aa<|aH aa<|aH aa<|aH aa<|aH aa<|p (bH aa)<|nl<|G<|ct aa<|ag fun A=>p aE<|p aE<|nl<|A<|rt<|tr<|br<|tr<|tr<|br<|tr ?_;exact f2 aa aa aa<|⟨by show gV #[.int .i64 0,.int .i64 13]=_; rw [Ap (i:=i) ab (zo ab)]; rfl,Md.refl _ _⟩
 refine aJ aa mv<|aJ aa (gt aa aa)<|p (bA aa)<|p mv<|gs (t:=37) aa (fun aI=> ?_) fun aI=> ?_;exact aH aa<|aH aa<|aH aa<|p (bH aa)<|p mv<|aH aa<|aH aa<|aH aa<|aH aa<|aH aa<|aH aa<|p (bH aa)<|nl<|G<|ct aa<|az fun A=>rg aa<|p aE<|ay<|A<|rt<|tr<|br<|tr<|tr<|br<|tr<|f2 aa aa aa<|⟨by show gV #[.int .i64 0,.int .i64 13]=_; rw [Ap (i:=i) ab (zo ab)]; rfl,Md.refl _ _⟩
 refine aJ aa (aX (.int .i64 most) aa)<|aJ aa mv<|aJ aa (lt aa aa)<|p (bA aa)<|p mv<|gs (t:=42) aa (fun aK=> ?_) fun aK=> ?_;refine aH aa<|aH aa<|aH aa<|aH aa<|aH aa<|aH aa<|p (bH aa)<|nl<|G<|ct aa<|ag fun A=>p aE<|ay<|A ?_;exact rt<|tr<|br<|tr<|tr<|br<|tr<|f2 aa aa aa<|⟨by show gV #[.int .i64 0,.int .i64 13]=_; rw [xJ (i+1) (by rw [ou ab]; omega)]; rfl,Md.refl _ _⟩
 have aP:((s.getD i 0).toNat:Int) - 48≤most:=ab;refine aJ aa (aX (ak<|fi<|s.take i) aa)<|aJ aa (aX (.int .i64 most) aa)<|aJ aa mv<|aJ aa (sb aa aa<|cB ab)<|aJ aa (ss (((most - (((s.getD i 0).toNat:Int) - 48)).toNat / 10:Nat):Int) aa aa ab<|bp ab ab)<|aJ aa (gt aa aa)<|p (bA aa)<|nl<|G<|cd aa (fun aC=> ?_) fun aC=> ?_;exact ag fun A=>p aE<|ay<|A<|rt<|tr<|br<|tr<|tr<|br<|tr<|f2 aa aa aa<|⟨by show gV #[.int .i64 0,.int .i64 13]=_; rw [xJ (i+1) (by rw [ou ab]; omega)]; rfl,Md.refl _ _⟩
 have aD:rU (s.getD i 0)=true :=decide_eq_true ab;exact aQ<|al<|rg aa<|au (ak<|fi<|s.take i)<|p (qi ((fi (s.take i)*10:Nat):Int) aa aa<|bp ab ab)<|p mv<|p (bJ ((fi (s.take i)*10 +((s.getD i 0).toNat - 48):Nat):Int) aa aa<|bp ab ab)<|p aE<|nl<|bn<|O<|rg aa<|p (ad aa aa<|cB ab)<|p mv<|nl<|tn<|⟨_,ab,i+1,ab,aa,(by rw [ou ab]; omega),(fun j ae=>by rcases fM j i with h | h <;> first | exact ac j h | (rw [show j=i by omega]; exact aD)),(iv<|by first | rfl | (rw [ou ab])),aa,aa⟩
 exact ext<|bf<|bf<|be<|E<|ag fun O=>au (ak<|fi<|s.take i)<|p (cE (ak<|fi<|s.take i) aa)<|ay<|O<|rt<|f2 aa aa aa<|⟨by show gV #[ak (fi<|s.take i),.int .i64 0]=_; rw [show s.take i=s from e9 ab,EF J (fun j ae=>ac j ab) (by rw [show s.take i=s from e9 ab] at hn; omega)],Md.refl _ _⟩
theorem tD (s:List UInt8) (most:Int) (w:World) (hs:s.length≤1048576) (hm: -9223372036854775808≤most∧most≤9223372036854775807):
 bm aw 99 (bh [str s,.int .i64 most]) w (fun v w'=>v= .tuple #[.int .i64 (ew s most).1,.int .i64 (ew s most).2]∧Wk w w'):=by
 refine enter func99 aa ntmps99 aa<|ag fun av=>p aE<|ay<|av ?_;refine eo (fun ap ai=>(¬r9 s)∧(ai=w)∧(Sl ap [(0,str s),(1,.int .i64 most)])) ?_ ?_;refine ag fun C=>au (str s)<|p (cR u9 aa aa)<|p (bQ aa aa)<|p mv<|gs (t:=13) aa (fun ah=> ?_) fun ah=> ?_;exact aH aa<|aH aa<|aH aa<|aH aa<|ek aa<|ek aa<|ek aa<|aH aa<|p (bH aa)<|nl<|C<|ct aa<|ag fun E=>p aE<|p aE<|nl<|E<|rt<|tr<|f2 aa aa aa<|⟨by show gV #[.int .i64 0,.int .i64 13]=_; rw [Aq (.inl<|yy.1 ab)]; rfl,Md.refl _ _⟩
 refine aJ aa (aX (str s) aa)<|aJ aa (cR u9 aa aa)<|aJ aa (gt aa aa)<|aJ aa mv<|gs (t:=17) aa (fun aR=> ?_) fun aR=> ?_;refine aJ aa (aX (str s) aa)<|aJ aa (jJ 0 u9 aa aa ab)<|aJ aa (bQ aa aa)<|aJ aa (bH aa)<|p (bA aa)<|nl<|C<|cd aa (fun aI=> ?_) fun aI=> ?_;exact ag fun E=>p aE<|ay<|E<|rt<|tr<|f2 aa aa aa<|⟨by show gV #[.int .i64 0,.int .i64 13]=_; rw [Aq (.inr ⟨ab,ab⟩)]; rfl,Md.refl _ _⟩
 exact aQ<|tn<|⟨(z8 (s:=s) (fun e=>by subst e; exact ah aa) ab),aa,aa⟩
 exact aH aa<|aH aa<|aH aa<|aJ aa (bA aa)<|p (bA aa)<|nl<|C<|cf aa<|aQ<|tn<|⟨(z8 (s:=s) (fun e=>by subst e; exact ah aa) ab),aa,aa⟩
 rintro ap ai ⟨am,aD,aW⟩;refine bG aW ?_;subst aD;have hp:=Nc am;refine ag fun C=>ay<|C<|az fun E=>ag fun aA=>ay<|aA<|aT<|lp (fun I aq aj=> ∃ (i:Nat),(i≤s.length)∧(aj=ai)∧(∀ j,j < i→rU (s.getD j 0)=true)∧(Sl aq [(0,str s),(1,.int .i64 most),(6,.int .i64 0),(7,.int .i64 i)])∧(s.length - i=I)) _ ⟨0,ab,aa,(fun j an=>by omega),aa,aa⟩ ?_;rintro I aq aj ⟨i,hi,aF,J,aY,rfl⟩;refine bG aY ?_;subst aF;refine az fun aB=>ag fun aC=>au (.int .i64 i)<|au (str s)<|p (cR u9 aa aa)<|p (lt aa aa)<|nl<|aC<|cd aa (fun aK=> ?_) fun aK=> ?_;refine aQ<|aB<|az fun ae=>aT<|ag fun V=>au (str s)<|au (.int .i64 i)<|p (fj u9 aa aa ab)<|p (lt aa aa)<|p mv<|gs (t:=33) aa (fun aS=> ?_) fun aS=> ?_;exact aH aa<|aH aa<|aH aa<|aH aa<|p (bH aa)<|nl<|V<|ct aa<|ag fun G=>p aE<|ay<|G<|rt<|br<|tr<|tr<|br<|tr<|f2 aa aa aa<|⟨by show gV #[.int .i64 0,.int .i64 13]=_; rw [Ap (i:=i) ab (zo ab)]; rfl,Md.refl _ _⟩
 refine aJ aa (aX (str s) aa)<|aJ aa (aX (.int .i64 i) aa)<|aJ aa (fj u9 aa aa ab)<|aJ aa (gt aa aa)<|p (bA aa)<|nl<|V<|cd aa (fun aL=> ?_) fun aL=> ?_;exact ag fun G=>p aE<|ay<|G<|rt<|br<|tr<|tr<|br<|tr<|f2 aa aa aa<|⟨by show gV #[.int .i64 0,.int .i64 13]=_; rw [Ap (i:=i) ab (zo ab)]; rfl,Md.refl _ _⟩
 have aP:rU (s.getD i 0)=true :=decide_eq_true ab;exact aQ<|bn<|ae<|rg aa<|au (.int .i64 i)<|p (ad aa aa<|cB ab)<|p aE<|nl<|tn<|⟨_,ab,i+1,ab,aa,(fun j an=>by rcases fM j i with h | h <;> first | exact J j h | (rw [show j=i by omega]; exact aP)),aa,aa⟩
 refine ext<|bf<|bf<|be<|E<|az fun ae=>ag fun V=>ay<|V<|aT<|lp (fun I al ao=> ∃ (j:Nat),(j≤s.length)∧(ao=aj)∧(fi (s.take j)≤9223372036854775807)∧(al 6=ak (fi<|s.take j))∧(Sl al [(0,str s),(1,.int .i64 most),(8,.int .i64 j)])∧(s.length - j=I)) _ ⟨0,ab,aa,(by rw [mA]; exact Nat.zero_le _),(iv<|by first | rfl | (rw [ou ab])),aa,aa⟩ ?_;rintro I al ao ⟨j,an,aG,hn,a0,aZ,rfl⟩;refine bG aZ<|fx 6 a0 ?_;subst aG;refine az fun G=>ag fun ax=>au (.int .i64 j)<|au (str s)<|p (cR u9 aa aa)<|p (lt aa aa)<|nl<|ax<|cd aa (fun aM=> ?_) fun aM=> ?_;refine aQ<|G<|az fun O=>aT<|az fun Y=> ?_;have a1:=C6<|J j ab;refine rg aa<|au (str s)<|au (.int .i64 j)<|p (fj u9 aa aa ab)<|p (sb aa aa<|vD ab)<|p (zi u3 rj aa<|cB ab)<|p aE<|nl<|Y<|az fun A=>ag fun Z=>au (ak<|fi<|s.take j)<|p (gt aa aa)<|p mv<|gs (t:=52) aa (fun aU=> ?_) fun aU=> ?_;refine aH aa<|aH aa<|aH aa<|ek aa<|ek aa<|aH aa<|p (bH aa)<|nl<|Z<|ct aa<|ag fun ac=>p aE<|ay<|ac ?_;exact rt<|tr<|br<|tr<|tr<|br<|tr<|f2 aa aa aa<|⟨by show gV #[.int .i64 0,.int .i64 13]=_; rw [xJ (j+1) (by rw [ou ab]; omega)]; rfl,Md.refl _ _⟩
 refine aJ aa (aX (ak<|fi<|s.take j) aa)<|aJ aa (bQ aa aa)<|aJ aa mv<|gs (t:=55) aa (fun aV=> ?_) fun aV=> ?_;refine aJ aa mv<|aJ aa (gt aa aa)<|aJ aa (bH aa)<|p (bA aa)<|nl<|Z<|cd aa (fun aN=> ?_) fun aN=> ?_;exact ag fun ac=>p aE<|ay<|ac<|rt<|tr<|br<|tr<|tr<|br<|tr<|f2 aa aa aa<|⟨by show gV #[.int .i64 0,.int .i64 13]=_; rw [xJ (j+1) (by rw [ou ab]; omega)]; rfl,Md.refl _ _⟩
 exact aQ<|A<|rg aa<|au (ak<|fi<|s.take j)<|p (qi ((fi (s.take j)*10:Nat):Int) aa aa<|bp ab ab)<|p mv<|p (bJ ((fi (s.take j)*10 +((s.getD j 0).toNat - 48):Nat):Int) aa aa<|bp ab ab)<|p aE<|nl<|bn<|O<|rg aa<|au (.int .i64 j)<|p (ad aa aa<|cB ab)<|p aE<|nl<|tn<|⟨_,ab,j+1,ab,aa,(by have :=C6 (J j ab); rw [ou ab]; omega),(iv<|by first | rfl | (rw [ou ab])),aa,aa⟩
 refine aH aa<|aH aa<|aJ aa (bA aa)<|p (bA aa)<|nl<|Z<|cf aa<|aQ<|A<|rg aa<|au (ak<|fi<|s.take j)<|p (qi ((fi (s.take j)*10:Nat):Int) aa aa<|bp ab ab)<|p mv<|p (bJ ((fi (s.take j)*10 +((s.getD j 0).toNat - 48):Nat):Int) aa aa<|bp ab ab)<|p aE<|nl ?_;exact bn<|O<|rg aa<|au (.int .i64 j)<|p (ad aa aa<|cB ab)<|p aE<|nl<|tn<|⟨_,ab,j+1,ab,aa,(by have :=C6 (J j ab); rw [ou ab]; omega),(iv<|by first | rfl | (rw [ou ab])),aa,aa⟩
 refine ext<|bf<|bf<|be<|ae<|az fun O=>ag fun Y=>au (ak<|fi<|s.take j)<|au (.int .i64 most)<|p (gt aa aa)<|nl<|Y<|cd aa (fun aO=> ?_) fun aO=> ?_;exact ag fun A=>p aE<|ay<|A<|rt<|tr<|f2 aa aa aa<|⟨by show gV #[.int .i64 0,.int .i64 13]=_; rw [xJ j ab]; rfl,Md.refl _ _⟩
 exact aQ<|O<|ag fun A=>au (ak<|fi<|s.take j)<|p (cE (ak<|fi<|s.take j) aa)<|p aE<|nl<|A<|rt<|f2 aa aa aa<|⟨by show gV #[ak (fi<|s.take j),.int .i64 0]=_; rw [show s.take j=s from e9 ab,EF am (fun q a2=>J q ab) (by rw [show s.take j=s from e9 ab] at*; omega)],Md.refl _ _⟩
end Go.Hb
end
section
namespace Go.Hb
open Go.Hb.dZ
theorem E3 {s pr:List UInt8} (h:s.take pr.length=pr):pr.length≤s.length:=by
 have :=congrArg List.length h;rw [dP] at this; omega
theorem acG {s:List UInt8} (h:decide (1≤s.length∧s.drop (s.length - 1)= [13])=true):ka s=s.take (s.length - 1):=by
 have h1:=of_decide_eq_true h;rw [L7 ab] at h1;exact JA ab<|by simpa using h1.2
theorem acH {s:List UInt8} (h:decide (1≤s.length∧s.drop (s.length - 1)= [13])=false):ka s=s:=by
 have h1:=of_decide_eq_false h;refine Db fun h2=>h1 ⟨ab,?_⟩;rw [L7 ab,h2.2]
theorem YS (c:UInt8):fJ c [c]=0:=by unfold fJ; simp
theorem D7 (s pr:List UInt8) (w:World) (hs:s.length≤1099511627776) (hp:pr.length≤1099511627776):
 bm aw 217 (bh [str s,str pr]) w (fun v w'=>v= .bool (decide (s.take pr.length=pr))∧Wk w w'):=by
 refine enter func217 aa ntmps217 aa<|ag fun C=>ay<|C<|ag fun A=>au (str s)<|p (cR u9 aa aa)<|au (str pr)<|p (cR u9 aa aa)<|p (ge aa aa)<|p mv<|gs (t:=10) aa (fun E=> ?_) fun E=> ?_;exact aJ aa (aX (str s) aa)<|aJ aa (aX (str pr) aa)<|aJ aa (cR u9 aa aa)<|aJ aa (sx u9 aa aa ab)<|aJ aa (aX (str pr) aa)<|aJ aa (et aa aa)<|p (bH aa)<|p aE<|nl<|A<|rt<|a6 aa<|⟨aa,Md.refl _ _⟩
 exact aH aa<|aH aa<|aH aa<|aH aa<|aH aa<|aH aa<|p (bA aa)<|p aE<|nl<|A<|rt<|a6 aa<|⟨by show ca false =_; rw [decide_eq_false (fun h=>by have :=E3 h; omega)],Md.refl _ _⟩
theorem acW (s pr:List UInt8) (w:World) (hs:s.length≤1099511627776) (hp:pr.length≤1099511627776):
 bm aw 210 (bh [str s,str pr]) w (fun v w'=>v=str (gi s pr)∧Wk w w'):=by
 refine enter func210 aa ntmps210 aa<|ag fun I=>ay<|I<|az fun J=>ag fun O=>au (str s)<|au (str pr)<|e<|cl Cw (D7 s pr _ hs hp) aa fun Z ac V=> ?_;obtain ⟨rfl,G⟩:=V;refine nl<|O<|cb aa (fun E=> ?_) fun E=> ?_;have A:=of_decide_eq_true E;have Y:=E3 A;exact ag fun C=>au (str s)<|au (str pr)<|p (cR u9 aa aa)<|p (mX u9 aa aa ab)<|p aE<|nl<|C<|rt<|tr<|a6 aa<|⟨by show str (s.drop (pr.length:Int).toNat)=_; unfold gi; rw [if_pos A]; rfl,G⟩
 have A:=of_decide_eq_false E;exact aQ<|J<|ag fun C=>au (str s)<|p (cE (str s) aa)<|nl<|C<|rt<|a6 aa<|⟨by show str s=_; unfold gi; rw [if_neg A],G⟩
theorem Ov (s pr:List UInt8) (w:World) (hs:s.length≤1099511627776) (hp:pr.length≤1099511627776):
 bm aw 146 (bh [str s,str pr]) w (fun v w'=>v=str (gi s pr)∧Wk w w'):=by
 refine enter func146 aa ntmps146 aa<|ag fun A=>ay<|A<|ag fun C=>au (str s)<|au (str pr)<|e<|cl Ss (acW s pr _ hs hp) aa fun I J G=> ?_;obtain ⟨rfl,E⟩:=G;exact ay<|C<|rt<|a6 aa<|⟨aa,E⟩
theorem z6 (s pr:List UInt8) (w:World) (hs:s.length≤1099511627776) (hp:pr.length≤1099511627776):
 bm aw 216 (bh [str s,str pr]) w (fun v w'=>v= .bool (decide (pr.length≤s.length∧s.drop (s.length - pr.length)=pr))∧Wk w w'):=by
 refine enter func216 aa ntmps216 aa<|ag fun C=>ay<|C<|ag fun A=>au (str s)<|p (cR u9 aa aa)<|au (str pr)<|p (cR u9 aa aa)<|p (ge aa aa)<|p mv<|gs (t:=10) aa (fun E=> ?_) fun E=> ?_;exact aJ aa (aX (str s) aa)<|aJ aa (aX (str s) aa)<|aJ aa (cR u9 aa aa)<|aJ aa (aX (str pr) aa)<|aJ aa (cR u9 aa aa)<|aJ aa (sb aa aa<|cB ab)<|aJ aa (mX u9 aa aa ab)<|aJ aa (aX (str pr) aa)<|aJ aa (et aa aa)<|p (bH aa)<|ay<|A<|rt<|a6 aa<|⟨by show ca (decide (s.drop ((s.length:Int) - (pr.length:Int)).toNat=pr))=_; rw [show ((s.length:Int) - (pr.length:Int)).toNat=s.length - pr.length from by omega]; exact bv (by constructor <;> intro h <;> first | exact ⟨ab,h⟩ | exact h.2),Md.refl _ _⟩
 exact aH aa<|aH aa<|aH aa<|aH aa<|aH aa<|aH aa<|aH aa<|aH aa<|aH aa<|p (bA aa)<|ay<|A<|rt<|a6 aa<|⟨by show ca false =_; rw [decide_eq_false ab],Md.refl _ _⟩
theorem acZ (s:List UInt8) (w:World) (hs:s.length≤1099511627776):
 bm aw 209 (bh [str s,str [13]]) w (fun v w'=>v=str (ka s)∧Wk w w'):=by
 refine enter func209 aa ntmps209 aa<|ag fun G=>ay<|G<|az fun I=>ag fun J=>au (str s)<|au (str [13])<|e<|cl y6 (z6 s [13] _ hs aB) aa fun Z ac O=> ?_;obtain ⟨rfl,E⟩:=O;refine nl<|J<|cb aa (fun A=> ?_) fun A=> ?_;have Y:=(of_decide_eq_true A).1;have V:([13]:List UInt8).length=1:=rfl;exact ag fun C=>au (str s)<|au (str s)<|p (cR u9 aa aa)<|au (str [13])<|p (cR u9 aa aa)<|p (sb aa aa<|cB ab)<|p (sx u9 aa aa ab)<|ay<|C<|rt<|tr<|a6 aa<|⟨by show str (s.take ((s.length:Int) - (([13]:List UInt8).length:Int)).toNat)=_; rw [acG A,show ((s.length:Int) - (([13]:List UInt8).length:Int)).toNat=s.length - 1 from by simp only [fu]; omega],E⟩
 exact aQ<|I<|ag fun C=>au (str s)<|p (cE (str s) aa)<|nl<|C<|rt<|a6 aa<|⟨by show str s=_; rw [acH A],E⟩
theorem ac0 (s:List UInt8) (w:World) (hs:s.length≤1099511627776):
 bm aw 145 (bh [str s,str [13]]) w (fun v w'=>v=str (ka s)∧Wk w w'):=by
 refine enter func145 aa ntmps145 aa<|ag fun A=>ay<|A<|ag fun C=>au (str s)<|au (str [13])<|e<|cl H7 (acZ s _ hs) aa fun I J G=> ?_;obtain ⟨rfl,E⟩:=G;exact ay<|C<|rt<|a6 aa<|⟨aa,E⟩
theorem LK (s:List UInt8) (c:UInt8) (w:World):
 bm aw 275 (bh [str s,.int .u8 c.toNat]) w (fun v w'=>v= .int .i64 (fJ c s)∧Wk w w'):=by
 exact enter func275 aa ntmps275 aa<|ag fun A=>ay<|A<|ag fun C=>au (str s)<|au (.int .u8 c.toNat)<|p (IU (YT s c _) aa)<|ay<|C<|rt<|a6 aa<|⟨aa,Md.refl _ _⟩
theorem LJ (s:List UInt8) (c:UInt8) (w:World):
 bm aw 263 (bh [str s,str [c]]) w (fun v w'=>v= .int .i64 (fJ c s)∧Wk w w'):=by
 refine enter func263 aa ntmps263 aa<|ag fun E=>ay<|E<|ag fun G=>au (str [c])<|p (cR u9 aa aa)<|ay<|G<|az fun Y=>aT<|ag fun I=>p mv<|p (bQ aa aa)<|p mv<|gs (t:=19) aa (fun h=>absurd h<|by simp) fun ab=>aJ aa (aX (str [c]) aa)<|aJ aa (aX (str s) aa)<|aJ aa (et aa aa)<|p (bA aa)<|ay<|I<|cd aa (fun C=> ?_) fun C=> ?_;exact ag fun A=>ay<|A<|rt<|br<|tr<|a6 aa<|⟨by show Value.int .i64 0=_; rw [← C,YS],Md.refl _ _⟩
 refine ag fun A=>p mv<|p (bQ aa aa)<|ay<|A<|cd aa (fun Z=> ?_) fun h=>absurd aa h;refine ag fun J=>au (str s)<|au (str [c])<|p (jJ 0 u9 aa aa<|by simp)<|e<|cl Ik (LK s c _) aa fun v30 ac V=> ?_;obtain ⟨rfl,O⟩:=V;exact ay<|J<|rt<|br<|tr<|a6 aa<|⟨aa,O⟩
theorem YD (s:List UInt8) (c:UInt8) (w:World):
 bm aw 299 (bh [str s,str [c]]) w (fun v w'=>v= .int .i64 (fJ c s)∧Wk w w'):=by
 refine enter func299 aa ntmps299 aa<|ag fun A=>ay<|A<|ag fun C=>au (str s)<|au (str [c])<|e<|cl Ij (LJ s c _) aa fun I J G=> ?_;obtain ⟨rfl,E⟩:=G;exact ay<|C<|rt<|a6 aa<|⟨aa,E⟩
theorem U6 (s:List UInt8) (c:UInt8) (w:World) (hs:s.length≤1099511627776):
 bm aw 232 (bh [str s,str [c]]) w (fun v w'=>v= .tuple #[str (nv c s),str (pk c s),.bool (!decide (fJ c s < 0))]∧Wk w w'):=by
 refine enter func232 aa ntmps232 aa<|ag fun I=>p aE<|p aE<|ay<|I<|az fun J=>ag fun O=>au (str s)<|au (str [c])<|e<|cl Ij (LJ s c _) aa fun v10 E Y=> ?_;obtain ⟨rfl,G⟩:=Y;refine ay<|O<|ag fun V=>p mv<|p (ge aa aa)<|nl<|V<|cd aa (fun Z=> ?_) fun Z=> ?_;have ac:=tq (c:=c) (l:=s) ab;have ae:[c].length=1:=rfl;refine az fun C=> ?_;have A:(fun w'=>Wk E w') E.drew:=(Md.refl _ _).drew;exact bY (fun w'=>Wk E w') aa wide A<|bO 0 aa (str s) A<|aR 1 aa (mv) A<|aR 2 aa (sx u9 aa aa ab) A<|bO 3 aa (str s) A<|aR 4 aa (mv) A<|bO 5 aa (str [c]) A<|aR 6 aa (cR u9 aa aa) A<|aR 7 aa (bJ ((s.idxOf c+1:Nat):Int) aa aa<|bp ab ab) A<|aR 8 aa (mX u9 aa aa ab) A<|aR 9 aa (aE) A<|aR 10 aa (aE) A<|aR 11 aa (aE) A<|hn aj<|C<|rt<|tr<|f3 aa aa aa aa<|⟨by show gV #[str (s.take (fJ c s).toNat),str (s.drop<|s.idxOf c+1),.bool true]=_; unfold nv pk; rw [if_neg ab,if_neg ab,ac.1,decide_eq_false ab]; rfl,Md.trans G (Md.refl _ _).drew⟩
 exact aQ<|J<|ag fun C=>au (str s)<|p (cE (str s) aa)<|p aE<|p aE<|nl<|C<|rt<|f3 aa aa aa aa<|⟨by show gV #[str s,str [],.bool false]=_; unfold nv pk; rw [if_pos ab,if_pos ab,decide_eq_true ab]; rfl,G⟩
theorem Va (s:List UInt8) (c:UInt8) (w:World) (hs:s.length≤1099511627776):
 bm aw 190 (bh [str s,str [c]]) w (fun v w'=>v= .tuple #[str (nv c s),str (pk c s),.bool (!decide (fJ c s < 0))]∧Wk w w'):=by
 refine enter func190 aa ntmps190 aa<|ag fun A=>p aE<|p aE<|ay<|A<|az fun C=>rg aa<|au (str s)<|au (str [c])<|e<|cl SD (U6 s c _ hs) aa fun v9 I G=> ?_;obtain ⟨rfl,E⟩:=G;exact p (xt aa aa)<|p (xt aa aa)<|p (xt aa aa)<|p aE<|p aE<|ay<|C<|rt<|f3 aa aa aa aa<|⟨aa,E⟩
end Go.Hb
end
section
namespace Go.Hb
open Go.Hb.dZ
theorem YP (x:Nat) (w:World):
 bm aw 303 (bh [bo x]) w (fun v w'=>v= .bool false∧Wk w w'):=by
 exact enter func303 aa ntmps303 aa<|ag fun A=>ay<|A<|ag fun C=>au (bo x)<|au (bo x)<|p (dd aa aa)<|ay<|C<|rt<|a6 aa<|⟨congrArg ca (decide_eq_false fun h=>h aa),Md.refl _ _⟩
theorem mP (x y:Nat) (w:World):
 bm aw 290 (bh [bo x,bo y]) w (fun v w'=>v= .bool (cz x y)∧Wk w w'):=by
 refine enter func290 aa ntmps290 aa<|ag fun A=>ay<|A<|ag fun C=>au (bo x)<|e<|cl Tc (YP x _) aa fun v6 I G=> ?_;obtain ⟨rfl,E⟩:=G;exact p mv<|aH aa<|aH aa<|aH aa<|p (bA aa)<|p mv<|aJ aa (aX (bo x) aa)<|aJ aa (aX (bo y) aa)<|aJ aa (lt aa aa)<|p (bA aa)<|ay<|C<|rt<|a6 aa<|⟨by show ca (decide ((x:Int) < (y:Int)))=_; unfold cz; exact congrArg ca (decide_eq_decide.2 ab),E⟩
theorem YL (d:Array Nat) (a b:Nat) (B n cp:Nat) (C:Option Addr) (w:World) (hO:w.ownsRow B 95 1 (.slice C n cp) n (LE bo d)) (aZ:a≤b∧b≤n) (a3:n≤1099511627776):
 bm aw 284 (bh [.slice C n cp,ak a,ak b]) w (fun v w'=>v= .tuple #[]∧w'.ownsRow B 95 1 (.slice C n cp) n (LE bo<|PK cz d a b)∧Md (fun q=>(bW C n cp).ownBlock=some q) w w'):=by
 have a1:=gn hO;refine enter func284 aa ntmps284 aa<|ag fun aC=>au (ak a)<|p (bJ ((a+1:Nat):Int) aa aa<|bp ab ab)<|ay<|aC<|aT<|lp (fun ac aA an=> ∃ (i:Nat) (Z:Array Nat),(a+1≤i∧i≤n+1)∧(Go.Sort.insOuter cz a b i Z=PK cz d a b)∧(an.ownsRow B 95 1 (.slice C n cp) n<|LE bo Z)∧(Md (fun q=>(bW C n cp).ownBlock=some q) w an)∧(Sl aA [(0,.slice C n cp),(1,ak a),(2,ak b),(6,ak i)])∧(b - i=ac)) _ ⟨a+1,d,ab,aa,hO,(Md.refl _ _),aa,aa⟩ ?_;rintro ac aA an ⟨i,Z,hi,al,av,aq,aW,rfl⟩;refine bG aW<|az fun aD=>ag fun aF=>au (ak i)<|au (ak b)<|p (lt aa aa)<|nl<|aF<|cd aa (fun aS=> ?_) fun aS=> ?_;refine aQ<|aD<|az fun ao=>aT<|ag fun aG=>au (ak i)<|p (cE (ak i) aa)<|nl<|aG<|aT<|lp (fun ac aB V=> ∃ (j:Nat) (G:Array Nat),(a≤j∧j≤i)∧(PJ cz a j G=PJ cz a i Z)∧(V.ownsRow B 95 1 (.slice C n cp) n<|LE bo G)∧(Md (fun q=>(bW C n cp).ownBlock=some q) w V)∧(Sl aB [(0,.slice C n cp),(1,ak a),(2,ak b),(6,ak i),(7,ak j)])∧(j=ac)) _ ⟨i,Z,ab,aa,av,aq,aa,aa⟩ ?_;rintro ac aB V ⟨j,G,a2,am,J,ah,aY,rfl⟩;refine bG aY<|az fun aH=>az fun ap=> ?_;have a0:=gn J;have A:(fun w'=>Wk V w') V.drew:=(Md.refl _ _).drew;refine bY (fun w'=>Wk V w') aa wide A<|bO 0 aa (ak j) A<|bO 1 aa (ak a) A<|aR 2 aa (gt aa aa) A<|aR 3 aa (mv) A<|js (t:=19) aa (fun aP=> ?_) fun aP=> ?_;refine bq 4 aa (fun _ _=>aX (.slice C n cp) aa) A<|bq 5 aa (fun _ _=>aX (ak j) aa) A<|bq 6 aa (fun _ _=>bc cy aa aa ab<|aM.ok ((ba J).2)<|cT ab) A<|bq 7 aa (fun w' I=>ld du aa<|dW (i:=j) ((ba J).2.wk I) ab) A<|bq 8 aa (fun _ _=>aX (.slice C n cp) aa) A<|bq 9 aa (fun _ _=>aX (ak j) aa) A<|bq 10 aa (fun _ _=>dY ((j - 1:Nat):Int) aa aa<|bp ab ab) A<|bq 11 aa (fun _ _=>bc cy aa aa ab<|aM.ok ((ba J).2)<|cT ab) A<|bq 12 aa (fun w' I=>ld du aa<|dW (i:=j - 1) ((ba J).2.wk I) ab) A<|nB 13 aa aj aa aa aa<|cl mI (mP G[j]! G[j - 1]! _) aa fun a4 ae aO=> ?_;obtain ⟨rfl,aJ⟩:=aO;have Y:(fun w'=>Wk V w') ae:=Md.trans A aJ;refine ⟨Y,?_⟩;refine aR 14 aa (bH aa) Y<|hn aj<|ap<|cb aa (fun ai=> ?_) fun ai=> ?_;refine aQ<|aH<|az fun aI=>aT ?_;have O:=a7 J Y;have E:(fun w'=>Wk ae w') ae.drew:=(Md.refl _ _).drew;refine e5 (fun w'=>Wk ae w') 15 aa wide E<|bI 0 aa (.slice C n cp) E<|bI 1 aa (ak j) E<|bI 2 aa (.slice C n cp) E<|bI 3 aa (ak j) E<|bN 4 aa (dY ((j - 1:Nat):Int) aa aa<|bp ab ab) E<|bI 5 aa (.slice C n cp) E<|bI 6 aa (ak j) E<|bN 7 aa (dY ((j - 1:Nat):Int) aa aa<|bp ab ab) E<|bN 8 aa (bc cy aa aa ab<|aM.ok ((ba O).2)<|cT ab) E<|ea 9 aa (fun w' I=>ld du aa<|dW (i:=j - 1) ((ba O).2.wk I) ab) E<|bI 10 aa (.slice C n cp) E<|bI 11 aa (ak j) E<|bN 12 aa (bc cy aa aa ab<|aM.ok ((ba O).2)<|cT ab) E<|ea 13 aa (fun w' I=>ld du aa<|dW (i:=j) ((ba O).2.wk I) ab) E<|bN 14 aa (bc cy aa aa ab<|aM.ok ((ba O).2)<|cT ab) E ?_;refine dU 15 aa aj aj<|gT (u:=G[j - 1]!) (j) (a7 O E) gK aa aa aa ab fun a5 aL aU=>ko 16 aa (fun _=>bc cy aa aa ab<|aM.ok ((ba O).2)<|cT ab) (fun h=>ep<|(show true =_ from by kernel_rfl).trans h)<|dU 17 aa aj aj<|gT (u:=G[j]!) (j - 1) aU gK aa aa aa ab fun ax aN aV=> ?_;have I:ax.ownsRow B 95 1 (.slice C n cp) n (LE bo<|dq G (j)<|j - 1):=aV
 have aK:Md (fun q=>(bW C n cp).ownBlock=some q) ae ax:=Md.trans (E.mono fun _ _ h=>h.elim)<|Md.trans aL aN;exact eZ aj<|bn<|aI<|rg aa<|au (ak j)<|p (dY ((j - 1:Nat):Int) aa aa<|bp ab ab)<|p aE<|nl<|tn<|⟨_,ab,j - 1,dq G j (j - 1),ab,(by rw [← am,YI (show a < j by omega) ai]),I,(Md.trans ah<|Md.trans (Y.mono fun _ _ h=>h.elim) aK),aa,aa⟩
 exact ext<|bf<|bf<|be<|bn<|ao<|rg aa<|au (ak i)<|p (bJ ((i+1:Nat):Int) aa aa<|bp ab ab)<|p aE<|nl<|tn<|⟨_,ab,i+1,G,ab,(by rw [← al,LN (show i < b by omega),← am,YJ (by simpa using ai)]),(a7 J Y),(Md.trans ah<|Y.mono fun _ _ h=>h.elim),aa,aa⟩
 exact a8 4 aa A<|a8 5 aa A<|a8 6 aa A<|a8 7 aa A<|a8 8 aa A<|a8 9 aa A<|a8 10 aa A<|a8 11 aa A<|a8 12 aa A<|a8 13 aa A<|aR 14 aa (bA aa) A<|hn aj<|ap<|cf aa<|ext<|bf<|bf<|be<|bn<|ao<|rg aa<|au (ak i)<|p (bJ ((i+1:Nat):Int) aa aa<|bp ab ab)<|p aE<|nl<|tn<|⟨_,ab,i+1,G,ab,(by rw [← al,LN (show i < b by omega),← am,YK ab]),(a7 J (Md.refl _ _).drew),ah.drew,aa,aa⟩
 exact ext<|bf<|bf<|be<|f0 aa<|⟨aa,by rw [← al,YH ab]; exact av,aq⟩
theorem ab6 (d:Array Nat) (lo hi first :Nat) (B n cp:Nat) (E:Option Addr) (w:World) (hO:w.ownsRow B 95 1 (.slice E n cp) n (LE bo d)) (a4:lo≤hi∧first+hi≤n) (a6:n≤1099511627776):
 bm aw 300 (bh [.slice E n cp,ak lo,ak hi,ak first]) w (fun v w'=>v= .tuple #[]∧w'.ownsRow B 95 1 (.slice E n cp) n (LE bo<|sO cz hi first lo d)∧Md (fun q=>(bW E n cp).ownBlock=some q) w w'):=by
 refine enter func300 aa ntmps300 aa<|ag fun aD=>au (ak lo)<|p (cE (ak lo) aa)<|nl<|aD<|aT<|lp (fun aq aA ac=> ∃ (r:Nat) (G:Array Nat),(r≤hi)∧(sO cz hi first r G=sO cz hi first lo d)∧(ac.ownsRow B 95 1 (.slice E n cp) n<|LE bo G)∧(Md (fun q=>(bW E n cp).ownBlock=some q) w ac)∧(Sl aA [(0,.slice E n cp),(2,ak hi),(3,ak first),(8,ak r)])∧(hi - r=aq)) _ ⟨lo,d,ab,aa,hO,(Md.refl _ _),aa,aa⟩ ?_;rintro aq aA ac ⟨r,G,a9,ap,O,am,a1,rfl⟩;refine bG a1<|aT<|ag fun aF=>au (ak r)<|p (qi ((2 *r:Nat):Int) aa aa<|bp ab ab)<|p (bJ ((2 *r+1:Nat):Int) aa aa<|bp ab ab)<|p aE<|nl<|aF<|az fun aG=>ag fun aH=>p mv<|au (ak hi)<|p (ge aa aa)<|nl<|aH<|cd aa (fun aV=> ?_) fun aV=> ?_;exact ext<|bf<|p6 aB<|bf<|be<|f0 aa<|⟨aa,by rw [← ap,ab4 ab]; exact O,am⟩
 refine aQ<|aG ?_;refine eo (fun aC Z=> ∃ (c:Nat),(r < c∧c < hi)∧(sO cz hi first r G=if (!cz G[first+r]! G[first+c]!)=true then G else sO cz hi first c (dq G (first+r)<|first+c))∧(Z.ownsRow B 95 1 (.slice E n cp) n<|LE bo G)∧(Md (fun q=>(bW E n cp).ownBlock=some q) w Z)∧(Sl aC [(0,.slice E n cp),(2,ak hi),(3,ak first),(8,ak r),(9,ak c)])) ?_ ?_;refine az fun al=> ?_;have aW:=gn O;have A:(fun w'=>Wk ac w') ac.drew:=(Md.refl _ _).drew;refine bY (fun w'=>Wk ac w') aa wide A<|aR 0 aa (mv) A<|aR 1 aa (bJ ((2 *r+1 +1:Nat):Int) aa aa<|bp ab ab) A<|bO 2 aa (ak hi) A<|aR 3 aa (lt aa aa) A<|aR 4 aa (mv) A<|js (t:=21) aa (fun aY=> ?_) fun aY=> ?_;refine bq 5 aa (fun _ _=>aX (.slice E n cp) aa) A<|bq 6 aa (fun _ _=>aX (ak first) aa) A<|bq 7 aa (fun _ _=>mv) A<|bq 8 aa (fun _ _=>bJ ((first+(2 *r+1):Nat):Int) aa aa<|bp ab ab) A<|bq 9 aa (fun _ _=>bc cy aa aa ab<|aM.ok ((ba O).2)<|cT ab) A<|bq 10 aa (fun w' J=>ld du aa<|dW (i:=first+(2 *r+1)) ((ba O).2.wk J) ab) A<|bq 11 aa (fun _ _=>aX (.slice E n cp) aa) A<|bq 12 aa (fun _ _=>aX (ak first) aa) A<|bq 13 aa (fun _ _=>mv) A<|bq 14 aa (fun _ _=>bJ ((first+(2 *r+1):Nat):Int) aa aa<|bp ab ab) A<|bq 15 aa (fun _ _=>bJ ((first+(2 *r+1)+1:Nat):Int) aa aa<|bp ab ab) A<|bq 16 aa (fun _ _=>bc cy aa aa ab<|aM.ok ((ba O).2)<|cT ab) A<|bq 17 aa (fun w' J=>ld du aa<|dW (i:=first+(2 *r+1)+1) ((ba O).2.wk J) ab) A<|nB 18 aa aj aa aa aa<|cl mI (mP G[first+(2 *r+1)]! G[first+(2 *r+1)+1]! _) aa fun v35 a3 aS=> ?_;obtain ⟨rfl,aK⟩:=aS;have ae:(fun w'=>Wk ac w') a3:=Md.trans A aK;refine ⟨ae,?_⟩;refine aR 19 aa (bH aa) ae<|hn aj<|al<|cb aa (fun an=> ?_) fun an=> ?_;exact rg aa<|p mv<|p (bJ ((2 *r+2:Nat):Int) aa aa<|bp ab ab)<|p aE<|nl<|tn<|⟨2 *r+2,ab,(ab5 ab an),(a7 O ae),(Md.trans am<|ae.mono fun _ _ h=>h.elim),aa⟩
 exact aQ<|tn<|⟨2 *r+1,ab,(NV ab<|.inr an),(a7 O ae),(Md.trans am<|ae.mono fun _ _ h=>h.elim),aa⟩
 exact a8 5 aa A<|a8 6 aa A<|a8 7 aa A<|a8 8 aa A<|a8 9 aa A<|a8 10 aa A<|a8 11 aa A<|a8 12 aa A<|a8 13 aa A<|a8 14 aa A<|a8 15 aa A<|a8 16 aa A<|a8 17 aa A<|a8 18 aa A<|aR 19 aa (bA aa) A<|hn aj<|al<|cf aa<|aQ<|tn<|⟨2 *r+1,ab,(NV ab<|.inl ab),(a7 O (Md.refl _ _).drew),am.drew,aa⟩
 rintro aC Z ⟨c,a5,ax,Y,av,a2⟩;refine bG a2<|az fun al=>az fun aI=> ?_;have aW:=gn Y;have I:(fun w'=>Wk Z w') Z.drew:=(Md.refl _ _).drew;refine bY (fun w'=>Wk Z w') aa wide I<|bO 0 aa (.slice E n cp) I<|bO 1 aa (ak first) I<|bO 2 aa (ak r) I<|aR 3 aa (bJ ((first+r:Nat):Int) aa aa<|bp ab ab) I<|aR 4 aa (bc cy aa aa ab<|aM.ok ((ba Y).2)<|cT ab) I<|bR 5 aa (fun w' J=>ld du aa<|dW (i:=first+r) ((ba Y).2.wk J) ab) I<|bO 6 aa (.slice E n cp) I<|bO 7 aa (ak first) I<|bO 8 aa (ak c) I<|aR 9 aa (bJ ((first+c:Nat):Int) aa aa<|bp ab ab) I<|aR 10 aa (bc cy aa aa ab<|aM.ok ((ba Y).2)<|cT ab) I<|bR 11 aa (fun w' J=>ld du aa<|dW (i:=first+c) ((ba Y).2.wk J) ab) I<|he 12 aa aj<|cl mI (mP G[first+r]! G[first+c]! _) aa fun v51 ai aU=> ?_;obtain ⟨rfl,aL⟩:=aU;have ah:(fun w'=>Wk Z w') ai:=Md.trans I aL;refine ⟨ah,?_⟩;refine aR 13 aa (no aa) ah<|hn aj<|aI<|cb aa (fun ao=> ?_) fun ao=> ?_;exact rt<|tr<|br<|tr<|br<|rX aa<|⟨aa,by rw [← ap,ax,if_pos ao]; exact a7 Y ah,Md.trans av<|ah.mono fun _ _ h=>h.elim⟩
 refine aQ<|al<|az fun aJ=> ?_;have V:=a7 Y ah;have C:(fun w'=>Wk ai w') ai.drew:=(Md.refl _ _).drew;refine e5 (fun w'=>Wk ai w') 21 aa wide C<|bI 0 aa (.slice E n cp) C<|bI 1 aa (ak first) C<|bI 2 aa (ak r) C<|bN 3 aa (bJ ((first+r:Nat):Int) aa aa<|bp ab ab) C<|bI 4 aa (.slice E n cp) C<|bI 5 aa (ak first) C<|bI 6 aa (ak c) C<|bN 7 aa (bJ ((first+c:Nat):Int) aa aa<|bp ab ab) C<|bI 8 aa (.slice E n cp) C<|bI 9 aa (ak first) C<|bI 10 aa (ak c) C<|bN 11 aa (bJ ((first+c:Nat):Int) aa aa<|bp ab ab) C<|bN 12 aa (bc cy aa aa ab<|aM.ok ((ba V).2)<|cT ab) C<|ea 13 aa (fun w' J=>ld du aa<|dW (i:=first+c) ((ba V).2.wk J) ab) C<|bI 14 aa (.slice E n cp) C<|bI 15 aa (ak first) C<|bI 16 aa (ak r) C<|bN 17 aa (bJ ((first+r:Nat):Int) aa aa<|bp ab ab) C<|bN 18 aa (bc cy aa aa ab<|aM.ok ((ba V).2)<|cT ab) C<|ea 19 aa (fun w' J=>ld du aa<|dW (i:=first+r) ((ba V).2.wk J) ab) C<|bN 20 aa (bc cy aa aa ab<|aM.ok ((ba V).2)<|cT ab) C<|dU 21 aa aj aj<|gT (u:=G[first+c]!) (first+r) (a7 V C) gK aa aa aa ab fun bb aO aZ=> ?_;refine ko 22 aa (fun _=>bc cy aa aa ab<|aM.ok ((ba V).2)<|cT ab) (fun h=>ep<|(show true =_ from by kernel_rfl).trans h)<|dU 23 aa aj aj<|gT (u:=G[first+r]!) (first+c) aZ gK aa aa aa ab fun ay aP a0=> ?_;have J:ay.ownsRow B 95 1 (.slice E n cp) n (LE bo<|dq G (first+r)<|first+c):=a0;have aN:Md (fun q=>(bW E n cp).ownBlock=some q) ai ay:=Md.trans (C.mono fun _ _ h=>h.elim)<|Md.trans aO aP;exact eZ aj<|aJ<|rg aa<|au (ak c)<|p (cE (ak c) aa)<|nl<|bn<|tn<|⟨_,ab,c,dq G (first+r) (first+c),ab,(by rw [← ap,ax,if_neg (by rw [ao]; exact ep)]),J,(Md.trans av<|Md.trans (ah.mono fun _ _ h=>h.elim) aN),aa,aa⟩
theorem NW (d:Array Nat) (lo hi first :Nat) (E C:Int) (B n cp:Nat) (A:Option Addr) (w:World) (hO:w.ownsRow B 95 1 (.slice A n cp) n (LE bo d)) (G:lo≤hi∧first+hi≤n) (J:E=(lo:Nat)) (I:C=(hi:Nat)) (O:n≤1099511627776):
 bm aw 300 (bh [.slice A n cp,.int .i64 E,.int .i64 C,.int .i64 (first :Nat)]) w (fun v w'=>v= .tuple #[]∧w'.ownsRow B 95 1 (.slice A n cp) n (LE bo<|sO cz hi first lo d)∧Md (fun q=>(bW A n cp).ownBlock=some q) w w'):=by
 subst J I; exact ab6 d lo hi first B n cp A w hO G O
theorem Yo (d:Array Nat) (a b:Nat) (B n cp:Nat) (A:Option Addr) (w:World) (hO:w.ownsRow B 95 1 (.slice A n cp) n (LE bo d)) (a0:a < b∧b≤n) (ai:n≤1099511627776):
 bm aw 285 (bh [.slice A n cp,ak a,ak b]) w (fun v w'=>v= .tuple #[]∧w'.ownsRow B 95 1 (.slice A n cp) n (LE bo<|PI cz d a b)∧Md (fun q=>(bW A n cp).ownBlock=some q) w w'):=by
 refine enter func285 aa ntmps285 aa<|ag fun an=>au (ak a)<|p (cE (ak a) aa)<|nl<|an<|ag fun av=>ay<|av<|ag fun ax=>au (ak b)<|au (ak a)<|p (dY ((b - a:Nat):Int) aa aa<|bp ab ab)<|ay<|ax<|az fun aA=>ag fun aB=>p mv<|p (dY ((b - a - 1:Nat):Int) aa aa<|bp ab ab)<|p (ss (((b - a - 1) / 2:Nat):Int) aa aa ab<|bp ab ab)<|ay<|aB<|aT<|lp (fun J ae ac=> ∃ (k:Nat) (E:Array Nat),(k≤b - a)∧(PH cz (b - a) a k E=PH cz (b - a) a ((b - a - 1) / 2 +1) d)∧(ac.ownsRow B 95 1 (.slice A n cp) n<|LE bo E)∧(Md (fun q=>(bW A n cp).ownBlock=some q) w ac)∧(ae 9= .int .i64 ((k:Nat) - 1:Int))∧(Sl ae [(0,.slice A n cp),(6,ak a),(7,.int .i64 0),(8,ak (b - a))])∧(k=J)) _ ⟨(b - a - 1) / 2 +1,d,ab,aa,hO,(Md.refl _ _),(iv ab),aa,aa⟩ ?_;rintro J ae ac ⟨k,E,hk,Z,G,O,aX,aW,rfl⟩;refine bG aW<|fx 9 aX<|az fun aC=>ag fun aD=>au (.int .i64 ((k:Nat) - 1:Int))<|p (ge aa aa)<|nl<|aD<|cd aa (fun aR=> ?_) fun aR=> ?_;refine aQ<|aC<|az fun Y=>aT<|rg aa<|au (.slice A n cp)<|au (.int .i64 ((k:Nat) - 1:Int))<|au (ak<|b - a)<|au (ak a)<|e<|cl Io (NW E (k - 1) (b - a) a _ _ B n cp A _ G ab ab aa ai) aa fun v26 a3 aO=> ?_;obtain ⟨rfl,aL,aG⟩:=aO;exact nl<|bn<|Y<|rg aa<|au (.int .i64 ((k:Nat) - 1:Int))<|p (sb aa aa<|cB ab)<|p aE<|nl<|tn<|⟨_,ab,k - 1,sO cz (b - a) a (k - 1) E,ab,(by rw [← Z,XV (show 0 < k by omega)]),aL,(Md.trans O aG),(iv ab),aa,aa⟩
 refine ext<|bf<|bf<|be<|aA<|ag fun Y=>au (ak<|b - a)<|p (dY ((b - a - 1:Nat):Int) aa aa<|bp ab ab)<|ay<|Y<|aT<|lp (fun J ah I=> ∃ (k:Nat) (E:Array Nat),(k≤b - a)∧(Go.Sort.heapPop cz a k E=PI cz d a b)∧(I.ownsRow B 95 1 (.slice A n cp) n<|LE bo E)∧(Md (fun q=>(bW A n cp).ownBlock=some q) w I)∧(ah 10= .int .i64 ((k:Nat) - 1:Int))∧(Sl ah [(0,.slice A n cp),(6,ak a),(7,.int .i64 0),(8,ak (b - a))])∧(k=J)) _ ⟨b - a,E,ab,(by rw [show k=0 by omega,XW] at Z; rw [Z]; rfl),G,O,(iv ab),aa,aa⟩ ?_;rintro J ah I ⟨k,E,a2,al,G,O,aZ,aY,rfl⟩;refine bG aY<|fx 10 aZ<|az fun aF=>ag fun ao=>au (.int .i64 ((k:Nat) - 1:Int))<|p (ge aa aa)<|nl<|ao<|cd aa (fun aS=> ?_) fun aS=> ?_;refine aQ<|aF<|az fun ap=>aT<|az fun aq=> ?_;have a1:=gn G;have C:(fun w'=>Wk I w') I.drew:=(Md.refl _ _).drew;refine e5 (fun w'=>Wk I w') 17 aa wide C<|bI 0 aa (.slice A n cp) C<|bI 1 aa (ak a) C<|bI 2 aa (.slice A n cp) C<|bI 3 aa (ak a) C<|bI 4 aa (.int .i64 ((k:Nat) - 1:Int)) C<|bN 5 aa (bJ ((a+(k - 1):Nat):Int) aa aa<|bp ab ab) C<|bI 6 aa (.slice A n cp) C<|bI 7 aa (ak a) C<|bI 8 aa (.int .i64 ((k:Nat) - 1:Int)) C<|bN 9 aa (bJ ((a+(k - 1):Nat):Int) aa aa<|bp ab ab) C<|bN 10 aa (bc cy aa aa ab<|aM.ok ((ba G).2)<|cT ab) C<|ea 11 aa (fun w' V=>ld du aa<|dW (i:=a+(k - 1)) ((ba G).2.wk V) ab) C<|bI 12 aa (.slice A n cp) C<|bI 13 aa (ak a) C<|bN 14 aa (bc cy aa aa ab<|aM.ok ((ba G).2)<|cT ab) C<|ea 15 aa (fun w' V=>ld du aa<|dW (i:=a) ((ba G).2.wk V) ab) C<|bN 16 aa (bc cy aa aa ab<|aM.ok ((ba G).2)<|cT ab) C<|dU 17 aa aj aj<|gT (u:=E[a+(k - 1)]!) (a) (a7 G C) gK aa aa aa ab fun a5 aJ aU=> ?_;refine ko 18 aa (fun _=>bc cy aa aa ab<|aM.ok ((ba G).2)<|cT ab) (fun h=>ep<|(show true =_ from by kernel_rfl).trans h)<|dU 19 aa aj aj<|gT (u:=E[a]!) (a+(k - 1)) aU gK aa aa aa ab fun am aK aV=> ?_;have V:am.ownsRow B 95 1 (.slice A n cp) n (LE bo<|dq E (a)<|a+(k - 1)):=aV;have aI:Md (fun q=>(bW A n cp).ownBlock=some q) I am:=Md.trans (C.mono fun _ _ h=>h.elim)<|Md.trans aJ aK;refine eZ aj<|aq<|rg aa<|au (.slice A n cp)<|au (.int .i64 0)<|au (.int .i64 ((k:Nat) - 1:Int))<|au (ak a)<|e<|cl Io (NW (dq E a<|a+(k - 1)) 0 (k - 1) a _ _ B n cp A _ V ab aa ab ai) aa fun v55 a4 aP=> ?_;obtain ⟨rfl,aN,aH⟩:=aP;exact nl<|bn<|ap<|rg aa<|au (.int .i64 ((k:Nat) - 1:Int))<|p (sb aa aa<|cB ab)<|p aE<|nl<|tn<|⟨_,ab,k - 1,sO cz (k - 1) a 0 (dq E a<|a+(k - 1)),ab,(by rw [← al,Yr (show 0 < k by omega)]),aN,(Md.trans O<|Md.trans aI aH),(iv ab),aa,aa⟩
 exact ext<|bf<|bf<|be<|f0 aa<|⟨aa,by rw [← al,show k=0 by omega]; exact G,O⟩
theorem abl (d:Array Nat) (a b:Nat) (B n cp:Nat) (C:Option Addr) (w:World) (hO:w.ownsRow B 95 1 (.slice C n cp) n (LE bo d)) (aC:a < b∧b≤n) (aF:n≤1099511627776):
 bm aw 288 (bh [.slice C n cp,ak a,ak b]) w (fun v w'=>v= .tuple #[]∧w'.ownsRow B 95 1 (.slice C n cp) n (LE bo<|GD d a b)∧Md (fun q=>(bW C n cp).ownBlock=some q) w w'):=by
 refine enter func288 aa ntmps288 aa<|ag fun ae=>au (ak a)<|p (cE (ak a) aa)<|nl<|ae<|ag fun ah=>au (ak b)<|p (dY ((b - 1:Nat):Int) aa aa<|bp ab ab)<|ay<|ah<|aT<|lp (fun O ac I=> ∃ (i j:Nat) (G:Array Nat),(i≤n∧j < n)∧(Go.Sort.reverseLoop i j G=GD d a b)∧(I.ownsRow B 95 1 (.slice C n cp) n<|LE bo G)∧(Md (fun q=>(bW C n cp).ownBlock=some q) w I)∧(Sl ac [(0,.slice C n cp),(6,ak i),(7,ak j)])∧(j - i=O)) _ ⟨a,b - 1,d,ab,aa,hO,(Md.refl _ _),aa,aa⟩ ?_;rintro O ac I ⟨i,j,G,hi,Y,E,V,aB,rfl⟩;refine bG aB<|az fun ai=>ag fun al=>au (ak i)<|au (ak j)<|p (lt aa aa)<|nl<|al<|cd aa (fun av=> ?_) fun av=> ?_;refine aQ<|ai<|aT<|az fun am=> ?_;have aD:=gn E;have A:(fun w'=>Wk I w') I.drew:=(Md.refl _ _).drew;refine e5 (fun w'=>Wk I w') 13 aa wide A<|bI 0 aa (.slice C n cp) A<|bI 1 aa (ak i) A<|bI 2 aa (.slice C n cp) A<|bI 3 aa (ak j) A<|bI 4 aa (.slice C n cp) A<|bI 5 aa (ak j) A<|bN 6 aa (bc cy aa aa ab<|aM.ok ((ba E).2)<|cT ab) A<|ea 7 aa (fun w' J=>ld du aa<|dW (i:=j) ((ba E).2.wk J) ab) A<|bI 8 aa (.slice C n cp) A<|bI 9 aa (ak i) A<|bN 10 aa (bc cy aa aa ab<|aM.ok ((ba E).2)<|cT ab) A<|ea 11 aa (fun w' J=>ld du aa<|dW (i:=i) ((ba E).2.wk J) ab) A<|bN 12 aa (bc cy aa aa ab<|aM.ok ((ba E).2)<|cT ab) A<|dU 13 aa aj aj<|gT (u:=G[j]!) (i) (a7 E A) gK aa aa aa ab fun aG ap ax=> ?_;refine ko 14 aa (fun _=>bc cy aa aa ab<|aM.ok ((ba E).2)<|cT ab) (fun h=>ep<|(show true =_ from by kernel_rfl).trans h)<|dU 15 aa aj aj<|gT (u:=G[i]!) (j) ax gK aa aa aa ab fun Z aq aA=> ?_;have J:Z.ownsRow B 95 1 (.slice C n cp) n (LE bo<|dq G (i)<|j):=aA;have ao:Md (fun q=>(bW C n cp).ownBlock=some q) I Z:=Md.trans (A.mono fun _ _ h=>h.elim)<|Md.trans ap aq;refine eZ aj<|am<|ag fun an=>au (ak i)<|p (bJ ((i+1:Nat):Int) aa aa<|bp ab ab)<|ay<|an ?_;exact rg aa<|au (ak j)<|p (dY ((j - 1:Nat):Int) aa aa<|bp ab ab)<|p aE<|nl<|bn<|tn<|⟨_,ab,i+1,j - 1,dq G i j,ab,(by rw [← Y,abj (show i < j by omega)]),J,(Md.trans V ao),aa,aa⟩
 exact ext<|bf<|bf<|be<|f0 aa<|⟨aa,by rw [← Y,abk ab]; exact E,V⟩
end Go.Hb
end
section
namespace Go.Hb
open Go.Hb.dZ
theorem ac7 {n:Nat} {l:List UInt8} (h:n < 256) (A:∀ k:Fin 256,(l.getD k.val 0).toNat=lC k.val):IntKind.i64.wrap ((l.getD n 0).toNat:Int)=(lC n:Int):=by
 rw [A ⟨n,h⟩]; have :=Ag h; exact cB<|by simp only; omega
theorem abX {k:Nat} (h:k≤8):e8.wrap ((1:Int)*2 ^ min ((k:Nat):Int).toNat e8.bits)=((2 ^ k:Nat):Int):=by
 have h2:(e8.bits:Nat)=64:=rfl;rw [Int.toNat_natCast,h2,Nat.min_eq_left ab,Int.one_mul];have h3:(2:Nat) ^ k≤2 ^ 8:=Nat.pow_le_pow_right aB h;have h4:((2:Int) ^ k)=((2 ^ k:Nat):Int):=by simp
 rw [h4];obtain ⟨m,hm⟩:∃ m:Nat,2 ^ k=m:=⟨_,rfl⟩
 rw [hm] at h3 ⊢; exact qt ab
theorem aaQ {d d1 d2:Array Nat} {a b i j:Nat} (h:pR a b d d1) (hi:a≤i∧i < b) (A:a≤j∧j < b) (C:b≤d1.size) (h2:d2=dq d1 i j):pR a b d d2:=by
 subst h2; exact tW _ _ _ a b h<|Go.Sort.swp_permIn d1 a b i j hi.1 hi.2 A.1 A.2 C
theorem ER (d:Array Nat) (i j s lo hi G:Nat) (B n cp:Nat) (E:Option Addr) (w:World) (hO:w.ownsRow B 95 1 (.slice E n cp) n (LE bo d)) (Y:bS w.heap G [ak s]) (aq:(bW E n cp).ownBlock≠some G) (aC:lo≤i∧i < hi∧lo≤j∧j < hi∧hi≤n) (hs:s≤1000) (aB:n≤1099511627776):
 bm aw 308 (bh [.slice E n cp,ak i,ak j,aV G]) w (fun v w'=> ∃ O V s1:Nat,v= .tuple #[ak O,ak V]∧(lo≤O∧O < hi)∧(lo≤V∧V < hi)∧s1≤s+1∧bS w'.heap G [ak s1]∧w'.ownsRow B 95 1 (.slice E n cp) n (LE bo d)∧Md (fun q=>q=G) w w'):=by
 refine enter func308 aa ntmps308 aa<|ag fun ae=>p aE<|ay<|ae<|az fun ah=>az fun ai=> ?_;have aA:=gn hO;have A:(fun w'=>Wk w w') w.drew:=(Md.refl _ _).drew;refine bY (fun w'=>Wk w w') aa wide A<|bO 0 aa (.slice E n cp) A<|bO 1 aa (ak j) A<|aR 2 aa (bc cy aa aa ab<|aM.ok ((ba hO).2)<|cT ab) A<|bR 3 aa (fun w' J=>ld du aa<|dW (i:=j) ((ba hO).2.wk J) ab) A<|bO 4 aa (.slice E n cp) A<|bO 5 aa (ak i) A<|aR 6 aa (bc cy aa aa ab<|aM.ok ((ba hO).2)<|cT ab) A<|bR 7 aa (fun w' J=>ld du aa<|dW (i:=i) ((ba hO).2.wk J) ab) A<|he 8 aa aj<|cl mI (mP d[j]! d[i]! _) aa fun aD ax ap=> ?_;obtain ⟨rfl,an⟩:=ap;have C:(fun w'=>Wk w w') ax:=Md.trans A an;refine ⟨C,?_⟩;refine hn aj<|ai<|cb aa (fun av=> ?_) fun av=> ?_;have Z:=C.B Y;have ao:=a7 hO C;exact ag fun I=>au (aV G)<|p (nc aa)<|p (ld bD aa<|Z.aW 0)<|p (bJ ((s+1:Nat):Int) aa aa<|bp ab ab)<|p (nc aa)<|e<|st gR aa aa (aa) (Z) (by simp) fun aF ac am=>nl<|I<|ag fun al=>au (ak j)<|au (ak i)<|p (cE (ak j) aa)<|p (cE (ak i) aa)<|nl<|al<|rt<|tr<|f2 aa aa aa<|⟨j,i,s+1,aa,ab,ab,ab,am,dw ao ac (fun k hk h=>aq<|h ▸ hk),Md.trans (C.mono fun _ _ h=>h.elim) ac⟩
 exact aQ<|ah<|ag fun I=>au (ak i)<|au (ak j)<|p (cE (ak i) aa)<|p (cE (ak j) aa)<|nl<|I<|rt<|f2 aa aa aa<|⟨i,j,s,aa,ab,ab,ab,C.B Y,a7 hO C,C.mono fun _ _ h=>h.elim⟩
theorem Mt (d:Array Nat) (i j k s lo hi A:Nat) (B n cp:Nat) (C:Option Addr) (w:World) (hO:w.ownsRow B 95 1 (.slice C n cp) n (LE bo d)) (ac:bS w.heap A [ak s]) (E:(bW C n cp).ownBlock≠some A) (aL:(lo≤i∧i < hi)∧(lo≤j∧j < hi)∧(lo≤k∧k < hi)∧hi≤n) (hs:s≤900) (G:n≤1099511627776):
 bm aw 302 (bh [.slice C n cp,ak i,ak j,ak k,aV A]) w (fun v w'=> ∃ I s1:Nat,v=ak I∧(lo≤I∧I < hi)∧s1≤s+3∧bS w'.heap A [ak s1]∧w'.ownsRow B 95 1 (.slice C n cp) n (LE bo d)∧Md (fun q=>q=A) w w'):=by
 refine enter func302 aa ntmps302 aa<|ag fun J=>ay<|J<|ag fun O=>au (.slice C n cp)<|au (ak i)<|au (ak j)<|au (aV A)<|e<|cl CI (ER d i j s lo hi A B n cp C _ hO ac E ab ab G) aa fun aQ aR aq=> ?_;obtain ⟨i1,aB,s1,rfl,aG,aI,aM,ae,an,aj⟩:=aq;refine p mv<|p (xt aa aa)<|p (xt aa aa)<|p aE<|ay<|O<|az fun V=>rg aa<|au (.slice C n cp)<|p mv<|au (ak k)<|au (aV A)<|e<|cl CI (ER d aB k s1 lo hi A B n cp C _ an ae E ab ab G) aa fun v24 aS av=> ?_;obtain ⟨aC,aP,s2,rfl,aJ,aK,aN,ah,ao,al⟩:=av;refine p mv<|p (xt aa aa)<|p (xt aa aa)<|p aE<|ay<|V<|az fun Y=>rg aa<|au (.slice C n cp)<|p mv<|p mv<|au (aV A)<|e<|cl CI (ER d i1 aC s2 lo hi A B n cp C _ ao ah E ab ab G) aa fun v32 aT ax=> ?_;obtain ⟨i3,aD,aF,rfl,aH,aA,aO,ai,ap,am⟩:=ax;exact p mv<|p (xt aa aa)<|p (xt aa aa)<|p aE<|ay<|Y<|az fun Z=>rg aa<|p mv<|ay<|Z<|rt<|a6 aa<|⟨aD,aF,aa,aA,ab,ai,ap,Md.trans aj<|Md.trans al am⟩
theorem Eu (d:Array Nat) (i s lo hi A:Nat) (B n cp:Nat) (C:Option Addr) (w:World) (hO:w.ownsRow B 95 1 (.slice C n cp) n (LE bo d)) (J:bS w.heap A [ak s]) (V:(bW C n cp).ownBlock≠some A) (Z:lo+1≤i∧i+1 < hi∧hi≤n) (hs:s≤900) (Y:n≤1099511627776):
 bm aw 301 (bh [.slice C n cp,ak i,aV A]) w (fun v w'=> ∃ E s1:Nat,v=ak E∧(lo≤E∧E < hi)∧s1≤s+3∧bS w'.heap A [ak s1]∧w'.ownsRow B 95 1 (.slice C n cp) n (LE bo d)∧Md (fun q=>q=A) w w'):=by
 exact enter func301 aa ntmps301 aa<|ag fun G=>ay<|G<|ag fun I=>au (.slice C n cp)<|au (ak i)<|p (dY ((i - 1:Nat):Int) aa aa<|bp ab ab)<|au (ak i)<|au (ak i)<|p (bJ ((i+1:Nat):Int) aa aa<|bp ab ab)<|au (aV A)<|e<|cl Ip (Mt d (i - 1) i (i+1) s lo hi A B n cp C _ hO J V ab ab Y) aa fun ac ae O=>p aE<|nl<|I<|rt<|a6 aa<|O
theorem T0 (d:Array Nat) (a b:Nat) (B n cp:Nat) (A:Option Addr) (w:World) (hO:w.ownsRow B 95 1 (.slice A n cp) n (LE bo d)) (bk:a+12 < b∧b≤n) (V:n≤1099511627776):
 bm aw 287 (bh [.slice A n cp,ak a,ak b]) w (fun v w'=> ∃ (ap:Nat) (bd:Int),v= .tuple #[ak ap,.int .i64 bd]∧(a≤ap∧ap < b)∧w'.ownsRow B 95 1 (.slice A n cp) n (LE bo d)∧Wk w w'):=by
 refine enter func287 aa ntmps287 aa<|ag fun aB=>p aE<|ay<|aB<|ag fun aC=>au (ak b)<|au (ak a)<|p (dY ((b - a:Nat):Int) aa aa<|bp ab ab)<|ay<|aC<|ag fun aD=>e<|al zs3 fun C bH bl aj aq=> ?_;have av:=a7 hO aj.md;have O:(bW A n cp).ownBlock≠some C:=fun h=>by have :=dQ hO h; omega
 refine nl<|aD<|ag fun aF=>au (ak a)<|p mv<|p (ss (((b - a) / 4:Nat):Int) aa aa ab<|bp ab ab)<|p (qi (((b - a) / 4:Nat):Int) aa aa<|bp ab ab)<|p (bJ ((a+(b - a) / 4:Nat):Int) aa aa<|bp ab ab)<|ay<|aF<|ag fun aG=>au (ak a)<|p mv<|p (ss (((b - a) / 4:Nat):Int) aa aa ab<|bp ab ab)<|p (qi (((b - a) / 4 *2:Nat):Int) aa aa<|bp ab ab)<|p (bJ ((a+(b - a) / 4 *2:Nat):Int) aa aa<|bp ab ab)<|ay<|aG<|ag fun aH=>au (ak a)<|p mv<|p (ss (((b - a) / 4:Nat):Int) aa aa ab<|bp ab ab)<|p (qi (((b - a) / 4 *3:Nat):Int) aa aa<|bp ab ab)<|p (bJ ((a+(b - a) / 4 *3:Nat):Int) aa aa<|bp ab ab)<|ay<|aH ?_;refine az fun aI=>ag fun aJ=>p mv<|p (ge aa aa)<|nl<|aJ<|cd aa (fun bn=> ?_) fun h=>absurd ab h;refine eo (fun aA Z=> ∃ (E G I Y:Nat),(a≤E∧E < b)∧(a≤G∧G < b)∧(a≤I∧I < b)∧(Y≤9)∧(bS Z.heap C [ak Y])∧(Z.ownsRow B 95 1 (.slice A n cp) n<|LE bo d)∧(Wk w Z)∧(Sl aA [(0,.slice A n cp),(1,ak a),(2,ak b),(8,ak (b - a)),(9,aV C),(10,ak E),(11,ak G),(12,ak I)])) ?_ ?_;refine ag fun ah=>p mv<|p (ge aa aa)<|nl<|ah<|cd aa (fun a6=> ?_) fun a6=> ?_;refine ag fun ac=>au (.slice A n cp)<|p mv<|e<|cl CH (Eu d (a+(b - a) / 4) 0 a b C B n cp A _ av aq O ab ab V) aa fun v37 bC a2=> ?_;obtain ⟨i1,s1,rfl,ba,ax,aK,aY,aR⟩:=a2;refine ay<|ac<|ag fun J=>au (.slice A n cp)<|p mv<|e<|cl CH (Eu d (a+(b - a) / 4 *2) s1 a b C B n cp A _ aY aK O ab ab V) aa fun v40 bE a3=> ?_;obtain ⟨bf,s2,rfl,bb,bu,aL,aZ,aS⟩:=a3;refine ay<|J<|rg aa<|au (.slice A n cp)<|p mv<|e<|cl CH (Eu d (a+(b - a) / 4 *3) s2 a b C B n cp A _ aZ aL O ab ab V) aa fun bA bF a4=> ?_;obtain ⟨bg,bi,rfl,bc,bv,aM,a0,aU⟩:=a4;exact p aE<|nl<|tn<|⟨i1,bf,bg,bi,ba,bb,bc,ab,aM,a0,(Md.trans' aj.md (Md.trans aR<|Md.trans aS aU) fun k hk h=>by omega),aa⟩
 exact aQ<|tn<|⟨a+(b - a) / 4,a+(b - a) / 4 *2,a+(b - a) / 4 *3,0,ab,ab,ab,ab,aq,av,aj.md,aa⟩
 rintro aA Z ⟨E,G,I,Y,bq,bs,bt,bx,aO,a1,aP,ax⟩;refine bG ax<|rg aa<|au (.slice A n cp)<|au (ak E)<|au (ak G)<|au (ak I)<|e<|cl Ip (Mt d E G I Y a b C B n cp A _ a1 aO O ab ab V) aa fun bB bj a5=> ?_;obtain ⟨ao,bz,rfl,an,bw,aN,am,aX⟩:=a5;have ai:Wk w bj:=Md.trans' aP aX fun k hk h=>by omega
 refine ay<|aI<|ag fun ah=>p (ld bD aa<|aN.aW 0)<|nl<|ah<|aT<|ag fun ac=>p (bQ aa aa)<|ay<|ac<|cd aa (fun a8=> ?_) fun a8=> ?_;exact ag fun J=>p mv<|p aE<|ay<|J<|rt<|br<|f2 aa aa aa<|⟨ao,_,aa,an,am,ai⟩
 refine ag fun J=>p (bQ aa aa)<|ay<|J<|cd aa (fun a9=> ?_) fun a9=> ?_;exact ag fun ae=>p mv<|p aE<|ay<|ae<|rt<|br<|f2 aa aa aa<|⟨ao,_,aa,an,am,ai⟩
 exact ag fun ae=>p mv<|p aE<|ay<|ae<|rt<|br<|f2 aa aa aa<|⟨ao,_,aa,an,am,ai⟩
theorem Z7 (A:Nat) (r:Int) (w:World) (O:bS w.heap A [.int .u64 r]):
 bm aw 185 (bh [aV A]) w (fun v w'=> ∃ J:Int,v= .int .u64 J∧0≤J∧J < 18446744073709551616∧bS w'.heap A [.int .u64 J]∧Md (fun q=>q=A) w w'):=by
 refine enter func185 aa ntmps185 aa<|ag fun ae=>ay<|ae<|az fun ah=> ?_;have E:(fun w'=>Wk w w') w.drew:=(Md.refl _ _).drew;refine e5 (fun w'=>Wk w w') 9 aa wide E<|eJ 0 aa (aX (aV A) aa) E<|eJ 1 aa (nc aa) E<|lq 2 aa aj (fun w' C=>ld s6 aa<|Wk.aW C<|O.aW 0) E<|eJ 3 aa (aX (aV A) aa) E<|eJ 4 aa (nc aa) E<|lq 5 aa aj (fun w' C=>ld s6 aa<|Wk.aW C<|O.aW 0) E<|eJ 6 aa (shl aa aa aB aa) E<|eJ 7 aa (Ch aa aa aa) E<|eJ 8 aa (nc aa) E<|dU 9 aa aj aj<|st zj aa aa (aa) (E.B O) (by simp) fun Z am V=>eZ aj<|ah<|az fun ai=> ?_;have G:(fun w'=>Wk Z w') Z.drew:=(Md.refl _ _).drew;refine e5 (fun w'=>Wk Z w') 9 aa wide G<|eJ 0 aa (aX (aV A) aa) G<|eJ 1 aa (nc aa) G<|lq 2 aa aj (fun w' C=>ld s6 aa<|Wk.aW C<|V.aW 0) G<|eJ 3 aa (aX (aV A) aa) G<|eJ 4 aa (nc aa) G<|lq 5 aa aj (fun w' C=>ld s6 aa<|Wk.aW C<|V.aW 0) G<|eJ 6 aa (shr aa aa aB aa) G<|eJ 7 aa (Ch aa aa aa) G<|eJ 8 aa (nc aa) G<|dU 9 aa aj aj<|st zj aa aa (aa) (G.B V) (by simp) fun ab an Y=>eZ aj<|ai<|az fun ak=> ?_;have I:(fun w'=>Wk ab w') ab.drew:=(Md.refl _ _).drew;refine e5 (fun w'=>Wk ab w') 9 aa wide I<|eJ 0 aa (aX (aV A) aa) I<|eJ 1 aa (nc aa) I<|lq 2 aa aj (fun w' C=>ld s6 aa<|Wk.aW C<|Y.aW 0) I<|eJ 3 aa (aX (aV A) aa) I<|eJ 4 aa (nc aa) I<|lq 5 aa aj (fun w' C=>ld s6 aa<|Wk.aW C<|Y.aW 0) I<|eJ 6 aa (shl aa aa aB aa) I<|eJ 7 aa (Ch aa aa aa) I<|eJ 8 aa (nc aa) I<|dU 9 aa aj aj<|st zj aa aa (aa) (I.B Y) (by simp) fun ap ao ac=>eZ aj<|ak<|ag fun al=>au (aV A)<|p (nc aa)<|p (ld s6 aa<|ac.aW 0)<|p aE<|nl ?_;refine al<|rt<|a6 aa ?_;refine ⟨_,aa,(OF _).1,(OF _).2,ac,?_⟩;exact Md.trans (Md.refl _ _).drew<|Md.trans am<|Md.trans (Md.refl _ _).drew<|Md.trans an<|Md.trans (Md.refl _ _).drew ao
theorem Zj (n:Nat) (w:World) (hn:n < 256):
 bm aw 124 (bh [.int .u64 (n:Nat)]) w (fun v w'=>v=ak (lC n)∧Wk w w'):=by
 have ae:=Ag hn;refine enter func124 aa ntmps124 aa<|ag fun A=>ay<|A<|az fun C=>ag fun E=>au (.int .u64 (n:Nat))<|p (ge aa aa)<|nl<|E<|cd aa (fun h=>absurd h ab) fun Z=>aQ<|C<|az fun G=>ag fun I=>au (.int .u64 (n:Nat))<|p (ge aa aa)<|nl<|I<|cd aa (fun h=>absurd h ab) fun ac=> ?_;refine aQ<|G<|az fun J=>ag fun O=>au (.int .u64 (n:Nat))<|p (ge aa aa)<|nl<|O<|cd aa (fun h=>absurd h ab) fun Y=> ?_;exact aQ<|J<|ag fun V=>au (.int .i64 0)<|au (.int .u64 (n:Nat))<|p (zi u5 adj aa<|vD ab)<|p (fj u9 aa aa (by have :n < 256:=hn; simpa using this))<|p (mh u3 rj aa<|ac7 hn<|by decide+kernel)<|p (bJ ((lC n:Nat):Int) aa aa<|bp ab ab)<|ay<|V<|rt<|a6 aa<|⟨aa,Md.refl _ _⟩
theorem Me (n:Nat) (w:World) (hn:n < 256):
 bm aw 66 (bh [.int .u64 (n:Nat)]) w (fun v w'=>v=ak (lC n)∧Wk w w'):=by
 refine enter func66 aa ntmps66 aa<|ag fun A=>ay<|A<|az fun C=>cf aa<|aQ<|C<|ag fun E=>au (.int .u64 (n:Nat))<|e<|cl RL (Zj n _ hn) aa fun I J G=>ay<|E ?_;exact rt<|a6 aa<|G
theorem Z8 (n:Nat) (w:World) (hn:n < 256):
 bm aw 184 (bh [ak n]) w (fun v w'=>v= .int .u64 (2 ^ lC n:Nat)∧Wk w w'):=by
 refine enter func184 aa ntmps184 aa<|ag fun A=>ay<|A<|ag fun C=>au (ak n)<|p (mh OB sE aa<|qt ab)<|e<|cl Iw (Me n _ hn) aa fun v5 J G=> ?_;obtain ⟨rfl,E⟩:=G;have I:=Ag hn;exact p (shl aa aa ab<|abX I)<|ay<|C<|rt<|a6 aa<|⟨aa,E⟩
theorem Rr (d:Array Nat) (a b:Nat) (B n cp:Nat) (C:Option Addr) (w:World) (hO:w.ownsRow B 95 1 (.slice C n cp) n (LE bo d)) (bd:a+12 < b∧b≤n) (bq:n≤255):
 bm aw 286 (bh [.slice C n cp,ak a,ak b]) w (fun v w'=> ∃ d1,v= .tuple #[]∧pR a b d d1∧w'.ownsRow B 95 1 (.slice C n cp) n (LE bo d1)∧Md (fun q=>(bW C n cp).ownBlock=some q) w w'):=by
 refine enter func286 aa ntmps286 aa<|ag fun aC=>au (ak b)<|au (ak a)<|p (dY ((b - a:Nat):Int) aa aa<|bp ab ab)<|ay<|aC<|ag fun aF=>p mv<|p (ge aa aa)<|nl<|aF<|cd aa (fun bi=> ?_) fun h=>absurd ab h;refine ag fun aG=>p mv<|p (mh ac4 sE aa<|qt ab)<|e<|al adV fun V bB bg aZ aP=>e<|st zj aa aa (aa) (aP) (by simp) fun bb aU aO=> ?_;have aq:Wk w bb:=Md.trans' aZ.md aU fun k hk h=>by omega
 refine nl<|aG<|ag fun aH=>p mv<|e<|cl Sj (Z8 (b - a) _ ab) aa fun bw bz a0=> ?_;obtain ⟨rfl,ah⟩:=a0;have bl:=Zk (n:=b - a) ab ab;refine ay<|aH<|ag fun aI=>au (ak a)<|p mv<|p (ss (((b - a) / 4:Nat):Int) aa aa ab<|bp ab ab)<|p (qi (((b - a) / 4 *2:Nat):Int) aa aa<|bp ab ab)<|p (bJ ((a+(b - a) / 4 *2:Nat):Int) aa aa<|bp ab ab)<|p (dY ((a+(b - a) / 4 *2 - 1:Nat):Int) aa aa<|bp ab ab)<|ay<|aI<|aT ?_;have Z:(bW C n cp).ownBlock≠some V:=fun h=>by have :=dQ hO h; omega
 refine lp (fun ao aA ae=> ∃ (E:Nat) (r:Int) (I:Array Nat),(a+(b - a) / 4 *2 - 1≤E∧E≤a+(b - a) / 4 *2 +2)∧(pR a b d I)∧(bS ae.heap V [.int .u64 r])∧(ae.ownsRow B 95 1 (.slice C n cp) n<|LE bo I)∧(Md (fun q=>(bW C n cp).ownBlock=some q) w ae)∧(Sl aA [(0,.slice C n cp),(1,ak a),(6,ak (b - a)),(7,aV V),(8,.int .u64 (2 ^ lC (b - a):Nat)),(9,ak E)])∧(a+(b - a) / 4 *2 +3 - E=ao)) _ ⟨a+(b - a) / 4 *2 - 1,(b - a:Nat),d,ab,(PL d a b),(ah.B aO),(a7 (a7 hO aq) ah),((Md.trans aq ah).mono fun _ _ h=>h.elim),aa,aa⟩ ?_;rintro ao aA ae ⟨E,r,I,bk,bR,aS,am,ai,a8,rfl⟩;refine bG a8<|az fun aJ=>ag fun aK=>au (ak E)<|au (ak a)<|au (ak<|b - a)<|p (ss (((b - a) / 4:Nat):Int) aa aa ab<|bp ab ab)<|p (qi (((b - a) / 4 *2:Nat):Int) aa aa<|bp ab ab)<|p (bJ ((a+(b - a) / 4 *2:Nat):Int) aa aa<|bp ab ab)<|p (bJ ((a+(b - a) / 4 *2 +1:Nat):Int) aa aa<|bp ab ab)<|p (le aa aa)<|nl<|aK<|cd aa (fun a2=> ?_) fun a2=> ?_;refine aQ<|aJ<|az fun aL=>aT<|ag fun aN=>e<|cl Sk (Z7 V r _ aS) aa fun bx bA a1=> ?_;obtain ⟨an,rfl,bu,bv,ap,ac⟩:=a1;obtain ⟨o,bs,a6⟩:=Q8 an (2 ^ lC (b - a)) ab;have br:=Z;refine au (.int .u64 (2 ^ lC (b - a):Nat))<|p (sb aa aa<|qt ab)<|p (fZ aa aa a6)<|p (zi u3 adi aa<|cB ab)<|ay<|aN ?_;refine eo (fun aB O=> ∃ (G:Nat),(G < b - a)∧(bS O.heap V [.int .u64 an])∧(O.ownsRow B 95 1 (.slice C n cp) n<|LE bo I)∧(Md (fun q=>(bW C n cp).ownBlock=some q) w O)∧(Sl aB [(0,.slice C n cp),(1,ak a),(6,ak (b - a)),(7,aV V),(8,.int .u64 (2 ^ lC (b - a):Nat)),(9,ak E),(10,ak G)])) ?_ ?_;refine ag fun aD=>p mv<|au (ak<|b - a)<|p (ge aa aa)<|nl<|aD<|cd aa (fun a3=> ?_) fun a3=> ?_;exact rg aa<|p mv<|au (ak<|b - a)<|p (dY ((o - (b - a):Nat):Int) aa aa<|bp ab ab)<|p aE<|nl<|tn<|⟨o - (b - a),ab,ap,(dw am ac fun k hk h=>Z<|h ▸ hk),(Md.trans' ai ac fun k hk h=>by omega),aa⟩
 exact aQ<|tn<|⟨o,ab,ap,(dw am ac fun k hk h=>Z<|h ▸ hk),(Md.trans' ai ac fun k hk h=>by omega),aa⟩
 rintro aB O ⟨G,bt,aR,J,aY,a9⟩;refine bG a9 ?_;have bj:=gn J;have A:(fun w'=>Wk O w') O.drew:=(Md.refl _ _).drew;refine e5 (fun w'=>Wk O w') 17 aa wide A<|bI 0 aa (.slice C n cp) A<|bI 1 aa (ak E) A<|bI 2 aa (.slice C n cp) A<|bI 3 aa (ak a) A<|bI 4 aa (ak G) A<|bN 5 aa (bJ ((a+G:Nat):Int) aa aa<|bp ab ab) A<|bI 6 aa (.slice C n cp) A<|bI 7 aa (ak a) A<|bI 8 aa (ak G) A<|bN 9 aa (bJ ((a+G:Nat):Int) aa aa<|bp ab ab) A<|bN 10 aa (bc cy aa aa ab<|aM.ok ((ba J).2)<|cT ab) A<|ea 11 aa (fun w' Y=>ld du aa<|dW (i:=a+G) ((ba J).2.wk Y) ab) A<|bI 12 aa (.slice C n cp) A<|bI 13 aa (ak E) A<|bN 14 aa (bc cy aa aa ab<|aM.ok ((ba J).2)<|cT ab) A<|ea 15 aa (fun w' Y=>ld du aa<|dW (i:=E) ((ba J).2.wk Y) ab) A<|bN 16 aa (bc cy aa aa ab<|aM.ok ((ba J).2)<|cT ab) A<|dU 17 aa aj aj<|gT (u:=I[a+G]!) (E) (a7 J A) gK aa aa aa ab fun bC aW a4=> ?_;refine ko 18 aa (fun _=>bc cy aa aa ab<|aM.ok ((ba J).2)<|cT ab) (fun h=>ep<|(show true =_ from by kernel_rfl).trans h)<|dU 19 aa aj aj<|gT (u:=I[E]!) (a+G) a4 gK aa aa aa ab fun ax aX a5=> ?_;have Y:ax.ownsRow B 95 1 (.slice C n cp) n (LE bo<|dq I (E)<|a+G):=a5;have av:Md (fun q=>(bW C n cp).ownBlock=some q) O ax:=Md.trans (A.mono fun _ _ h=>h.elim)<|Md.trans aW aX;exact eZ aj<|bn<|aL<|rg aa<|au (ak E)<|p (bJ ((E+1:Nat):Int) aa aa<|bp ab ab)<|p aE<|nl<|tn<|⟨_,ab,E+1,an,dq I E (a+G),ab,(aaQ bR ab ab ab aa),(av.B aR fun h=>Z h),Y,(Md.trans aY av),aa,aa⟩
 exact ext<|bf<|bf<|be<|f0 aa<|⟨I,aa,bR,am,ai⟩
end Go.Hb
end
section
namespace Go.Hb
open Go.Hb.dZ
theorem aaH {d:Array Nat} {a b A i j:Nat} (h1:pT (fun x=>cz x (dq d a A)[a]!) (dq d a A) (b - 1) (a+1)=i) (h2:pS (fun x=> !cz x (dq d a A)[a]!) (dq d a A) i (b - 1)=j) (h:i > j):
 sN cz d a b A=(j,true,dq (dq d a A) j a):=by
 unfold sN; simp only [h1,h2,if_pos h]
theorem part_go {d:Array Nat} {a b A i j C:Nat} {E:Array Nat} (h1:pT (fun x=>cz x (dq d a A)[a]!) (dq d a A) (b - 1) (a+1)=i) (h2:pS (fun x=> !cz x (dq d a A)[a]!) (dq d a A) i (b - 1)=j) (h:¬i > j)
 (h3:GC cz a (i+1) (j - 1) (dq (dq d a A) i j)=(C,E)):
 sN cz d a b A=(C,false,dq E C a):=by
 unfold sN; simp only [h1,h2,if_neg h,h3]
theorem aaJ (d:Array Nat) (a b C:Nat) (B n cp:Nat) (A:Option Addr) (w:World) (hO:w.ownsRow B 95 1 (.slice A n cp) n (LE bo d)) (c5:a≤C∧C < b∧b≤n) (c9:n≤1099511627776):
 bm aw 292 (bh [.slice A n cp,ak a,ak b,ak C]) w (fun v w'=>v= .tuple #[ak ((sN cz d a b C).1),.bool (sN cz d a b C).2.1]∧w'.ownsRow B 95 1 (.slice A n cp) n (LE bo (sN cz d a b C).2.2)∧Md (fun q=>(bW A n cp).ownBlock=some q) w w'):=by
 refine enter func292 aa ntmps292 aa<|ag fun bR=>p aE<|ay<|bR<|az fun bS=> ?_;have c6:=gn hO;have al:(fun w'=>Wk w w') w.drew:=(Md.refl _ _).drew;refine e5 (fun w'=>Wk w w') 13 aa wide al<|bI 0 aa (.slice A n cp) al<|bI 1 aa (ak a) al<|bI 2 aa (.slice A n cp) al<|bI 3 aa (ak C) al<|bI 4 aa (.slice A n cp) al<|bI 5 aa (ak C) al<|bN 6 aa (bc cy aa aa ab<|aM.ok ((ba hO).2)<|cT ab) al<|ea 7 aa (fun w' G=>ld du aa<|dW (i:=C) ((ba hO).2.wk G) ab) al<|bI 8 aa (.slice A n cp) al<|bI 9 aa (ak a) al<|bN 10 aa (bc cy aa aa ab<|aM.ok ((ba hO).2)<|cT ab) al<|ea 11 aa (fun w' G=>ld du aa<|dW (i:=a) ((ba hO).2.wk G) ab) al<|bN 12 aa (bc cy aa aa ab<|aM.ok ((ba hO).2)<|cT ab) al<|dU 13 aa aj aj<|gT (u:=d[C]!) (a) (a7 hO al) gK aa aa aa ab fun dc b4 cH=> ?_;refine ko 14 aa (fun _=>bc cy aa aa ab<|aM.ok ((ba hO).2)<|cT ab) (fun h=>ep<|(show true =_ from by kernel_rfl).trans h)<|dU 15 aa aj aj<|gT (u:=d[a]!) (C) cH gK aa aa aa ab fun bv b5 cI=> ?_;have cn:bv.ownsRow B 95 1 (.slice A n cp) n (LE bo<|dq d (a)<|C):=cI;have b3:Md (fun q=>(bW A n cp).ownBlock=some q) w bv:=Md.trans (al.mono fun _ _ h=>h.elim)<|Md.trans b4 b5;refine eZ aj<|bS<|ag fun bT=>au (ak a)<|p (bJ ((a+1:Nat):Int) aa aa<|bp ab ab)<|au (ak b)<|p (dY ((b - 1:Nat):Int) aa aa<|bp ab ab)<|p aE ?_;refine ay<|bT ?_;refine eo (fun bC bg=> ∃ (O:Nat),(a+1≤O∧(O=a+1∨O≤b - 1 +1))∧(pT (fun x=>cz x (dq d a C)[a]!) (dq d a C) (b - 1) (a+1)=O)∧(bg.ownsRow B 95 1 (.slice A n cp) n<|LE bo<|dq d a C)∧(Md (fun q=>(bW A n cp).ownBlock=some q) w bg)∧(Sl bC [(0,.slice A n cp),(1,ak a),(10,ak O),(11,ak (b - 1))])) ?_ ?_;refine aT<|lp (fun ax bD aK=> ∃ (q:Nat),(a+1≤q∧(q=a+1∨q≤b - 1 +1))∧(pT (fun x=>cz x (dq d a C)[a]!) (dq d a C) (b - 1) (q)=pT (fun x=>cz x (dq d a C)[a]!) (dq d a C) (b - 1) (a+1))∧(aK.ownsRow B 95 1 (.slice A n cp) n<|LE bo<|dq d a C)∧(Md (fun q=>(bW A n cp).ownBlock=some q) w aK)∧(Sl bD [(0,.slice A n cp),(1,ak a),(10,ak q),(11,ak (b - 1))])∧(b - 1 +1 - q=ax)) _ ⟨a+1,ab,aa,cn,b3,aa,aa⟩ ?_;rintro ax bD aK ⟨q,aA,av,E,aq,cS,rfl⟩;refine bG cS<|az fun aV=>az fun aG=> ?_;have aJ:=gn E;have ae:(fun w'=>Wk aK w') aK.drew:=(Md.refl _ _).drew;refine bY (fun w'=>Wk aK w') aa wide ae<|bO 0 aa (ak q) ae<|bO 1 aa (ak<|b - 1) ae<|aR 2 aa (le aa aa) ae<|aR 3 aa (mv) ae<|js (t:=33) aa (fun cF=> ?_) fun cF=> ?_;refine bq 4 aa (fun _ _=>aX (.slice A n cp) aa) ae<|bq 5 aa (fun _ _=>aX (ak q) aa) ae<|bq 6 aa (fun _ _=>bc cy aa aa ab<|aM.ok ((ba E).2)<|cT ab) ae<|bq 7 aa (fun w' G=>ld du aa<|dW (i:=q) ((ba E).2.wk G) ab) ae<|bq 8 aa (fun _ _=>aX (.slice A n cp) aa) ae<|bq 9 aa (fun _ _=>aX (ak a) aa) ae<|bq 10 aa (fun _ _=>bc cy aa aa ab<|aM.ok ((ba E).2)<|cT ab) ae<|bq 11 aa (fun w' G=>ld du aa<|dW (i:=a) ((ba E).2.wk G) ab) ae<|nB 12 aa aj aa aa aa<|cl mI (mP (dq d a C)[q]! (dq d a C)[a]! _) aa fun db c3 cw=> ?_;obtain ⟨rfl,b0⟩:=cw;have aS:(fun w'=>Wk aK w') c3:=Md.trans ae b0;refine ⟨aS,?_⟩;refine aR 13 aa (bH aa) aS<|hn aj<|aG<|cb aa (fun a9=> ?_) fun a9=> ?_
 exact aQ<|aV<|aT<|rg aa<|au (ak q)<|p (bJ ((q+1:Nat):Int) aa aa<|bp ab ab)<|p aE<|nl<|bn<|tn<|⟨_,ab,q+1,ab,(by rw [← av,FY (show q≤b - 1 by omega) (by simpa using a9)]),(a7 E aS),(Md.trans aq<|aS.mono fun _ _ h=>h.elim),aa,aa⟩
 exact ext<|bf<|bf<|be<|tn<|⟨q,aA,(by rw [← av,vy (.inr<|by simpa using a9)]),(a7 E aS),(Md.trans aq<|aS.mono fun _ _ h=>h.elim),aa⟩
 exact a8 4 aa ae<|a8 5 aa ae<|a8 6 aa ae<|a8 7 aa ae<|a8 8 aa ae<|a8 9 aa ae<|a8 10 aa ae<|a8 11 aa ae<|a8 12 aa ae<|aR 13 aa (bA aa) ae<|hn aj<|aG<|cf aa<|ext<|bf<|bf<|be<|tn<|⟨q,aA,(by rw [← av,vy (.inl ab)]),(a7 E (Md.refl _ _).drew),aq.drew,aa⟩
 rintro bC bg ⟨O,c7,bt,a4,a3,cR⟩;refine bG cR ?_;refine eo (fun bE aC=> ∃ (V:Nat),(a≤V∧V≤b - 1)∧(pS (fun x=> !cz x (dq d a C)[a]!) (dq d a C) (O) (b - 1)=V)∧(aC.ownsRow B 95 1 (.slice A n cp) n<|LE bo<|dq d a C)∧(Md (fun q=>(bW A n cp).ownBlock=some q) w aC)∧(Sl bE [(0,.slice A n cp),(1,ak a),(10,ak O),(11,ak V)])) ?_ ?_;refine aT<|lp (fun ax bF aN=> ∃ (q:Nat),(a≤q∧q≤b - 1)∧(pS (fun x=> !cz x (dq d a C)[a]!) (dq d a C) (O) (q)=pS (fun x=> !cz x (dq d a C)[a]!) (dq d a C) (O) (b - 1))∧(aN.ownsRow B 95 1 (.slice A n cp) n<|LE bo<|dq d a C)∧(Md (fun q=>(bW A n cp).ownBlock=some q) w aN)∧(Sl bF [(0,.slice A n cp),(1,ak a),(10,ak O),(11,ak q)])∧(q=ax)) _ ⟨b - 1,ab,aa,a4,a3,aa,aa⟩ ?_;rintro ax bF aN ⟨q,aA,av,E,aq,cV,rfl⟩;refine bG cV<|az fun aV=>az fun aG=> ?_;have aJ:=gn E;have Z:(fun w'=>Wk aN w') aN.drew:=(Md.refl _ _).drew;refine bY (fun w'=>Wk aN w') aa wide Z<|bO 0 aa (ak O) Z<|bO 1 aa (ak q) Z<|aR 2 aa (le aa aa) Z<|aR 3 aa (mv) Z<|js (t:=49) aa (fun cG=> ?_) fun cG=> ?_;refine bq 4 aa (fun _ _=>aX (.slice A n cp) aa) Z<|bq 5 aa (fun _ _=>aX (ak q) aa) Z<|bq 6 aa (fun _ _=>bc cy aa aa ab<|aM.ok ((ba E).2)<|cT ab) Z<|bq 7 aa (fun w' G=>ld du aa<|dW (i:=q) ((ba E).2.wk G) ab) Z<|bq 8 aa (fun _ _=>aX (.slice A n cp) aa) Z<|bq 9 aa (fun _ _=>aX (ak a) aa) Z<|bq 10 aa (fun _ _=>bc cy aa aa ab<|aM.ok ((ba E).2)<|cT ab) Z<|bq 11 aa (fun w' G=>ld du aa<|dW (i:=a) ((ba E).2.wk G) ab) Z<|nB 12 aa aj aa aa aa<|cl mI (mP (dq d a C)[q]! (dq d a C)[a]! _) aa fun v58 c4 cx=> ?_;obtain ⟨rfl,b1⟩:=cx;have aI:(fun w'=>Wk aN w') c4:=Md.trans Z b1;refine ⟨aI,?_⟩;refine bq 13 aa (fun _ _=>no aa) aI<|aR 14 aa (bH aa) aI<|hn aj<|aG<|cb aa (fun bb=> ?_) fun bb=> ?_;exact aQ<|aV<|aT<|rg aa<|au (ak q)<|p (dY ((q - 1:Nat):Int) aa aa<|bp ab ab)<|p aE<|nl<|bn<|tn<|⟨_,ab,q - 1,ab,(by rw [← av,C8 (show 0 < q by omega) (show O≤q by omega) (by simpa using bb)]),(a7 E aI),(Md.trans aq<|aI.mono fun _ _ h=>h.elim),aa,aa⟩
 exact ext<|bf<|bf<|be<|tn<|⟨q,aA,(by rw [← av,uL (.inr<|by simpa using bb)]),(a7 E aI),(Md.trans aq<|aI.mono fun _ _ h=>h.elim),aa⟩
 exact a8 4 aa Z<|a8 5 aa Z<|a8 6 aa Z<|a8 7 aa Z<|a8 8 aa Z<|a8 9 aa Z<|a8 10 aa Z<|a8 11 aa Z<|a8 12 aa Z<|a8 13 aa Z<|aR 14 aa (bA aa) Z<|hn aj<|aG<|cf aa<|ext<|bf<|bf<|be<|tn<|⟨q,aA,(by rw [← av,uL (.inl ab)]),(a7 E (Md.refl _ _).drew),aq.drew,aa⟩
 rintro bE aC ⟨V,c8,bj,I,aW,cU⟩;refine bG cU<|az fun aV=>ag fun aG=>au (ak O)<|au (ak V)<|p (gt aa aa)<|nl<|aG<|cd aa (fun cB=> ?_) fun cB=> ?_;refine az fun a1=> ?_;have aJ:=gn I;have ap:(fun w'=>Wk aC w') aC.drew:=(Md.refl _ _).drew;refine e5 (fun w'=>Wk aC w') 13 aa wide ap<|bI 0 aa (.slice A n cp) ap<|bI 1 aa (ak V) ap<|bI 2 aa (.slice A n cp) ap<|bI 3 aa (ak a) ap<|bI 4 aa (.slice A n cp) ap<|bI 5 aa (ak a) ap<|bN 6 aa (bc cy aa aa ab<|aM.ok ((ba I).2)<|cT ab) ap<|ea 7 aa (fun w' G=>ld du aa<|dW (i:=a) ((ba I).2.wk G) ab) ap<|bI 8 aa (.slice A n cp) ap<|bI 9 aa (ak V) ap<|bN 10 aa (bc cy aa aa ab<|aM.ok ((ba I).2)<|cT ab) ap<|ea 11 aa (fun w' G=>ld du aa<|dW (i:=V) ((ba I).2.wk G) ab) ap<|bN 12 aa (bc cy aa aa ab<|aM.ok ((ba I).2)<|cT ab) ap<|dU 13 aa aj aj<|gT (u:=(dq d a C)[a]!) (V) (a7 I ap) gK aa aa aa ab fun dd b7 cJ=> ?_;refine ko 14 aa (fun _=>bc cy aa aa ab<|aM.ok ((ba I).2)<|cT ab) (fun h=>ep<|(show true =_ from by kernel_rfl).trans h)<|dU 15 aa aj aj<|gT (u:=(dq d a C)[V]!) (a) cJ gK aa aa aa ab fun bw b8 cK=> ?_;have co:bw.ownsRow B 95 1 (.slice A n cp) n (LE bo<|dq (dq d a C) (V)<|a):=cK;have b6:Md (fun q=>(bW A n cp).ownBlock=some q) aC bw:=Md.trans (ap.mono fun _ _ h=>h.elim)<|Md.trans b7 b8;refine eZ aj<|a1<|ag fun a2=>au (ak V)<|p (cE (ak V) aa)<|ay<|a2 ?_;refine rt<|tr<|f2 aa aa aa ?_;have aY:=aaH bt bj ab;exact ⟨by rw [aY]; rfl,by rw [aY]; exact co,Md.trans aW b6⟩;refine aQ<|aV<|az fun a1=> ?_;have aJ:=gn I;have am:(fun w'=>Wk aC w') aC.drew:=(Md.refl _ _).drew;refine e5 (fun w'=>Wk aC w') 13 aa wide am<|bI 0 aa (.slice A n cp) am<|bI 1 aa (ak O) am<|bI 2 aa (.slice A n cp) am<|bI 3 aa (ak V) am<|bI 4 aa (.slice A n cp) am<|bI 5 aa (ak V) am<|bN 6 aa (bc cy aa aa ab<|aM.ok ((ba I).2)<|cT ab) am<|ea 7 aa (fun w' G=>ld du aa<|dW (i:=V) ((ba I).2.wk G) ab) am<|bI 8 aa (.slice A n cp) am<|bI 9 aa (ak O) am<|bN 10 aa (bc cy aa aa ab<|aM.ok ((ba I).2)<|cT ab) am<|ea 11 aa (fun w' G=>ld du aa<|dW (i:=O) ((ba I).2.wk G) ab) am<|bN 12 aa (bc cy aa aa ab<|aM.ok ((ba I).2)<|cT ab) am<|dU 13 aa aj aj<|gT (u:=(dq d a C)[V]!) (O) (a7 I am) gK aa aa aa ab fun de ca cL=> ?_;refine ko 14 aa (fun _=>bc cy aa aa ab<|aM.ok ((ba I).2)<|cT ab) (fun h=>ep<|(show true =_ from by kernel_rfl).trans h)<|dU 15 aa aj aj<|gT (u:=(dq d a C)[O]!) (V) cL gK aa aa aa ab fun bx cc cM=> ?_;have cq:bx.ownsRow B 95 1 (.slice A n cp) n (LE bo<|dq (dq d a C) (O)<|V):=cM;have b9:Md (fun q=>(bW A n cp).ownBlock=some q) aC bx:=Md.trans (am.mono fun _ _ h=>h.elim)<|Md.trans ca cc;refine eZ aj<|a1<|ag fun a2=>au (ak O)<|p (bJ ((O+1:Nat):Int) aa aa<|bp ab ab)<|ay<|a2 ?_
 refine ag fun bU=>au (ak V)<|p (dY ((V - 1:Nat):Int) aa aa<|bp ab ab)<|ay<|bU<|az fun bV=>aT<|lp (fun ax bK bd=> ∃ (i j:Nat) (J:Array Nat),(a+2≤i∧i≤b∧a≤j∧j < b∧i≤j+2)∧(GC cz a i j J=GC cz a (O+1) (V - 1) (dq (dq d a C) O V))∧(bd.ownsRow B 95 1 (.slice A n cp) n<|LE bo J)∧(Md (fun q=>(bW A n cp).ownBlock=some q) w bd)∧(Sl bK [(0,.slice A n cp),(1,ak a),(10,ak i),(11,ak j)])∧(j+1 - i=ax)) _ ⟨O+1,V - 1,dq (dq d a C) O V,ab,aa,cq,(Md.trans aW b9),aa,aa⟩ ?_;rintro ax bK bd ⟨i,j,J,hi,bs,cm,b2,cW,rfl⟩;refine bG cW<|aT ?_;refine eo (fun bL bi=> ∃ (ah:Nat),(i≤ah∧(ah=i∨ah≤j+1))∧(pT (fun x=>cz x J[a]!) J (j) (i)=ah)∧(bi.ownsRow B 95 1 (.slice A n cp) n<|LE bo J)∧(Md (fun q=>(bW A n cp).ownBlock=some q) w bi)∧(Sl bL [(0,.slice A n cp),(1,ak a),(10,ak ah),(11,ak j)])) ?_ ?_;refine aT<|lp (fun ax bM aL=> ∃ (q:Nat),(i≤q∧(q=i∨q≤j+1))∧(pT (fun x=>cz x J[a]!) J (j) (q)=pT (fun x=>cz x J[a]!) J (j) (i))∧(aL.ownsRow B 95 1 (.slice A n cp) n<|LE bo J)∧(Md (fun q=>(bW A n cp).ownBlock=some q) w aL)∧(Sl bM [(0,.slice A n cp),(1,ak a),(10,ak q),(11,ak j)])∧(j+1 - q=ax)) _ ⟨i,ab,aa,cm,b2,aa,aa⟩ ?_;rintro ax bM aL ⟨q,aA,av,E,aq,cY,rfl⟩;refine bG cY<|az fun aU=>az fun aF=> ?_;have aJ:=gn E;have ac:(fun w'=>Wk aL w') aL.drew:=(Md.refl _ _).drew;refine bY (fun w'=>Wk aL w') aa wide ac<|bO 0 aa (ak q) ac<|bO 1 aa (ak j) ac<|aR 2 aa (le aa aa) ac<|aR 3 aa (mv) ac<|js (t:=102) aa (fun cC=> ?_) fun cC=> ?_;refine bq 4 aa (fun _ _=>aX (.slice A n cp) aa) ac<|bq 5 aa (fun _ _=>aX (ak q) aa) ac<|bq 6 aa (fun _ _=>bc cy aa aa ab<|aM.ok ((ba E).2)<|cT ab) ac<|bq 7 aa (fun w' G=>ld du aa<|dW (i:=q) ((ba E).2.wk G) ab) ac<|bq 8 aa (fun _ _=>aX (.slice A n cp) aa) ac<|bq 9 aa (fun _ _=>aX (ak a) aa) ac<|bq 10 aa (fun _ _=>bc cy aa aa ab<|aM.ok ((ba E).2)<|cT ab) ac<|bq 11 aa (fun w' G=>ld du aa<|dW (i:=a) ((ba E).2.wk G) ab) ac<|nB 12 aa aj aa aa aa<|cl mI (mP J[q]! J[a]! _) aa fun da c1 cu=> ?_;obtain ⟨rfl,bX⟩:=cu;have aP:(fun w'=>Wk aL w') c1:=Md.trans ac bX;refine ⟨aP,?_⟩;refine aR 13 aa (bH aa) aP<|hn aj<|aF<|cb aa (fun a5=> ?_) fun a5=> ?_;exact aQ<|aU<|aT<|rg aa<|au (ak q)<|p (bJ ((q+1:Nat):Int) aa aa<|bp ab ab)<|p aE<|nl<|bn<|tn<|⟨_,ab,q+1,ab,(by rw [← av,FY (show q≤j by omega) (by simpa using a5)]),(a7 E aP),(Md.trans aq<|aP.mono fun _ _ h=>h.elim),aa,aa⟩
 exact ext<|bf<|bf<|be<|tn<|⟨q,aA,(by rw [← av,vy (.inr<|by simpa using a5)]),(a7 E aP),(Md.trans aq<|aP.mono fun _ _ h=>h.elim),aa⟩
 exact a8 4 aa ac<|a8 5 aa ac<|a8 6 aa ac<|a8 7 aa ac<|a8 8 aa ac<|a8 9 aa ac<|a8 10 aa ac<|a8 11 aa ac<|a8 12 aa ac<|aR 13 aa (bA aa) ac<|hn aj<|aF<|cf aa<|ext<|bf<|bf<|be<|tn<|⟨q,aA,(by rw [← av,vy (.inl ab)]),(a7 E (Md.refl _ _).drew),aq.drew,aa⟩
 rintro bL bi ⟨ah,bl,bu,a4,a3,cX⟩;refine bG cX ?_;refine eo (fun bP aD=> ∃ (ai:Nat),(a≤ai∧ai≤j)∧(pS (fun x=> !cz x J[a]!) J (ah) (j)=ai)∧(aD.ownsRow B 95 1 (.slice A n cp) n<|LE bo J)∧(Md (fun q=>(bW A n cp).ownBlock=some q) w aD)∧(Sl bP [(0,.slice A n cp),(1,ak a),(10,ak ah),(11,ak ai)])) ?_ ?_;refine aT<|lp (fun ax bQ aO=> ∃ (q:Nat),(a≤q∧q≤j)∧(pS (fun x=> !cz x J[a]!) J (ah) (q)=pS (fun x=> !cz x J[a]!) J (ah) (j))∧(aO.ownsRow B 95 1 (.slice A n cp) n<|LE bo J)∧(Md (fun q=>(bW A n cp).ownBlock=some q) w aO)∧(Sl bQ [(0,.slice A n cp),(1,ak a),(10,ak ah),(11,ak q)])∧(q=ax)) _ ⟨j,ab,aa,a4,a3,aa,aa⟩ ?_;rintro ax bQ aO ⟨q,aA,av,E,aq,c0,rfl⟩;refine bG c0<|az fun aU=>az fun aF=> ?_;have aJ:=gn E;have Y:(fun w'=>Wk aO w') aO.drew:=(Md.refl _ _).drew;refine bY (fun w'=>Wk aO w') aa wide Y<|bO 0 aa (ak ah) Y<|bO 1 aa (ak q) Y<|aR 2 aa (le aa aa) Y<|aR 3 aa (mv) Y<|js (t:=118) aa (fun cD=> ?_) fun cD=> ?_;refine bq 4 aa (fun _ _=>aX (.slice A n cp) aa) Y<|bq 5 aa (fun _ _=>aX (ak q) aa) Y<|bq 6 aa (fun _ _=>bc cy aa aa ab<|aM.ok ((ba E).2)<|cT ab) Y<|bq 7 aa (fun w' G=>ld du aa<|dW (i:=q) ((ba E).2.wk G) ab) Y<|bq 8 aa (fun _ _=>aX (.slice A n cp) aa) Y<|bq 9 aa (fun _ _=>aX (ak a) aa) Y<|bq 10 aa (fun _ _=>bc cy aa aa ab<|aM.ok ((ba E).2)<|cT ab) Y<|bq 11 aa (fun w' G=>ld du aa<|dW (i:=a) ((ba E).2.wk G) ab) Y<|nB 12 aa aj aa aa aa<|cl mI (mP J[q]! J[a]! _) aa fun v127 c2 cv=> ?_;obtain ⟨rfl,bZ⟩:=cv;have aH:(fun w'=>Wk aO w') c2:=Md.trans Y bZ;refine ⟨aH,?_⟩;refine bq 13 aa (fun _ _=>no aa) aH<|aR 14 aa (bH aa) aH<|hn aj<|aF<|cb aa (fun a6=> ?_) fun a6=> ?_;exact aQ<|aU<|aT<|rg aa<|au (ak q)<|p (dY ((q - 1:Nat):Int) aa aa<|bp ab ab)<|p aE<|nl<|bn<|tn<|⟨_,ab,q - 1,ab,(by rw [← av,C8 (show 0 < q by omega) (show ah≤q by omega) (by simpa using a6)]),(a7 E aH),(Md.trans aq<|aH.mono fun _ _ h=>h.elim),aa,aa⟩
 exact ext<|bf<|bf<|be<|tn<|⟨q,aA,(by rw [← av,uL (.inr<|by simpa using a6)]),(a7 E aH),(Md.trans aq<|aH.mono fun _ _ h=>h.elim),aa⟩
 exact a8 4 aa Y<|a8 5 aa Y<|a8 6 aa Y<|a8 7 aa Y<|a8 8 aa Y<|a8 9 aa Y<|a8 10 aa Y<|a8 11 aa Y<|a8 12 aa Y<|a8 13 aa Y<|aR 14 aa (bA aa) Y<|hn aj<|aF<|cf aa<|ext<|bf<|bf<|be<|tn<|⟨q,aA,(by rw [← av,uL (.inl ab)]),(a7 E (Md.refl _ _).drew),aq.drew,aa⟩
 rintro bP aD ⟨ai,br,bk,I,aW,cZ⟩;refine bG cZ<|az fun aU=>ag fun aF=>au (ak ah)<|au (ak ai)<|p (gt aa aa)<|nl<|aF<|cd aa (fun cA=> ?_) fun cA=> ?_;refine ext<|bf<|p6 aB<|bf<|be<|bV<|az fun aZ=> ?_;have aJ:=gn I;have ao:(fun w'=>Wk aD w') aD.drew:=(Md.refl _ _).drew;refine e5 (fun w'=>Wk aD w') 13 aa wide ao<|bI 0 aa (.slice A n cp) ao<|bI 1 aa (ak ai) ao<|bI 2 aa (.slice A n cp) ao<|bI 3 aa (ak a) ao<|bI 4 aa (.slice A n cp) ao<|bI 5 aa (ak a) ao<|bN 6 aa (bc cy aa aa ab<|aM.ok ((ba I).2)<|cT ab) ao<|ea 7 aa (fun w' G=>ld du aa<|dW (i:=a) ((ba I).2.wk G) ab) ao<|bI 8 aa (.slice A n cp) ao<|bI 9 aa (ak ai) ao<|bN 10 aa (bc cy aa aa ab<|aM.ok ((ba I).2)<|cT ab) ao<|ea 11 aa (fun w' G=>ld du aa<|dW (i:=ai) ((ba I).2.wk G) ab) ao<|bN 12 aa (bc cy aa aa ab<|aM.ok ((ba I).2)<|cT ab) ao<|dU 13 aa aj aj<|gT (u:=J[a]!) (ai) (a7 I ao) gK aa aa aa ab fun dg cj cP=> ?_;refine ko 14 aa (fun _=>bc cy aa aa ab<|aM.ok ((ba I).2)<|cT ab) (fun h=>ep<|(show true =_ from by kernel_rfl).trans h)<|dU 15 aa aj aj<|gT (u:=J[ai]!) (a) cP gK aa aa aa ab fun bB ck cQ=> ?_;have ct:bB.ownsRow B 95 1 (.slice A n cp) n (LE bo<|dq J (ai)<|a):=cQ;have ci:Md (fun q=>(bW A n cp).ownBlock=some q) aD bB:=Md.trans (ao.mono fun _ _ h=>h.elim)<|Md.trans cj ck;refine eZ aj<|aZ<|ag fun a0=>au (ak ai)<|p (cE (ak ai) aa)<|ay<|a0 ?_;refine rt<|f2 aa aa aa ?_;have aY:=part_go bt bj ab<|bs.symm.trans<|by rw [Nb bu bk bl.1 br.2,if_pos ab]
 exact ⟨by rw [aY]; rfl,by rw [aY]; exact ct,Md.trans aW ci⟩;refine aQ<|aU<|az fun aZ=> ?_;have aJ:=gn I;have an:(fun w'=>Wk aD w') aD.drew:=(Md.refl _ _).drew;refine e5 (fun w'=>Wk aD w') 13 aa wide an<|bI 0 aa (.slice A n cp) an<|bI 1 aa (ak ah) an<|bI 2 aa (.slice A n cp) an<|bI 3 aa (ak ai) an<|bI 4 aa (.slice A n cp) an<|bI 5 aa (ak ai) an<|bN 6 aa (bc cy aa aa ab<|aM.ok ((ba I).2)<|cT ab) an<|ea 7 aa (fun w' G=>ld du aa<|dW (i:=ai) ((ba I).2.wk G) ab) an<|bI 8 aa (.slice A n cp) an<|bI 9 aa (ak ah) an<|bN 10 aa (bc cy aa aa ab<|aM.ok ((ba I).2)<|cT ab) an<|ea 11 aa (fun w' G=>ld du aa<|dW (i:=ah) ((ba I).2.wk G) ab) an<|bN 12 aa (bc cy aa aa ab<|aM.ok ((ba I).2)<|cT ab) an<|dU 13 aa aj aj<|gT (u:=J[ai]!) (ah) (a7 I an) gK aa aa aa ab fun df cg cN=> ?_;refine ko 14 aa (fun _=>bc cy aa aa ab<|aM.ok ((ba I).2)<|cT ab) (fun h=>ep<|(show true =_ from by kernel_rfl).trans h)<|dU 15 aa aj aj<|gT (u:=J[ah]!) (ai) cN gK aa aa aa ab fun bz ch cO=> ?_;have cs:bz.ownsRow B 95 1 (.slice A n cp) n (LE bo<|dq J (ah)<|ai):=cO;have ce:Md (fun q=>(bW A n cp).ownBlock=some q) aD bz:=Md.trans (an.mono fun _ _ h=>h.elim)<|Md.trans cg ch;refine eZ aj<|aZ<|ag fun a0=>au (ak ah)<|p (bJ ((ah+1:Nat):Int) aa aa<|bp ab ab)<|ay<|a0 ?_;exact rg aa<|au (ak ai)<|p (dY ((ai - 1:Nat):Int) aa aa<|bp ab ab)<|p aE<|nl<|bn<|tn<|⟨_,ab,ah+1,ai - 1,dq J ah ai,ab,(by rw [← bs,Nb bu bk bl.1 br.2,if_neg ab,if_pos ab]),cs,(Md.trans aW ce),aa,aa⟩
theorem aaL (d:Array Nat) (a b ac:Nat) (B n cp:Nat) (A:Option Addr) (w:World) (hO:w.ownsRow B 95 1 (.slice A n cp) n (LE bo d)) (bU:a≤ac∧ac < b∧b≤n) (b0:n≤1099511627776):
 bm aw 291 (bh [.slice A n cp,ak a,ak b,ak ac]) w (fun v w'=>v=ak ((yq cz d a b ac).1)∧w'.ownsRow B 95 1 (.slice A n cp) n (LE bo (yq cz d a b ac).2)∧Md (fun q=>(bW A n cp).ownBlock=some q) w w'):=by
 refine enter func291 aa ntmps291 aa<|ag fun a0=>ay<|a0<|az fun a1=> ?_;have bV:=gn hO;have O:(fun w'=>Wk w w') w.drew:=(Md.refl _ _).drew;refine e5 (fun w'=>Wk w w') 13 aa wide O<|bI 0 aa (.slice A n cp) O<|bI 1 aa (ak a) O<|bI 2 aa (.slice A n cp) O<|bI 3 aa (ak ac) O<|bI 4 aa (.slice A n cp) O<|bI 5 aa (ak ac) O<|bN 6 aa (bc cy aa aa ab<|aM.ok ((ba hO).2)<|cT ab) O<|ea 7 aa (fun w' Z=>ld du aa<|dW (i:=ac) ((ba hO).2.wk Z) ab) O<|bI 8 aa (.slice A n cp) O<|bI 9 aa (ak a) O<|bN 10 aa (bc cy aa aa ab<|aM.ok ((ba hO).2)<|cT ab) O<|ea 11 aa (fun w' Z=>ld du aa<|dW (i:=a) ((ba hO).2.wk Z) ab) O<|bN 12 aa (bc cy aa aa ab<|aM.ok ((ba hO).2)<|cT ab) O<|dU 13 aa aj aj<|gT (u:=d[ac]!) (a) (a7 hO O) gK aa aa aa ab fun b1 bg bD=> ?_;refine ko 14 aa (fun _=>bc cy aa aa ab<|aM.ok ((ba hO).2)<|cT ab) (fun h=>ep<|(show true =_ from by kernel_rfl).trans h)<|dU 15 aa aj aj<|gT (u:=d[a]!) (ac) bD gK aa aa aa ab fun aP bi bE=> ?_;have bu:aP.ownsRow B 95 1 (.slice A n cp) n (LE bo<|dq d (a)<|ac):=bE;have bd:Md (fun q=>(bW A n cp).ownBlock=some q) w aP:=Md.trans (O.mono fun _ _ h=>h.elim)<|Md.trans bg bi;refine eZ aj<|a1<|ag fun a2=>au (ak a)<|p (bJ ((a+1:Nat):Int) aa aa<|bp ab ab)<|au (ak b)<|p (dY ((b - 1:Nat):Int) aa aa<|bp ab ab)<|p aE ?_;refine ay<|a2<|az fun a3=>aT<|lp (fun ah aU aG=> ∃ (i j:Nat) (C:Array Nat),(a+1≤i∧i≤b∧a≤j∧j < b∧i≤j+2)∧(Go.Sort.partEqLoop cz a i j C=yq cz d a b ac)∧(aG.ownsRow B 95 1 (.slice A n cp) n<|LE bo C)∧(Md (fun q=>(bW A n cp).ownBlock=some q) w aG)∧(Sl aU [(0,.slice A n cp),(1,ak a),(9,ak i),(10,ak j)])∧(j+1 - i=ah)) _ ⟨a+1,b - 1,(dq d a ac),ab,aa,bu,bd,aa,aa⟩ ?_;rintro ah aU aG ⟨i,j,C,hi,aL,bs,bb,bL,rfl⟩;refine bG bL<|aT ?_;refine eo (fun aV aH=> ∃ (E:Nat),(i≤E∧(E=i∨E≤j+1))∧(pT (fun x=> !cz C[a]! x) C (j) (i)=E)∧(aH.ownsRow B 95 1 (.slice A n cp) n<|LE bo C)∧(Md (fun q=>(bW A n cp).ownBlock=some q) w aH)∧(Sl aV [(0,.slice A n cp),(1,ak a),(9,ak E),(10,ak j)])) ?_ ?_;refine aT<|lp (fun ah aW ao=> ∃ (q:Nat),(i≤q∧(q=i∨q≤j+1))∧(pT (fun x=> !cz C[a]! x) C (j) (q)=pT (fun x=> !cz C[a]! x) C (j) (i))∧(ao.ownsRow B 95 1 (.slice A n cp) n<|LE bo C)∧(Md (fun q=>(bW A n cp).ownBlock=some q) w ao)∧(Sl aW [(0,.slice A n cp),(1,ak a),(9,ak q),(10,ak j)])∧(j+1 - q=ah)) _ ⟨i,ab,aa,bs,bb,aa,aa⟩ ?_;rintro ah aW ao ⟨q,aA,an,J,al,bP,rfl⟩;refine bG bP<|az fun ax=>az fun ai=> ?_;have aJ:=gn J;have G:(fun w'=>Wk ao w') ao.drew:=(Md.refl _ _).drew;refine bY (fun w'=>Wk ao w') aa wide G<|bO 0 aa (ak q) G<|bO 1 aa (ak j) G<|aR 2 aa (le aa aa) G<|aR 3 aa (mv) G<|js (t:=32) aa (fun bB=> ?_) fun bB=> ?_
 refine bq 4 aa (fun _ _=>aX (.slice A n cp) aa) G<|bq 5 aa (fun _ _=>aX (ak a) aa) G<|bq 6 aa (fun _ _=>bc cy aa aa ab<|aM.ok ((ba J).2)<|cT ab) G<|bq 7 aa (fun w' Z=>ld du aa<|dW (i:=a) ((ba J).2.wk Z) ab) G<|bq 8 aa (fun _ _=>aX (.slice A n cp) aa) G<|bq 9 aa (fun _ _=>aX (ak q) aa) G<|bq 10 aa (fun _ _=>bc cy aa aa ab<|aM.ok ((ba J).2)<|cT ab) G<|bq 11 aa (fun w' Z=>ld du aa<|dW (i:=q) ((ba J).2.wk Z) ab) G<|nB 12 aa aj aa aa aa<|cl mI (mP C[a]! C[q]! _) aa fun v41 bS bw=> ?_;obtain ⟨rfl,a5⟩:=bw;have am:(fun w'=>Wk ao w') bS:=Md.trans G a5;refine ⟨am,?_⟩;refine bq 13 aa (fun _ _=>no aa) am<|aR 14 aa (bH aa) am<|hn aj<|ai<|cb aa (fun aD=> ?_) fun aD=> ?_;exact aQ<|ax<|aT<|rg aa<|au (ak q)<|p (bJ ((q+1:Nat):Int) aa aa<|bp ab ab)<|p aE<|nl<|bn<|tn<|⟨_,ab,q+1,ab,(by rw [← an,FY (show q≤j by omega) (by simpa using aD)]),(a7 J am),(Md.trans al<|am.mono fun _ _ h=>h.elim),aa,aa⟩
 exact ext<|bf<|bf<|be<|tn<|⟨q,aA,(by rw [← an,vy (.inr<|by simpa using aD)]),(a7 J am),(Md.trans al<|am.mono fun _ _ h=>h.elim),aa⟩
 exact a8 4 aa G<|a8 5 aa G<|a8 6 aa G<|a8 7 aa G<|a8 8 aa G<|a8 9 aa G<|a8 10 aa G<|a8 11 aa G<|a8 12 aa G<|a8 13 aa G<|aR 14 aa (bA aa) G<|hn aj<|ai<|cf aa<|ext<|bf<|bf<|be<|tn<|⟨q,aA,(by rw [← an,vy (.inl ab)]),(a7 J (Md.refl _ _).drew),al.drew,aa⟩
 rintro aV aH ⟨E,bX,aN,bt,br,bM⟩;refine bG bM ?_;refine eo (fun aY aq=> ∃ (Y:Nat),(a≤Y∧Y≤j)∧(pS (fun x=>cz C[a]! x) C (E) (j)=Y)∧(aq.ownsRow B 95 1 (.slice A n cp) n<|LE bo C)∧(Md (fun q=>(bW A n cp).ownBlock=some q) w aq)∧(Sl aY [(0,.slice A n cp),(1,ak a),(9,ak E),(10,ak Y)])) ?_ ?_;refine aT<|lp (fun ah aZ ap=> ∃ (q:Nat),(a≤q∧q≤j)∧(pS (fun x=>cz C[a]! x) C (E) (q)=pS (fun x=>cz C[a]! x) C (E) (j))∧(ap.ownsRow B 95 1 (.slice A n cp) n<|LE bo C)∧(Md (fun q=>(bW A n cp).ownBlock=some q) w ap)∧(Sl aZ [(0,.slice A n cp),(1,ak a),(9,ak E),(10,ak q)])∧(q=ah)) _ ⟨j,ab,aa,bt,br,aa,aa⟩ ?_;rintro ah aZ ap ⟨q,aA,an,J,al,bR,rfl⟩;refine bG bR<|az fun ax=>az fun ai=> ?_;have aJ:=gn J;have I:(fun w'=>Wk ap w') ap.drew:=(Md.refl _ _).drew;refine bY (fun w'=>Wk ap w') aa wide I<|bO 0 aa (ak E) I<|bO 1 aa (ak q) I<|aR 2 aa (le aa aa) I<|aR 3 aa (mv) I<|js (t:=49) aa (fun bC=> ?_) fun bC=> ?_;refine bq 4 aa (fun _ _=>aX (.slice A n cp) aa) I<|bq 5 aa (fun _ _=>aX (ak a) aa) I<|bq 6 aa (fun _ _=>bc cy aa aa ab<|aM.ok ((ba J).2)<|cT ab) I<|bq 7 aa (fun w' Z=>ld du aa<|dW (i:=a) ((ba J).2.wk Z) ab) I<|bq 8 aa (fun _ _=>aX (.slice A n cp) aa) I<|bq 9 aa (fun _ _=>aX (ak q) aa) I<|bq 10 aa (fun _ _=>bc cy aa aa ab<|aM.ok ((ba J).2)<|cT ab) I<|bq 11 aa (fun w' Z=>ld du aa<|dW (i:=q) ((ba J).2.wk Z) ab) I<|nB 12 aa aj aa aa aa<|cl mI (mP C[a]! C[q]! _) aa fun v58 bT bx=> ?_;obtain ⟨rfl,a9⟩:=bx;have av:(fun w'=>Wk ap w') bT:=Md.trans I a9;refine ⟨av,?_⟩;refine aR 13 aa (bH aa) av<|hn aj<|ai<|cb aa (fun aF=> ?_) fun aF=> ?_;exact aQ<|ax<|aT<|rg aa<|au (ak q)<|p (dY ((q - 1:Nat):Int) aa aa<|bp ab ab)<|p aE<|nl<|bn<|tn<|⟨_,ab,q - 1,ab,(by rw [← an,C8 (show 0 < q by omega) (show E≤q by omega) (by simpa using aF)]),(a7 J av),(Md.trans al<|av.mono fun _ _ h=>h.elim),aa,aa⟩
 exact ext<|bf<|bf<|be<|tn<|⟨q,aA,(by rw [← an,uL (.inr<|by simpa using aF)]),(a7 J av),(Md.trans al<|av.mono fun _ _ h=>h.elim),aa⟩
 exact a8 4 aa I<|a8 5 aa I<|a8 6 aa I<|a8 7 aa I<|a8 8 aa I<|a8 9 aa I<|a8 10 aa I<|a8 11 aa I<|a8 12 aa I<|aR 13 aa (bA aa) I<|hn aj<|ai<|cf aa<|ext<|bf<|bf<|be<|tn<|⟨q,aA,(by rw [← an,uL (.inl ab)]),(a7 J (Md.refl _ _).drew),al.drew,aa⟩
 rintro aY aq ⟨Y,bZ,aK,ae,aI,bQ⟩;refine bG bQ<|az fun ax=>ag fun ai=>au (ak E)<|au (ak Y)<|p (gt aa aa)<|nl<|ai<|cd aa (fun bz=> ?_) fun bz=> ?_;refine ext<|bf<|p6 aB<|bf<|be<|a3<|ag fun aC=>au (ak E)<|p (cE (ak E) aa)<|nl<|aC<|rt<|a6 aa ?_;have aO:yq cz d a b ac=(E,C):=by rw [← aL,M4 aN aK,if_pos ab]
 exact ⟨by rw [aO]; rfl,by rw [aO]; exact ae,aI⟩;refine aQ<|ax<|az fun aC=> ?_;have aJ:=gn ae;have V:(fun w'=>Wk aq w') aq.drew:=(Md.refl _ _).drew;refine e5 (fun w'=>Wk aq w') 13 aa wide V<|bI 0 aa (.slice A n cp) V<|bI 1 aa (ak E) V<|bI 2 aa (.slice A n cp) V<|bI 3 aa (ak Y) V<|bI 4 aa (.slice A n cp) V<|bI 5 aa (ak Y) V<|bN 6 aa (bc cy aa aa ab<|aM.ok ((ba ae).2)<|cT ab) V<|ea 7 aa (fun w' Z=>ld du aa<|dW (i:=Y) ((ba ae).2.wk Z) ab) V<|bI 8 aa (.slice A n cp) V<|bI 9 aa (ak E) V<|bN 10 aa (bc cy aa aa ab<|aM.ok ((ba ae).2)<|cT ab) V<|ea 11 aa (fun w' Z=>ld du aa<|dW (i:=E) ((ba ae).2.wk Z) ab) V<|bN 12 aa (bc cy aa aa ab<|aM.ok ((ba ae).2)<|cT ab) V<|dU 13 aa aj aj<|gT (u:=C[Y]!) (E) (a7 ae V) gK aa aa aa ab fun b2 bk bF=> ?_;refine ko 14 aa (fun _=>bc cy aa aa ab<|aM.ok ((ba ae).2)<|cT ab) (fun h=>ep<|(show true =_ from by kernel_rfl).trans h)<|dU 15 aa aj aj<|gT (u:=C[E]!) (Y) bF gK aa aa aa ab fun aS bl bK=> ?_;have bv:aS.ownsRow B 95 1 (.slice A n cp) n (LE bo<|dq C (E)<|Y):=bK;have bj:Md (fun q=>(bW A n cp).ownBlock=some q) aq aS:=Md.trans (V.mono fun _ _ h=>h.elim)<|Md.trans bk bl;refine eZ aj<|aC<|ag fun a4=>au (ak E)<|p (bJ ((E+1:Nat):Int) aa aa<|bp ab ab)<|ay<|a4 ?_;exact rg aa<|au (ak Y)<|p (dY ((Y - 1:Nat):Int) aa aa<|bp ab ab)<|p aE<|nl<|bn<|tn<|⟨_,ab,E+1,Y - 1,dq C E Y,ab,(by rw [← aL,M4 aN aK,if_neg ab,if_pos ab]),bv,(Md.trans aI bj),aa,aa⟩
end Go.Hb
end
section
namespace Go.Hb
open Go.Hb.dZ
theorem aaS {d:Array Nat} {a b s i i2:Nat} (A:0 < s) (h:vL cz d b i=i2) (h1:i2=b):sM cz a b s i d=(d,true):=by
 cases s with
 | zero=>omega
 | succ s=>rw [sM]; simp only [h,if_pos h1]
theorem pi_short {d:Array Nat} {a b s i i2:Nat} (A:0 < s) (h:vL cz d b i=i2) (h1:¬i2=b) (h2:b - a < 50):sM cz a b s i d=(d,false):=by
 cases s with
 | zero=>omega
 | succ s=>rw [sM]; simp only [h,if_neg h1,if_pos h2]
theorem pi_go {d A C:Array Nat} {a b s i i2:Nat} (I:0 < s) (h:vL cz d b i=i2) (h1:¬i2=b) (h2:¬b - a < 50)
 (E:A=if i2 - a≥2 then Bx cz (i2 - 1) (dq d i2<|i2 - 1) else dq d i2 (i2 - 1)) (G:C=if b - i2≥2 then GF cz b (i2+1) A else A):
 sM cz a b s i d=sM cz a b (s - 1) i2 C:=by
 cases s with
 | zero=>omega
 | succ s=>rw [sM]; simp only [h,if_neg h1,if_neg h2]; rw [← E,← G]; rfl
theorem aaV (d:Array Nat) (a b:Nat) (B n cp:Nat) (A:Option Addr) (w:World) (hO:w.ownsRow B 95 1 (.slice A n cp) n (LE bo d)) (cN:a < b∧b≤n) (cR:n≤1099511627776):
 bm aw 289 (bh [.slice A n cp,ak a,ak b]) w (fun v w'=>v= .bool (vK cz d a b).2∧w'.ownsRow B 95 1 (.slice A n cp) n (LE bo (vK cz d a b).1)∧Md (fun q=>(bW A n cp).ownBlock=some q) w w'):=by
 refine enter func289 aa ntmps289 aa<|ag fun bU=>ay<|bU<|ag fun bX=>au (ak a)<|p (bJ ((a+1:Nat):Int) aa aa<|bp ab ab)<|ay<|bX<|az fun bZ=>ag fun b0=>p aE<|nl<|b0<|aT<|lp (fun Z bK bt=> ∃ (s i:Nat) (G:Array Nat),(a+1≤i∧i≤b∧s≤5)∧(sM cz a b (5 - s) i G=(vK cz d a b))∧(bt.ownsRow B 95 1 (.slice A n cp) n<|LE bo G)∧(Md (fun q=>(bW A n cp).ownBlock=some q) w bt)∧(Sl bK [(0,.slice A n cp),(1,ak a),(2,ak b),(7,ak i),(8,ak s)])∧(5 - s=Z)) _ ⟨0,a+1,d,ab,aa,hO,(Md.refl _ _),aa,aa⟩ ?_;rintro Z bK bt ⟨s,i,G,hi,aH,bx,bu,cG,rfl⟩;refine bG cG<|az fun b1=>ag fun b2=>au (ak s)<|p (lt aa aa)<|nl<|b2<|cd aa (fun co=> ?_) fun co=> ?_;refine aQ<|b1<|az fun aI=>aT ?_;refine eo (fun bL ax=> ∃ (i2:Nat),(i≤i2∧i2≤b)∧(vL cz G b i=i2)∧(ax.ownsRow B 95 1 (.slice A n cp) n<|LE bo G)∧(Md (fun q=>(bW A n cp).ownBlock=some q) w ax)∧(Sl bL [(0,.slice A n cp),(1,ak a),(2,ak b),(7,ak i2),(8,ak s)])) ?_ ?_;refine aT<|lp (fun Z bM aD=> ∃ (q:Nat),(i≤q∧q≤b)∧(vL cz G b q=vL cz G b i)∧(aD.ownsRow B 95 1 (.slice A n cp) n<|LE bo G)∧(Md (fun q=>(bW A n cp).ownBlock=some q) w aD)∧(Sl bM [(0,.slice A n cp),(1,ak a),(2,ak b),(7,ak q),(8,ak s)])∧(b - q=Z)) _ ⟨i,ab,aa,bx,bu,aa,aa⟩ ?_;rintro Z bM aD ⟨q,bC,bj,ai,a4,cI,rfl⟩;refine bG cI<|az fun a2=>az fun aN=> ?_;have cw:=gn ai;have C:(fun w'=>Wk aD w') aD.drew:=(Md.refl _ _).drew;refine bY (fun w'=>Wk aD w') aa wide C<|bO 0 aa (ak q) C<|bO 1 aa (ak b) C<|aR 2 aa (lt aa aa) C<|aR 3 aa (mv) C<|js (t:=20) aa (fun cx=> ?_) fun cx=> ?_;refine bq 4 aa (fun _ _=>aX (.slice A n cp) aa) C<|bq 5 aa (fun _ _=>aX (ak q) aa) C<|bq 6 aa (fun _ _=>bc cy aa aa ab<|aM.ok ((ba ai).2)<|cT ab) C<|bq 7 aa (fun w' E=>ld du aa<|dW (i:=q) ((ba ai).2.wk E) ab) C<|bq 8 aa (fun _ _=>aX (.slice A n cp) aa) C<|bq 9 aa (fun _ _=>aX (ak q) aa) C<|bq 10 aa (fun _ _=>dY ((q - 1:Nat):Int) aa aa<|bp ab ab) C<|bq 11 aa (fun _ _=>bc cy aa aa ab<|aM.ok ((ba ai).2)<|cT ab) C<|bq 12 aa (fun w' E=>ld du aa<|dW (i:=q - 1) ((ba ai).2.wk E) ab) C<|nB 13 aa aj aa aa aa<|cl mI (mP G[q]! G[q - 1]! _) aa fun v30 cM ck=> ?_;obtain ⟨rfl,b4⟩:=ck;have av:(fun w'=>Wk aD w') cM:=Md.trans C b4;refine ⟨av,?_⟩;refine bq 14 aa (fun _ _=>no aa) av<|aR 15 aa (bH aa) av<|hn aj<|aN<|cb aa (fun bd=> ?_) fun bd=> ?_;exact aQ<|a2<|aT<|rg aa<|au (ak q)<|p (bJ ((q+1:Nat):Int) aa aa<|bp ab ab)<|p aE<|nl<|bn<|tn<|⟨_,ab,q+1,ab,(by rw [← bj,acj (show q < b by omega) (by simpa using bd)]),(a7 ai av),(Md.trans a4<|av.mono fun _ _ h=>h.elim),aa,aa⟩
 exact ext<|bf<|bf<|be<|tn<|⟨q,ab,(by rw [← bj,N9 (.inr<|by simpa using bd)]),(a7 ai av),(Md.trans a4<|av.mono fun _ _ h=>h.elim),aa⟩
 exact a8 4 aa C<|a8 5 aa C<|a8 6 aa C<|a8 7 aa C<|a8 8 aa C<|a8 9 aa C<|a8 10 aa C<|a8 11 aa C<|a8 12 aa C<|a8 13 aa C<|a8 14 aa C<|aR 15 aa (bA aa) C<|hn aj<|aN<|cf aa<|ext<|bf<|bf<|be<|tn<|⟨q,ab,(by rw [← bj,N9 (.inl ab)]),(a7 ai (Md.refl _ _).drew),a4.drew,aa⟩
 rintro bL ax ⟨i2,cQ,aJ,ah,aO,cH⟩;refine bG cH<|az fun a2=>ag fun aN=>au (ak i2)<|au (ak b)<|p (bQ aa aa)<|nl<|aN<|cd aa (fun cq=> ?_) fun cq=> ?_;refine ag fun aP=>ay<|aP<|rt<|tr<|br<|tr<|tr<|br<|tr<|a6 aa ?_;have an:(vK cz d a b)=(G,true):=by rw [← aH,aaS (show 0 < 5 - s by omega) aJ ab]
 exact ⟨by rw [an]; rfl,by rw [an]; exact ah,aO⟩;have a3:¬i2=b:=ab;refine aQ<|a2<|az fun aP=>ag fun bV=>au (ak b)<|au (ak a)<|p (dY ((b - a:Nat):Int) aa aa<|bp ab ab)<|p (lt aa aa)<|nl<|bV<|cd aa (fun cs=> ?_) fun cs=> ?_;refine ag fun aS=>ay<|aS<|rt<|tr<|br<|tr<|tr<|br<|tr<|a6 aa ?_;have an:(vK cz d a b)=(G,false):=by rw [← aH,pi_short (show 0 < 5 - s by omega) aJ ab ab]
 exact ⟨by rw [an]; rfl,by rw [an]; exact ah,aO⟩;refine aQ<|aP<|az fun aS=> ?_;have cw:=gn ah;have I:(fun w'=>Wk ax w') ax.drew:=(Md.refl _ _).drew;refine e5 (fun w'=>Wk ax w') 15 aa wide I<|bI 0 aa (.slice A n cp) I<|bI 1 aa (ak i2) I<|bI 2 aa (.slice A n cp) I<|bI 3 aa (ak i2) I<|bN 4 aa (dY ((i2 - 1:Nat):Int) aa aa<|bp ab ab) I<|bI 5 aa (.slice A n cp) I<|bI 6 aa (ak i2) I<|bN 7 aa (dY ((i2 - 1:Nat):Int) aa aa<|bp ab ab) I<|bN 8 aa (bc cy aa aa ab<|aM.ok ((ba ah).2)<|cT ab) I<|ea 9 aa (fun w' E=>ld du aa<|dW (i:=i2 - 1) ((ba ah).2.wk E) ab) I<|bI 10 aa (.slice A n cp) I<|bI 11 aa (ak i2) I<|bN 12 aa (bc cy aa aa ab<|aM.ok ((ba ah).2)<|cT ab) I<|ea 13 aa (fun w' E=>ld du aa<|dW (i:=i2) ((ba ah).2.wk E) ab) I<|bN 14 aa (bc cy aa aa ab<|aM.ok ((ba ah).2)<|cT ab) I ?_;refine dU 15 aa aj aj<|gT (u:=G[i2 - 1]!) (i2) (a7 ah I) gK aa aa aa ab fun cU b6 cA=>ko 16 aa (fun _=>bc cy aa aa ab<|aM.ok ((ba ah).2)<|cT ab) (fun h=>ep<|(show true =_ from by kernel_rfl).trans h)<|dU 17 aa aj aj<|gT (u:=G[i2]!) (i2 - 1) cA gK aa aa aa ab fun bD b7 cB=> ?_;have bB:bD.ownsRow B 95 1 (.slice A n cp) n (LE bo<|dq G (i2)<|i2 - 1):=cB;have bv:Md (fun q=>(bW A n cp).ownBlock=some q) ax bD:=Md.trans (I.mono fun _ _ h=>h.elim)<|Md.trans b6 b7;refine eZ aj<|aS ?_;refine eo (fun bP bs=> ∃ (ao:Array Nat),(ao=if i2 - a≥2 then Bx cz (i2 - 1) (dq G i2<|i2 - 1) else (dq G i2<|i2 - 1))∧(bs.ownsRow B 95 1 (.slice A n cp) n<|LE bo ao)∧(Md (fun q=>(bW A n cp).ownBlock=some q) w bs)∧(Sl bP [(0,.slice A n cp),(1,ak a),(2,ak b),(7,ak i2),(8,ak s)])) ?_ ?_;refine ag fun aU=>au (ak i2)<|au (ak a)<|p (dY ((i2 - a:Nat):Int) aa aa<|bp ab ab)<|p (ge aa aa)<|nl<|aU<|cd aa (fun ct=> ?_) fun ct=> ?_;refine ag fun aV=>au (ak i2)<|p (dY ((i2 - 1:Nat):Int) aa aa<|bp ab ab)<|ay<|aV<|aT<|lp (fun Z bS aA=> ∃ (q:Nat) (Y:Array Nat),(q≤i2 - 1)∧(Bx cz q Y=Bx cz (i2 - 1) (dq G i2<|i2 - 1))∧(aA.ownsRow B 95 1 (.slice A n cp) n<|LE bo Y)∧(Md (fun q=>(bW A n cp).ownBlock=some q) w aA)∧(Sl bS [(0,.slice A n cp),(1,ak a),(2,ak b),(7,ak i2),(8,ak s),(9,ak q)])∧(q=Z)) _ ⟨i2 - 1,(dq G i2<|i2 - 1),ab,aa,bB,(Md.trans aO bv),aa,aa⟩ ?_;rintro Z bS aA ⟨q,Y,bC,bk,al,a5,cK,rfl⟩;refine bG cK<|az fun aW=>ag fun aY=>au (ak q)<|p (ge aa aa)<|nl<|aY<|cd aa (fun cu=> ?_) fun cu=> ?_;refine aQ<|aW<|az fun aZ=>aT<|az fun a0=>az fun a1=> ?_;have cO:=gn al;have ac:(fun w'=>Wk aA w') aA.drew:=(Md.refl _ _).drew;refine bY (fun w'=>Wk aA w') aa wide ac<|bO 0 aa (.slice A n cp) ac<|bO 1 aa (ak q) ac<|aR 2 aa (bc cy aa aa ab<|aM.ok ((ba al).2)<|cT ab) ac<|bR 3 aa (fun w' E=>ld du aa<|dW (i:=q) ((ba al).2.wk E) ab) ac<|bO 4 aa (.slice A n cp) ac<|bO 5 aa (ak q) ac<|aR 6 aa (dY ((q - 1:Nat):Int) aa aa<|bp ab ab) ac<|aR 7 aa (bc cy aa aa ab<|aM.ok ((ba al).2)<|cT ab) ac<|bR 8 aa (fun w' E=>ld du aa<|dW (i:=q - 1) ((ba al).2.wk E) ab) ac<|he 9 aa aj<|cl mI (mP Y[q]! Y[q - 1]! _) aa fun v77 aL cm=> ?_;obtain ⟨rfl,b5⟩:=cm;have aF:(fun w'=>Wk aA w') aL:=Md.trans ac b5;refine ⟨aF,?_⟩
 refine aR 10 aa (no aa) aF<|hn aj<|a1<|cb aa (fun bg=> ?_) fun bg=> ?_;exact ext<|bf<|p6 aB<|bf<|bf<|be<|tn<|⟨Y,(by rw [if_pos ab,← bk,NJ (.inr<|by simpa using bg)]),(a7 al aF),(Md.trans a5<|aF.mono fun _ _ h=>h.elim),aa⟩
 refine aQ<|a0 ?_;have ap:=a7 al aF;have J:(fun w'=>Wk aL w') aL.drew:=(Md.refl _ _).drew;refine e5 (fun w'=>Wk aL w') 15 aa wide J<|bI 0 aa (.slice A n cp) J<|bI 1 aa (ak q) J<|bI 2 aa (.slice A n cp) J<|bI 3 aa (ak q) J<|bN 4 aa (dY ((q - 1:Nat):Int) aa aa<|bp ab ab) J<|bI 5 aa (.slice A n cp) J<|bI 6 aa (ak q) J<|bN 7 aa (dY ((q - 1:Nat):Int) aa aa<|bp ab ab) J<|bN 8 aa (bc cy aa aa ab<|aM.ok ((ba ap).2)<|cT ab) J<|ea 9 aa (fun w' E=>ld du aa<|dW (i:=q - 1) ((ba ap).2.wk E) ab) J<|bI 10 aa (.slice A n cp) J<|bI 11 aa (ak q) J<|bN 12 aa (bc cy aa aa ab<|aM.ok ((ba ap).2)<|cT ab) J<|ea 13 aa (fun w' E=>ld du aa<|dW (i:=q) ((ba ap).2.wk E) ab) J<|bN 14 aa (bc cy aa aa ab<|aM.ok ((ba ap).2)<|cT ab) J ?_;refine dU 15 aa aj aj<|gT (u:=Y[q - 1]!) (q) (a7 ap J) gK aa aa aa ab fun cV b9 cC=>ko 16 aa (fun _=>bc cy aa aa ab<|aM.ok ((ba ap).2)<|cT ab) (fun h=>ep<|(show true =_ from by kernel_rfl).trans h)<|dU 17 aa aj aj<|gT (u:=Y[q]!) (q - 1) cC gK aa aa aa ab fun bE ca cD=> ?_;have ch:bE.ownsRow B 95 1 (.slice A n cp) n (LE bo<|dq Y (q)<|q - 1):=cD;have b8:Md (fun q=>(bW A n cp).ownBlock=some q) aL bE:=Md.trans (J.mono fun _ _ h=>h.elim)<|Md.trans b9 ca;exact eZ aj<|bn<|aZ<|rg aa<|au (ak q)<|p (dY ((q - 1:Nat):Int) aa aa<|bp ab ab)<|p aE<|nl<|tn<|⟨_,ab,q - 1,dq Y q (q - 1),ab,(by rw [← bk,abO (show 0 < q by omega) (by simpa using bg)]),ch,(Md.trans a5<|Md.trans (aF.mono fun _ _ h=>h.elim) b8),aa,aa⟩
 exact ext<|bf<|bf<|be<|tn<|⟨Y,(by rw [if_pos ab,← bk,NJ (.inl ab)]),al,a5,aa⟩
 exact aQ<|tn<|⟨(dq G i2<|i2 - 1),(by rw [if_neg ab]),bB,(Md.trans aO bv),aa⟩
 rintro bP bs ⟨ao,bi,bz,bw,cJ⟩;refine bG cJ<|ag fun aU=>au (ak b)<|au (ak i2)<|p (dY ((b - i2:Nat):Int) aa aa<|bp ab ab)<|p (ge aa aa)<|nl<|aU<|cd aa (fun cv=> ?_) fun cv=> ?_;refine ag fun aV=>au (ak i2)<|p (bJ ((i2+1:Nat):Int) aa aa<|bp ab ab)<|ay<|aV<|aT<|lp (fun Z bT aC=> ∃ (q:Nat) (V:Array Nat),(i2+1≤q∧q≤b)∧(GF cz b q V=GF cz b (i2+1) ao)∧(aC.ownsRow B 95 1 (.slice A n cp) n<|LE bo V)∧(Md (fun q=>(bW A n cp).ownBlock=some q) w aC)∧(Sl bT [(0,.slice A n cp),(1,ak a),(2,ak b),(7,ak i2),(8,ak s),(10,ak q)])∧(b - q=Z)) _ ⟨i2+1,ao,ab,aa,bz,bw,aa,aa⟩ ?_;rintro Z bT aC ⟨q,V,bC,bl,am,a9,cL,rfl⟩;refine bG cL<|az fun aW=>ag fun aY=>au (ak q)<|au (ak b)<|p (lt aa aa)<|nl<|aY<|cd aa (fun cn=> ?_) fun cn=> ?_;refine aQ<|aW<|az fun aZ=>aT<|az fun a0=>az fun a1=> ?_;have cP:=gn am;have ae:(fun w'=>Wk aC w') aC.drew:=(Md.refl _ _).drew;refine bY (fun w'=>Wk aC w') aa wide ae<|bO 0 aa (.slice A n cp) ae<|bO 1 aa (ak q) ae<|aR 2 aa (bc cy aa aa ab<|aM.ok ((ba am).2)<|cT ab) ae<|bR 3 aa (fun w' E=>ld du aa<|dW (i:=q) ((ba am).2.wk E) ab) ae<|bO 4 aa (.slice A n cp) ae<|bO 5 aa (ak q) ae<|aR 6 aa (dY ((q - 1:Nat):Int) aa aa<|bp ab ab) ae<|aR 7 aa (bc cy aa aa ab<|aM.ok ((ba am).2)<|cT ab) ae<|bR 8 aa (fun w' E=>ld du aa<|dW (i:=q - 1) ((ba am).2.wk E) ab) ae<|he 9 aa aj<|cl mI (mP V[q]! V[q - 1]! _) aa fun cS aK cj=> ?_;obtain ⟨rfl,b3⟩:=cj;have aG:(fun w'=>Wk aC w') aK:=Md.trans ae b3;refine ⟨aG,?_⟩;refine aR 10 aa (no aa) aG<|hn aj<|a1<|cb aa (fun bb=> ?_) fun bb=> ?_;exact ext<|bf<|p6 aB<|bf<|bf<|be<|bn<|aI<|rg aa<|au (ak s)<|p (bJ ((s+1:Nat):Int) aa aa<|bp ab ab)<|p aE<|nl<|tn<|⟨_,ab,s+1,i2,V,ab,(by rw [← aH,pi_go (show 0 < 5 - s by omega) aJ a3 ab bi (show V=_ by rw [if_pos ab,← bl,Oi (.inr<|by simpa using bb)])]; rfl),(a7 am aG),(Md.trans a9<|aG.mono fun _ _ h=>h.elim),aa,aa⟩
 refine aQ<|a0 ?_;have aq:=a7 am aG;have O:(fun w'=>Wk aK w') aK.drew:=(Md.refl _ _).drew;refine e5 (fun w'=>Wk aK w') 15 aa wide O<|bI 0 aa (.slice A n cp) O<|bI 1 aa (ak q) O<|bI 2 aa (.slice A n cp) O<|bI 3 aa (ak q) O<|bN 4 aa (dY ((q - 1:Nat):Int) aa aa<|bp ab ab) O<|bI 5 aa (.slice A n cp) O<|bI 6 aa (ak q) O<|bN 7 aa (dY ((q - 1:Nat):Int) aa aa<|bp ab ab) O<|bN 8 aa (bc cy aa aa ab<|aM.ok ((ba aq).2)<|cT ab) O<|ea 9 aa (fun w' E=>ld du aa<|dW (i:=q - 1) ((ba aq).2.wk E) ab) O<|bI 10 aa (.slice A n cp) O<|bI 11 aa (ak q) O<|bN 12 aa (bc cy aa aa ab<|aM.ok ((ba aq).2)<|cT ab) O<|ea 13 aa (fun w' E=>ld du aa<|dW (i:=q) ((ba aq).2.wk E) ab) O<|bN 14 aa (bc cy aa aa ab<|aM.ok ((ba aq).2)<|cT ab) O ?_;refine dU 15 aa aj aj<|gT (u:=V[q - 1]!) (q) (a7 aq O) gK aa aa aa ab fun cW ce cE=>ko 16 aa (fun _=>bc cy aa aa ab<|aM.ok ((ba aq).2)<|cT ab) (fun h=>ep<|(show true =_ from by kernel_rfl).trans h)<|dU 17 aa aj aj<|gT (u:=V[q]!) (q - 1) cE gK aa aa aa ab fun bF cg cF=> ?_;have ci:bF.ownsRow B 95 1 (.slice A n cp) n (LE bo<|dq V (q)<|q - 1):=cF;have cc:Md (fun q=>(bW A n cp).ownBlock=some q) aK bF:=Md.trans (O.mono fun _ _ h=>h.elim)<|Md.trans ce cg;exact eZ aj<|bn<|aZ<|rg aa<|au (ak q)<|p (bJ ((q+1:Nat):Int) aa aa<|bp ab ab)<|p aE<|nl<|tn<|⟨_,ab,q+1,dq V q (q - 1),ab,(by rw [← bl,acF (show q < b by omega) (by simpa using bb)]),ci,(Md.trans a9<|Md.trans (aG.mono fun _ _ h=>h.elim) cc),aa,aa⟩
 exact ext<|bf<|bf<|be<|bn<|aI<|rg aa<|au (ak s)<|p (bJ ((s+1:Nat):Int) aa aa<|bp ab ab)<|p aE<|nl<|tn<|⟨_,ab,s+1,i2,V,ab,(by rw [← aH,pi_go (show 0 < 5 - s by omega) aJ a3 ab bi (show V=_ by rw [if_pos ab,← bl,Oi (.inl ab)])]; rfl),am,a9,aa,aa⟩
 exact aQ<|bn<|aI<|rg aa<|au (ak s)<|p (bJ ((s+1:Nat):Int) aa aa<|bp ab ab)<|p aE<|nl<|tn<|⟨_,ab,s+1,i2,ao,ab,(by rw [← aH,pi_go (show 0 < 5 - s by omega) aJ a3 ab bi (show ao=_ by rw [if_neg ab])]; rfl),bz,bw,aa,aa⟩
 refine ext<|bf<|bf<|be<|bZ<|ag fun aI=>p aE<|nl<|aI<|rt<|a6 aa ?_;have an:(vK cz d a b)=(G,false):=by rw [← aH,show 5 - s=0 by omega]; rfl
 exact ⟨by rw [an]; rfl,by rw [an]; exact bx,bu⟩
end Go.Hb
end
section
namespace Go.Hb
open Go.Hb.dZ
theorem aaK (d:Array Nat) (a b C:Nat) (B n cp:Nat) (A:Option Addr) (w:World) (hO:w.ownsRow B 95 1 (.slice A n cp) n (LE bo d)) (G:a≤C∧C < b∧b≤n) (I:n≤1099511627776):bm aw 292 (bh [.slice A n cp,.int .i64 (a:Nat),.int .i64 (b:Nat),.int .i64 (C:Nat)]) w
 (fun v w'=> ∃ E ap d4,sN cz d a b C=(E,ap,d4)∧v= .tuple #[.int .i64 (E:Nat),.bool ap]∧w'.ownsRow B 95 1 (.slice A n cp) n (LE bo d4)∧Md (fun q=>(bW A n cp).ownBlock=some q) w w'):=
 (aaJ d a b C B n cp A w hO G I).mono fun _ _ h=>⟨_,_,_,rfl,h⟩
theorem aaM (d:Array Nat) (a b C:Nat) (B n cp:Nat) (A:Option Addr) (w:World) (hO:w.ownsRow B 95 1 (.slice A n cp) n (LE bo d)) (G:a≤C∧C < b∧b≤n) (I:n≤1099511627776):bm aw 291 (bh [.slice A n cp,.int .i64 (a:Nat),.int .i64 (b:Nat),.int .i64 (C:Nat)]) w
 (fun v w'=> ∃ E d4,yq cz d a b C=(E,d4)∧v= .int .i64 (E:Nat)∧w'.ownsRow B 95 1 (.slice A n cp) n (LE bo d4)∧Md (fun q=>(bW A n cp).ownBlock=some q) w w'):=
 (aaL d a b C B n cp A w hO G I).mono fun _ _ h=>⟨_,_,rfl,h⟩
theorem aaO (m:Nat) (d:Array Nat) (a b lim:Nat) (B n cp:Nat) (E:Option Addr) (w:World) (hO:w.ownsRow B 95 1 (.slice E n cp) n (LE bo d)) (hm:b - a < m) (cV:a≤b∧b≤n) (cK:n≤255) (c1:lim≤64) (bV:GA cz a b d):
 bm aw 268 (bh [.slice E n cp,ak a,ak b,ak lim]) w (fun v w'=> ∃ d1,v= .tuple #[]∧pR a b d d1∧vJ cz a b d1∧w'.ownsRow B 95 1 (.slice E n cp) n (LE bo d1)∧Md (fun q=>(bW E n cp).ownBlock=some q) w w'):=by
 have bB:True:=trivial
 induction m generalizing d a b lim w with
 | zero=>omega
 | succ m bB=>
   have bz:∀ (d:Array Nat) (a b lim:Nat) (w:World),w.ownsRow B 95 1 (.slice E n cp) n (LE bo d)→b - a < m→(a≤b∧b≤n)→lim≤64→GA cz a b d→_:=fun d a b lim w h1 h2 h3 h4 h5=>bB d a b lim w h1 h2 h3 h4 h5;have c0:=gn hO;refine enter func268 aa ntmps268 aa<|ag fun bL=>ay<|bL<|ag fun bP=>p aE<|nl<|bP<|aT<|lp (fun bg bD bd=> ∃ (A C ac:Nat) (wb wp:Bool) (I:Array Nat),(a≤A∧A≤C∧C≤b∧ac≤64)∧(GA cz A C I)∧(∀ R,pR A C I R→vJ cz A C R→pR a b d R∧vJ cz a b R)∧(bd.ownsRow B 95 1 (.slice E n cp) n<|LE bo I)∧(Md (fun q=>(bW E n cp).ownBlock=some q) w bd)∧(Sl bD [(0,.slice E n cp),(1,ak A),(2,ak C),(3,ak ac),(8,.bool wb),(9,.bool wp)])∧(C - A=bg)) _ ⟨a,b,lim,true,true,d,ab,bV,(fun R h1 h2=>⟨h1,h2⟩),hO,(Md.refl _ _),aa,aa⟩ ?_;rintro bg bD bd ⟨A,C,ac,wb,wp,I,c4,aO,al,ax,aF,cM,rfl⟩;refine bG cM ?_;have cZ:=gn ax;refine aT<|ag fun bR=>au (ak C)<|au (ak A)<|p (dY ((C - A:Nat):Int) aa aa<|bp ab ab)<|p aE<|nl<|bR<|az fun bS=>ag fun bT=>p mv<|p (le aa aa)<|nl<|bT ?_;refine cd aa (fun cu=> ?_) fun cu=> ?_;refine ag fun aN=>au (.slice E n cp)<|au (ak A)<|au (ak C)<|e<|cl SZ (YL I A C B n cp E _ ax ab ab) aa fun c7 dc ch=> ?_;obtain ⟨rfl,b6,b0⟩:=ch;refine nl<|aN<|rt<|tr<|br<|tr<|br<|rX aa ?_;obtain ⟨h1,h2⟩:=Go.Sort.insertionSort_holds xB I A C ab ab;obtain ⟨aC,aD⟩:=al _ (h1)<|h2;exact ⟨_,aa,aC,aD,b6,Md.trans aF b0⟩;refine aQ<|bS<|az fun aN=>ag fun bU=>au (ak ac)<|p (bQ aa aa)<|nl<|bU<|cd aa (fun cv=> ?_) fun cv=> ?_;refine ag fun ao=>au (.slice E n cp)<|au (ak A)<|au (ak C)<|e<|cl S1 (Yo I A C B n cp E _ ax ab ab) aa fun v33 dd ci=> ?_;obtain ⟨rfl,b7,b1⟩:=ci;refine nl<|ao<|rt<|tr<|br<|tr<|br<|rX aa ?_;obtain ⟨h1,h2⟩:=Go.Sort.heapSort_holds xB I A C ab ab;obtain ⟨aC,aD⟩:=al _ (h1)<|h2;exact ⟨_,aa,aC,aD,b7,Md.trans aF b1⟩;refine aQ<|aN ?_;refine eo (fun bE wB=> ∃ (J:Nat) (d1:Array Nat),(J≤64)∧(pR A C I d1)∧(wB.ownsRow B 95 1 (.slice E n cp) n<|LE bo d1)∧(Md (fun q=>(bW E n cp).ownBlock=some q) w wB)∧(Sl bE [(0,.slice E n cp),(1,ak A),(2,ak C),(3,ak J),(8,.bool wb),(9,.bool wp),(10,ak (C - A))])) ?_ ?_;refine ag fun ao=>au (.bool wb)<|p (no aa)<|nl<|ao<|cb aa (fun cw=> ?_) fun cw=> ?_;refine ag fun V=>au (.slice E n cp)<|au (ak A)<|au (ak C)<|e<|cl S2 (Rr I A C B n cp E _ ax ab cK) aa fun v39 de cj=> ?_;obtain ⟨d1,rfl,cL,b8,b2⟩:=cj;exact nl<|V<|rg aa<|au (ak ac)<|p (dY ((ac - 1:Nat):Int) aa aa<|bp ab ab)<|p aE<|nl<|tn<|⟨ac - 1,d1,ab,cL,b8,(Md.trans aF b2),aa⟩
   exact aQ<|tn<|⟨ac,I,ab,(PL I A C),ax,aF,aa⟩
   rintro bE wB ⟨J,d1,c2,bx,cc,b5,cN⟩;refine bG cN<|ag fun ao=>au (.slice E n cp)<|au (ak A)<|au (ak C)<|e<|cl S3 (T0 d1 A C B n cp E _ cc ab ab) aa fun v46 df ck=> ?_;obtain ⟨aI,cS,rfl,c3,aU,bX⟩:=ck;have bi:=Md.trans b5<|bX.mono fun _ _ h=>h.elim;refine p mv<|p (xt aa aa)<|p (xt aa aa)<|p aE<|ay<|ao ?_;refine eo (fun bF a9=> ∃ (O:Nat) (a5:Int) (d2:Array Nat),(A≤O∧O < C)∧(pR A C I d2)∧(a9.ownsRow B 95 1 (.slice E n cp) n<|LE bo d2)∧(Md (fun q=>(bW E n cp).ownBlock=some q) w a9)∧(Sl bF [(0,.slice E n cp),(1,ak A),(2,ak C),(3,ak J),(8,.bool wb),(9,.bool wp),(10,ak (C - A)),(11,ak O),(12,.int .i64 a5)])) ?_ ?_;refine ag fun V=>p mv<|p (bQ aa aa)<|nl<|V<|cd aa (fun cx=> ?_) fun cx=> ?_;refine ag fun ae=>au (.slice E n cp)<|au (ak A)<|au (ak C)<|e<|cl S4 (abl d1 A C B n cp E _ aU ab ab) aa fun v54 dg cm=> ?_;obtain ⟨rfl,b9,b3⟩:=cm;have cW:=gn aU;exact nl<|ae<|ag fun an=>au (ak C)<|p (dY ((C - 1:Nat):Int) aa aa<|bp ab ab)<|p mv<|au (ak A)<|p (dY ((aI - A:Nat):Int) aa aa<|bp ab ab)<|p (dY ((C - 1 - (aI - A):Nat):Int) aa aa<|bp ab ab)<|ay<|an<|rg aa<|p aE<|nl<|tn<|⟨C - 1 - (aI - A),1,GD d1 A C,ab,(tW _ _ _ A C bx<|Go.Sort.reverseRange_holds d1 A C ab ab),b9,(Md.trans bi b3),aa⟩
   exact aQ<|tn<|⟨aI,cS,d1,ab,bx,aU,bi,aa⟩
   rintro bF a9 ⟨O,a5,d2,aG,am,aA,av,cO⟩;refine bG cO ?_;refine eo (fun bI ai=> ∃ (d3:Array Nat),(pR A C I d3)∧(ai.ownsRow B 95 1 (.slice E n cp) n<|LE bo d3)∧(Md (fun q=>(bW E n cp).ownBlock=some q) w ai)∧(Sl bI [(0,.slice E n cp),(1,ak A),(2,ak C),(3,ak J),(8,.bool wb),(9,.bool wp),(10,ak (C - A)),(11,ak O)])) ?_ ?_;refine ag fun V=>au (.bool wb)<|au (.bool wb)<|gb (t:=62) aa (fun cC=> ?_) fun cC=> ?_;refine aJ aa (aX (.bool wp) aa)<|p (bH aa)<|p mv<|gb (t:=65) aa (fun cD=> ?_) fun cD=> ?_;refine aJ aa (aX (.int .i64 a5) aa)<|aJ aa (bQ aa aa)<|p (bH aa)<|nl<|V<|cd aa (fun cA=> ?_) fun cA=> ?_;refine ag fun ae=>au (.slice E n cp)<|au (ak A)<|au (ak C)<|e<|cl S5 (aaV d2 A C B n cp E _ aA ab ab) aa fun v72 dh cn=> ?_;obtain ⟨rfl,bs,bj⟩:=cn;have cX:=gn aA;obtain ⟨bw,cF⟩:=Go.Sort.partialInsertionSort_holds xB d2 A C ab ab<|GB aO ab am;refine nl<|ae<|cb aa (fun bu=> ?_) fun bu=> ?_;have cR:=cF bu;refine rt<|tr<|br<|tr<|br<|rX aa ?_;obtain ⟨aC,aD⟩:=al _ (tW _ _ _ A C am bw)<|cR;exact ⟨_,aa,aC,aD,bs,Md.trans av bj⟩;exact aQ<|tn<|⟨_,(tW _ _ _ A C am bw),bs,(Md.trans av bj),aa⟩
   exact aQ<|tn<|⟨d2,am,aA,av,aa⟩
   exact aH aa<|aH aa<|p (bA aa)<|nl<|V<|cf aa<|aQ<|tn<|⟨d2,am,aA,av,aa⟩
   exact aH aa<|p (bA aa)<|p mv<|aH aa<|aH aa<|p (bA aa)<|nl<|V<|cf aa<|aQ<|tn<|⟨d2,am,aA,av,aa⟩
   rintro bI ai ⟨d3,aB,Z,aP,cP⟩;refine bG cP ?_;refine eo (fun bK bb=>(bb.ownsRow B 95 1 (.slice E n cp) n<|LE bo d3)∧(Md (fun q=>(bW E n cp).ownBlock=some q) w bb)∧(Sl bK [(0,.slice E n cp),(1,ak A),(2,ak C),(3,ak J),(8,.bool wb),(9,.bool wp),(10,ak (C - A)),(11,ak O)])) ?_ ?_;refine az fun V=> ?_;have cB:=gn Z;have G:(fun w'=>Wk ai w') ai.drew:=(Md.refl _ _).drew;refine bY (fun w'=>Wk ai w') aa wide G<|bO 0 aa (ak A) G<|aR 1 aa (gt aa aa) G<|aR 2 aa (mv) G<|js (t:=75) aa (fun cE=> ?_) fun cE=> ?_;refine bq 3 aa (fun _ _=>aX (.slice E n cp) aa) G<|bq 4 aa (fun _ _=>aX (ak A) aa) G<|bq 5 aa (fun _ _=>dY ((A - 1:Nat):Int) aa aa<|bp ab ab) G<|bq 6 aa (fun _ _=>bc cy aa aa ab<|aM.ok ((ba Z).2)<|cT ab) G<|bq 7 aa (fun w' aY=>ld du aa<|dW (i:=A - 1) ((ba Z).2.wk aY) ab) G<|bq 8 aa (fun _ _=>aX (.slice E n cp) aa) G<|bq 9 aa (fun _ _=>aX (ak O) aa) G<|bq 10 aa (fun _ _=>bc cy aa aa ab<|aM.ok ((ba Z).2)<|cT ab) G<|bq 11 aa (fun w' aY=>ld du aa<|dW (i:=O) ((ba Z).2.wk aY) ab) G<|nB 12 aa aj aa aa aa<|cl mI (mP d3[A - 1]! d3[O]! _) aa fun v85 cU co=> ?_;obtain ⟨rfl,bZ⟩:=co;have ah:(fun w'=>Wk ai w') cU:=Md.trans G bZ;refine ⟨ah,?_⟩;refine bq 13 aa (fun _ _=>no aa) ah<|aR 14 aa (bH aa) ah<|hn aj<|V<|cb aa (fun bv=> ?_) fun bv=> ?_;refine ag fun ae=>au (.slice E n cp)<|au (ak A)<|au (ak C)<|au (ak O)<|e<|cl S7 (aaM d3 A C O B n cp E _ (a7 Z ah) ab ab) aa fun c8 di cq=> ?_;obtain ⟨Y,d4,a6,rfl,ca,b4⟩:=cq;obtain ⟨bO,cG,cH,a1,a2⟩:=Go.Sort.round_eq xB (Go.Sort.partitionEqual_holds cz) (show 0 < A by omega) aG.1 aG.2 ab (GB aO ab aB) (by simpa using bv) a6;exact ay<|ae<|ag fun an=>p mv<|p aE<|nl<|an<|ext<|bf<|be<|tn<|⟨_,ab,Y,C,J,wb,wp,d4,ab,a1,(fun R h1 h2=>by obtain ⟨h3,h4⟩:=a2 R h1 h2; exact al R (tW _ _ _ A C aB h3) h4),ca,(Md.trans aP<|Md.trans (ah.mono fun _ _ h=>h.elim) b4),aa,aa⟩
   exact aQ<|tn<|⟨(a7 Z ah),(Md.trans aP<|ah.mono fun _ _ h=>h.elim),aa⟩
   exact a8 3 aa G<|a8 4 aa G<|a8 5 aa G<|a8 6 aa G<|a8 7 aa G<|a8 8 aa G<|a8 9 aa G<|a8 10 aa G<|a8 11 aa G<|a8 12 aa G<|a8 13 aa G<|aR 14 aa (bA aa) G<|hn aj<|V<|cf aa<|aQ<|tn<|⟨(a7 Z (Md.refl _ _).drew),aP.drew,aa⟩
   rintro bK bb ⟨bt,bl,cQ⟩;refine bG cQ<|ag fun V=>au (.slice E n cp)<|au (ak A)<|au (ak C)<|au (ak O)<|e<|cl S8 (aaK d3 A C O B n cp E _ bt ab ab) aa fun c9 bC cs=> ?_;obtain ⟨Y,ap,d4,a6,rfl,aV,bk⟩:=cs;have cB:=gn bt;have cY:=gn aV;obtain ⟨bO,cG,cH,a1,a2,cI,cJ⟩:=Go.Sort.round_part xB (Go.Sort.partition_holds cz) aG.1 aG.2 ab (GB aO ab aB) a6;refine p mv<|p (xt aa aa)<|p (xt aa aa)<|p aE<|ay<|V<|az fun ae=>rg aa<|p mv<|ay<|ae<|ag fun an=>p mv<|au (ak A)<|p (dY ((Y - A:Nat):Int) aa aa<|bp ab ab)<|au (ak C)<|p mv<|p (dY ((C - Y:Nat):Int) aa aa<|bp ab ab)<|p aE<|p aE<|nl<|an<|ag fun bM=>au (ak<|C - A)<|p (ss (((C - A) / 8:Nat):Int) aa aa ab<|bp ab ab)<|ay<|bM ?_;refine ag fun bN=>p mv<|p mv<|p (lt aa aa)<|nl<|bN<|cd aa (fun ct=> ?_) fun ct=> ?_;refine ag fun aK=>p mv<|p mv<|p (ge aa aa)<|ay<|aK<|ag fun aL=>au (.slice E n cp)<|au (ak A)<|p mv<|au (ak J)<|e<|cl CD (bz d4 A Y J bC aV ab ab ab a1) aa fun c5 da ce=> ?_;obtain ⟨aq,rfl,a3,a4,aW,aS⟩:=ce;obtain ⟨aZ,a0⟩:=cI aq a3 a4;exact nl<|aL<|rg aa<|p mv<|p (bJ ((Y+1:Nat):Int) aa aa<|bp ab ab)<|p aE<|nl<|bn<|tn<|⟨_,ab,Y+1,C,J,decide (((Y - A:Nat):Int)≥(((C - A) / 8:Nat):Int)),ap,aq,ab,aZ,(fun R h1 h2=>by obtain ⟨h3,h4⟩:=a0 R h1 h2; exact al R (tW _ _ _ A C aB h3) h4),aW,(Md.trans bl<|Md.trans bk aS),aa,aa⟩
   refine ag fun aK=>p mv<|p mv<|p (ge aa aa)<|ay<|aK<|ag fun aL=>au (.slice E n cp)<|p mv<|p (bJ ((Y+1:Nat):Int) aa aa<|bp ab ab)<|au (ak C)<|au (ak J)<|e<|cl CD (bz d4 (Y+1) C J bC aV ab ab ab a2) aa fun c6 db cg=> ?_;obtain ⟨aq,rfl,a3,a4,aW,aS⟩:=cg;obtain ⟨aZ,a0⟩:=cJ aq a3 a4;exact nl<|aL<|rg aa<|p mv<|p aE<|nl<|bn<|tn<|⟨_,ab,A,Y,J,decide (((C - Y:Nat):Int)≥(((C - A) / 8:Nat):Int)),ap,aq,ab,aZ,(fun R h1 h2=>by obtain ⟨h3,h4⟩:=a0 R h1 h2; exact al R (tW _ _ _ A C aB h3) h4),aW,(Md.trans bl<|Md.trans bk aS),aa,aa⟩
theorem acd (d:Array Nat) (B n cp:Nat) (A:Option Addr) (w:World) (hO:w.ownsRow B 95 1 (.slice A n cp) n (LE bo d)) (J:n≤255):
 bm aw 241 (bh [.slice A n cp]) w (fun v w'=> ∃ d1,v= .tuple #[]∧pR 0 n d d1∧vJ cz 0 n d1∧w'.ownsRow B 95 1 (.slice A n cp) n (LE bo d1)∧Md (fun q=>(bW A n cp).ownBlock=some q) w w'):=by
 refine enter func241 aa ntmps241 aa<|ag fun E=>au (.slice A n cp)<|p (bM qn aa aa)<|ay<|E<|rg aa<|au (.slice A n cp)<|p mv<|p mv<|p (mh OB sE aa<|qt ab)<|e<|cl Iw (Me n _ ab) aa fun v9 Y I=> ?_;obtain ⟨rfl,C⟩:=I;have O:=Ag (n:=n) ab;refine e<|cl CD (aaO (n+1) d 0 n (lC n) B n cp A _ (a7 hO C) ab ab J ab<|.inl aa) aa fun v10 V G=> ?_;obtain ⟨d1,rfl,h1,h2,h3,h4⟩:=G;exact nl<|f0 aa<|⟨d1,aa,h1,h2,h3,Md.trans (C.mono fun _ _ h=>h.elim) h4⟩
end Go.Hb
end
section
namespace Go.Hb.gy
open Go.Hb.dZ
theorem vt {w:World} {B e n cp i:Nat} {a:Option Addr} {d:Array Nat} (h:w.ownsRow B e 1 (.slice a n cp) n (LE bo d)):aM w.heap (gN a cp i 1) ((LE bo d).drop i):=by
 have :=(ba h).2.drop (cap:=cp) (k:=i) (size:=1)<|by rw [xA]; have h1:=gn h; have h2:=(ba h).1; omega
 rwa [Nat.mul_one] at this
theorem ZD (l:List Nat):l.map bo=LE bo l.toArray:=by simp [LE]
theorem ux (l:List Nat):(l.map bo).all gw=true :=by
 rw [List.all_eq_true]; intro v A; obtain ⟨x,_,rfl⟩:=List.mem_map.1 A; rfl
theorem acO (d:Array Nat) (k:Nat):(LE bo d).take k=(d.toList.take k).map bo:=by simp [LE,List.map_take]
theorem qm (b:UInt8):jK b=decide ((b.toNat:Int) > 32∧(b.toNat:Int) < 127∧(b.toNat:Int)≠47∧(b.toNat:Int)≠44∧(b.toNat:Int)≠35):=by
 unfold jK; exact decide_eq_decide.2 ab
theorem EW {w:World} {B e size n cp:Nat} {a:Option Addr} {xs:List Value} (h:w.ownsRow B e size (.slice a n cp) n xs) (hn:0 < n):a≠none:=by
 rintro rfl;rcases h.2 with ⟨_,h5⟩ | ⟨g,cap,cur,h4,_⟩
 · omega
 · simp at h4
theorem uG (a:Option Addr) (n c:Nat) (xs:List Value) (w:World) (Y:aM w.heap a xs) (ak:xs.length=n*1) (ae:a=none→n=0) (h1:xs.all gw=true) (hn:n≤1048576):
 bm aw 44 (bh [.slice a n c]) w (fun v w'=>bz w' w.heap.size 95 1 v n xs∧Wk w w'):=by
 refine enter func44 aa ntmps44 aa<|ag fun I=>ay<|I<|az fun J=>ag fun O=>au (.slice a n c)<|p (rW qn aa aa)<|nl<|O<|cb aa (fun E=> ?_) fun E=> ?_;have ah:a=none:=by simpa using E
 refine ag fun A=>ay<|A<|rt<|tr<|a6 aa ?_;have ai:=ae ah;subst ai;obtain rfl :=List.eq_nil_of_length_eq_zero (show xs.length=0 by omega);exact ⟨World.ownsRow_nil _ _ _ _,Md.refl _ _⟩;refine aQ<|J<|ag fun A=>e<|mG AQ fun ao aA aq C V=> ?_;have G:=V w.heap.size ab;refine au (.slice a n c)<|e<|ap AQ (G) aa (by have :=C.size; omega) aa (Y.wk C.md) (ak) (h1) ab ab fun am an aj ac ax av=> ?_;have Z:=Wk.own C.md G ac<|cU _;refine ay<|A<|rt<|a6 aa ?_;have al:bz an w.heap.size 95 1 am n xs:=by simpa using aj
 exact ⟨al,Z⟩
theorem UL (d:Array Nat) (B n cp:Nat) (A:Option Addr) (w:World) (hO:w.ownsRow B 95 1 (.slice A n cp) n (LE bo d)) (bk:n≤1048576):
 bm aw 242 (bh [.slice A n cp]) w (fun v w'=> ∃ k,v= .slice A k cp∧k=(je d.toList).length∧bz w' B 95 1 (.slice A k cp) k ((je d.toList).map bo)∧Md (fun q=>(bW A n cp).ownBlock=some q) w w'):=by
 have bj:=gn hO;have bg:=(ba hO).1;refine enter func242 aa ntmps242 aa<|ag fun aC=>ay<|aC<|az fun aK=>ag fun aL=>au (.slice A n cp)<|p (bM qn aa aa)<|p (lt aa aa)<|nl<|aL<|cd aa (fun a1=> ?_) fun a1=> ?_;refine ag fun ao=>au (.slice A n cp)<|p (cE (.slice A n cp) aa)<|nl<|ao<|rt<|tr<|a6 aa ?_;have am:je d.toList=d.toList:=by
  have av:d.toList.length < 2:=by rw [vv]; omega
  revert av;generalize d.toList=l;intro av
  match l,av with
  | [],_=>rfl
  | [x],_=>rfl
 exact ⟨n,aa,by rw [am,vv]; omega,by rw [am]; exact hO,Md.refl _ _⟩;refine aQ<|aK<|az fun ao=>ag fun aN=>ay<|aN<|aT<|lp (fun Z aA ah=> ∃ (i:Nat),(1≤i∧i≤n∧2≤n)∧(je (d.toList.take i)=d.toList.take i)∧(Wk w ah)∧(Sl aA [(0,.slice A n cp),(3,ak i)])∧(n - i=Z)) _ ⟨1,ab,(by have h1:=AZ (d:=d) (i:=0) ab; rw [h1]; rfl),(Md.refl _ _),aa,aa⟩ ?_;rintro Z aA ah ⟨i,hi,ac,J,bb,rfl⟩;refine bG bb<|az fun aO=>ag fun aP=>au (ak i)<|au (.slice A n cp)<|p (bM qn aa aa)<|p (lt aa aa)<|nl<|aP<|cd aa (fun aX=> ?_) fun aX=> ?_;refine aQ<|aO<|az fun ap=>aT<|az fun aS=> ?_;have E:(fun w'=>Wk ah w') ah.drew:=(Md.refl _ _).drew;refine bY (fun w'=>Wk ah w') aa wide E<|bO 0 aa (.slice A n cp) E<|bO 1 aa (ak i) E<|aR 2 aa (bc cy aa aa ab<|aM.ok ((ba hO).2)<|cT ab) E<|bR 3 aa (fun w' O=>ld du aa<|Wk.aW O<|dW (i:=i) (ba<|a7 hO J).2 ab) E<|bO 4 aa (.slice A n cp) E<|bO 5 aa (ak i) E<|aR 6 aa (dY ((i - 1:Nat):Int) aa aa<|bp ab ab) E<|aR 7 aa (bc cy aa aa ab<|aM.ok ((ba hO).2)<|cT ab) E<|bR 8 aa (fun w' O=>ld du aa<|Wk.aW O<|dW (i:=i - 1) (ba<|a7 hO J).2 ab) E<|aR 9 aa (bQ aa aa) E<|hn aj<|aS<|cd aa (fun aY=> ?_) fun aY=> ?_;have heq:d[i - 1]! =d[i]! :=ab;refine ag fun aD=>au (.slice A n cp)<|au (ak i)<|p (xX cy aa aa ab)<|ay<|aD<|az fun aF=>ag fun aG=>ay<|aG<|aT<|lp (fun Z aB Y=> ∃ (k i2:Nat) (G:Array Nat),(1≤k∧k < i+i2∧1≤i2∧i2≤n - i)∧(G.toList.drop k=d.toList.drop k)∧(G.toList.take k=je (d.toList.take<|i+i2))∧(Y.ownsRow B 95 1 (.slice A n cp) n<|LE bo G)∧(Md (fun q=>(bW A n cp).ownBlock=some q) w Y)∧(Sl aB [(0,.slice A n cp),(3,ak k),(4,.slice (gN A cp i 1) (n - i) (cp - i)),(5,ak i2)])∧(n - i2=Z)) _ ⟨i,1,d,ab,aa,(by rw [zm ab ab,if_pos heq,ac]),(a7 hO<|Md.trans J (Md.refl _ _).drew),((Md.trans J (Md.refl _ _).drew).mono fun _ _ h=>h.elim),aa,aa⟩ ?_;rintro Z aB Y ⟨k,i2,G,hk,V,ae,I,aq,bd,rfl⟩;refine bG bd ?_;have bi:=gn I;refine az fun aH=>ag fun aI=>au (ak i2)<|au (.slice (gN A cp i 1) (n - i)<|cp - i)<|p (bM qn aa aa)<|p (lt aa aa)<|nl<|aI<|cd aa (fun aZ=> ?_) fun aZ=> ?_;refine aQ<|aH<|az fun ai=>aT<|az fun an=> ?_;have C:(fun w'=>Wk Y w') Y.drew:=(Md.refl _ _).drew;refine bY (fun w'=>Wk Y w') aa wide C<|bO 0 aa (.slice (gN A cp i 1) (n - i)<|cp - i) C<|bO 1 aa (ak i2) C<|aR 2 aa (bc cy aa aa ab<|aM.ok (vt I)<|Ej ab) C<|bR 3 aa (fun w' O=>ld du aa<|Wk.aW O<|Ei (j:=i2) (vt I) ab) C<|bO 4 aa (.slice (gN A cp i 1) (n - i)<|cp - i) C<|bO 5 aa (ak i2) C<|aR 6 aa (dY ((i2 - 1:Nat):Int) aa aa<|bp ab ab) C<|aR 7 aa (bc cy aa aa ab<|aM.ok (vt I)<|Ej ab) C<|bR 8 aa (fun w' O=>ld du aa<|Wk.aW O<|Ei (j:=i2 - 1) (vt I) ab) C<|aR 9 aa (dd aa aa) C<|hn aj<|an<|cd aa (fun a0=> ?_) fun a0=> ?_;have al:=a7 I C;have g1:=zp V (show k≤i+i2 by omega);have g2:=zp V (show k≤i+(i2 - 1) by omega);have a4:¬d[i+i2 - 1]! =d[i+i2]! :=by rw [show i+i2 - 1=i+(i2 - 1) by omega,← g1,← g2]; omega
 exact ag fun aJ=>au (.slice A n cp)<|au (ak k)<|au (.slice (gN A cp i 1) (n - i)<|cp - i)<|au (ak i2)<|p (bc cy aa aa ab<|aM.ok (vt al)<|Ej ab)<|p (ld du aa<|Ei (j:=i2) (vt al) ab)<|p (bc cy aa aa ab<|aM.ok ((ba al).2)<|cT ab)<|e<|gT (u:=G[i+i2]!) (k) al gK aa aa aa ab fun bl aU a8=>nl<|aJ<|rg aa<|au (ak k)<|p (bJ ((k+1:Nat):Int) aa aa<|bp ab ab)<|p aE<|nl<|bn<|ai<|rg aa<|au (ak i2)<|p (bJ ((i2+1:Nat):Int) aa aa<|bp ab ab)<|p aE<|nl<|tn<|⟨_,ab,k+1,i2+1,G.setIfInBounds k G[i+i2]!,ab,(by rw [set_drop ab]; have h3:=congrArg (List.drop 1) V; rwa [tX,tX] at h3),(by rw [Fs ab,ae,show i+(i2+1)=i+i2+1 from aa,zm ab ab,if_neg a4,g1]),a8,(Md.trans aq<|Md.trans (C.mono fun _ _ h=>h.elim) aU),aa,aa⟩
 have g1:=zp V (show k≤i+i2 by omega);have g2:=zp V (show k≤i+(i2 - 1) by omega);have a2:d[i+i2 - 1]! =d[i+i2]! :=by rw [show i+i2 - 1=i+(i2 - 1) by omega,← g1,← g2]; omega
 exact aQ<|bn<|ai<|rg aa<|au (ak i2)<|p (bJ ((i2+1:Nat):Int) aa aa<|bp ab ab)<|p aE<|nl<|tn<|⟨_,ab,k,i2+1,G,ab,V,(by rw [ae,show i+(i2+1)=i+i2+1 from aa,zm ab ab,if_pos a2]),(a7 I (Md.refl _ _).drew),aq.drew,aa,aa⟩
 refine ext<|bf<|bf<|be<|aF<|ag fun ai=>au (.slice A n cp)<|au (ak k)<|p (xX cy aa aa ab)<|e<|Un (k:=k) qn ad2 aa I aa aa ab fun bq aV a9=>nl<|ai<|ag fun an=>au (.slice A n cp)<|au (ak k)<|p (tF cy aa aa ab)<|ay<|an<|rt<|br<|tr<|tr<|br<|tr<|a6 aa ?_;have am:d.toList.take (i+i2)=d.toList:=e9<|by rw [vv]; omega
 rw [am] at ae;have a3:k=(je d.toList).length:=by rw [← ae,dP,vv]; omega
 refine ⟨k,aa,a3,?_,Md.trans aq aV⟩;have ax:=M3 a9 (show k≤n by omega)<|EW hO ab;rw [Nat.mul_one,List.take_append,e9 (l:=(LE bo G).take k) (by rw [dP]; omega),dP,xA,show k - min k G.size=0 by omega,mA,List.append_nil,acO,ae] at ax;exact ax;have a5:¬d[i - 1]! =d[i]! :=ab;exact aQ<|bn<|ap<|rg aa<|au (ak i)<|p (ad aa aa<|cB ab)<|p aE<|nl<|tn<|⟨_,ab,i+1,ab,(by rw [zm ab ab,if_neg a5,ac,AZ ab]),(Md.trans J (Md.refl _ _).drew),aa,aa⟩
 refine ext<|bf<|bf<|be<|ao<|ag fun ap=>au (.slice A n cp)<|p (cE (.slice A n cp) aa)<|nl<|ap<|rt<|a6 aa ?_;rw [show d.toList.take i=d.toList from e9 (by rw [vv]; omega)] at ac;exact ⟨n,aa,by rw [ac,vv]; omega,by rw [ac]; exact a7 hO J,J.mono fun _ _ h=>h.elim⟩
theorem MX (l:List Nat) (a:Option Addr) (c:Nat) (w:World) (Z:aM w.heap a (l.map bo)) (am:a=none→l.length=0) (an:l.length≤255):
 bm aw 206 (bh [.slice a l.length c]) w (fun v w'=>bz w' w.heap.size 95 1 v (kO l).length ((kO l).map bo)∧Wk w w'):=by
 refine enter func206 aa ntmps206 aa<|ag fun J=>ay<|J<|ag fun O=>au (.slice a l.length c)<|e<|cl uE (uG a l.length c (l.map bo) _ Z (by simp) am (ux l) ab) aa fun v5 ax aj=> ?_;obtain ⟨E,ac⟩:=aj;obtain ⟨A,C,rfl⟩:=cJ E;rw [ZD] at E;refine ay<|O<|ag fun V=>au (.slice A l.length C)<|e<|cl SJ (acd l.toArray w.heap.size l.length C A _ E an) aa fun av az ak=> ?_;obtain ⟨d1,rfl,ao,ap,G,ah⟩:=ak;refine nl<|V<|ag fun Y=>au (.slice A l.length C)<|e<|cl SK (UL d1 w.heap.size l.length C A _ G ab) aa fun v9 aq al=> ?_;obtain ⟨k,rfl,hk,I,ai⟩:=al;have ae:Wk w aq:=Wk.own (Wk.own ac E ah<|cU _) G ai<|cU _;refine ay<|Y<|rt<|a6 aa ?_;rw [acb ao ap] at hk I;exact ⟨by rw [← hk]; exact I,ae⟩
theorem Fu (b:UInt8) (w:World):
 bm aw 265 (bh [.int .u8 b.toNat]) w (fun v w'=>v= .bool (jK b)∧Wk w w'):=by
 refine enter func265 aa ntmps265 aa<|ag fun C=>ay<|C<|ag fun A=>au (.int .u8 b.toNat)<|p (gt aa aa)<|p mv<|gs (t:=5) aa (fun I=> ?_) fun I=> ?_;refine aJ aa (aX (.int .u8 b.toNat) aa)<|aJ aa (lt aa aa)<|p (bH aa)<|p mv<|gs (t:=9) aa (fun J=> ?_) fun J=> ?_;refine aJ aa (aX (.int .u8 b.toNat) aa)<|aJ aa (dd aa aa)<|p (bH aa)<|p mv<|gs (t:=13) aa (fun E=> ?_) fun E=> ?_;refine aJ aa (aX (.int .u8 b.toNat) aa)<|aJ aa (dd aa aa)<|p (bH aa)<|p mv<|gs (t:=17) aa (fun G=> ?_) fun G=> ?_;exact aJ aa (aX (.int .u8 b.toNat) aa)<|aJ aa (dd aa aa)<|p (bH aa)<|ay<|A<|rt<|a6 aa<|⟨by show ca (decide _)=_; rw [qm]; exact bv (by constructor <;> intro h <;> first | exact ⟨ab,ab,ab,ab,h⟩ | exact h.2.2.2.2),Md.refl _ _⟩
 exact aH aa<|aH aa<|p (bA aa)<|ay<|A<|rt<|a6 aa<|⟨by show ca false =_; rw [qm,decide_eq_false ab],Md.refl _ _⟩
 exact aH aa<|aH aa<|p (bA aa)<|p mv<|aH aa<|aH aa<|p (bA aa)<|p aE<|nl<|A<|rt<|a6 aa<|⟨by show ca false =_; rw [qm,decide_eq_false ab],Md.refl _ _⟩
 exact aH aa<|aH aa<|p (bA aa)<|p mv<|aH aa<|aH aa<|p (bA aa)<|p mv<|aH aa<|aH aa<|p (bA aa)<|ay<|A<|rt<|a6 aa<|⟨by show ca false =_; rw [qm,decide_eq_false ab],Md.refl _ _⟩
 exact aH aa<|aH aa<|p (bA aa)<|p mv<|aH aa<|aH aa<|p (bA aa)<|p mv<|aH aa<|aH aa<|p (bA aa)<|p mv<|aH aa<|aH aa<|p (bA aa)<|p aE<|nl<|A<|rt<|a6 aa<|⟨by show ca false =_; rw [qm,decide_eq_false ab],Md.refl _ _⟩
theorem L4 (k:Nat) (w:World):
 bm aw 236 (bh [ak k]) w (fun v w'=>v= .bool (decide (1≤k∧k≤3))∧Wk w w'):=by
 refine enter func236 aa ntmps236 aa<|ag fun C=>ay<|C<|ag fun A=>au (ak k)<|p (ge aa aa)<|p mv<|gs (t:=5) aa (fun E=> ?_) fun E=> ?_;exact aJ aa (aX (ak k) aa)<|aJ aa (le aa aa)<|p (bH aa)<|ay<|A<|rt<|a6 aa<|⟨by show ca (decide _)=_; exact bv ab,Md.refl _ _⟩
 exact aH aa<|aH aa<|p (bA aa)<|ay<|A<|rt<|a6 aa<|⟨by show ca false =_; rw [decide_eq_false ab],Md.refl _ _⟩
end Go.Hb.gy
end
