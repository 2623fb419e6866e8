/-
  Walks and plain laws that the law rests on, laid together. No conditions but those that each theorem names.
-/
import Derived.Test.YtchkamdekbbgeaaGreatDoorMnAnalyseStems2
set_option linter.unusedVariables false
set_option maxRecDepth 20000
set_option maxHeartbeats 1000000
open Bool renaming noConfusion→eA
open Go.IntKind renaming u64→fq
open Go.Proofs.Tryz renaming prog→aE
open Go.Sort renaming Below→Hf,PermIn→p7,SortedIn→wi,heapBuild→Qn,heapSort→Qo,insInner→Qp,insertionSort→Qq,partLoop→Hh,partialIns→s5,partialInsertionSort→wj,partition→s6,partitionEqual→yJ,permIn_refl→Qr,permIn_trans→uo,reverseRange→Hi,scanDown→p8,scanSorted→wm,scanUp→p9,shiftDown→BX,shiftUp→Hj,siftDown→s7,swp→dx
open Go.Sort.Below renaming perm→Hg
open Go.Value renaming bool→cy,oneCell'→gI,pointer→BY,slice→cg,tuple→ij
open Go.World renaming ownsRow→bB
open List renaming drop_drop→rR,drop_eq_nil_of_le→iS,length_append→bP,length_eq_zero_iff→yP,length_pos_iff→mr,length_singleton→fE,length_take→dM,take_of_length_le→eK,take_zero→oq,toArray→bl
open Nat renaming blt→iU,le_refl→cU,lt_or_ge→fT
open Prod renaming fst→iW
open UInt8 renaming toNat_lt→jJ
open Go.Proofs.Tryz
open Go.Proofs

section
namespace Go.Hb
abbrev ay (n:Nat):Value:= .int .i64 (n:Nat)
abbrev a6 (b:Nat):Value:= .pointer<|some ⟨b,0,none⟩
variable {P:Program} {N:Fm} {ops:Array Oper} {Q:Exit→(Nat→Value)→World→Prop} {σ:Nat→Value} {w:World} {S:World→Prop} {r fuel:Nat} {bC:Array Bool} {d:Nat} {op:Op} {ty:TypeId} {pos :String} {af:Array Edge} {v:Value}
theorem bS (i:Nat) (hi:ops[i]? =some ⟨some d,op,ty,pos,af,none⟩) (E:∀ w,S w→(execOp (ev N σ) ⟨some d,op,ty,pos,af,none⟩).run P w= .ok (.value v) w) (A:S w) (k:gh P N ops Q S fuel (bC.setIfInBounds i true) (ea σ d v) w) (C:kS N.F ops bC i=true :=by kernel_rfl):gh P N ops Q S (fuel+1) bC σ w:=hp i hi C E A k
theorem ej (i:Nat) (hi:ops[i]? =some ⟨some d,op,ty,pos,af,none⟩) (E:∀ w,S w→(execOp (ev N σ) ⟨some d,op,ty,pos,af,none⟩).run P w= .ok (.value v) w) (A:S w) (k:im P N ops Q S r fuel (bC.setIfInBounds i true) (ea σ d v) w) (C:Ef N.F ops bC r i=true :=by kernel_rfl):im P N ops Q S r (fuel+1) bC σ w:=lh i hi C E A k
theorem kB (i:Nat) (hi:ops[i]? =some ⟨some d,op,ty,pos,af,none⟩) (E:∀ w,(execOp (ev N σ) ⟨some d,op,ty,pos,af,none⟩).run P w= .ok (.value v) w) (A:bC.getD r false =false→S w) (k:im P N ops Q S r fuel (bC.setIfInBounds i true) (ea σ d v) w) (C:xN N.F ops bC r i=true :=by kernel_rfl):im P N ops Q S r (fuel+1) bC σ w:=dO i hi C E A k
theorem aU (i:Nat) (hi:ops[i]? =some ⟨some d,op,ty,pos,af,none⟩) (E:∀ {w},(execOp (ev N σ) ⟨some d,op,ty,pos,af,none⟩).run P w= .ok (.value v) w) (A:S w) (k:gh P N ops Q S fuel (bC.setIfInBounds i true) (ea σ d v) w) (C:kS N.F ops bC i=true :=by kernel_rfl):gh P N ops Q S (fuel+1) bC σ w:=hp i hi C (fun _ _=>E) A k
theorem eR (i:Nat) (hi:ops[i]? =some ⟨some d,op,ty,pos,af,none⟩) (E:∀ {w},(execOp (ev N σ) ⟨some d,op,ty,pos,af,none⟩).run P w= .ok (.value v) w) (A:S w) (k:im P N ops Q S r fuel (bC.setIfInBounds i true) (ea σ d v) w) (C:Eg N.F ops bC r i=true :=by kernel_rfl):im P N ops Q S r (fuel+1) bC σ w:=lq i hi C (fun _ _=>E) A k
theorem bR (i:Nat) (hi:ops[i]? =some ⟨some d,op,ty,pos,af,none⟩) (E:∀ {w},(execOp (ev N σ) ⟨some d,op,ty,pos,af,none⟩).run P w= .ok (.value v) w) (A:S w) (k:im P N ops Q S r fuel (bC.setIfInBounds i true) (ea σ d v) w) (C:xN N.F ops bC r i=true :=by kernel_rfl):im P N ops Q S r (fuel+1) bC σ w:=dO i hi C (fun _=>E) (fun _=>A) k
theorem bQ {x:Operand} (i:Nat) (hi:ops[i]? =some ⟨some d,.move x,ty,pos,af,none⟩) (v:Value) (A:S w) (k:gh P N ops Q S fuel (bC.setIfInBounds i true) (ea σ d v) w) (E:ev N σ x=v:=by exact ag) (C:kS N.F ops bC i=true :=by kernel_rfl):gh P N ops Q S (fuel+1) bC σ w:=hp i hi C (fun _ _=>a8 v E) A k
theorem bM {x:Operand} (i:Nat) (hi:ops[i]? =some ⟨some d,.move x,ty,pos,af,none⟩) (v:Value) (A:S w) (k:im P N ops Q S r fuel (bC.setIfInBounds i true) (ea σ d v) w) (E:ev N σ x=v:=by exact ag) (C:xN N.F ops bC r i=true :=by kernel_rfl):im P N ops Q S r (fuel+1) bC σ w:=dO i hi C (fun _=>a8 v E) (fun _=>A) k
theorem bz {P:Program} {f:FuncId} {fn:Func} (C:P.funcs[f]? =some fn) (hn:(fn.name== "runtime.NumGoroutine")=false :=by kernel_rfl) (A:fn.body.isNone=false :=by kernel_rfl):bu P f:=Ut C hn A
section
variable {rest:List Oper} {x:Operand} {K:(Nat→Value)→World→Prop} {l:List Oper} {id:Nat} {y z:Code} {j t:Nat} {want b:Bool} {fn:Func} {R:Value→World→Prop}
theorem aH (h:∀ {K:(Nat→Value)→World→Prop},(∀ {σ w},eG P N y Q σ w→nj K Q .normal σ w)→eG P N z (nj K Q) σ w):eG P N (.seq z y) Q σ w:=sq fun K A=>h fun hw=>A _ _ hw
theorem ak (h:∀ {K:(Nat→Value)→World→Prop},(∀ {σ w},eG P N y Q σ w→nj K Q .normal σ w)→fz P N l.toArray (nj K Q) l σ w) (C:vE N.r l=true :=by exact ag):eG P N (.seq (.region id l.toArray false) y) Q σ w:=sq fun K A=>rg C<|h fun hw=>A _ _ hw
theorem az (h:Q .normal (ea σ d<|ev N σ x) w):fz P N ops Q [⟨some d,.assign x,ty,pos,af,none⟩] σ w:=p aJ<|nl h
theorem bj {id:Nat} (h:Q (.exit id) σ w):nj K Q (.exit id) σ w:=h
theorem aQ (h:(lL ops j,iU t N.n,σ t,b==want)=(some t,true,.bool b,false)) (k:fz P N ops Q rest (ea σ d undef) w):fz P N ops Q (⟨some d,op,ty,pos,af,some (j,want)⟩::rest) σ w:=sk (congrArg iW h) (congrArg (·.2.1) h) (congrArg (·.2.2.1) h) (congrArg (·.2.2.2) h) k
theorem eC (h:(lL ops j,iU t N.n,σ t)=(some t,true,undef)) (k:fz P N ops Q rest (ea σ d undef) w):fz P N ops Q (⟨some d,op,ty,pos,af,some (j,want)⟩::rest) σ w:=A4 (congrArg iW h) (congrArg (·.2.1) h) (congrArg (·.2.2) h) k
theorem aV (h:(lL ops j,iU t N.n,σ t)=(some t,true,.bool want)) (A:(execOp (ev N σ) ⟨some d,op,ty,pos,af,some (j,want)⟩).run P w= .ok (.value v) w) (k:fz P N ops Q rest (ea σ d v) w):fz P N ops Q (⟨some d,op,ty,pos,af,some (j,want)⟩::rest) σ w:=pg (congrArg iW h) (congrArg (·.2.1) h) (congrArg (·.2.2) h) A k
theorem bf (i:Nat) (h:(ops[i]?,lL ops j,iU t N.n,σ t,b==want)=(some ⟨some d,op,ty,pos,af,some (j,want)⟩,some t,true,.bool b,false)) (A:S w) (k:gh P N ops Q S fuel (bC.setIfInBounds i true) (ea σ d undef) w) (C:kS N.F ops bC i=true :=by kernel_rfl):gh P N ops Q S (fuel+1) bC σ w:=qp i (congrArg iW h) C (congrArg (·.2.1) h) (congrArg (·.2.2.1) h) (congrArg (·.2.2.2.1) h) (congrArg (·.2.2.2.2) h) A k
theorem bm (i:Nat) (h:(ops[i]?,lL ops j,iU t N.n,σ t)=(some ⟨some d,op,ty,pos,af,some (j,want)⟩,some t,true,.bool want)) (E:∀ w,S w→(execOp (ev N σ) ⟨some d,op,ty,pos,af,some (j,want)⟩).run P w= .ok (.value v) w) (A:S w) (k:gh P N ops Q S fuel (bC.setIfInBounds i true) (ea σ d v) w) (C:kS N.F ops bC i=true :=by kernel_rfl):gh P N ops Q S (fuel+1) bC σ w:=qo i (congrArg iW h) C (congrArg (·.2.1) h) (congrArg (·.2.2.1) h) (congrArg (·.2.2.2) h) E A k
theorem ba (h:(fn.results,ev N σ (.tmp t))=(#[.tmp t],v)) (A:R v w):fin P fn N R .ret σ w:=f1 (congrArg iW h) (congrArg Prod.snd h) A
theorem aw (v:Value) (h:fz P N ops Q rest (ea σ d v) w) (A:ev N σ x=v:=by exact ag):fz P N ops Q (⟨some d,.move x,ty,pos,af,none⟩::rest) σ w:=p (a8 v A) h
end
end Go.Hb
end
namespace Go.Hb.dX
theorem nB:dN aE 100=some none:=au
theorem Cq:dN aE 102=some (some 13):=au
theorem wY:dN aE 103=some none:=au
theorem RD:dN aE 112=some (some 2):=au
theorem Cr:dN aE 129=some none:=au
theorem HO:dN aE 130=some none:=au
theorem l6:dN aE 134=some (some 7):=au
theorem RE:dN aE 149=some none:=au
theorem y4:dN aE 150=some none:=au
theorem rZ:dN aE 151=some none:=au
theorem kM:dN aE 152=some none:=au
theorem uF:dN aE 156=some none:=au
theorem xa:dN aE 162=some none:=au
theorem uG:dN aE 165=some none:=au
theorem HP:dN aE 172=some none:=au
theorem y5:dN aE 181=some (some 2):=au
theorem Cs:dN aE 182=some none:=au
theorem xc:dN aE 192=some (some 5):=au
theorem Ct:dN aE 202=some none:=au
theorem tp:dN aE 214=some (some 8):=au
theorem uH:dN aE 216=some (some 5):=au
theorem y6:dN aE 24=some none:=au
theorem uI:dN aE 242=some none:=au
theorem Cu:dN aE 261=some none:=au
theorem pk:dN aE 273=some none:=au
theorem oy:dN aE 275=some (some 1):=au
theorem tq:dN aE 287=some none:=au
theorem bL:dN aE 3=some none:=au
theorem HQ:dN aE 307=some none:=au
theorem HR:dN aE 32=some none:=au
theorem lE:dN aE 321=some (some 4):=au
theorem ky:dN aE 35=some none:=au
theorem uJ:dN aE 359=some (some 1):=au
theorem nC:dN aE 4=some none:=au
theorem l7:dN aE 45=some (some 3):=au
theorem oz:dN aE 49=some (some 5):=au
theorem qX:dN aE 5=some none:=au
theorem oA:dN aE 51=some none:=au
theorem mz:dN aE 53=some (some 2):=au
theorem Cv:dN aE 69=some (some 3):=au
theorem xd:dN aE 74=some (some 5):=au
theorem jc:dN aE 75=some none:=au
theorem uK:dN aE 76=some none:=au
theorem qY:dN aE 85=some none:=au
theorem qg:dN aE 87=some (some 2):=au
theorem gP:dN aE 88=some none:=au
theorem bW:dN aE 9=some none:=au
theorem HS:dN aE 91=some none:=au
theorem dA:dN aE 95=some none:=au
theorem HT:dN aE 96=some (some 5):=au
theorem HU:dN aE 97=some none:=au
theorem tt:dN aE 98=some none:=au
theorem y7:dN aE 99=some none:=au
theorem uM:r5 aE 148=some (5,1):=au
theorem tv:r5 aE 321=some (4,1):=au
theorem H6:r5 aE 337=some (256,1):=au
theorem xf:r5 aE 96=some (5,1):=au
theorem H7:CB aE 321=some ([.int .u64 0,.int .u64 0,.int .u64 0,.int .u64 0]):=au
theorem oC:zg aE 261 5 9=true :=au
theorem l8:bu aE 10:=bz func10
theorem Ss:bu aE 100:=bz func100
theorem CI:bu aE 101:=bz func101
theorem Su:bu aE 102:=bz func102
theorem Im:bu aE 103:=bz func103
theorem Io:bu aE 104:=bz func104
theorem Sv:bu aE 106:=bz func106
theorem zh:bu aE 107:=bz func107
theorem Sw:bu aE 108:=bz func108
theorem CJ:bu aE 109:=bz func109
theorem lG:bu aE 11:=bz func11
theorem Sx:bu aE 110:=bz func110
theorem CK:bu aE 111:=bz func111
theorem Sy:bu aE 112:=bz func112
theorem Sz:bu aE 113:=bz func113
theorem SA:bu aE 124:=bz func124
theorem Ip:bu aE 125:=bz func125
theorem SB:bu aE 126:=bz func126
theorem SC:bu aE 127:=bz func127
theorem SD:bu aE 128:=bz func128
theorem SE:bu aE 129:=bz func129
theorem xi:bu aE 130:=bz func130
theorem SF:bu aE 131:=bz func131
theorem SG:bu aE 132:=bz func132
theorem SH:bu aE 133:=bz func133
theorem Iq:bu aE 134:=bz func134
theorem qi:bu aE 135:=bz func135
theorem CL:bu aE 136:=bz func136
theorem zi:bu aE 137:=bz func137
theorem CM:bu aE 138:=bz func138
theorem Ir:bu aE 139:=bz func139
theorem SI:bu aE 14:=bz func14
theorem Is:bu aE 140:=bz func140
theorem SJ:bu aE 141:=bz func141
theorem SK:bu aE 142:=bz func142
theorem SL:bu aE 143:=bz func143
theorem SM:bu aE 144:=bz func144
theorem It:bu aE 145:=bz func145
theorem Iu:bu aE 146:=bz func146
theorem SN:bu aE 148:=bz func148
theorem SO:bu aE 149:=bz func149
theorem xj:bu aE 15:=bz func15
theorem Iv:bu aE 150:=bz func150
theorem CN:bu aE 151:=bz func151
theorem Iw:bu aE 152:=bz func152
theorem SP:bu aE 153:=bz func153
theorem xk:bu aE 154:=bz func154
theorem SQ:bu aE 155:=bz func155
theorem CO:bu aE 156:=bz func156
theorem SR:bu aE 157:=bz func157
theorem zj:bu aE 158:=bz func158
theorem Ix:bu aE 159:=bz func159
theorem Iy:bu aE 16:=bz func16
theorem SS:bu aE 160:=bz func160
theorem SU:bu aE 161:=bz func161
theorem SV:bu aE 162:=bz func162
theorem SX:bu aE 163:=bz func163
theorem Iz:bu aE 164:=bz func164
theorem SY:bu aE 165:=bz func165
theorem SZ:bu aE 166:=bz func166
theorem S1:bu aE 167:=bz func167
theorem IA:bu aE 168:=bz func168
theorem IB:bu aE 177:=bz func177
theorem CP:bu aE 178:=bz func178
theorem IC:bu aE 179:=bz func179
theorem ID:bu aE 180:=bz func180
theorem S2:bu aE 181:=bz func181
theorem S3:bu aE 182:=bz func182
theorem S4:bu aE 184:=bz func184
theorem S5:bu aE 185:=bz func185
theorem IE:bu aE 189:=bz func189
theorem zk:bu aE 19:=bz func19
theorem S6:bu aE 190:=bz func190
theorem CQ:bu aE 191:=bz func191
theorem IF:bu aE 192:=bz func192
theorem CR:bu aE 193:=bz func193
theorem S7:bu aE 194:=bz func194
theorem CS:bu aE 195:=bz func195
theorem zl:bu aE 196:=bz func196
theorem CT:bu aE 197:=bz func197
theorem IG:bu aE 198:=bz func198
theorem IH:bu aE 199:=bz func199
theorem S8:bu aE 20:=bz func20
theorem II:bu aE 200:=bz func200
theorem S9:bu aE 201:=bz func201
theorem CU:bu aE 202:=bz func202
theorem Ta:bu aE 203:=bz func203
theorem IJ:bu aE 204:=bz func204
theorem IK:bu aE 205:=bz func205
theorem IL:bu aE 206:=bz func206
theorem Tb:bu aE 207:=bz func207
theorem IM:bu aE 209:=bz func209
theorem zm:bu aE 21:=bz func21
theorem Tc:bu aE 210:=bz func210
theorem Td:bu aE 211:=bz func211
theorem Te:bu aE 212:=bz func212
theorem Tf:bu aE 213:=bz func213
theorem IN:bu aE 214:=bz func214
theorem Th:bu aE 215:=bz func215
theorem zn:bu aE 216:=bz func216
theorem CV:bu aE 217:=bz func217
theorem Ti:bu aE 218:=bz func218
theorem CW:bu aE 219:=bz func219
theorem xm:bu aE 22:=bz func22
theorem IP:bu aE 220:=bz func220
theorem Tj:bu aE 221:=bz func221
theorem Tk:bu aE 225:=bz func225
theorem CX:bu aE 226:=bz func226
theorem Tm:bu aE 227:=bz func227
theorem IQ:bu aE 228:=bz func228
theorem Tn:bu aE 229:=bz func229
theorem CY:bu aE 23:=bz func23
theorem IS:bu aE 230:=bz func230
theorem To:bu aE 232:=bz func232
theorem Tp:bu aE 233:=bz func233
theorem Tq:bu aE 234:=bz func234
theorem IT:bu aE 235:=bz func235
theorem IU:bu aE 236:=bz func236
theorem Tr:bu aE 237:=bz func237
theorem IV:bu aE 238:=bz func238
theorem Ts:bu aE 239:=bz func239
theorem qZ:bu aE 24:=bz func24
theorem Tt:bu aE 240:=bz func240
theorem Tu:bu aE 241:=bz func241
theorem Tv:bu aE 242:=bz func242
theorem Ty:bu aE 25:=bz func25
theorem IW:bu aE 252:=bz func252
theorem CZ:bu aE 253:=bz func253
theorem IX:bu aE 254:=bz func254
theorem Tz:bu aE 255:=bz func255
theorem TA:bu aE 256:=bz func256
theorem TB:bu aE 257:=bz func257
theorem TC:bu aE 258:=bz func258
theorem C0:bu aE 259:=bz func259
theorem TD:bu aE 261:=bz func261
theorem C1:bu aE 262:=bz func262
theorem IY:bu aE 263:=bz func263
theorem TE:bu aE 264:=bz func264
theorem C2:bu aE 265:=bz func265
theorem TG:bu aE 266:=bz func266
theorem C3:bu aE 268:=bz func268
theorem C4:bu aE 272:=bz func272
theorem C5:bu aE 273:=bz func273
theorem TH:bu aE 274:=bz func274
theorem IZ:bu aE 275:=bz func275
theorem I0:bu aE 276:=bz func276
theorem TI:bu aE 280:=bz func280
theorem I1:bu aE 281:=bz func281
theorem TJ:bu aE 282:=bz func282
theorem TK:bu aE 283:=bz func283
theorem TL:bu aE 284:=bz func284
theorem TM:bu aE 285:=bz func285
theorem TN:bu aE 286:=bz func286
theorem TO:bu aE 287:=bz func287
theorem TP:bu aE 288:=bz func288
theorem TQ:bu aE 289:=bz func289
theorem TR:bu aE 29:=bz func29
theorem mS:bu aE 290:=bz func290
theorem TS:bu aE 291:=bz func291
theorem TT:bu aE 292:=bz func292
theorem TU:bu aE 294:=bz func294
theorem TV:bu aE 298:=bz func298
theorem TW:bu aE 299:=bz func299
theorem zo:bu aE 30:=bz func30
theorem I2:bu aE 300:=bz func300
theorem C6:bu aE 301:=bz func301
theorem I3:bu aE 302:=bz func302
theorem TX:bu aE 303:=bz func303
theorem I4:bu aE 304:=bz func304
theorem C7:bu aE 308:=bz func308
theorem TY:bu aE 31:=bz func31
theorem zp:bu aE 32:=bz func32
theorem I5:bu aE 33:=bz func33
theorem C8:bu aE 34:=bz func34
theorem I6:bu aE 35:=bz func35
theorem I7:bu aE 36:=bz func36
theorem I8:bu aE 37:=bz func37
theorem C9:bu aE 38:=bz func38
theorem TZ:bu aE 39:=bz func39
theorem T0:bu aE 40:=bz func40
theorem zq:bu aE 41:=bz func41
theorem T1:bu aE 42:=bz func42
theorem I9:bu aE 43:=bz func43
theorem uR:bu aE 44:=bz func44
theorem T2:bu aE 45:=bz func45
theorem Ja:bu aE 46:=bz func46
theorem T3:bu aE 47:=bz func47
theorem T4:bu aE 48:=bz func48
theorem T5:bu aE 49:=bz func49
theorem T6:bu aE 55:=bz func55
theorem T7:bu aE 56:=bz func56
theorem T8:bu aE 57:=bz func57
theorem Jb:bu aE 58:=bz func58
theorem Da:bu aE 59:=bz func59
theorem T9:bu aE 60:=bz func60
theorem Ua:bu aE 61:=bz func61
theorem Ub:bu aE 62:=bz func62
theorem Uc:bu aE 63:=bz func63
theorem Ud:bu aE 64:=bz func64
theorem Jc:bu aE 66:=bz func66
theorem Db:bu aE 67:=bz func67
theorem Jd:bu aE 68:=bz func68
theorem zr:bu aE 69:=bz func69
theorem Je:bu aE 70:=bz func70
theorem Jf:bu aE 71:=bz func71
theorem Ue:bu aE 72:=bz func72
theorem Uf:bu aE 73:=bz func73
theorem Jg:bu aE 74:=bz func74
theorem jo:bu aE 75:=bz func75
theorem Ug:bu aE 76:=bz func76
theorem uS:bu aE 77:=bz func77
theorem Uh:bu aE 78:=bz func78
theorem Ui:bu aE 79:=bz func79
theorem Uj:bu aE 80:=bz func80
theorem Uk:bu aE 81:=bz func81
theorem Ul:bu aE 82:=bz func82
theorem Um:bu aE 83:=bz func83
theorem Un:bu aE 84:=bz func84
theorem Uo:bu aE 85:=bz func85
theorem Dc:bu aE 86:=bz func86
theorem Jh:bu aE 87:=bz func87
theorem Up:bu aE 88:=bz func88
theorem Uq:bu aE 89:=bz func89
theorem c9:bu aE 9:=bz func9
theorem Ji:bu aE 90:=bz func90
theorem zt:bu aE 93:=bz func93
theorem Dd:bu aE 94:=bz func94
theorem Ur:bu aE 95:=bz func95
theorem De:bu aE 96:=bz func96
theorem Us:bu aE 97:=bz func97
theorem Df:bu aE 98:=bz func98
theorem tz:bu aE 99:=bz func99
theorem Vq:∀ (l:List UInt8) (c:UInt8) (w:World),(callFunc 307 #[str l,.int .u8 c.toNat]).run aE w= .ok (.value<|.int .i64 (l.count c:Nat)) w:=ack func307 au au au au
theorem VV:∀ v w,(callFunc 267 #[v]).run aE w= .ok (.value v) w:=fun v w=>au
theorem JL:eN aE 100=some 1:=au
theorem Dr:eN aE 102=some 13:=au
theorem JM:eN aE 103=some 1:=au
theorem VW:eN aE 112=some 2:=au
theorem pI:eN aE 134=some 7:=au
theorem VX:eN aE 149=some 1:=au
theorem VY:eN aE 150=some 1:=au
theorem VZ:eN aE 151=some 1:=au
theorem JN:eN aE 152=some 1:=au
theorem JO:eN aE 156=some 1:=au
theorem V0:eN aE 174=some 2:=au
theorem JP:eN aE 181=some 2:=au
theorem tB:eN aE 192=some 5:=au
theorem Ds:eN aE 214=some 8:=au
theorem sc:eN aE 216=some 5:=au
theorem V1:eN aE 242=some 1:=au
theorem V5:eN aE 261=some 1:=au
theorem JQ:eN aE 273=some 1:=au
theorem sd:eN aE 275=some 1:=au
theorem zC:eN aE 287=some 1:=au
theorem hZ:eN aE 3=some 1:=au
theorem V6:eN aE 307=some 1:=au
theorem V7:eN aE 32=some 1:=au
theorem q6:eN aE 321=some 4:=au
theorem JR:eN aE 35=some 1:=au
theorem JS:eN aE 4=some 1:=au
theorem kz:eN aE 45=some 3:=au
theorem Dt:eN aE 49=some 5:=au
theorem uW:eN aE 51=some 1:=au
theorem kO:eN aE 53=some 2:=au
theorem zD:eN aE 69=some 3:=au
theorem JT:eN aE 85=some 1:=au
theorem qj:eN aE 87=some 2:=au
theorem Du:eN aE 88=some 1:=au
theorem lI:eN aE 9=some 1:=au
theorem gU:eN aE 95=some 1:=au
theorem V8:eN aE 96=some 5:=au
theorem JU:eN aE 97=some 1:=au
theorem JV:eN aE 98=some 1:=au
theorem JW:eN aE 99=some 1:=au
theorem nH:ib aE 100=some 7:=au
theorem DG:ib aE 103=some 2:=au
theorem Ky:ib aE 108=some 1:=au
theorem Xf:ib aE 113=some 2:=au
theorem Xg:ib aE 150=some 1:=au
theorem zR:ib aE 151=some 5:=au
theorem pK:ib aE 152=some 8:=au
theorem u6:ib aE 156=some 2:=au
theorem pL:ib aE 202=some 2:=au
theorem mU:ib aE 261=some 1:=au
theorem Kz:ib aE 273=some 4:=au
theorem xw:ib aE 29=some 5:=au
theorem KA:ib aE 331=some 1:=au
theorem cE:ib aE 35=some 1:=au
theorem cQ:ib aE 51=some 1:=au
theorem DH:ib aE 76=some 2:=au
theorem kp:ib aE 85=some 1:=au
theorem DI:ib aE 98=some 1:=au
theorem Xh:ib aE 99=some 5:=au
theorem KF:DN aE 102 8=some 12:=au
theorem vb:cJ aE 102 0=some 0:=au
theorem XF:cJ aE 102 1=some 1:=au
theorem XG:cJ aE 102 2=some 2:=au
theorem z7:cJ aE 102 3=some 3:=au
theorem D0:cJ aE 102 4=some 8:=au
theorem z8:cJ aE 102 5=some 9:=au
theorem q9:cJ aE 102 6=some 10:=au
theorem vc:cJ aE 102 7=some 11:=au
theorem pM:cJ aE 102 8=some 12:=au
theorem Aa:cJ aE 105 0=some 0:=au
theorem Lp:cJ aE 105 1=some 1:=au
theorem xB:cJ aE 105 2=some 2:=au
theorem D1:cJ aE 105 3=some 15:=au
theorem XH:cJ aE 112 0=some 0:=au
theorem XI:cJ aE 112 1=some 1:=au
theorem Lq:cJ aE 132 0=some 0:=au
theorem Ab:cJ aE 132 1=some 1:=au
theorem D2:cJ aE 132 2=some 2:=au
theorem Lr:cJ aE 132 3=some 3:=au
theorem xC:cJ aE 134 0=some 0:=au
theorem xD:cJ aE 134 2=some 2:=au
theorem sr:cJ aE 134 3=some 3:=au
theorem xE:cJ aE 134 4=some 4:=au
theorem Lt:cJ aE 134 5=some 5:=au
theorem ss:cJ aE 134 6=some 6:=au
theorem XJ:cJ aE 140 0=some 0:=au
theorem XK:cJ aE 140 1=some 1:=au
theorem XL:cJ aE 140 2=some 2:=au
theorem Ac:cJ aE 140 3=some 3:=au
theorem Ad:cJ aE 140 4=some 4:=au
theorem vd:cJ aE 140 5=some 5:=au
theorem vf:cJ aE 140 6=some 6:=au
theorem D3:cJ aE 140 7=some 7:=au
theorem vg:cJ aE 154 0=some 0:=au
theorem XM:cJ aE 154 1=some 1:=au
theorem XN:cJ aE 154 2=some 2:=au
theorem vj:cJ aE 154 3=some 3:=au
theorem XO:cJ aE 154 4=some 8:=au
theorem Lu:cJ aE 154 5=some 9:=au
theorem xF:cJ aE 154 6=some 10:=au
theorem rh:cJ aE 154 7=some 11:=au
theorem kq:cJ aE 154 8=some 12:=au
theorem iD:cJ aE 164 0=some 0:=au
theorem Lv:cJ aE 164 1=some 13:=au
theorem jg:cJ aE 167 0=some 0:=au
theorem xG:cJ aE 167 1=some 1:=au
theorem xH:cJ aE 167 2=some 2:=au
theorem XP:cJ aE 167 3=some 3:=au
theorem vk:cJ aE 167 4=some 4:=au
theorem D4:cJ aE 167 5=some 5:=au
theorem D5:cJ aE 167 6=some 6:=au
theorem Lw:cJ aE 174 0=some 0:=au
theorem Lx:cJ aE 174 1=some 1:=au
theorem Ae:cJ aE 181 0=some 0:=au
theorem xI:cJ aE 181 1=some 1:=au
theorem Af:cJ aE 184 0=some 0:=au
theorem D6:cJ aE 184 1=some 1:=au
theorem D7:cJ aE 192 0=some 0:=au
theorem xJ:cJ aE 192 1=some 1:=au
theorem Ly:cJ aE 192 2=some 2:=au
theorem Lz:cJ aE 192 3=some 3:=au
theorem Ag:cJ aE 192 4=some 4:=au
theorem mD:cJ aE 208 0=some 0:=au
theorem D8:cJ aE 208 1=some 1:=au
theorem qn:cJ aE 208 2=some 2:=au
theorem XQ:cJ aE 208 3=some 3:=au
theorem ri:cJ aE 208 4=some 4:=au
theorem rj:cJ aE 208 5=some 5:=au
theorem vm:cJ aE 209 0=some 0:=au
theorem xK:cJ aE 209 1=some 1:=au
theorem xL:cJ aE 214 0=some 0:=au
theorem XR:cJ aE 214 1=some 1:=au
theorem XS:cJ aE 214 2=some 2:=au
theorem vo:cJ aE 214 3=some 3:=au
theorem D9:cJ aE 214 4=some 4:=au
theorem Ea:cJ aE 214 5=some 5:=au
theorem xM:cJ aE 214 6=some 6:=au
theorem LA:cJ aE 214 7=some 7:=au
theorem Eb:cJ aE 216 0=some 0:=au
theorem Ah:cJ aE 216 1=some 1:=au
theorem LB:cJ aE 216 2=some 2:=au
theorem nI:cJ aE 275 0=some 0:=au
theorem Ec:cJ aE 309 0=some 0:=au
theorem Ai:cJ aE 309 1=some 1:=au
theorem XT:cJ aE 359 0=some 0:=au
theorem XU:cJ aE 49 0=some 0:=au
theorem pN:cJ aE 49 1=some 1:=au
theorem nJ:cJ aE 49 2=some 2:=au
theorem nK:cJ aE 49 3=some 3:=au
theorem rk:cJ aE 49 4=some 4:=au
theorem Aj:cJ aE 53 0=some 0:=au
theorem tE:cJ aE 53 1=some 1:=au
theorem Ak:cJ aE 74 0=some 0:=au
theorem XV:cJ aE 74 1=some 1:=au
theorem Ed:cJ aE 74 2=some 2:=au
theorem Ee:cJ aE 74 3=some 3:=au
theorem vp:cJ aE 74 4=some 4:=au
theorem oI:cJ aE 78 0=some 0:=au
theorem vq:cJ aE 78 1=some 1:=au
theorem LC:cJ aE 87 0=some 0:=au
theorem XW:cJ aE 87 1=some 1:=au
theorem Zn:(aE.info? 309).isSome=true :=au
theorem ZC:∀ (l:List UInt8) (c:UInt8) (w:World),(callFunc 295 #[str l,.int .u8 c.toNat]).run aE w= .ok (.value<|.int .i64<|fP c l) w:=acm func295 au au au au
theorem EI:mP aE 3 (lf .i64):=ME (q:= .i64) au
theorem jD:mP aE 9 j5:=ZP au
theorem tG:mP aE 95 (lf .u16):=ME (q:= .u16) au
theorem E5:tM aE 45=true :=au
theorem abz:ptrTo aE 342 5=true :=au
theorem A6:gz aE 100 134 7 88=true :=au
theorem A7:gz aE 103 53 2 40=true :=au
theorem acL:gz aE 113 112 2 32=true :=au
theorem OE:gz aE 149 351 2 32=true :=au
theorem OF:gz aE 150 85 1 24=true :=au
theorem OG:gz aE 151 216 5 40=true :=au
theorem A8:gz aE 152 214 8 104=true :=au
theorem OH:gz aE 156 181 2 32=true :=au
theorem A9:gz aE 202 209 2 32=true :=au
theorem jj:gz aE 261 5 1 1=true :=au
theorem Ba:gz aE 273 321 4 32=true :=au
theorem Bb:gz aE 29 49 5 48=true :=au
theorem OI:gz aE 32 74 5 48=true :=au
theorem OJ:gz aE 331 359 1 16=true :=au
theorem eY:gz aE 35 9 1 16=true :=au
theorem Bc:gz aE 51 95 1 2=true :=au
theorem OK:gz aE 76 87 2 40=true :=au
theorem lR:gz aE 85 3 1 8=true :=au
theorem Be:gz aE 97 189 2 32=true :=au
theorem Bf:gz aE 98 51 1 24=true :=au
theorem Bg:gz aE 99 192 5 40=true :=au
theorem acZ:iJ aE 105=some ([(0,1),(1,1),(2,13),(15,1)],[.pointer none,.pointer none,.int .i64 0,.string ⟨⟨[]⟩⟩,.string ⟨⟨[]⟩⟩,.int .u16 0,.int .u16 0,.int .u16 0,.int .u16 0,.int .u16 0,.int .i64 0,.slice none 0 0,.slice none 0 0,.slice none 0 0,.slice none 0 0,.slice none 0 0]):=au
theorem Gd:iJ aE 112=some ([(0,1),(1,1)],[.slice none 0 0,.int .i64 0]):=au
theorem ac0:iJ aE 132=some ([(0,1),(1,1),(2,1),(3,1)],[.pointer none,.slice none 0 0,.map none,.map none]):=au
theorem Ge:iJ aE 134=some ([(0,1),(1,1),(2,1),(3,1),(4,1),(5,1),(6,1)],[.int .i64 0,.int .u16 0,.bool false,.string ⟨⟨[]⟩⟩,.string ⟨⟨[]⟩⟩,.string ⟨⟨[]⟩⟩,.slice none 0 0]):=au
theorem ac1:iJ aE 140=some ([(0,1),(1,1),(2,1),(3,1),(4,1),(5,1),(6,1),(7,1)],[.bool false,.bool false,.string ⟨⟨[]⟩⟩,.int .i64 0,.int .i64 0,.int .i64 0,.int .i64 0,.slice none 0 0]):=au
theorem ac2:iJ aE 154=some ([(0,1),(1,1),(2,1),(3,5),(8,1),(9,1),(10,1),(11,1),(12,1)],[.int .i64 0,.string ⟨⟨[]⟩⟩,.string ⟨⟨[]⟩⟩,.int .i64 0,.int .i64 0,.int .i64 0,.int .i64 0,.int .i64 0,.int .i64 0,.slice none 0 0,.slice none 0 0,.slice none 0 0,.slice none 0 0]):=au
theorem ac3:iJ aE 164=some ([(0,13),(13,1)],[.int .i64 0,.string ⟨⟨[]⟩⟩,.string ⟨⟨[]⟩⟩,.int .u16 0,.int .u16 0,.int .u16 0,.int .u16 0,.int .u16 0,.int .i64 0,.slice none 0 0,.slice none 0 0,.slice none 0 0,.slice none 0 0,.map none]):=au
theorem ac4:iJ aE 167=some ([(0,1),(1,1),(2,1),(3,1),(4,1),(5,1),(6,1)],[.pointer none,.slice none 0 0,.int .i64 0,.int .i64 0,.map none,.map none,.slice none 0 0]):=au
theorem n9:iJ aE 174=some ([(0,1),(1,1)],[.int .i64 0,.nilFunc]):=au
theorem ac5:iJ aE 181=some ([(0,1),(1,1)],[.int .i64 0,.slice none 0 0]):=au
theorem ac6:iJ aE 184=some ([(0,1),(1,1)],[.slice none 0 0,.map none]):=au
theorem ac7:iJ aE 189=some ([(0,1),(1,1)],[.string ⟨⟨[]⟩⟩,.string ⟨⟨[]⟩⟩]):=au
theorem Gf:iJ aE 192=some ([(0,1),(1,1),(2,1),(3,1),(4,1)],[.int .u16 0,.int .i64 0,.bool false,.int .i64 0,.int .i64 0]):=au
theorem ac8:iJ aE 208=some ([(0,1),(1,1),(2,1),(3,1),(4,1),(5,1)],[.pointer none,.slice none 0 0,.int .i64 0,.int .i64 0,.slice none 0 0,.int .i64 0]):=au
theorem OR:iJ aE 209=some ([(0,1),(1,1)],[.int .i64 0,.slice none 0 0]):=au
theorem OS:iJ aE 214=some ([(0,1),(1,1),(2,1),(3,1),(4,1),(5,1),(6,1),(7,1)],[.int .i64 0,.int .i64 0,.bool false,.string ⟨⟨[]⟩⟩,.string ⟨⟨[]⟩⟩,.string ⟨⟨[]⟩⟩,.slice none 0 0,.int .i64 0]):=au
theorem OT:iJ aE 216=some ([(0,1),(1,1),(2,1),(3,1),(4,1)],[.int .i64 0,.int .i64 0,.bool false,.int .i64 0,.int .i64 0]):=au
theorem ym:iJ aE 275=some ([(0,1)],[.slice none 0 0]):=au
theorem ac9:iJ aE 351=some ([(0,1),(1,1)],[.string ⟨⟨[]⟩⟩,.string ⟨⟨[]⟩⟩]):=au
theorem ada:iJ aE 359=some ([(0,1)],[.string ⟨⟨[]⟩⟩]):=au
theorem vJ:iJ aE 45=some ([(0,1),(1,1),(2,1)],[.int .i64 0,.int .i64 0,.int .i64 0]):=au
theorem Gg:iJ aE 49=some ([(0,1),(1,1),(2,1),(3,1),(4,1)],[.string ⟨⟨[]⟩⟩,.int .i64 0,.int .i64 0,.int .i64 0,.int .i64 0]):=au
theorem pX:iJ aE 53=some ([(0,1),(1,1)],[.string ⟨⟨[]⟩⟩,.slice none 0 0]):=au
theorem Gh:iJ aE 69=some ([(0,1),(1,1),(2,1)],[.int .i64 0,.int .i64 0,.int .i64 0]):=au
theorem Gi:iJ aE 74=some ([(0,1),(1,1),(2,1),(3,1),(4,1)],[.string ⟨⟨[]⟩⟩,.int .i64 0,.int .i64 0,.int .i64 0,.int .i64 0]):=au
theorem adb:iJ aE 78=some ([(0,1),(1,1)],[.pointer none,.slice none 0 0]):=au
theorem rA:iJ aE 87=some ([(0,1),(1,1)],[.string ⟨⟨[]⟩⟩,.slice none 0 0]):=au
theorem sR:aE.underlying 100=some (.slice 134):=au
theorem Bu:aE.underlying 103=some (.slice 53):=au
theorem Pf:aE.underlying 108=some (.slice 95):=au
theorem adU:aE.underlying 113=some (.slice 112):=au
theorem Gu:aE.underlying 129=some (.map 3 85):=au
theorem Gv:aE.underlying 130=some (.map 49 3):=au
theorem Pg:aE.underlying 145=some (.int .u64):=au
theorem Ph:aE.underlying 150=some (.slice 85):=au
theorem Gw:aE.underlying 151=some (.slice 216):=au
theorem vP:aE.underlying 152=some (.slice 214):=au
theorem Bv:aE.underlying 156=some (.slice 181):=au
theorem tX:aE.underlying 162=some (.map 95 3):=au
theorem sS:aE.underlying 165=some (.map 9 3):=au
theorem nm:aE.underlying 169=some (.map 9 174):=au
theorem Gx:aE.underlying 182=some (.map 9 85):=au
theorem Bw:aE.underlying 202=some (.slice 209):=au
theorem yq:aE.underlying 24=some (.pointer 105):=au
theorem Gy:aE.underlying 25=some (.pointer 78):=au
theorem oa:aE.underlying 261=some (.slice 5):=au
theorem sT:aE.underlying 273=some (.slice 321):=au
theorem adV:aE.underlying 287=some (.int .u64):=au
theorem vQ:aE.underlying 29=some (.slice 49):=au
theorem u3:aE.underlying 3=some (.int .i64):=au
theorem Pk:aE.underlying 307=some (.pointer 309):=au
theorem u32:aE.underlying 32=some (.slice 74):=au
theorem tY:aE.underlying 331=some (.slice 359):=au
theorem ee:aE.underlying 35=some (.slice 9):=au
theorem u4:aE.underlying 4=some (.bool):=au
theorem u5:aE.underlying 5=some (.int .u8):=au
theorem qA:aE.underlying 51=some (.slice 95):=au
theorem Bx:aE.underlying 76=some (.slice 87):=au
theorem mI:aE.underlying 85=some (.slice 3):=au
theorem yr:aE.underlying 88=some (.pointer 164):=au
theorem u9:aE.underlying 9=some (.string):=au
theorem GA:aE.underlying 91=some (.pointer 184):=au
theorem Bz:aE.underlying 95=some (.int .u16):=au
theorem u97:aE.underlying 97=some (.slice 189):=au
theorem BA:aE.underlying 98=some (.slice 51):=au
theorem Pm:aE.underlying 99=some (.slice 192):=au
theorem Pp:yt aE 307 364 309 2=true :=au
theorem ad8:(aE.underlying 145).isSome=true :=au
theorem ad9:(aE.underlying 242).isSome=true :=au
theorem sU:(aE.underlying 3).isSome=true :=au
theorem rE:(aE.underlying 5).isSome=true :=au
theorem wide:aE.follows .mixedOrders=true :=au
theorem PM:zeroOf aE 102=some (some [.int .i64 0,.string ⟨⟨[]⟩⟩,.string ⟨⟨[]⟩⟩,.int .u16 0,.int .u16 0,.int .u16 0,.int .u16 0,.int .u16 0,.int .i64 0,.slice none 0 0,.slice none 0 0,.slice none 0 0,.slice none 0 0]):=au
theorem aeD:zeroOf aE 112=some (some [.slice none 0 0,.int .i64 0]):=au
theorem rH:zeroOf aE 134=some (some [.int .i64 0,.int .u16 0,.bool false,.string ⟨⟨[]⟩⟩,.string ⟨⟨[]⟩⟩,.string ⟨⟨[]⟩⟩,.slice none 0 0]):=au
theorem aeE:zeroOf aE 156=some (some [.slice none 0 0]):=au
theorem aeF:zeroOf aE 174=some (some [.int .i64 0,.nilFunc]):=au
theorem PN:zeroOf aE 181=some (some [.int .i64 0,.slice none 0 0]):=au
theorem vY:zeroOf aE 192=some (some [.int .u16 0,.int .i64 0,.bool false,.int .i64 0,.int .i64 0]):=au
theorem GP:zeroOf aE 214=some (some [.int .i64 0,.int .i64 0,.bool false,.string ⟨⟨[]⟩⟩,.string ⟨⟨[]⟩⟩,.string ⟨⟨[]⟩⟩,.slice none 0 0,.int .i64 0]):=au
theorem ub:zeroOf aE 216=some (some [.int .i64 0,.int .i64 0,.bool false,.int .i64 0,.int .i64 0]):=au
theorem BJ:zeroOf aE 275=some (some [.slice none 0 0]):=au
theorem aeG:zeroOf aE 287=some (some [.int .u64 0]):=au
theorem zs3:zeroOf aE 3=some (some [.int .i64 0]):=au
theorem PO:zeroOf aE 309=some (some [.pointer none,.slice none 0 0]):=au
theorem uc:zeroOf aE 321=some (some [.int .u64 0,.int .u64 0,.int .u64 0,.int .u64 0]):=au
theorem aeH:zeroOf aE 35=some (some [.slice none 0 0]):=au
theorem rI:zeroOf aE 45=some (some [.int .i64 0,.int .i64 0,.int .i64 0]):=au
theorem GQ:zeroOf aE 49=some (some [.string ⟨⟨[]⟩⟩,.int .i64 0,.int .i64 0,.int .i64 0,.int .i64 0]):=au
theorem rJ:zeroOf aE 53=some (some [.string ⟨⟨[]⟩⟩,.slice none 0 0]):=au
theorem PQ:zeroOf aE 69=some (some [.int .i64 0,.int .i64 0,.int .i64 0]):=au
theorem PR:zeroOf aE 87=some (some [.string ⟨⟨[]⟩⟩,.slice none 0 0]):=au
theorem aeI:zeroOf aE 88=some (some [.pointer none]):=au
theorem zs9:zeroOf aE 9=some (some [.string ⟨⟨[]⟩⟩]):=au
theorem aeJ:zeroOf aE 96=some (some [.int .u16 0,.int .u16 0,.int .u16 0,.int .u16 0,.int .u16 0]):=au
theorem aeK:zeroOf aE 337=some (some<|List.replicate 256<|.bool false):=au
theorem aeL:zeroV aE 174=some (.agg #[.int .i64 0,.nilFunc]):=au
theorem oX:zeroV aE 3=some (.int .i64 0):=au
theorem aeM:zeroV aE 45=some (.agg #[.int .i64 0,.int .i64 0,.int .i64 0]):=au
theorem zv5:zeroV aE 5=some (.int .u8 0):=au
theorem BK:zeroV aE 85=some (.slice none 0 0):=au
theorem zv9:zeroV aE 9=some (.string ⟨⟨[]⟩⟩):=au
theorem aeN:zeroV aE 95=some (.int .u16 0):=au
end Go.Hb.dX
section
namespace Go.Hb
open Go.Hb.dX
theorem VB (b:Nat) (C:Option Addr) (G:Value) (w:World) (A:w.heap[b]? =some (.cells [BY C,G].toArray 309 (0,0))) (hp:C=none∨C=some ⟨b,0,none⟩):
 bw aE 240 (bl [a6 b]) w (fun v w'=>v= .tuple #[]∧w'.heap[b]? =some (.cells [BY (some ⟨b,0,none⟩),G].toArray 309 (0,0))∧Md (fun k=>k=b) w w'):=by
 refine enter func240 ag ntmps240 ag<|ak fun I=>aw (a6 b)<|p (nc ag)<|p (fa Ec ag)<|p (ld HQ ag<|(bo A).trans ag)<|p (lJ Pk ag ag)<|nl<|I<|cb ag (fun E=> ?_) fun E=> ?_;obtain rfl :C=none:=by simpa using E
 exact rg ag<|aw (a6 b)<|aw (a6 b)<|p (toU Pp ag A ag)<|p (Vl VV ag)<|p (X2 Pp ag A ag)<|p (nc ag)<|p (fa Ec ag)<|e<|dB V6 ag ag ag A (by simp) fun Y V O=>nl<|f0 ag<|⟨ag,O,V⟩
 obtain rfl :C=some ⟨b,0,none⟩:=hp.resolve_left<|by rintro rfl; simp at E
 exact ak fun J=>aw (a6 b)<|p (nc ag)<|p (fa Ec ag)<|p (ld HQ ag<|(bo A).trans ag)<|aw (a6 b)<|p (aaI Pk Zn ag ag)<|nl<|J<|cf ag<|aT<|f0 ag<|⟨ag,A,Md.refl _ _⟩
theorem PL (b:Nat) (A:Value) (l:List UInt8) (c:UInt8) (w:World) (an:Bd 309 5 w b A l) (aC:l.length≤70368744177664):
 bw aE 204 (bl [a6 b,.int .u8 c.toNat]) w (fun v w'=>v= .nilIface∧∃ I,Bd 309 5 w' b I (l++ [c])∧Md (BF b A) w w'∧∀ k,BF b I k→BF b A k∨w.heap.size≤k):=by
 obtain ⟨⟨ay,Y,av⟩,hown,hnil⟩:=an;have aD:b < w.heap.size:=(Array.getElem?_eq_some_iff.1 Y).1;have Z:∀ k,A.ownBlock=some k→k≠b∧k < w.heap.size:=fun k hk=>by have :=hown.lt k hk; exact ⟨aj,this.2⟩
 refine enter func204 ag ntmps204 ag<|ak fun ab=>az<|ab<|ak fun ac=>aw (a6 b)<|e<|cl Tt (VB b ay A w Y av) ag ?_;rintro v6 aK ⟨_,V,E⟩;have au:=dz hown E fun k hk=>(Z k hk).1;have aF:=E.size;refine nl<|ac<|ak fun ae=>aw (a6 b)<|aw (a6 b)<|p (nc ag)<|p (fa Ai ag)<|p (ld Cu ag<|(bo V).trans ag)<|aw (.int .u8 c.toNat)<|e<|fU jj ag ag fun aA aG aB C al=>e<|ap jj (bc au C.md) ag (by have :=C.size; omega) ag (aR.dZ al) (ag) (ag) aj aj fun aa aH G J ax aq=> ?_;have ao:=J.aW (Wk.aW C.md V) fun h=>(Z b h).1 rfl;refine p (nc ag)<|p (fa Ai ag)<|e<|dB V5 ag ag (by obtain ⟨a,c,h,_⟩:=vF G; exact congrArg gI h) ao (by simp) fun aI O am=>nl<|ae<|ak fun ah=>p aJ<|nl<|ah<|rt<|ba ag ?_;have ai:∀ k,aa.ownBlock=some k→k≠b:=fun k hk=>by have :=G.lt k hk; omega
 refine ⟨ag,aa,⟨⟨_,am,.inr ag⟩,?_,?_⟩,?_,?_⟩;rw [bP,yY]; exact dz G O fun k hk=>ai k hk;rw [ax]; simp;refine Md.trans' (Md.trans' (Md.trans' (E.mono fun k _ h=> .inl h) C.md fun _ _ h=>h.elim) J fun k _ h=> .inr h) O fun k _ h=> .inl h;rintro k (rfl | hk);exact .inl<|.inl ag;by_cases h:A.ownBlock=some k;exact .inl<|.inr h;have :=aq k hk; have h1:=E.size; have h2:=C.md.size; exact .inr<|by rcases this with h3 | h3; exact absurd h3 h; omega
theorem Gn (b:Nat) (G:Value) (l:List UInt8) (w:World) (Y:Bd 309 5 w b G l) (ac:l.length≤70368744177664):
 bw aE 202 (bl [a6 b]) w (fun v w'=>v=str l∧Md (fun k=>G.ownBlock=some k) w w'):=by
 obtain ⟨⟨ai,I,ae⟩,hown,hnil⟩:=Y;obtain ⟨a,c,rfl,aa,hle,hk,ab⟩:=vF hown;refine enter func202 ag ntmps202 ag<|ak fun J=>az<|J<|aH fun O=> ?_;have A:(fun w'=>Md (fun k=>(cg a l.length c).ownBlock=some k) w w') w.drew:=(Md.refl _ _).drew;refine cj (fun w'=>Md (fun k=>(cg a l.length c).ownBlock=some k) w w') ag wide A<|bQ 0 ag (a6 b) A<|aU 1 ag (nc ag) A<|aU 2 ag (fa Ai ag) A<|bS 3 ag (fun w' C=>ld Cu ag<|C.a7 ((bo I).trans ag) fun h=>by have :=hown.lt _ h; omega) A<|bQ 5 ag (a6 b) A<|aU 6 ag (nc ag) A<|aU 7 ag (fa Ai ag) A<|bS 8 ag (fun w' C=>ld Cu ag<|C.a7 ((bo I).trans ag) fun h=>by have :=hown.lt _ h; omega) A<|aU 9 ag (bN oa ag ag) A ?_;refine aU 4 ag (usd (v:= .nilFunc) ag (by
  by_cases h:l= []
  have :=hnil.2 h; simp only [Value.slice.injEq] at this; exact .inl this.1;right; have :0 < l.length:=mr.2 h; omega)) A ?_
 refine he 10 ag au<|usg abz ag ag hown ag aj fun Z V ah=> ?_;have E:(fun w'=>Md (fun k=>(cg a l.length c).ownBlock=some k) w w') Z:=A.trans' V fun _ _ h=>h;refine ⟨E,?_⟩;exact aU 11 ag (aJ) E<|hn au<|O<|rt<|ba ag<|⟨ag,E⟩
end Go.Hb
end
section
namespace Go.Hb
open Go.Hb.dX
theorem me (b:UInt8):tD b=decide ((b.toNat:Int)=92∨(b.toNat:Int)=47∨(b.toNat:Int)=35):=by
 unfold tD; exact decide_eq_decide.2 aj
theorem DR (b:UInt8):jy b=decide (32 < (b.toNat:Int)∧(b.toNat:Int)≠127):=by
 unfold jy; exact decide_eq_decide.2 aj
theorem Xz {b:UInt8} (h:32 < (b.toNat:Int)) (h1:(b.toNat:Int)≠127):jy b=true :=by rw [DR]; exact decide_eq_true ⟨h,h1⟩
theorem DQ {b:UInt8} (h:¬(32 < (b.toNat:Int)∧(b.toNat:Int)≠127)):jy b=false :=by rw [DR]; exact decide_eq_false h
theorem KW (b:UInt8) (w:World):
 bw aE 205 (bl [.int .u8 b.toNat]) w (fun v w'=>v= .bool (jy b)∧Wk w w'):=by
 refine enter func205 ag ntmps205 ag<|ak fun C=>az<|C<|ak fun A=>aw (.int .u8 b.toNat)<|p (gt ag ag)<|p mv<|gs (t:=5) ag (fun E=> ?_) fun E=> ?_;exact aV ag (a8 (.int .u8 b.toNat) ag)<|aV ag (dw ag ag)<|p (bI ag)<|az<|A<|rt<|ba ag<|⟨by show cy (decide _)=_; rw [DR]; exact bv (by constructor <;> intro h <;> first | exact ⟨aj,h⟩ | exact h.2),Md.refl _ _⟩
 exact aQ ag<|aQ ag<|p (bD ag)<|az<|A<|rt<|ba ag<|⟨by show cy false =_; rw [DQ aj],Md.refl _ _⟩
theorem aam (b:UInt8) (w:World):
 bw aE 203 (bl [.int .u8 b.toNat]) w (fun v w'=>v= .bool (tD b)∧Wk w w'):=by
 refine enter func203 ag ntmps203 ag<|ak fun J=>az<|J<|aH fun G=>ak fun O=>aw (.int .u8 b.toNat)<|nl<|O<|aW<|aH fun I=>ak fun V=>p (bT ag ag)<|az<|V<|cd ag (fun A=> ?_) fun A=> ?_;refine aT<|I<|cd ag (fun A=> ?_) fun A=> ?_;refine ak fun E=>az<|E<|rt<|br<|tr<|ba ag ?_
 first | exact ⟨by show cy true =_; rw [me,decide_eq_true aj],Md.refl _ _⟩ | exact ⟨by show cy false =_; rw [me,decide_eq_false aj],Md.refl _ _⟩
 refine aT<|bn<|G<|ak fun E=>az<|E<|rt<|ba ag ?_
 first | exact ⟨by show cy true =_; rw [me,decide_eq_true aj],Md.refl _ _⟩ | exact ⟨by show cy false =_; rw [me,decide_eq_false aj],Md.refl _ _⟩
 refine ak fun E=>p (bT ag ag)<|az<|E<|cd ag (fun A=> ?_) fun A=> ?_;refine aT<|I<|cd ag (fun A=> ?_) fun A=> ?_;refine ak fun C=>az<|C<|rt<|br<|tr<|ba ag ?_
 first | exact ⟨by show cy true =_; rw [me,decide_eq_true aj],Md.refl _ _⟩ | exact ⟨by show cy false =_; rw [me,decide_eq_false aj],Md.refl _ _⟩
 refine aT<|bn<|G<|ak fun C=>az<|C<|rt<|ba ag ?_
 first | exact ⟨by show cy true =_; rw [me,decide_eq_true aj],Md.refl _ _⟩ | exact ⟨by show cy false =_; rw [me,decide_eq_false aj],Md.refl _ _⟩
 refine rg ag<|p (bT ag ag)<|az<|I<|cd ag (fun A=> ?_) fun A=> ?_;refine ak fun C=>az<|C<|rt<|br<|tr<|ba ag ?_
 first | exact ⟨by show cy true =_; rw [me,decide_eq_true aj],Md.refl _ _⟩ | exact ⟨by show cy false =_; rw [me,decide_eq_false aj],Md.refl _ _⟩
 refine aT<|bn<|G<|ak fun C=>az<|C<|rt<|ba ag ?_
 first | exact ⟨by show cy true =_; rw [me,decide_eq_true aj],Md.refl _ _⟩ | exact ⟨by show cy false =_; rw [me,decide_eq_false aj],Md.refl _ _⟩
theorem PA (s:List UInt8) (w:World) (hs:s.length≤1048576):
 bw aE 139 (bl [str s]) w (fun v w'=>v= .bool (rF s)∧Wk w w'):=by
 refine enter func139 ag ntmps139 ag<|ak fun ac=>az<|ac<|aH fun ai=>ak fun O=>aw (str s)<|p (ew ag ag)<|p mv<|gs (t:=6) ag (fun I=> ?_) fun I=> ?_;exact aQ ag<|aQ ag<|aQ ag<|p (bI ag)<|nl<|O<|ct ag<|aH fun A=>rg ag<|az<|A<|rt<|tr<|ba ag<|⟨by show cy false =_; unfold rF; rw [decide_eq_false (by rw [I]; simp)],Md.refl _ _⟩
 refine aV ag (a8 (str s) ag)<|aV ag (c8 u9 ag ag)<|aV ag (gt ag ag)<|p (bD ag)<|nl<|O<|cd ag (fun ap=> ?_) fun ap=> ?_;exact ak fun A=>az<|A<|rt<|tr<|ba ag<|⟨by show cy false =_; unfold rF; rw [decide_eq_false aj],Md.refl _ _⟩
 refine aT<|ai<|aH fun A=>ak fun al=>aw (str s)<|p (c8 u9 ag ag)<|p mv<|nl<|al<|aW<|lp (fun V ab aa=> ∃ (i:Nat),(i≤s.length∧1≤s.length∧s.length≤64)∧(∀ j,j < i→jy (s.getD j 0)=true)∧(Wk w aa)∧(Sl ab [(0,str s),(12,.int .i64 s.length),(13,.int .i64 i)])∧(s.length - i=V)) _ ⟨0,(⟨aj,by rcases Nat.eq_zero_or_pos s.length with h | h <;> first | exact absurd (yP.1 h) I | exact h,aj⟩),(fun j Z=>by omega),(Md.refl _ _),ag,ag⟩ ?_;rintro V ab aa ⟨i,hi,hp,E,au,rfl⟩;refine bH au<|ak fun am=>p (lt ag ag)<|nl<|am<|aH fun an=>cd ag (fun aq=> ?_) fun aq=> ?_;refine aT<|an<|aH fun C=>aW<|ak fun ao=>aw (.int .i64 i)<|p (cV (.int .i64 i) ag)<|nl<|ao<|ak fun ae=>aw (str s)<|aw (.int .i64 i)<|p (fC u9 ag ag aj)<|e<|cl IK (KW (s.getD i 0) _) ag ?_;rintro av ax ⟨rfl,Y⟩;refine p (no ag)<|nl<|ae<|cb ag (fun G=> ?_) fun G=> ?_;have J:jy (s.getD i 0)=false :=by simpa using G
 exact ak fun ah=>az<|ah<|rt<|br<|tr<|tr<|br<|tr<|ba ag<|⟨by show cy false =_; unfold rF; rw [uQ (i:=i) aj J,decide_eq_false (by simp)],Md.trans E Y⟩
 have J:jy (s.getD i 0)=true :=by simpa using G
 exact aT<|bn<|C<|rg ag<|p (ad ag ag<|cR aj)<|p mv<|nl<|tn<|⟨_,aj,i+1,aj,(fun j Z=>by rcases fT j i with h | h <;> first | exact hp j h | (rw [show j=i by omega]; exact J)),(Md.trans E Y),ag,ag⟩
 exact ext<|bj<|bj<|be<|A<|ak fun C=>p aJ<|nl<|C<|rt<|ba ag<|⟨by show cy true =_; unfold rF; rw [xh (fun j Z=>hp j aj),decide_eq_true ⟨hi.2.1,hi.2.2,ag⟩],E⟩
theorem GO (s:List UInt8) (w:World) (hs:s.length≤1048576):
 bw aE 138 (bl [str s]) w (fun v w'=>v=NW (bK s)∧Wk w w'):=by
 refine enter func138 ag ntmps138 ag<|ak fun aq=>p aJ<|p aJ<|p aJ<|az<|aq<|ak fun aB=>e<|hU PO fun A bi a9 aX aL=>nl<|aB<|aH fun aC=>ak fun aD=>az<|aD<|aW<|lp (fun am ao O=> ∃ (i:Nat) (acc:List UInt8) (C:Value),(i≤s.length∧acc.length≤i)∧(Bd 309 5 O A C acc)∧(Wk w O)∧(j8 acc (s.drop i)=bK s)∧(Sl ao [(0,str s),(6,a6 A),(7,.int .i64 i)])∧(s.length - i=am)) _ ⟨0,[],.slice none 0 0,(by simp),(Bd.new aL),aX.md,ag,ag,ag⟩ ?_;rintro am ao O ⟨i,acc,C,hi,E,G,hd,a4,rfl⟩;refine bH a4<|aH fun aF=>ak fun aG=>aw (.int .i64 i)<|aw (str s)<|p (c8 u9 ag ag)<|p (lt ag ag)<|nl<|aG<|cd ag (fun aZ=> ?_) fun aZ=> ?_;refine aT<|aF<|aH fun Z=>aW<|ak fun aI=>aw (str s)<|aw (.int .i64 i)<|p (fC u9 ag ag aj)<|nl<|aI<|aW ?_;refine ez (fun ap ah=> ∃ (k:Nat),(k < s.length∧i≤k∧k≤i+1)∧(Bd 309 5 ah A C acc)∧(Wk w ah)∧(j8 (acc++ [s.getD k 0]) (s.drop<|k+1)=bK s)∧(Sl ap [(0,str s),(6,a6 A),(7,.int .i64 k)])) ?_ ?_;refine aW<|aH fun aa=>aW<|aH fun av=>aW<|aH fun ax=>aH fun ay=>aH fun aA=>rg ag<|p (bT ag ag)<|az<|aA<|cd ag (fun a0=> ?_) fun a0=> ?_;have aY:(s.getD i 0).toNat=47:=aj;refine ext<|bj<|bj<|be<|av<|aH fun ai=>aH fun V=> ?_;have I:(fun w'=>True) O.drew:=trivial;refine cj (fun w'=>True) ag wide I<|bQ 1 ag (str s) I<|bQ 2 ag (.int .i64 i) I<|aU 3 ag (bJ ((i+1:Nat):Int) ag ag<|bp aj aj) I<|aU 4 ag (ni u9 ag ag aj) I<|he 0 ag au<|cl CU (Gn A C acc _ (E.md (Md.refl (fun _=>False) _).drew fun _ _ h=>h) aj) ag ?_;rintro v21 a7 ⟨rfl,aP⟩;have J:(fun w'=>True) a7:=trivial;refine ⟨J,?_⟩;refine aU 5 ag (aJ) J<|aU 6 ag (aJ) J<|aU 7 ag (aJ) J<|aU 8 ag (aJ) J<|hn au<|V<|rt<|tr<|br<|tr<|br<|tr<|br<|br<|tr<|tr<|br<|tr<|f4 ag ag ag ag ag ?_
 skip
 exact ⟨by rw [← hd,drop_cons 0 (by omega :i < s.length),GN aY]; rfl,E.Gl G (Md.trans (Md.refl _ _).drew aP) aj⟩;refine aT<|ay<|ak fun ai=>p (bT ag ag)<|az<|ai<|cd ag (fun a1=> ?_) fun a1=> ?_;have ac:(s.getD i 0).toNat=92:=aj;refine ext<|bj<|qh aM<|bj<|be<|aa<|ak fun V=>aw (.int .i64 i)<|p (bJ ((i+1:Nat):Int) ag ag<|bp aj aj)<|az<|V<|ak fun al=>p mv<|aw (str s)<|p (c8 u9 ag ag)<|p (bT ag ag)<|p mv<|gs (t:=32) ag (fun a3=> ?_) fun a3=> ?_;refine aQ ag<|aQ ag<|aQ ag<|aQ ag<|aQ ag<|p (bI ag)<|nl<|al<|ct ag<|ak fun Y=>p aJ<|p aJ<|p aJ<|p aJ<|nl<|Y<|rt<|br<|tr<|br<|br<|tr<|tr ?_;exact br<|tr<|f4 ag ag ag ag ag<|⟨by rw [← hd,drop_cons 0 (by omega :i < s.length),iS aj,GK ac]; rfl,G⟩
 refine aV ag (a8 (str s) ag)<|aV ag mv<|aV ag (fC u9 ag ag aj)<|eg ag ag ag<|cl Ta (aam (s.getD (i+1) 0) _) ag ?_;rintro bb bf ⟨rfl,ab⟩;refine aV ag (no ag)<|p (bD ag)<|nl<|al<|cb ag (fun ae=> ?_) fun ae=> ?_;exact ak fun Y=>p aJ<|p aJ<|p aJ<|az<|Y<|rt<|br<|tr<|br<|br<|tr<|tr<|br<|tr<|f4 ag ag ag ag ag<|⟨by rw [← hd,drop_cons 0 (by omega :i < s.length),drop_cons 0 (by omega :i+1 < s.length),GL ac (by simpa using ae)]; rfl,Md.trans G ab⟩
 exact aT<|bn<|tn<|⟨i+1,aj,(E.md ab fun _ _ h=>h),(Md.trans G ab),(by rw [← hd,drop_cons 0 (by omega :i < s.length),drop_cons 0 (by omega :i+1 < s.length),yu ac (by simpa using ae)]),ag⟩
 exact aT<|ax<|ext<|qh aM<|bj<|qh aM<|bj<|be<|tn<|⟨i,aj,E,G,(by rw [← hd,drop_cons 0 (by omega :i < s.length),GM aj aj]),ag⟩
 rintro ap ah ⟨k,hk,an,aO,a2,a5⟩;refine bH a5<|ak fun aa=>aw (str s)<|aw (.int .i64 k)<|p (fC u9 ag ag aj)<|e<|cl IJ (PL A C (acc) (s.getD k 0) _ an aj) ag ?_;rintro bc bg ⟨rfl,aK,aN,aR,ba⟩;exact nl<|aa<|ext<|be<|bn<|Z<|rg ag<|aw (.int .i64 k)<|p (ad ag ag<|cR aj)<|p aJ<|nl<|tn<|⟨_,aj,k+1,acc++ [s.getD k 0],aK,(by rw [bP,fE]; omega),aN,(an.step aO aR aj),a2,ag,ag⟩
 refine ext<|bj<|bj<|be<|aC<|ak fun Z=>e<|cl CU (Gn A C acc _ E aj) ag ?_;rintro bd bh ⟨rfl,aS⟩;exact p aJ<|p aJ<|p aJ<|az<|Z<|rt<|f4 ag ag ag ag ag<|⟨by rw [← hd,iS aj,BI]; rfl,E.Gl G aS aj⟩
theorem Z6 (s:List UInt8) (w:World) (hs:s.length≤1048576):
 bw aE 194 (bl [str s]) w (fun v w'=>v= .tuple #[str (letE s).1,.int .i64 (letE s).2]∧Wk w w'):=by
 refine enter func194 ag ntmps194 ag<|ak fun aD=>p aJ<|az<|aD<|ak fun aL=>e<|al aeK fun aa a7 a9 J au=> ?_;have aV:bX a7.heap aa (marksOf []):=by rw [aao]; exact au
 refine nl<|aL<|aH fun aM=>ak fun aN=>aw (str s)<|p (ew ag ag)<|nl<|aN<|cd ag (fun ao=> ?_) fun ao=> ?_;exact ak fun Z=>p aJ<|az<|Z<|rt<|tr<|f2 ag ag ag<|⟨by show ij #[str [],.int .i64 21]=_; unfold letE; rw [if_pos (.inl ao)]; rfl,J.md⟩
 refine aT<|aM<|ak fun Z=>e<|hU PO fun I bk bb aB aX=>nl<|Z<|aH fun aO=>ak fun aP=>aw (str s)<|p (c8 u9 ag ag)<|p mv<|nl<|aP<|aW ?_;have ba:=au.lt;refine lp (fun aq aC V=> ∃ (i:Nat) (A:Value),(i≤s.length)∧(∀ j,j < i→jy (s.getD j 0)=true)∧(bX V.heap aa<|marksOf<|lets<|s.take i)∧(Bd 309 5 V I A<|lets<|s.take i)∧(Wk w V)∧(Sl aC [(0,str s),(4,a6 aa),(5,a6 I),(10,.int .i64 s.length),(11,.int .i64 i)])∧(s.length - i=aq)) _ ⟨0,.slice none 0 0,aj,(fun j ap=>by omega),(aB.md.B aV),(Bd.new aX),(Md.trans J.md aB.md),ag,ag⟩ ?_;rintro aq aC V ⟨i,A,hi,hp,aA,ac,ai,a4,rfl⟩;refine bH a4 ?_;have a3:=ER<|s.take i;rw [dM] at a3;have bc:=aA.lt;refine ak fun aQ=>p (lt ag ag)<|nl<|aQ<|aH fun aR=>cd ag (fun a2=> ?_) fun a2=> ?_;refine aT<|aR<|aH fun G=>aW<|ak fun aF=>aw (.int .i64 i)<|p (cV (.int .i64 i) ag)<|nl<|aF<|aH fun aG=>ak fun aI=>aw (str s)<|aw (.int .i64 i)<|p (fC u9 ag ag aj)<|e<|cl IK (KW (s.getD i 0) _) ag ?_;rintro v17 a5 ⟨rfl,C⟩;refine p (no ag)<|nl<|aI<|cb ag (fun am=> ?_) fun am=> ?_;have O:jy (s.getD i 0)=false :=by simpa using am
 exact ak fun Y=>p aJ<|az<|Y<|rt<|tr<|br<|tr<|tr<|br<|tr<|f2 ag ag ag<|⟨by show ij #[str [],.int .i64 21]=_; unfold letE; rw [if_pos (.inr<|uQ aj O)]; rfl,Md.trans ai C⟩
 have O:jy (s.getD i 0)=true :=by simpa using am
 have av:Wk w a5:=Md.trans ai C;have ab:=C.B aA;have ah:=ac.md C fun _ _ h=>h;have bf:=C.size;refine aT<|aG<|ak fun Y=>aw (str s)<|aw (.int .i64 i)<|p (fC u9 ag ag aj)<|p (kT H6 ag ag<|by have :=jJ (s.getD i 0); omega)<|p (ld nC ag<|aaq ab _)<|p (no ag)<|nl<|Y<|cb ag (fun an=> ?_) fun an=> ?_;have E:¬s.getD i 0∈lets (s.take i):=of_decide_eq_false<|by simpa using an
 refine ak fun aK=>aw (str s)<|aw (.int .i64 i)<|p (fC u9 ag ag aj)<|p (kT H6 ag ag<|by have :=jJ (s.getD i 0); omega)<|e<|st JS ag ag (ag) (ab) (by rw [M1]; have :=jJ (s.getD i 0); omega) fun a8 ax aU=> ?_;have a1:=aar aU;have aZ:Wk w a8:=Md.trans' av ax fun k hk h=>by omega
 have ae:=ah.md ax fun k hk h=>by have :=ah.j0 hk; omega
 refine nl<|aK<|rg ag<|aw (str s)<|aw (.int .i64 i)<|p (fC u9 ag ag aj)<|e<|cl IJ (PL I A (lets<|s.take i) (s.getD i 0) _ ae aj) ag ?_;rintro v32 bh ⟨rfl,aS,aY,ay,bd⟩;exact nl<|bn<|G<|rg ag<|p (ad ag ag<|cR aj)<|p mv<|nl<|tn<|⟨_,aj,i+1,aS,aj,(fun j ap=>by rcases fT j i with h | h <;> first | exact hp j h | (rw [show j=i by omega]; exact O)),(by rw [sF aj,if_neg E]; exact ay.B a1 fun h=>by have :=ae.j0 h; omega),(by rw [sF aj,if_neg E]; exact aY),(ae.step aZ ay<|by have :=J.md.size; omega),ag,ag⟩
 have E:s.getD i 0∈lets (s.take i):=by simpa using an
 exact aT<|bn<|G<|rg ag<|p (ad ag ag<|cR aj)<|p mv<|nl<|tn<|⟨_,aj,i+1,A,aj,(fun j ap=>by rcases fT j i with h | h <;> first | exact hp j h | (rw [show j=i by omega]; exact O)),(by rw [sF aj,if_pos E]; exact ab),(by rw [sF aj,if_pos E]; exact ah),av,ag,ag⟩
 refine ext<|bj<|bj<|be<|aO<|ak fun G=>e<|cl CU (Gn I A (lets<|s.take i) _ ac<|by have :=ER (s.take i); rw [dM] at this; omega) ag ?_;rintro bg bi ⟨rfl,a0⟩;exact p aJ<|az<|G<|rt<|f2 ag ag ag<|⟨by show ij #[str (lets<|s.take i),.int .i64 0]=_; unfold letE; rw [if_neg (by rw [xh (fun j ap=>hp j aj)]; exact fun h=>h.elim ao eA),show s.take i=s from eK aj]; rfl,ac.Gl ai a0<|by have :=J.md.size; omega⟩
end Go.Hb
end
section
namespace Go.Hb
open Go.Hb.dX
theorem As {s:List UInt8} (h:¬s= []) (h1:¬(1 < s.length∧(s.getD 0 0).toNat=48)):¬sy s:=fun A=>A.elim h h1
theorem NQ {s:List UInt8} (h:¬sy s):0 < s.length:=mr.2 fun e=>h<|.inl e
theorem AM (s:List UInt8) (most:Int) (w:World) (hs:s.length≤1048576) (hm: -9223372036854775808≤most∧most≤9223372036854775807):
 bw aE 137 (bl [str s,.int .i64 most]) w (fun v w'=>v= .tuple #[.int .i64 (eE s most).1,.int .i64 (eE s most).2]∧Wk w w'):=by
 refine enter func137 ag ntmps137 ag<|ak fun ah=>p aJ<|az<|ah ?_;refine ez (fun ae V=>(¬sy s)∧(V=w)∧(Sl ae [(0,str s),(1,.int .i64 most)])) ?_ ?_;refine ak fun C=>aw (str s)<|p (ew ag ag)<|p mv<|gs (t:=11) ag (fun I=> ?_) fun I=> ?_;exact aQ ag<|aQ ag<|aQ ag<|aQ ag<|eC ag<|eC ag<|eC ag<|aQ ag<|p (bI ag)<|nl<|C<|ct ag<|ak fun E=>p aJ<|p aJ<|nl<|E<|rt<|tr<|f2 ag ag ag<|⟨by show ij #[.int .i64 0,.int .i64 13]=_; rw [AL (.inl I)]; rfl,Md.refl _ _⟩
 refine aV ag (a8 (str s) ag)<|aV ag (c8 u9 ag ag)<|aV ag (gt ag ag)<|aV ag mv<|gs (t:=15) ag (fun aC=> ?_) fun aC=> ?_;refine aV ag (a8 (str s) ag)<|aV ag (jQ 0 u9 ag ag aj)<|aV ag (bT ag ag)<|aV ag (bI ag)<|p (bD ag)<|nl<|C<|cd ag (fun av=> ?_) fun av=> ?_;exact ak fun E=>p aJ<|az<|E<|rt<|tr<|f2 ag ag ag<|⟨by show ij #[.int .i64 0,.int .i64 13]=_; rw [AL (.inr ⟨aj,aj⟩)]; rfl,Md.refl _ _⟩
 have J:=As (s:=s) I aj;exact aT<|tn<|⟨J,ag,ag⟩
 exact aQ ag<|aQ ag<|aQ ag<|aV ag (bD ag)<|p (bD ag)<|nl<|C<|cf ag<|aT<|tn<|⟨(As (s:=s) I aj),ag,ag⟩
 rintro ae V ⟨J,aq,aI⟩;refine bH aI ?_;subst aq;have hp:=NQ J;refine ak fun C=>az<|C<|aH fun E=>ak fun al=>aw (str s)<|p (c8 u9 ag ag)<|p mv<|nl<|al<|aW<|lp (fun Z Y ac=> ∃ (i:Nat),(i≤s.length)∧(ac=V)∧((fA (s.take i):Int)≤max 0 most∧(0 < i→(fA (s.take i):Int)≤most))∧(∀ j,j < i→se (s.getD j 0)=true)∧(Y 6=ay (fA<|s.take i))∧(Sl Y [(0,str s),(1,.int .i64 most),(22,.int .i64 s.length),(23,.int .i64 i)])∧(s.length - i=Z)) _ ⟨0,aj,ag,(by rw [oq]; show (0:Int)≤_∧_; omega),(fun j ab=>by omega),(iv<|by first | rfl | (rw [oH aj])),ag,ag⟩ ?_;rintro Z Y ac ⟨i,hi,au,hn,aa,aL,aK,rfl⟩;refine bH aK<|fx 6 aL ?_;subst au;have aM:=jJ<|s.getD i 0;refine ak fun am=>p (lt ag ag)<|nl<|am<|aH fun an=>cd ag (fun ax=> ?_) fun ax=> ?_;refine aT<|an<|aH fun O=>aW<|ak fun ao=>aw (.int .i64 i)<|p (cV (.int .i64 i) ag)<|nl<|ao<|ak fun ap=>aw (str s)<|aw (.int .i64 i)<|p (fC u9 ag ag aj)<|p (zB u3 rE ag<|cR aj)<|p (sb ag ag<|cR aj)<|az<|ap<|aH fun ai=>ak fun G=>p mv<|p (lt ag ag)<|p mv<|gs (t:=33) ag (fun aD=> ?_) fun aD=> ?_;refine aQ ag<|aQ ag<|p (bI ag)<|p mv<|aQ ag<|aQ ag<|aQ ag<|p (bI ag)<|p mv<|aQ ag<|aQ ag<|aQ ag<|aQ ag<|aQ ag<|aQ ag<|p (bI ag)<|nl<|G<|ct ag<|ak fun A=>p aJ<|p aJ<|nl<|A<|rt<|tr<|br<|tr<|tr<|br<|tr ?_;exact f2 ag ag ag<|⟨by show ij #[.int .i64 0,.int .i64 13]=_; rw [AK (i:=i) aj (zK aj)]; rfl,Md.refl _ _⟩
 refine aV ag mv<|aV ag (gt ag ag)<|p (bD ag)<|p mv<|gs (t:=37) ag (fun aF=> ?_) fun aF=> ?_;exact aQ ag<|aQ ag<|aQ ag<|p (bI ag)<|p mv<|aQ ag<|aQ ag<|aQ ag<|aQ ag<|aQ ag<|aQ ag<|p (bI ag)<|nl<|G<|ct ag<|aH fun A=>rg ag<|p aJ<|az<|A<|rt<|tr<|br<|tr<|tr<|br<|tr<|f2 ag ag ag<|⟨by show ij #[.int .i64 0,.int .i64 13]=_; rw [AK (i:=i) aj (zK aj)]; rfl,Md.refl _ _⟩
 refine aV ag (a8 (.int .i64 most) ag)<|aV ag mv<|aV ag (lt ag ag)<|p (bD ag)<|p mv<|gs (t:=42) ag (fun aG=> ?_) fun aG=> ?_;refine aQ ag<|aQ ag<|aQ ag<|aQ ag<|aQ ag<|aQ ag<|p (bI ag)<|nl<|G<|ct ag<|ak fun A=>p aJ<|az<|A ?_;exact rt<|tr<|br<|tr<|tr<|br<|tr<|f2 ag ag ag<|⟨by show ij #[.int .i64 0,.int .i64 13]=_; rw [x4 (i+1) (by rw [oH aj]; omega)]; rfl,Md.refl _ _⟩
 have aN:((s.getD i 0).toNat:Int) - 48≤most:=aj;refine aV ag (a8 (ay<|fA<|s.take i) ag)<|aV ag (a8 (.int .i64 most) ag)<|aV ag mv<|aV ag (sb ag ag<|cR aj)<|aV ag (qw (((most - (((s.getD i 0).toNat:Int) - 48)).toNat / 10:Nat):Int) ag ag aj<|bp aj aj)<|aV ag (gt ag ag)<|p (bD ag)<|nl<|G<|cd ag (fun aA=> ?_) fun aA=> ?_;exact ak fun A=>p aJ<|az<|A<|rt<|tr<|br<|tr<|tr<|br<|tr<|f2 ag ag ag<|⟨by show ij #[.int .i64 0,.int .i64 13]=_; rw [x4 (i+1) (by rw [oH aj]; omega)]; rfl,Md.refl _ _⟩
 have aB:se (s.getD i 0)=true :=decide_eq_true aj;exact aT<|ai<|rg ag<|aw (ay<|fA<|s.take i)<|p (qs ((fA (s.take i)*10:Nat):Int) ag ag<|bp aj aj)<|p mv<|p (bJ ((fA (s.take i)*10 +((s.getD i 0).toNat - 48):Nat):Int) ag ag<|bp aj aj)<|p aJ<|nl<|bn<|O<|rg ag<|p (ad ag ag<|cR aj)<|p mv<|nl<|tn<|⟨_,aj,i+1,aj,ag,(by rw [oH aj]; omega),(fun j ab=>by rcases fT j i with h | h <;> first | exact aa j h | (rw [show j=i by omega]; exact aB)),(iv<|by first | rfl | (rw [oH aj])),ag,ag⟩
 exact ext<|bj<|bj<|be<|E<|ak fun O=>aw (ay<|fA<|s.take i)<|p (cV (ay<|fA<|s.take i) ag)<|az<|O<|rt<|f2 ag ag ag<|⟨by show ij #[ay (fA<|s.take i),.int .i64 0]=_; rw [show s.take i=s from eK aj,Fc J (fun j ab=>aa j aj) (by rw [show s.take i=s from eK aj] at hn; omega)],Md.refl _ _⟩
theorem tQ (s:List UInt8) (most:Int) (w:World) (hs:s.length≤1048576) (hm: -9223372036854775808≤most∧most≤9223372036854775807):
 bw aE 99 (bl [str s,.int .i64 most]) w (fun v w'=>v= .tuple #[.int .i64 (eE s most).1,.int .i64 (eE s most).2]∧Wk w w'):=by
 refine enter func99 ag ntmps99 ag<|ak fun aq=>p aJ<|az<|aq ?_;refine ez (fun ao ae=>(¬sy s)∧(ae=w)∧(Sl ao [(0,str s),(1,.int .i64 most)])) ?_ ?_;refine ak fun C=>aw (str s)<|p (c8 u9 ag ag)<|p (bT ag ag)<|p mv<|gs (t:=13) ag (fun ac=> ?_) fun ac=> ?_;exact aQ ag<|aQ ag<|aQ ag<|aQ ag<|eC ag<|eC ag<|eC ag<|aQ ag<|p (bI ag)<|nl<|C<|ct ag<|ak fun E=>p aJ<|p aJ<|nl<|E<|rt<|tr<|f2 ag ag ag<|⟨by show ij #[.int .i64 0,.int .i64 13]=_; rw [AL (.inl<|yP.1 aj)]; rfl,Md.refl _ _⟩
 refine aV ag (a8 (str s) ag)<|aV ag (c8 u9 ag ag)<|aV ag (gt ag ag)<|aV ag mv<|gs (t:=17) ag (fun aO=> ?_) fun aO=> ?_;refine aV ag (a8 (str s) ag)<|aV ag (jQ 0 u9 ag ag aj)<|aV ag (bT ag ag)<|aV ag (bI ag)<|p (bD ag)<|nl<|C<|cd ag (fun aF=> ?_) fun aF=> ?_;exact ak fun E=>p aJ<|az<|E<|rt<|tr<|f2 ag ag ag<|⟨by show ij #[.int .i64 0,.int .i64 13]=_; rw [AL (.inr ⟨aj,aj⟩)]; rfl,Md.refl _ _⟩
 exact aT<|tn<|⟨(As (s:=s) (fun e=>by subst e; exact ac ag) aj),ag,ag⟩
 exact aQ ag<|aQ ag<|aQ ag<|aV ag (bD ag)<|p (bD ag)<|nl<|C<|cf ag<|aT<|tn<|⟨(As (s:=s) (fun e=>by subst e; exact ac ag) aj),ag,ag⟩
 rintro ao ae ⟨al,aB,aU⟩;refine bH aU ?_;subst aB;have hp:=NQ al;refine ak fun C=>az<|C<|aH fun E=>ak fun av=>az<|av<|aW<|lp (fun I ap ah=> ∃ (i:Nat),(i≤s.length)∧(ah=ae)∧(∀ j,j < i→se (s.getD j 0)=true)∧(Sl ap [(0,str s),(1,.int .i64 most),(6,.int .i64 0),(7,.int .i64 i)])∧(s.length - i=I)) _ ⟨0,aj,ag,(fun j am=>by omega),ag,ag⟩ ?_;rintro I ap ah ⟨i,hi,aC,J,aX,rfl⟩;refine bH aX ?_;subst aC;refine aH fun ax=>ak fun aA=>aw (.int .i64 i)<|aw (str s)<|p (c8 u9 ag ag)<|p (lt ag ag)<|nl<|aA<|cd ag (fun aG=> ?_) fun aG=> ?_;refine aT<|ax<|aH fun ab=>aW<|ak fun V=>aw (str s)<|aw (.int .i64 i)<|p (fC u9 ag ag aj)<|p (lt ag ag)<|p mv<|gs (t:=33) ag (fun aP=> ?_) fun aP=> ?_;exact aQ ag<|aQ ag<|aQ ag<|aQ ag<|p (bI ag)<|nl<|V<|ct ag<|ak fun G=>p aJ<|az<|G<|rt<|br<|tr<|tr<|br<|tr<|f2 ag ag ag<|⟨by show ij #[.int .i64 0,.int .i64 13]=_; rw [AK (i:=i) aj (zK aj)]; rfl,Md.refl _ _⟩
 refine aV ag (a8 (str s) ag)<|aV ag (a8 (.int .i64 i) ag)<|aV ag (fC u9 ag ag aj)<|aV ag (gt ag ag)<|p (bD ag)<|nl<|V<|cd ag (fun aI=> ?_) fun aI=> ?_;exact ak fun G=>p aJ<|az<|G<|rt<|br<|tr<|tr<|br<|tr<|f2 ag ag ag<|⟨by show ij #[.int .i64 0,.int .i64 13]=_; rw [AK (i:=i) aj (zK aj)]; rfl,Md.refl _ _⟩
 have aN:se (s.getD i 0)=true :=decide_eq_true aj;exact aT<|bn<|ab<|rg ag<|aw (.int .i64 i)<|p (ad ag ag<|cR aj)<|p aJ<|nl<|tn<|⟨_,aj,i+1,aj,ag,(fun j am=>by rcases fT j i with h | h <;> first | exact J j h | (rw [show j=i by omega]; exact aN)),ag,ag⟩
 refine ext<|bj<|bj<|be<|E<|aH fun ab=>ak fun V=>az<|V<|aW<|lp (fun I ai an=> ∃ (j:Nat),(j≤s.length)∧(an=ah)∧(fA (s.take j)≤9223372036854775807)∧(ai 6=ay (fA<|s.take j))∧(Sl ai [(0,str s),(1,.int .i64 most),(8,.int .i64 j)])∧(s.length - j=I)) _ ⟨0,aj,ag,(by rw [oq]; exact Nat.zero_le _),(iv<|by first | rfl | (rw [oH aj])),ag,ag⟩ ?_;rintro I ai an ⟨j,am,aD,hn,aZ,aY,rfl⟩;refine bH aY<|fx 6 aZ ?_;subst aD;refine aH fun G=>ak fun au=>aw (.int .i64 j)<|aw (str s)<|p (c8 u9 ag ag)<|p (lt ag ag)<|nl<|au<|cd ag (fun aK=> ?_) fun aK=> ?_;refine aT<|G<|aH fun O=>aW<|aH fun Y=> ?_;have a0:=Dx<|J j aj;refine rg ag<|aw (str s)<|aw (.int .i64 j)<|p (fC u9 ag ag aj)<|p (sb ag ag<|vX aj)<|p (zB u3 rE ag<|cR aj)<|p aJ<|nl<|Y<|aH fun A=>ak fun Z=>aw (ay<|fA<|s.take j)<|p (gt ag ag)<|p mv<|gs (t:=52) ag (fun aR=> ?_) fun aR=> ?_;refine aQ ag<|aQ ag<|aQ ag<|eC ag<|eC ag<|aQ ag<|p (bI ag)<|nl<|Z<|ct ag<|ak fun aa=>p aJ<|az<|aa ?_;exact rt<|tr<|br<|tr<|tr<|br<|tr<|f2 ag ag ag<|⟨by show ij #[.int .i64 0,.int .i64 13]=_; rw [x4 (j+1) (by rw [oH aj]; omega)]; rfl,Md.refl _ _⟩
 refine aV ag (a8 (ay<|fA<|s.take j) ag)<|aV ag (bT ag ag)<|aV ag mv<|gs (t:=55) ag (fun aS=> ?_) fun aS=> ?_;refine aV ag mv<|aV ag (gt ag ag)<|aV ag (bI ag)<|p (bD ag)<|nl<|Z<|cd ag (fun aL=> ?_) fun aL=> ?_;exact ak fun aa=>p aJ<|az<|aa<|rt<|tr<|br<|tr<|tr<|br<|tr<|f2 ag ag ag<|⟨by show ij #[.int .i64 0,.int .i64 13]=_; rw [x4 (j+1) (by rw [oH aj]; omega)]; rfl,Md.refl _ _⟩
 exact aT<|A<|rg ag<|aw (ay<|fA<|s.take j)<|p (qs ((fA (s.take j)*10:Nat):Int) ag ag<|bp aj aj)<|p mv<|p (bJ ((fA (s.take j)*10 +((s.getD j 0).toNat - 48):Nat):Int) ag ag<|bp aj aj)<|p aJ<|nl<|bn<|O<|rg ag<|aw (.int .i64 j)<|p (ad ag ag<|cR aj)<|p aJ<|nl<|tn<|⟨_,aj,j+1,aj,ag,(by have :=Dx (J j aj); rw [oH aj]; omega),(iv<|by first | rfl | (rw [oH aj])),ag,ag⟩
 refine aQ ag<|aQ ag<|aV ag (bD ag)<|p (bD ag)<|nl<|Z<|cf ag<|aT<|A<|rg ag<|aw (ay<|fA<|s.take j)<|p (qs ((fA (s.take j)*10:Nat):Int) ag ag<|bp aj aj)<|p mv<|p (bJ ((fA (s.take j)*10 +((s.getD j 0).toNat - 48):Nat):Int) ag ag<|bp aj aj)<|p aJ<|nl ?_;exact bn<|O<|rg ag<|aw (.int .i64 j)<|p (ad ag ag<|cR aj)<|p aJ<|nl<|tn<|⟨_,aj,j+1,aj,ag,(by have :=Dx (J j aj); rw [oH aj]; omega),(iv<|by first | rfl | (rw [oH aj])),ag,ag⟩
 refine ext<|bj<|bj<|be<|ab<|aH fun O=>ak fun Y=>aw (ay<|fA<|s.take j)<|aw (.int .i64 most)<|p (gt ag ag)<|nl<|Y<|cd ag (fun aM=> ?_) fun aM=> ?_;exact ak fun A=>p aJ<|az<|A<|rt<|tr<|f2 ag ag ag<|⟨by show ij #[.int .i64 0,.int .i64 13]=_; rw [x4 j aj]; rfl,Md.refl _ _⟩
 exact aT<|O<|ak fun A=>aw (ay<|fA<|s.take j)<|p (cV (ay<|fA<|s.take j) ag)<|p aJ<|nl<|A<|rt<|f2 ag ag ag<|⟨by show ij #[ay (fA<|s.take j),.int .i64 0]=_; rw [show s.take j=s from eK aj,Fc al (fun q a1=>J q aj) (by rw [show s.take j=s from eK aj] at*; omega)],Md.refl _ _⟩
end Go.Hb
end
section
namespace Go.Hb
open Go.Hb.dX
theorem FE {s pr:List UInt8} (h:s.take pr.length=pr):pr.length≤s.length:=by
 have :=congrArg List.length h;rw [dM] at this; omega
theorem adw {s:List UInt8} (h:decide (1≤s.length∧s.drop (s.length - 1)= [13])=true):ko s=s.take (s.length - 1):=by
 have h1:=of_decide_eq_true h;rw [MK aj] at h1;exact Kn aj<|by simpa using h1.2
theorem ady {s:List UInt8} (h:decide (1≤s.length∧s.drop (s.length - 1)= [13])=false):ko s=s:=by
 have h1:=of_decide_eq_false h;refine DC fun h2=>h1 ⟨aj,?_⟩;rw [MK aj,h2.2]
theorem ZB (c:UInt8):fP c [c]=0:=by unfold fP; simp
theorem Ey (s pr:List UInt8) (w:World) (hs:s.length≤1099511627776) (hp:pr.length≤1099511627776):
 bw aE 217 (bl [str s,str pr]) w (fun v w'=>v= .bool (decide (s.take pr.length=pr))∧Wk w w'):=by
 refine enter func217 ag ntmps217 ag<|ak fun C=>az<|C<|ak fun A=>aw (str s)<|p (c8 u9 ag ag)<|aw (str pr)<|p (c8 u9 ag ag)<|p (ge ag ag)<|p mv<|gs (t:=10) ag (fun E=> ?_) fun E=> ?_;exact aV ag (a8 (str s) ag)<|aV ag (a8 (str pr) ag)<|aV ag (c8 u9 ag ag)<|aV ag (sQ u9 ag ag aj)<|aV ag (a8 (str pr) ag)<|aV ag (ew ag ag)<|p (bI ag)<|p aJ<|nl<|A<|rt<|ba ag<|⟨ag,Md.refl _ _⟩
 exact aQ ag<|aQ ag<|aQ ag<|aQ ag<|aQ ag<|aQ ag<|p (bD ag)<|p aJ<|nl<|A<|rt<|ba ag<|⟨by show cy false =_; rw [decide_eq_false (fun h=>by have :=FE h; omega)],Md.refl _ _⟩
theorem adO (s pr:List UInt8) (w:World) (hs:s.length≤1099511627776) (hp:pr.length≤1099511627776):
 bw aE 210 (bl [str s,str pr]) w (fun v w'=>v=str (gB s pr)∧Wk w w'):=by
 refine enter func210 ag ntmps210 ag<|ak fun I=>az<|I<|aH fun J=>ak fun O=>aw (str s)<|aw (str pr)<|e<|cl CV (Ey s pr _ hs hp) ag ?_;rintro Y Z ⟨rfl,G⟩;refine nl<|O<|cb ag (fun E=> ?_) fun E=> ?_;have A:=of_decide_eq_true E;have V:=FE A;exact ak fun C=>aw (str s)<|aw (str pr)<|p (c8 u9 ag ag)<|p (ni u9 ag ag aj)<|p aJ<|nl<|C<|rt<|tr<|ba ag<|⟨by show str (s.drop (pr.length:Int).toNat)=_; unfold gB; rw [if_pos A]; rfl,G⟩
 have A:=of_decide_eq_false E;exact aT<|J<|ak fun C=>aw (str s)<|p (cV (str s) ag)<|nl<|C<|rt<|ba ag<|⟨by show str s=_; unfold gB; rw [if_neg A],G⟩
theorem Pa (s pr:List UInt8) (w:World) (hs:s.length≤1099511627776) (hp:pr.length≤1099511627776):
 bw aE 146 (bl [str s,str pr]) w (fun v w'=>v=str (gB s pr)∧Wk w w'):=by
 refine enter func146 ag ntmps146 ag<|ak fun A=>az<|A<|ak fun C=>aw (str s)<|aw (str pr)<|e<|cl Tc (adO s pr _ hs hp) ag ?_;rintro G I ⟨rfl,E⟩;exact az<|C<|rt<|ba ag<|⟨ag,E⟩
theorem Aq (s pr:List UInt8) (w:World) (hs:s.length≤1099511627776) (hp:pr.length≤1099511627776):
 bw aE 216 (bl [str s,str pr]) w (fun v w'=>v= .bool (decide (pr.length≤s.length∧s.drop (s.length - pr.length)=pr))∧Wk w w'):=by
 refine enter func216 ag ntmps216 ag<|ak fun C=>az<|C<|ak fun A=>aw (str s)<|p (c8 u9 ag ag)<|aw (str pr)<|p (c8 u9 ag ag)<|p (ge ag ag)<|p mv<|gs (t:=10) ag (fun E=> ?_) fun E=> ?_;exact aV ag (a8 (str s) ag)<|aV ag (a8 (str s) ag)<|aV ag (c8 u9 ag ag)<|aV ag (a8 (str pr) ag)<|aV ag (c8 u9 ag ag)<|aV ag (sb ag ag<|cR aj)<|aV ag (ni u9 ag ag aj)<|aV ag (a8 (str pr) ag)<|aV ag (ew ag ag)<|p (bI ag)<|az<|A<|rt<|ba ag<|⟨by show cy (decide (s.drop ((s.length:Int) - (pr.length:Int)).toNat=pr))=_; rw [show ((s.length:Int) - (pr.length:Int)).toNat=s.length - pr.length from by omega]; exact bv (by constructor <;> intro h <;> first | exact ⟨aj,h⟩ | exact h.2),Md.refl _ _⟩
 exact aQ ag<|aQ ag<|aQ ag<|aQ ag<|aQ ag<|aQ ag<|aQ ag<|aQ ag<|aQ ag<|p (bD ag)<|az<|A<|rt<|ba ag<|⟨by show cy false =_; rw [decide_eq_false aj],Md.refl _ _⟩
theorem adR (s:List UInt8) (w:World) (hs:s.length≤1099511627776):
 bw aE 209 (bl [str s,str [13]]) w (fun v w'=>v=str (ko s)∧Wk w w'):=by
 refine enter func209 ag ntmps209 ag<|ak fun G=>az<|G<|aH fun I=>ak fun J=>aw (str s)<|aw (str [13])<|e<|cl zn (Aq s [13] _ hs aM) ag ?_;rintro Y Z ⟨rfl,E⟩;refine nl<|J<|cb ag (fun A=> ?_) fun A=> ?_;have V:=(of_decide_eq_true A).1;have O:([13]:List UInt8).length=1:=rfl;exact ak fun C=>aw (str s)<|aw (str s)<|p (c8 u9 ag ag)<|aw (str [13])<|p (c8 u9 ag ag)<|p (sb ag ag<|cR aj)<|p (sQ u9 ag ag aj)<|az<|C<|rt<|tr<|ba ag<|⟨by show str (s.take ((s.length:Int) - (([13]:List UInt8).length:Int)).toNat)=_; rw [adw A,show ((s.length:Int) - (([13]:List UInt8).length:Int)).toNat=s.length - 1 from by simp only [fE]; omega],E⟩
 exact aT<|I<|ak fun C=>aw (str s)<|p (cV (str s) ag)<|nl<|C<|rt<|ba ag<|⟨by show str s=_; rw [ady A],E⟩
theorem adS (s:List UInt8) (w:World) (hs:s.length≤1099511627776):
 bw aE 145 (bl [str s,str [13]]) w (fun v w'=>v=str (ko s)∧Wk w w'):=by
 refine enter func145 ag ntmps145 ag<|ak fun A=>az<|A<|ak fun C=>aw (str s)<|aw (str [13])<|e<|cl IM (adR s _ hs) ag ?_;rintro G I ⟨rfl,E⟩;exact az<|C<|rt<|ba ag<|⟨ag,E⟩
theorem Mo (s:List UInt8) (c:UInt8) (w:World):
 bw aE 275 (bl [str s,.int .u8 c.toNat]) w (fun v w'=>v= .int .i64 (fP c s)∧Wk w w'):=by
 exact enter func275 ag ntmps275 ag<|ak fun A=>az<|A<|ak fun C=>aw (str s)<|aw (.int .u8 c.toNat)<|p (Jy (ZC s c _) ag)<|az<|C<|rt<|ba ag<|⟨ag,Md.refl _ _⟩
theorem Mn (s:List UInt8) (c:UInt8) (w:World):
 bw aE 263 (bl [str s,str [c]]) w (fun v w'=>v= .int .i64 (fP c s)∧Wk w w'):=by
 refine enter func263 ag ntmps263 ag<|ak fun E=>az<|E<|ak fun G=>aw (str [c])<|p (c8 u9 ag ag)<|az<|G<|aH fun V=>aW<|ak fun I=>p mv<|p (bT ag ag)<|p mv<|gs (t:=19) ag (fun h=>absurd h<|by simp) fun Z=>aV ag (a8 (str [c]) ag)<|aV ag (a8 (str s) ag)<|aV ag (ew ag ag)<|p (bD ag)<|az<|I<|cd ag (fun C=> ?_) fun C=> ?_;exact ak fun A=>az<|A<|rt<|br<|tr<|ba ag<|⟨by show Value.int .i64 0=_; rw [← C,ZB],Md.refl _ _⟩
 refine ak fun A=>p mv<|p (bT ag ag)<|az<|A<|cd ag (fun Y=> ?_) fun h=>absurd ag h;refine ak fun J=>aw (str s)<|aw (str [c])<|p (jQ 0 u9 ag ag<|by simp)<|e<|cl IZ (Mo s c _) ag ?_;rintro v30 aa ⟨rfl,O⟩;exact az<|J<|rt<|br<|tr<|ba ag<|⟨ag,O⟩
theorem Zm (s:List UInt8) (c:UInt8) (w:World):
 bw aE 299 (bl [str s,str [c]]) w (fun v w'=>v= .int .i64 (fP c s)∧Wk w w'):=by
 refine enter func299 ag ntmps299 ag<|ak fun A=>az<|A<|ak fun C=>aw (str s)<|aw (str [c])<|e<|cl IY (Mn s c _) ag ?_;rintro G I ⟨rfl,E⟩;exact az<|C<|rt<|ba ag<|⟨ag,E⟩
theorem VN (s:List UInt8) (c:UInt8) (w:World) (hs:s.length≤1099511627776):
 bw aE 232 (bl [str s,str [c]]) w (fun v w'=>v= .tuple #[str (nG c s),str (pH c s),.bool (!decide (fP c s < 0))]∧Wk w w'):=by
 refine enter func232 ag ntmps232 ag<|ak fun I=>p aJ<|p aJ<|az<|I<|aH fun J=>ak fun O=>aw (str s)<|aw (str [c])<|e<|cl IY (Mn s c _) ag ?_;rintro v10 E ⟨rfl,G⟩;refine az<|O<|ak fun V=>p mv<|p (ge ag ag)<|nl<|V<|cd ag (fun Y=> ?_) fun Y=> ?_;have Z:=tF (c:=c) (l:=s) aj;have aa:[c].length=1:=rfl;refine aH fun C=> ?_;have A:(fun w'=>Wk E w') E.drew:=(Md.refl _ _).drew;exact cj (fun w'=>Wk E w') ag wide A<|bQ 0 ag (str s) A<|aU 1 ag (mv) A<|aU 2 ag (sQ u9 ag ag aj) A<|bQ 3 ag (str s) A<|aU 4 ag (mv) A<|bQ 5 ag (str [c]) A<|aU 6 ag (c8 u9 ag ag) A<|aU 7 ag (bJ ((s.idxOf c+1:Nat):Int) ag ag<|bp aj aj) A<|aU 8 ag (ni u9 ag ag aj) A<|aU 9 ag (aJ) A<|aU 10 ag (aJ) A<|aU 11 ag (aJ) A<|hn au<|C<|rt<|tr<|f3 ag ag ag ag<|⟨by show ij #[str (s.take (fP c s).toNat),str (s.drop<|s.idxOf c+1),.bool true]=_; unfold nG pH; rw [if_neg aj,if_neg aj,Z.1,decide_eq_false aj]; rfl,Md.trans G (Md.refl _ _).drew⟩
 exact aT<|J<|ak fun C=>aw (str s)<|p (cV (str s) ag)<|p aJ<|p aJ<|nl<|C<|rt<|f3 ag ag ag ag<|⟨by show ij #[str s,str [],.bool false]=_; unfold nG pH; rw [if_pos aj,if_pos aj,decide_eq_true aj]; rfl,G⟩
theorem VQ (s:List UInt8) (c:UInt8) (w:World) (hs:s.length≤1099511627776):
 bw aE 190 (bl [str s,str [c]]) w (fun v w'=>v= .tuple #[str (nG c s),str (pH c s),.bool (!decide (fP c s < 0))]∧Wk w w'):=by
 refine enter func190 ag ntmps190 ag<|ak fun A=>p aJ<|p aJ<|az<|A<|aH fun C=>rg ag<|aw (str s)<|aw (str [c])<|e<|cl To (VN s c _ hs) ag ?_;rintro v9 G ⟨rfl,E⟩;exact p (xt ag ag)<|p (xt ag ag)<|p (xt ag ag)<|p aJ<|p aJ<|az<|C<|rt<|f3 ag ag ag ag<|⟨ag,E⟩
end Go.Hb
end
section
namespace Go.Hb
open Go.Hb.dX
theorem Zy (x:Nat) (w:World):
 bw aE 303 (bl [bA x]) w (fun v w'=>v= .bool false∧Wk w w'):=by
 exact enter func303 ag ntmps303 ag<|ak fun A=>az<|A<|ak fun C=>aw (bA x)<|aw (bA x)<|p (dw ag ag)<|az<|C<|rt<|ba ag<|⟨congrArg cy (decide_eq_false fun h=>h ag),Md.refl _ _⟩
theorem mW (x y:Nat) (w:World):
 bw aE 290 (bl [bA x,bA y]) w (fun v w'=>v= .bool (cT x y)∧Wk w w'):=by
 refine enter func290 ag ntmps290 ag<|ak fun A=>az<|A<|ak fun C=>aw (bA x)<|e<|cl TX (Zy x _) ag ?_;rintro v6 G ⟨rfl,E⟩;exact p mv<|aQ ag<|aQ ag<|aQ ag<|p (bD ag)<|p mv<|aV ag (a8 (bA x) ag)<|aV ag (a8 (bA y) ag)<|aV ag (lt ag ag)<|p (bD ag)<|az<|C<|rt<|ba ag<|⟨by show cy (decide ((x:Int) < (y:Int)))=_; unfold cT; exact congrArg cy (decide_eq_decide.2 aj),E⟩
theorem Zu (d:Array Nat) (a b:Nat) (B n cp:Nat) (C:Option Addr) (w:World) (hO:w.ownsRow B 95 1 (.slice C n cp) n (LE bA d)) (aX:a≤b∧b≤n) (a1:n≤1099511627776):
 bw aE 284 (bl [.slice C n cp,ay a,ay b]) w (fun v w'=>v= .tuple #[]∧w'.ownsRow B 95 1 (.slice C n cp) n (LE bA<|Qq cT d a b)∧Md (fun q=>(cg C n cp).ownBlock=some q) w w'):=by
 have aZ:=gd hO;refine enter func284 ag ntmps284 ag<|ak fun aA=>aw (ay a)<|p (bJ ((a+1:Nat):Int) ag ag<|bp aj aj)<|az<|aA<|aW<|lp (fun aa av al=> ∃ (i:Nat) (Z:Array Nat),(a+1≤i∧i≤n+1)∧(Go.Sort.insOuter cT a b i Z=Qq cT d a b)∧(al.ownsRow B 95 1 (.slice C n cp) n<|LE bA Z)∧(Md (fun q=>(cg C n cp).ownBlock=some q) w al)∧(Sl av [(0,.slice C n cp),(1,ay a),(2,ay b),(6,ay i)])∧(b - i=aa)) _ ⟨a+1,d,aj,ag,hO,(Md.refl _ _),ag,ag⟩ ?_;rintro aa av al ⟨i,Z,hi,ah,ap,ao,aS,rfl⟩;refine bH aS<|aH fun aB=>ak fun aC=>aw (ay i)<|aw (ay b)<|p (lt ag ag)<|nl<|aC<|cd ag (fun aO=> ?_) fun aO=> ?_;refine aT<|aB<|aH fun am=>aW<|ak fun aD=>aw (ay i)<|p (cV (ay i) ag)<|nl<|aD<|aW<|lp (fun aa ax V=> ∃ (j:Nat) (G:Array Nat),(a≤j∧j≤i)∧(Qp cT a j G=Qp cT a i Z)∧(V.ownsRow B 95 1 (.slice C n cp) n<|LE bA G)∧(Md (fun q=>(cg C n cp).ownBlock=some q) w V)∧(Sl ax [(0,.slice C n cp),(1,ay a),(2,ay b),(6,ay i),(7,ay j)])∧(j=aa)) _ ⟨i,Z,aj,ag,ap,ao,ag,ag⟩ ?_;rintro aa ax V ⟨j,G,a0,ai,J,ac,aV,rfl⟩;refine bH aV<|aH fun aF=>aH fun an=> ?_;have aY:=gd J;have A:(fun w'=>Wk V w') V.drew:=(Md.refl _ _).drew;refine cj (fun w'=>Wk V w') ag wide A<|bQ 0 ag (ay j) A<|bQ 1 ag (ay a) A<|aU 2 ag (gt ag ag) A<|aU 3 ag (mv) A<|iP (t:=19) ag (fun aN=> ?_) fun aN=> ?_;refine bm 4 ag (fun _ _=>a8 (.slice C n cp) ag) A<|bm 5 ag (fun _ _=>a8 (ay j) ag) A<|bm 6 ag (fun _ _=>bh cQ ag ag aj<|aR.ok ((bg J).2)<|cX aj) A<|bm 7 ag (fun w' I=>ld dA ag<|dY (i:=j) ((bg J).2.wk I) aj) A<|bm 8 ag (fun _ _=>a8 (.slice C n cp) ag) A<|bm 9 ag (fun _ _=>a8 (ay j) ag) A<|bm 10 ag (fun _ _=>ed ((j - 1:Nat):Int) ag ag<|bp aj aj) A<|bm 11 ag (fun _ _=>bh cQ ag ag aj<|aR.ok ((bg J).2)<|cX aj) A<|bm 12 ag (fun w' I=>ld dA ag<|dY (i:=j - 1) ((bg J).2.wk I) aj) A<|nM 13 ag au ag ag ag<|cl mS (mW G[j]! G[j - 1]! _) ag ?_;rintro a2 ab ⟨rfl,aI⟩;have Y:(fun w'=>Wk V w') ab:=Md.trans A aI;refine ⟨Y,?_⟩;refine aU 14 ag (bI ag) Y<|hn au<|an<|cb ag (fun ae=> ?_) fun ae=> ?_;refine aT<|aF<|aH fun aG=>aW ?_;have O:=bc J Y;have E:(fun w'=>Wk ab w') ab.drew:=(Md.refl _ _).drew;refine fj (fun w'=>Wk ab w') 15 ag wide E<|bM 0 ag (.slice C n cp) E<|bM 1 ag (ay j) E<|bM 2 ag (.slice C n cp) E<|bM 3 ag (ay j) E<|bR 4 ag (ed ((j - 1:Nat):Int) ag ag<|bp aj aj) E<|bM 5 ag (.slice C n cp) E<|bM 6 ag (ay j) E<|bR 7 ag (ed ((j - 1:Nat):Int) ag ag<|bp aj aj) E<|bR 8 ag (bh cQ ag ag aj<|aR.ok ((bg O).2)<|cX aj) E<|ej 9 ag (fun w' I=>ld dA ag<|dY (i:=j - 1) ((bg O).2.wk I) aj) E<|bM 10 ag (.slice C n cp) E<|bM 11 ag (ay j) E<|bR 12 ag (bh cQ ag ag aj<|aR.ok ((bg O).2)<|cX aj) E<|ej 13 ag (fun w' I=>ld dA ag<|dY (i:=j) ((bg O).2.wk I) aj) E<|bR 14 ag (bh cQ ag ag aj<|aR.ok ((bg O).2)<|cX aj) E ?_;refine eb 15 ag au au<|gW (u:=G[j - 1]!) (j) (bc O E) gU ag ag ag aj fun a3 aL aP=>kB 16 ag (fun _=>bh cQ ag ag aj<|aR.ok ((bg O).2)<|cX aj) (fun h=>eA<|(show true =_ from by kernel_rfl).trans h)<|eb 17 ag au au<|gW (u:=G[j]!) (j - 1) aP gU ag ag ag aj fun aq aM aQ=> ?_;have I:aq.ownsRow B 95 1 (.slice C n cp) n (LE bA<|dx G (j)<|j - 1):=aQ
 have aK:Md (fun q=>(cg C n cp).ownBlock=some q) ab aq:=Md.trans (E.mono fun _ _ h=>h.elim)<|Md.trans aL aM;exact fi au<|bn<|aG<|rg ag<|aw (ay j)<|p (ed ((j - 1:Nat):Int) ag ag<|bp aj aj)<|p aJ<|nl<|tn<|⟨_,aj,j - 1,dx G j (j - 1),aj,(by rw [← ai,Zr (show a < j by omega) ae]),I,(Md.trans ac<|Md.trans (Y.mono fun _ _ h=>h.elim) aK),ag,ag⟩
 exact ext<|bj<|bj<|be<|bn<|am<|rg ag<|aw (ay i)<|p (bJ ((i+1:Nat):Int) ag ag<|bp aj aj)<|p aJ<|nl<|tn<|⟨_,aj,i+1,G,aj,(by rw [← ah,Mr (show i < b by omega),← ai,Zs (by simpa using ae)]),(bc J Y),(Md.trans ac<|Y.mono fun _ _ h=>h.elim),ag,ag⟩
 exact bf 4 ag A<|bf 5 ag A<|bf 6 ag A<|bf 7 ag A<|bf 8 ag A<|bf 9 ag A<|bf 10 ag A<|bf 11 ag A<|bf 12 ag A<|bf 13 ag A<|aU 14 ag (bD ag) A<|hn au<|an<|cf ag<|ext<|bj<|bj<|be<|bn<|am<|rg ag<|aw (ay i)<|p (bJ ((i+1:Nat):Int) ag ag<|bp aj aj)<|p aJ<|nl<|tn<|⟨_,aj,i+1,G,aj,(by rw [← ah,Mr (show i < b by omega),← ai,Zt aj]),(bc J (Md.refl _ _).drew),ac.drew,ag,ag⟩
 exact ext<|bj<|bj<|be<|f0 ag<|⟨ag,by rw [← ah,Zq aj]; exact ap,ao⟩
theorem acK (d:Array Nat) (lo hi first :Nat) (B n cp:Nat) (E:Option Addr) (w:World) (hO:w.ownsRow B 95 1 (.slice E n cp) n (LE bA d)) (a1:lo≤hi∧first+hi≤n) (a3:n≤1099511627776):
 bw aE 300 (bl [.slice E n cp,ay lo,ay hi,ay first]) w (fun v w'=>v= .tuple #[]∧w'.ownsRow B 95 1 (.slice E n cp) n (LE bA<|s7 cT hi first lo d)∧Md (fun q=>(cg E n cp).ownBlock=some q) w w'):=by
 refine enter func300 ag ntmps300 ag<|ak fun aA=>aw (ay lo)<|p (cV (ay lo) ag)<|nl<|aA<|aW<|lp (fun ao ax aa=> ∃ (r:Nat) (G:Array Nat),(r≤hi)∧(s7 cT hi first r G=s7 cT hi first lo d)∧(aa.ownsRow B 95 1 (.slice E n cp) n<|LE bA G)∧(Md (fun q=>(cg E n cp).ownBlock=some q) w aa)∧(Sl ax [(0,.slice E n cp),(2,ay hi),(3,ay first),(8,ay r)])∧(hi - r=ao)) _ ⟨lo,d,aj,ag,hO,(Md.refl _ _),ag,ag⟩ ?_;rintro ao ax aa ⟨r,G,a4,an,O,ai,aY,rfl⟩;refine bH aY<|aW<|ak fun aB=>aw (ay r)<|p (qs ((2 *r:Nat):Int) ag ag<|bp aj aj)<|p (bJ ((2 *r+1:Nat):Int) ag ag<|bp aj aj)<|p aJ<|nl<|aB<|aH fun aC=>ak fun aD=>p mv<|aw (ay hi)<|p (ge ag ag)<|nl<|aD<|cd ag (fun aP=> ?_) fun aP=> ?_;exact ext<|bj<|qh aM<|bj<|be<|f0 ag<|⟨ag,by rw [← an,acI aj]; exact O,ai⟩
 refine aT<|aC ?_;refine ez (fun az Z=> ∃ (c:Nat),(r < c∧c < hi)∧(s7 cT hi first r G=if (!cT G[first+r]! G[first+c]!)=true then G else s7 cT hi first c (dx G (first+r)<|first+c))∧(Z.ownsRow B 95 1 (.slice E n cp) n<|LE bA G)∧(Md (fun q=>(cg E n cp).ownBlock=some q) w Z)∧(Sl az [(0,.slice E n cp),(2,ay hi),(3,ay first),(8,ay r),(9,ay c)])) ?_ ?_;refine aH fun ah=> ?_;have aQ:=gd O;have A:(fun w'=>Wk aa w') aa.drew:=(Md.refl _ _).drew;refine cj (fun w'=>Wk aa w') ag wide A<|aU 0 ag (mv) A<|aU 1 ag (bJ ((2 *r+1 +1:Nat):Int) ag ag<|bp aj aj) A<|bQ 2 ag (ay hi) A<|aU 3 ag (lt ag ag) A<|aU 4 ag (mv) A<|iP (t:=21) ag (fun aS=> ?_) fun aS=> ?_;refine bm 5 ag (fun _ _=>a8 (.slice E n cp) ag) A<|bm 6 ag (fun _ _=>a8 (ay first) ag) A<|bm 7 ag (fun _ _=>mv) A<|bm 8 ag (fun _ _=>bJ ((first+(2 *r+1):Nat):Int) ag ag<|bp aj aj) A<|bm 9 ag (fun _ _=>bh cQ ag ag aj<|aR.ok ((bg O).2)<|cX aj) A<|bm 10 ag (fun w' J=>ld dA ag<|dY (i:=first+(2 *r+1)) ((bg O).2.wk J) aj) A<|bm 11 ag (fun _ _=>a8 (.slice E n cp) ag) A<|bm 12 ag (fun _ _=>a8 (ay first) ag) A<|bm 13 ag (fun _ _=>mv) A<|bm 14 ag (fun _ _=>bJ ((first+(2 *r+1):Nat):Int) ag ag<|bp aj aj) A<|bm 15 ag (fun _ _=>bJ ((first+(2 *r+1)+1:Nat):Int) ag ag<|bp aj aj) A<|bm 16 ag (fun _ _=>bh cQ ag ag aj<|aR.ok ((bg O).2)<|cX aj) A<|bm 17 ag (fun w' J=>ld dA ag<|dY (i:=first+(2 *r+1)+1) ((bg O).2.wk J) aj) A<|nM 18 ag au ag ag ag<|cl mS (mW G[first+(2 *r+1)]! G[first+(2 *r+1)+1]! _) ag ?_;rintro v35 a0 ⟨rfl,aI⟩;have ab:(fun w'=>Wk aa w') a0:=Md.trans A aI;refine ⟨ab,?_⟩;refine aU 19 ag (bI ag) ab<|hn au<|ah<|cb ag (fun al=> ?_) fun al=> ?_;exact rg ag<|p mv<|p (bJ ((2 *r+2:Nat):Int) ag ag<|bp aj aj)<|p aJ<|nl<|tn<|⟨2 *r+2,aj,(acJ aj al),(bc O ab),(Md.trans ai<|ab.mono fun _ _ h=>h.elim),ag⟩
 exact aT<|tn<|⟨2 *r+1,aj,(Oz aj<|.inr al),(bc O ab),(Md.trans ai<|ab.mono fun _ _ h=>h.elim),ag⟩
 exact bf 5 ag A<|bf 6 ag A<|bf 7 ag A<|bf 8 ag A<|bf 9 ag A<|bf 10 ag A<|bf 11 ag A<|bf 12 ag A<|bf 13 ag A<|bf 14 ag A<|bf 15 ag A<|bf 16 ag A<|bf 17 ag A<|bf 18 ag A<|aU 19 ag (bD ag) A<|hn au<|ah<|cf ag<|aT<|tn<|⟨2 *r+1,aj,(Oz aj<|.inl aj),(bc O (Md.refl _ _).drew),ai.drew,ag⟩
 rintro az Z ⟨c,a2,aq,Y,ap,aZ⟩;refine bH aZ<|aH fun ah=>aH fun aF=> ?_;have aQ:=gd Y;have I:(fun w'=>Wk Z w') Z.drew:=(Md.refl _ _).drew;refine cj (fun w'=>Wk Z w') ag wide I<|bQ 0 ag (.slice E n cp) I<|bQ 1 ag (ay first) I<|bQ 2 ag (ay r) I<|aU 3 ag (bJ ((first+r:Nat):Int) ag ag<|bp aj aj) I<|aU 4 ag (bh cQ ag ag aj<|aR.ok ((bg Y).2)<|cX aj) I<|bS 5 ag (fun w' J=>ld dA ag<|dY (i:=first+r) ((bg Y).2.wk J) aj) I<|bQ 6 ag (.slice E n cp) I<|bQ 7 ag (ay first) I<|bQ 8 ag (ay c) I<|aU 9 ag (bJ ((first+c:Nat):Int) ag ag<|bp aj aj) I<|aU 10 ag (bh cQ ag ag aj<|aR.ok ((bg Y).2)<|cX aj) I<|bS 11 ag (fun w' J=>ld dA ag<|dY (i:=first+c) ((bg Y).2.wk J) aj) I<|he 12 ag au<|cl mS (mW G[first+r]! G[first+c]! _) ag ?_;rintro v51 ae ⟨rfl,aK⟩;have ac:(fun w'=>Wk Z w') ae:=Md.trans I aK;refine ⟨ac,?_⟩;refine aU 13 ag (no ag) ac<|hn au<|aF<|cb ag (fun am=> ?_) fun am=> ?_;exact rt<|tr<|br<|tr<|br<|si ag<|⟨ag,by rw [← an,aq,if_pos am]; exact bc Y ac,Md.trans ap<|ac.mono fun _ _ h=>h.elim⟩
 refine aT<|ah<|aH fun aG=> ?_;have V:=bc Y ac;have C:(fun w'=>Wk ae w') ae.drew:=(Md.refl _ _).drew;refine fj (fun w'=>Wk ae w') 21 ag wide C<|bM 0 ag (.slice E n cp) C<|bM 1 ag (ay first) C<|bM 2 ag (ay r) C<|bR 3 ag (bJ ((first+r:Nat):Int) ag ag<|bp aj aj) C<|bM 4 ag (.slice E n cp) C<|bM 5 ag (ay first) C<|bM 6 ag (ay c) C<|bR 7 ag (bJ ((first+c:Nat):Int) ag ag<|bp aj aj) C<|bM 8 ag (.slice E n cp) C<|bM 9 ag (ay first) C<|bM 10 ag (ay c) C<|bR 11 ag (bJ ((first+c:Nat):Int) ag ag<|bp aj aj) C<|bR 12 ag (bh cQ ag ag aj<|aR.ok ((bg V).2)<|cX aj) C<|ej 13 ag (fun w' J=>ld dA ag<|dY (i:=first+c) ((bg V).2.wk J) aj) C<|bM 14 ag (.slice E n cp) C<|bM 15 ag (ay first) C<|bM 16 ag (ay r) C<|bR 17 ag (bJ ((first+r:Nat):Int) ag ag<|bp aj aj) C<|bR 18 ag (bh cQ ag ag aj<|aR.ok ((bg V).2)<|cX aj) C<|ej 19 ag (fun w' J=>ld dA ag<|dY (i:=first+r) ((bg V).2.wk J) aj) C<|bR 20 ag (bh cQ ag ag aj<|aR.ok ((bg V).2)<|cX aj) C<|eb 21 ag au au<|gW (u:=G[first+c]!) (first+r) (bc V C) gU ag ag ag aj fun a5 aN aV=> ?_;refine kB 22 ag (fun _=>bh cQ ag ag aj<|aR.ok ((bg V).2)<|cX aj) (fun h=>eA<|(show true =_ from by kernel_rfl).trans h)<|eb 23 ag au au<|gW (u:=G[first+r]!) (first+c) aV gU ag ag ag aj fun av aO aX=> ?_;have J:av.ownsRow B 95 1 (.slice E n cp) n (LE bA<|dx G (first+r)<|first+c):=aX;have aL:Md (fun q=>(cg E n cp).ownBlock=some q) ae av:=Md.trans (C.mono fun _ _ h=>h.elim)<|Md.trans aN aO;exact fi au<|aG<|rg ag<|aw (ay c)<|p (cV (ay c) ag)<|nl<|bn<|tn<|⟨_,aj,c,dx G (first+r) (first+c),aj,(by rw [← an,aq,if_neg (by rw [am]; exact eA)]),J,(Md.trans ap<|Md.trans (ac.mono fun _ _ h=>h.elim) aL),ag,ag⟩
theorem OA (d:Array Nat) (lo hi first :Nat) (E C:Int) (B n cp:Nat) (A:Option Addr) (w:World) (hO:w.ownsRow B 95 1 (.slice A n cp) n (LE bA d)) (G:lo≤hi∧first+hi≤n) (J:E=(lo:Nat)) (I:C=(hi:Nat)) (O:n≤1099511627776):
 bw aE 300 (bl [.slice A n cp,.int .i64 E,.int .i64 C,.int .i64 (first :Nat)]) w (fun v w'=>v= .tuple #[]∧w'.ownsRow B 95 1 (.slice A n cp) n (LE bA<|s7 cT hi first lo d)∧Md (fun q=>(cg A n cp).ownBlock=some q) w w'):=by
 subst J I; exact acK d lo hi first B n cp A w hO G O
theorem Y7 (d:Array Nat) (a b:Nat) (B n cp:Nat) (A:Option Addr) (w:World) (hO:w.ownsRow B 95 1 (.slice A n cp) n (LE bA d)) (aY:a < b∧b≤n) (ae:n≤1099511627776):
 bw aE 285 (bl [.slice A n cp,ay a,ay b]) w (fun v w'=>v= .tuple #[]∧w'.ownsRow B 95 1 (.slice A n cp) n (LE bA<|Qo cT d a b)∧Md (fun q=>(cg A n cp).ownBlock=some q) w w'):=by
 refine enter func285 ag ntmps285 ag<|ak fun al=>aw (ay a)<|p (cV (ay a) ag)<|nl<|al<|ak fun ap=>az<|ap<|ak fun aq=>aw (ay b)<|aw (ay a)<|p (ed ((b - a:Nat):Int) ag ag<|bp aj aj)<|az<|aq<|aH fun av=>ak fun ax=>p mv<|p (ed ((b - a - 1:Nat):Int) ag ag<|bp aj aj)<|p (qw (((b - a - 1) / 2:Nat):Int) ag ag aj<|bp aj aj)<|az<|ax<|aW<|lp (fun J ab aa=> ∃ (k:Nat) (E:Array Nat),(k≤b - a)∧(Qn cT (b - a) a k E=Qn cT (b - a) a ((b - a - 1) / 2 +1) d)∧(aa.ownsRow B 95 1 (.slice A n cp) n<|LE bA E)∧(Md (fun q=>(cg A n cp).ownBlock=some q) w aa)∧(ab 9= .int .i64 ((k:Nat) - 1:Int))∧(Sl ab [(0,.slice A n cp),(6,ay a),(7,.int .i64 0),(8,ay (b - a))])∧(k=J)) _ ⟨(b - a - 1) / 2 +1,d,aj,ag,hO,(Md.refl _ _),(iv aj),ag,ag⟩ ?_;rintro J ab aa ⟨k,E,hk,Z,G,O,aU,aS,rfl⟩;refine bH aS<|fx 9 aU<|aH fun aA=>ak fun aB=>aw (.int .i64 ((k:Nat) - 1:Int))<|p (ge ag ag)<|nl<|aB<|cd ag (fun aN=> ?_) fun aN=> ?_;refine aT<|aA<|aH fun Y=>aW<|rg ag<|aw (.slice A n cp)<|aw (.int .i64 ((k:Nat) - 1:Int))<|aw (ay<|b - a)<|aw (ay a)<|e<|cl I2 (OA E (k - 1) (b - a) a _ _ B n cp A _ G aj aj ag ae) ag ?_;rintro v26 a1 ⟨rfl,aL,aD⟩;exact nl<|bn<|Y<|rg ag<|aw (.int .i64 ((k:Nat) - 1:Int))<|p (sb ag ag<|cR aj)<|p aJ<|nl<|tn<|⟨_,aj,k - 1,s7 cT (b - a) a (k - 1) E,aj,(by rw [← Z,YI (show 0 < k by omega)]),aL,(Md.trans O aD),(iv aj),ag,ag⟩
 refine ext<|bj<|bj<|be<|av<|ak fun Y=>aw (ay<|b - a)<|p (ed ((b - a - 1:Nat):Int) ag ag<|bp aj aj)<|az<|Y<|aW<|lp (fun J ac I=> ∃ (k:Nat) (E:Array Nat),(k≤b - a)∧(Go.Sort.heapPop cT a k E=Qo cT d a b)∧(I.ownsRow B 95 1 (.slice A n cp) n<|LE bA E)∧(Md (fun q=>(cg A n cp).ownBlock=some q) w I)∧(ac 10= .int .i64 ((k:Nat) - 1:Int))∧(Sl ac [(0,.slice A n cp),(6,ay a),(7,.int .i64 0),(8,ay (b - a))])∧(k=J)) _ ⟨b - a,E,aj,(by rw [show k=0 by omega,YJ] at Z; rw [Z]; rfl),G,O,(iv aj),ag,ag⟩ ?_;rintro J ac I ⟨k,E,a0,ah,G,O,aX,aV,rfl⟩;refine bH aV<|fx 10 aX<|aH fun aC=>ak fun am=>aw (.int .i64 ((k:Nat) - 1:Int))<|p (ge ag ag)<|nl<|am<|cd ag (fun aO=> ?_) fun aO=> ?_;refine aT<|aC<|aH fun an=>aW<|aH fun ao=> ?_;have aZ:=gd G;have C:(fun w'=>Wk I w') I.drew:=(Md.refl _ _).drew;refine fj (fun w'=>Wk I w') 17 ag wide C<|bM 0 ag (.slice A n cp) C<|bM 1 ag (ay a) C<|bM 2 ag (.slice A n cp) C<|bM 3 ag (ay a) C<|bM 4 ag (.int .i64 ((k:Nat) - 1:Int)) C<|bR 5 ag (bJ ((a+(k - 1):Nat):Int) ag ag<|bp aj aj) C<|bM 6 ag (.slice A n cp) C<|bM 7 ag (ay a) C<|bM 8 ag (.int .i64 ((k:Nat) - 1:Int)) C<|bR 9 ag (bJ ((a+(k - 1):Nat):Int) ag ag<|bp aj aj) C<|bR 10 ag (bh cQ ag ag aj<|aR.ok ((bg G).2)<|cX aj) C<|ej 11 ag (fun w' V=>ld dA ag<|dY (i:=a+(k - 1)) ((bg G).2.wk V) aj) C<|bM 12 ag (.slice A n cp) C<|bM 13 ag (ay a) C<|bR 14 ag (bh cQ ag ag aj<|aR.ok ((bg G).2)<|cX aj) C<|ej 15 ag (fun w' V=>ld dA ag<|dY (i:=a) ((bg G).2.wk V) aj) C<|bR 16 ag (bh cQ ag ag aj<|aR.ok ((bg G).2)<|cX aj) C<|eb 17 ag au au<|gW (u:=E[a+(k - 1)]!) (a) (bc G C) gU ag ag ag aj fun a3 aI aP=> ?_;refine kB 18 ag (fun _=>bh cQ ag ag aj<|aR.ok ((bg G).2)<|cX aj) (fun h=>eA<|(show true =_ from by kernel_rfl).trans h)<|eb 19 ag au au<|gW (u:=E[a]!) (a+(k - 1)) aP gU ag ag ag aj fun ai aK aQ=> ?_;have V:ai.ownsRow B 95 1 (.slice A n cp) n (LE bA<|dx E (a)<|a+(k - 1)):=aQ;have aG:Md (fun q=>(cg A n cp).ownBlock=some q) I ai:=Md.trans (C.mono fun _ _ h=>h.elim)<|Md.trans aI aK;refine fi au<|ao<|rg ag<|aw (.slice A n cp)<|aw (.int .i64 0)<|aw (.int .i64 ((k:Nat) - 1:Int))<|aw (ay a)<|e<|cl I2 (OA (dx E a<|a+(k - 1)) 0 (k - 1) a _ _ B n cp A _ V aj ag aj ae) ag ?_;rintro v55 a2 ⟨rfl,aM,aF⟩;exact nl<|bn<|an<|rg ag<|aw (.int .i64 ((k:Nat) - 1:Int))<|p (sb ag ag<|cR aj)<|p aJ<|nl<|tn<|⟨_,aj,k - 1,s7 cT (k - 1) a 0 (dx E a<|a+(k - 1)),aj,(by rw [← ah,Za (show 0 < k by omega)]),aM,(Md.trans O<|Md.trans aG aF),(iv aj),ag,ag⟩
 exact ext<|bj<|bj<|be<|f0 ag<|⟨ag,by rw [← ah,show k=0 by omega]; exact G,O⟩
theorem abW (d:Array Nat) (a b:Nat) (B n cp:Nat) (C:Option Addr) (w:World) (hO:w.ownsRow B 95 1 (.slice C n cp) n (LE bA d)) (aA:a < b∧b≤n) (aC:n≤1099511627776):
 bw aE 288 (bl [.slice C n cp,ay a,ay b]) w (fun v w'=>v= .tuple #[]∧w'.ownsRow B 95 1 (.slice C n cp) n (LE bA<|Hi d a b)∧Md (fun q=>(cg C n cp).ownBlock=some q) w w'):=by
 refine enter func288 ag ntmps288 ag<|ak fun ab=>aw (ay a)<|p (cV (ay a) ag)<|nl<|ab<|ak fun ac=>aw (ay b)<|p (ed ((b - 1:Nat):Int) ag ag<|bp aj aj)<|az<|ac<|aW<|lp (fun O aa I=> ∃ (i j:Nat) (G:Array Nat),(i≤n∧j < n)∧(Go.Sort.reverseLoop i j G=Hi d a b)∧(I.ownsRow B 95 1 (.slice C n cp) n<|LE bA G)∧(Md (fun q=>(cg C n cp).ownBlock=some q) w I)∧(Sl aa [(0,.slice C n cp),(6,ay i),(7,ay j)])∧(j - i=O)) _ ⟨a,b - 1,d,aj,ag,hO,(Md.refl _ _),ag,ag⟩ ?_;rintro O aa I ⟨i,j,G,hi,Y,E,V,ax,rfl⟩;refine bH ax<|aH fun ae=>ak fun ah=>aw (ay i)<|aw (ay j)<|p (lt ag ag)<|nl<|ah<|cd ag (fun ap=> ?_) fun ap=> ?_;refine aT<|ae<|aW<|aH fun ai=> ?_;have aB:=gd E;have A:(fun w'=>Wk I w') I.drew:=(Md.refl _ _).drew;refine fj (fun w'=>Wk I w') 13 ag wide A<|bM 0 ag (.slice C n cp) A<|bM 1 ag (ay i) A<|bM 2 ag (.slice C n cp) A<|bM 3 ag (ay j) A<|bM 4 ag (.slice C n cp) A<|bM 5 ag (ay j) A<|bR 6 ag (bh cQ ag ag aj<|aR.ok ((bg E).2)<|cX aj) A<|ej 7 ag (fun w' J=>ld dA ag<|dY (i:=j) ((bg E).2.wk J) aj) A<|bM 8 ag (.slice C n cp) A<|bM 9 ag (ay i) A<|bR 10 ag (bh cQ ag ag aj<|aR.ok ((bg E).2)<|cX aj) A<|ej 11 ag (fun w' J=>ld dA ag<|dY (i:=i) ((bg E).2.wk J) aj) A<|bR 12 ag (bh cQ ag ag aj<|aR.ok ((bg E).2)<|cX aj) A<|eb 13 ag au au<|gW (u:=G[j]!) (i) (bc E A) gU ag ag ag aj fun aD an aq=> ?_;refine kB 14 ag (fun _=>bh cQ ag ag aj<|aR.ok ((bg E).2)<|cX aj) (fun h=>eA<|(show true =_ from by kernel_rfl).trans h)<|eb 15 ag au au<|gW (u:=G[i]!) (j) aq gU ag ag ag aj fun Z ao av=> ?_;have J:Z.ownsRow B 95 1 (.slice C n cp) n (LE bA<|dx G (i)<|j):=av;have am:Md (fun q=>(cg C n cp).ownBlock=some q) I Z:=Md.trans (A.mono fun _ _ h=>h.elim)<|Md.trans an ao;refine fi au<|ai<|ak fun al=>aw (ay i)<|p (bJ ((i+1:Nat):Int) ag ag<|bp aj aj)<|az<|al ?_;exact rg ag<|aw (ay j)<|p (ed ((j - 1:Nat):Int) ag ag<|bp aj aj)<|p aJ<|nl<|bn<|tn<|⟨_,aj,i+1,j - 1,dx G i j,aj,(by rw [← Y,abU (show i < j by omega)]),J,(Md.trans V am),ag,ag⟩
 exact ext<|bj<|bj<|be<|f0 ag<|⟨ag,by rw [← Y,abV aj]; exact E,V⟩
end Go.Hb
end
section
namespace Go.Hb
open Go.Hb.dX
theorem adY {n:Nat} {l:List UInt8} (h:n < 256) (A:∀ k:Fin 256,(l.getD k.val 0).toNat=lN k.val):IntKind.i64.wrap ((l.getD n 0).toNat:Int)=(lN n:Int):=by
 rw [A ⟨n,h⟩]; have :=AA h; exact cR<|by simp only; omega
theorem acB {k:Nat} (h:k≤8):fq.wrap ((1:Int)*2 ^ min ((k:Nat):Int).toNat fq.bits)=((2 ^ k:Nat):Int):=by
 have h2:(fq.bits:Nat)=64:=rfl;rw [Int.toNat_natCast,h2,Nat.min_eq_left aj,Int.one_mul];have h3:(2:Nat) ^ k≤2 ^ 8:=Nat.pow_le_pow_right aM h;have h4:((2:Int) ^ k)=((2 ^ k:Nat):Int):=by simp
 rw [h4];obtain ⟨m,hm⟩:∃ m:Nat,2 ^ k=m:=⟨_,rfl⟩
 rw [hm] at h3 ⊢; exact qF aj
theorem abp {d d1 d2:Array Nat} {a b i j:Nat} (h:p7 a b d d1) (hi:a≤i∧i < b) (A:a≤j∧j < b) (C:b≤d1.size) (h2:d2=dx d1 i j):p7 a b d d2:=by
 subst h2; exact uo _ _ _ a b h<|Go.Sort.swp_permIn d1 a b i j hi.1 hi.2 A.1 A.2 C
theorem Fq (d:Array Nat) (i j s lo hi G:Nat) (B n cp:Nat) (E:Option Addr) (w:World) (hO:w.ownsRow B 95 1 (.slice E n cp) n (LE bA d)) (Y:bX w.heap G [ay s]) (an:(cg E n cp).ownBlock≠some G) (ax:lo≤i∧i < hi∧lo≤j∧j < hi∧hi≤n) (hs:s≤1000) (av:n≤1099511627776):
 bw aE 308 (bl [.slice E n cp,ay i,ay j,a6 G]) w (fun v w'=> ∃ O V s1:Nat,v= .tuple #[ay O,ay V]∧(lo≤O∧O < hi)∧(lo≤V∧V < hi)∧s1≤s+1∧bX w'.heap G [ay s1]∧w'.ownsRow B 95 1 (.slice E n cp) n (LE bA d)∧Md (fun q=>q=G) w w'):=by
 refine enter func308 ag ntmps308 ag<|ak fun ab=>p aJ<|az<|ab<|aH fun ac=>aH fun ae=> ?_;have aq:=gd hO;have A:(fun w'=>Wk w w') w.drew:=(Md.refl _ _).drew;refine cj (fun w'=>Wk w w') ag wide A<|bQ 0 ag (.slice E n cp) A<|bQ 1 ag (ay j) A<|aU 2 ag (bh cQ ag ag aj<|aR.ok ((bg hO).2)<|cX aj) A<|bS 3 ag (fun w' J=>ld dA ag<|dY (i:=j) ((bg hO).2.wk J) aj) A<|bQ 4 ag (.slice E n cp) A<|bQ 5 ag (ay i) A<|aU 6 ag (bh cQ ag ag aj<|aR.ok ((bg hO).2)<|cX aj) A<|bS 7 ag (fun w' J=>ld dA ag<|dY (i:=i) ((bg hO).2.wk J) aj) A<|he 8 ag au<|cl mS (mW d[j]! d[i]! _) ag ?_;rintro aA ap ⟨rfl,al⟩;have C:(fun w'=>Wk w w') ap:=Md.trans A al;refine ⟨C,?_⟩;refine hn au<|ae<|cb ag (fun ao=> ?_) fun ao=> ?_;have Z:=C.B Y;have am:=bc hO C;exact ak fun I=>aw (a6 G)<|p (nc ag)<|p (ld bL ag<|Z.a7 0)<|p (bJ ((s+1:Nat):Int) ag ag<|bp aj aj)<|p (nc ag)<|e<|st hZ ag ag (ag) (Z) (by simp) fun aB aa ai=>nl<|I<|ak fun ah=>aw (ay j)<|aw (ay i)<|p (cV (ay j) ag)<|p (cV (ay i) ag)<|nl<|ah<|rt<|tr<|f2 ag ag ag<|⟨j,i,s+1,ag,aj,aj,aj,ai,dz am aa (fun k hk h=>an<|h ▸ hk),Md.trans (C.mono fun _ _ h=>h.elim) aa⟩
 exact aT<|ac<|ak fun I=>aw (ay i)<|aw (ay j)<|p (cV (ay i) ag)<|p (cV (ay j) ag)<|nl<|I<|rt<|f2 ag ag ag<|⟨i,j,s,ag,aj,aj,aj,C.B Y,bc hO C,C.mono fun _ _ h=>h.elim⟩
theorem M5 (d:Array Nat) (i j k s lo hi A:Nat) (B n cp:Nat) (C:Option Addr) (w:World) (hO:w.ownsRow B 95 1 (.slice C n cp) n (LE bA d)) (aa:bX w.heap A [ay s]) (E:(cg C n cp).ownBlock≠some A) (aG:(lo≤i∧i < hi)∧(lo≤j∧j < hi)∧(lo≤k∧k < hi)∧hi≤n) (hs:s≤900) (G:n≤1099511627776):
 bw aE 302 (bl [.slice C n cp,ay i,ay j,ay k,a6 A]) w (fun v w'=> ∃ I s1:Nat,v=ay I∧(lo≤I∧I < hi)∧s1≤s+3∧bX w'.heap A [ay s1]∧w'.ownsRow B 95 1 (.slice C n cp) n (LE bA d)∧Md (fun q=>q=A) w w'):=by
 refine enter func302 ag ntmps302 ag<|ak fun J=>az<|J<|ak fun O=>aw (.slice C n cp)<|aw (ay i)<|aw (ay j)<|aw (a6 A)<|e<|cl C7 (Fq d i j s lo hi A B n cp C _ hO aa E aj aj G) ag ?_;rintro aN aO ⟨i1,aq,s1,rfl,aA,aC,aI,ab,am,ah⟩;refine p mv<|p (xt ag ag)<|p (xt ag ag)<|p aJ<|az<|O<|aH fun V=>rg ag<|aw (.slice C n cp)<|p mv<|aw (ay k)<|aw (a6 A)<|e<|cl C7 (Fq d aq k s1 lo hi A B n cp C _ am ab E aj aj G) ag ?_;rintro v24 aP ⟨au,aM,s2,rfl,aD,aF,aK,ac,an,ai⟩;refine p mv<|p (xt ag ag)<|p (xt ag ag)<|p aJ<|az<|V<|aH fun Y=>rg ag<|aw (.slice C n cp)<|p mv<|p mv<|aw (a6 A)<|e<|cl C7 (Fq d i1 au s2 lo hi A B n cp C _ an ac E aj aj G) ag ?_;rintro v32 aQ ⟨i3,av,ax,rfl,aB,ap,aL,ae,ao,al⟩;exact p mv<|p (xt ag ag)<|p (xt ag ag)<|p aJ<|az<|Y<|aH fun Z=>rg ag<|p mv<|az<|Z<|rt<|ba ag<|⟨av,ax,ag,ap,aj,ae,ao,Md.trans ah<|Md.trans ai al⟩
theorem E0 (d:Array Nat) (i s lo hi A:Nat) (B n cp:Nat) (C:Option Addr) (w:World) (hO:w.ownsRow B 95 1 (.slice C n cp) n (LE bA d)) (J:bX w.heap A [ay s]) (V:(cg C n cp).ownBlock≠some A) (Z:lo+1≤i∧i+1 < hi∧hi≤n) (hs:s≤900) (Y:n≤1099511627776):
 bw aE 301 (bl [.slice C n cp,ay i,a6 A]) w (fun v w'=> ∃ E s1:Nat,v=ay E∧(lo≤E∧E < hi)∧s1≤s+3∧bX w'.heap A [ay s1]∧w'.ownsRow B 95 1 (.slice C n cp) n (LE bA d)∧Md (fun q=>q=A) w w'):=by
 exact enter func301 ag ntmps301 ag<|ak fun G=>az<|G<|ak fun I=>aw (.slice C n cp)<|aw (ay i)<|p (ed ((i - 1:Nat):Int) ag ag<|bp aj aj)<|aw (ay i)<|aw (ay i)<|p (bJ ((i+1:Nat):Int) ag ag<|bp aj aj)<|aw (a6 A)<|e<|cl I3 (M5 d (i - 1) i (i+1) s lo hi A B n cp C _ hO J V aj aj Y) ag fun aa ab O=>p aJ<|nl<|I<|rt<|ba ag<|O
theorem UG (d:Array Nat) (a b:Nat) (B n cp:Nat) (A:Option Addr) (w:World) (hO:w.ownsRow B 95 1 (.slice A n cp) n (LE bA d)) (bf:a+12 < b∧b≤n) (V:n≤1099511627776):
 bw aE 287 (bl [.slice A n cp,ay a,ay b]) w (fun v w'=> ∃ (ao:Nat) (a8:Int),v= .tuple #[ay ao,.int .i64 a8]∧(a≤ao∧ao < b)∧w'.ownsRow B 95 1 (.slice A n cp) n (LE bA d)∧Wk w w'):=by
 refine enter func287 ag ntmps287 ag<|ak fun ax=>p aJ<|az<|ax<|ak fun aA=>aw (ay b)<|aw (ay a)<|p (ed ((b - a:Nat):Int) ag ag<|bp aj aj)<|az<|aA<|ak fun aB=>e<|al zs3 fun C bB bg ah ap=> ?_;have aq:=bc hO ah.md;have O:(cg A n cp).ownBlock≠some C:=fun h=>by have :=dK hO h; omega
 refine nl<|aB<|ak fun aC=>aw (ay a)<|p mv<|p (qw (((b - a) / 4:Nat):Int) ag ag aj<|bp aj aj)<|p (qs (((b - a) / 4:Nat):Int) ag ag<|bp aj aj)<|p (bJ ((a+(b - a) / 4:Nat):Int) ag ag<|bp aj aj)<|az<|aC<|ak fun aD=>aw (ay a)<|p mv<|p (qw (((b - a) / 4:Nat):Int) ag ag aj<|bp aj aj)<|p (qs (((b - a) / 4 *2:Nat):Int) ag ag<|bp aj aj)<|p (bJ ((a+(b - a) / 4 *2:Nat):Int) ag ag<|bp aj aj)<|az<|aD<|ak fun aF=>aw (ay a)<|p mv<|p (qw (((b - a) / 4:Nat):Int) ag ag aj<|bp aj aj)<|p (qs (((b - a) / 4 *3:Nat):Int) ag ag<|bp aj aj)<|p (bJ ((a+(b - a) / 4 *3:Nat):Int) ag ag<|bp aj aj)<|az<|aF ?_;refine aH fun aG=>ak fun aI=>p mv<|p (ge ag ag)<|nl<|aI<|cd ag (fun bh=> ?_) fun h=>absurd aj h;refine ez (fun av Z=> ∃ (E G I Y:Nat),(a≤E∧E < b)∧(a≤G∧G < b)∧(a≤I∧I < b)∧(Y≤9)∧(bX Z.heap C [ay Y])∧(Z.ownsRow B 95 1 (.slice A n cp) n<|LE bA d)∧(Wk w Z)∧(Sl av [(0,.slice A n cp),(1,ay a),(2,ay b),(8,ay (b - a)),(9,a6 C),(10,ay E),(11,ay G),(12,ay I)])) ?_ ?_;refine ak fun ac=>p mv<|p (ge ag ag)<|nl<|ac<|cd ag (fun a0=> ?_) fun a0=> ?_;refine ak fun aa=>aw (.slice A n cp)<|p mv<|e<|cl C6 (E0 d (a+(b - a) / 4) 0 a b C B n cp A _ aq ap O aj aj V) ag ?_;rintro v37 bv ⟨i1,s1,rfl,a3,au,aK,aV,aQ⟩;refine az<|aa<|ak fun J=>aw (.slice A n cp)<|p mv<|e<|cl C6 (E0 d (a+(b - a) / 4 *2) s1 a b C B n cp A _ aV aK O aj aj V) ag ?_;rintro v40 bx ⟨a9,s2,rfl,a4,bm,aL,aX,aR⟩;refine az<|J<|rg ag<|aw (.slice A n cp)<|p mv<|e<|cl C6 (E0 d (a+(b - a) / 4 *3) s2 a b C B n cp A _ aX aL O aj aj V) ag ?_;rintro bt bz ⟨ba,bb,rfl,a5,bn,aM,aY,aS⟩;exact p aJ<|nl<|tn<|⟨i1,a9,ba,bb,a3,a4,a5,aj,aM,aY,(Md.trans' ah.md (Md.trans aQ<|Md.trans aR aS) fun k hk h=>by omega),ag⟩
 exact aT<|tn<|⟨a+(b - a) / 4,a+(b - a) / 4 *2,a+(b - a) / 4 *3,0,aj,aj,aj,aj,ap,aq,ah.md,ag⟩
 rintro av Z ⟨E,G,I,Y,bi,bj,bk,bq,aO,aZ,aP,au⟩;refine bH au<|rg ag<|aw (.slice A n cp)<|aw (ay E)<|aw (ay G)<|aw (ay I)<|e<|cl I3 (M5 d E G I Y a b C B n cp A _ aZ aO O aj aj V) ag ?_;rintro bu bd ⟨an,bs,rfl,am,bo,aN,ai,aU⟩;have ae:Wk w bd:=Md.trans' aP aU fun k hk h=>by omega
 refine az<|aG<|ak fun ac=>p (ld bL ag<|aN.a7 0)<|nl<|ac<|aW<|ak fun aa=>p (bT ag ag)<|az<|aa<|cd ag (fun a1=> ?_) fun a1=> ?_;exact ak fun J=>p mv<|p aJ<|az<|J<|rt<|br<|f2 ag ag ag<|⟨an,_,ag,am,ai,ae⟩
 refine ak fun J=>p (bT ag ag)<|az<|J<|cd ag (fun a2=> ?_) fun a2=> ?_;exact ak fun ab=>p mv<|p aJ<|az<|ab<|rt<|br<|f2 ag ag ag<|⟨an,_,ag,am,ai,ae⟩
 exact ak fun ab=>p mv<|p aJ<|az<|ab<|rt<|br<|f2 ag ag ag<|⟨an,_,ag,am,ai,ae⟩
theorem aaK (A:Nat) (r:Int) (w:World) (O:bX w.heap A [.int .u64 r]):
 bw aE 185 (bl [a6 A]) w (fun v w'=> ∃ J:Int,v= .int .u64 J∧0≤J∧J < 18446744073709551616∧bX w'.heap A [.int .u64 J]∧Md (fun q=>q=A) w w'):=by
 refine enter func185 ag ntmps185 ag<|ak fun ac=>az<|ac<|aH fun ae=> ?_;have E:(fun w'=>Wk w w') w.drew:=(Md.refl _ _).drew;refine fj (fun w'=>Wk w w') 9 ag wide E<|eR 0 ag (a8 (a6 A) ag) E<|eR 1 ag (nc ag) E<|lq 2 ag au (fun w' C=>ld tq ag<|Wk.a7 C<|O.a7 0) E<|eR 3 ag (a8 (a6 A) ag) E<|eR 4 ag (nc ag) E<|lq 5 ag au (fun w' C=>ld tq ag<|Wk.a7 C<|O.a7 0) E<|eR 6 ag (shl ag ag aM ag) E<|eR 7 ag (CG ag ag ag) E<|eR 8 ag (nc ag) E<|eb 9 ag au au<|st zC ag ag (ag) (E.B O) (by simp) fun Z al V=>fi au<|ae<|aH fun ah=> ?_;have G:(fun w'=>Wk Z w') Z.drew:=(Md.refl _ _).drew;refine fj (fun w'=>Wk Z w') 9 ag wide G<|eR 0 ag (a8 (a6 A) ag) G<|eR 1 ag (nc ag) G<|lq 2 ag au (fun w' C=>ld tq ag<|Wk.a7 C<|V.a7 0) G<|eR 3 ag (a8 (a6 A) ag) G<|eR 4 ag (nc ag) G<|lq 5 ag au (fun w' C=>ld tq ag<|Wk.a7 C<|V.a7 0) G<|eR 6 ag (shr ag ag aM ag) G<|eR 7 ag (CG ag ag ag) G<|eR 8 ag (nc ag) G<|eb 9 ag au au<|st zC ag ag (ag) (G.B V) (by simp) fun aa am Y=>fi au<|ah<|aH fun ai=> ?_;have I:(fun w'=>Wk aa w') aa.drew:=(Md.refl _ _).drew;refine fj (fun w'=>Wk aa w') 9 ag wide I<|eR 0 ag (a8 (a6 A) ag) I<|eR 1 ag (nc ag) I<|lq 2 ag au (fun w' C=>ld tq ag<|Wk.a7 C<|Y.a7 0) I<|eR 3 ag (a8 (a6 A) ag) I<|eR 4 ag (nc ag) I<|lq 5 ag au (fun w' C=>ld tq ag<|Wk.a7 C<|Y.a7 0) I<|eR 6 ag (shl ag ag aM ag) I<|eR 7 ag (CG ag ag ag) I<|eR 8 ag (nc ag) I<|eb 9 ag au au<|st zC ag ag (ag) (I.B Y) (by simp) fun ao an ab=>fi au<|ai<|ak fun aj=>aw (a6 A)<|p (nc ag)<|p (ld tq ag<|ab.a7 0)<|p aJ<|nl ?_;refine aj<|rt<|ba ag ?_;refine ⟨_,ag,(Pl _).1,(Pl _).2,ab,?_⟩;exact Md.trans (Md.refl _ _).drew<|Md.trans al<|Md.trans (Md.refl _ _).drew<|Md.trans am<|Md.trans (Md.refl _ _).drew an
theorem Z3 (n:Nat) (w:World) (hn:n < 256):
 bw aE 124 (bl [.int .u64 (n:Nat)]) w (fun v w'=>v=ay (lN n)∧Wk w w'):=by
 have ab:=AA hn;refine enter func124 ag ntmps124 ag<|ak fun A=>az<|A<|aH fun C=>ak fun E=>aw (.int .u64 (n:Nat))<|p (ge ag ag)<|nl<|E<|cd ag (fun h=>absurd h aj) fun Z=>aT<|C<|aH fun G=>ak fun I=>aw (.int .u64 (n:Nat))<|p (ge ag ag)<|nl<|I<|cd ag (fun h=>absurd h aj) fun aa=> ?_;refine aT<|G<|aH fun J=>ak fun O=>aw (.int .u64 (n:Nat))<|p (ge ag ag)<|nl<|O<|cd ag (fun h=>absurd h aj) fun Y=> ?_;exact aT<|J<|ak fun V=>aw (.int .i64 0)<|aw (.int .u64 (n:Nat))<|p (zB u5 ad9 ag<|vX aj)<|p (fC u9 ag ag (by have :n < 256:=hn; simpa using this))<|p (mC u3 rE ag<|adY hn<|by decide+kernel)<|p (bJ ((lN n:Nat):Int) ag ag<|bp aj aj)<|az<|V<|rt<|ba ag<|⟨ag,Md.refl _ _⟩
theorem MQ (n:Nat) (w:World) (hn:n < 256):
 bw aE 66 (bl [.int .u64 (n:Nat)]) w (fun v w'=>v=ay (lN n)∧Wk w w'):=by
 refine enter func66 ag ntmps66 ag<|ak fun A=>az<|A<|aH fun C=>cf ag<|aT<|C<|ak fun E=>aw (.int .u64 (n:Nat))<|e<|cl SA (Z3 n _ hn) ag fun I J G=>az<|E ?_;exact rt<|ba ag<|G
theorem aaL (n:Nat) (w:World) (hn:n < 256):
 bw aE 184 (bl [ay n]) w (fun v w'=>v= .int .u64 (2 ^ lN n:Nat)∧Wk w w'):=by
 refine enter func184 ag ntmps184 ag<|ak fun A=>az<|A<|ak fun C=>aw (ay n)<|p (mC Pg sU ag<|qF aj)<|e<|cl Jc (MQ n _ hn) ag ?_;rintro v5 I ⟨rfl,E⟩;have G:=AA hn;exact p (shl ag ag aj<|acB G)<|az<|C<|rt<|ba ag<|⟨ag,E⟩
theorem Se (d:Array Nat) (a b:Nat) (B n cp:Nat) (C:Option Addr) (w:World) (hO:w.ownsRow B 95 1 (.slice C n cp) n (LE bA d)) (a8:a+12 < b∧b≤n) (bi:n≤255):
 bw aE 286 (bl [.slice C n cp,ay a,ay b]) w (fun v w'=> ∃ d1,v= .tuple #[]∧p7 a b d d1∧w'.ownsRow B 95 1 (.slice C n cp) n (LE bA d1)∧Md (fun q=>(cg C n cp).ownBlock=some q) w w'):=by
 refine enter func286 ag ntmps286 ag<|ak fun aA=>aw (ay b)<|aw (ay a)<|p (ed ((b - a:Nat):Int) ag ag<|bp aj aj)<|az<|aA<|ak fun aC=>p mv<|p (ge ag ag)<|nl<|aC<|cd ag (fun ba=> ?_) fun h=>absurd aj h;refine ak fun aD=>p mv<|p (mC adV sU ag<|qF aj)<|e<|al aeG fun V bx a9 aY aO=>e<|st zC ag ag (ag) (aO) (by simp) fun a7 aS aN=> ?_;have ao:Wk w a7:=Md.trans' aY.md aS fun k hk h=>by omega
 refine nl<|aD<|ak fun aF=>p mv<|e<|cl S4 (aaL (b - a) _ aj) ag ?_;rintro bs bu ⟨rfl,ac⟩;have bf:=Z4 (n:=b - a) aj aj;refine az<|aF<|ak fun aG=>aw (ay a)<|p mv<|p (qw (((b - a) / 4:Nat):Int) ag ag aj<|bp aj aj)<|p (qs (((b - a) / 4 *2:Nat):Int) ag ag<|bp aj aj)<|p (bJ ((a+(b - a) / 4 *2:Nat):Int) ag ag<|bp aj aj)<|p (ed ((a+(b - a) / 4 *2 - 1:Nat):Int) ag ag<|bp aj aj)<|az<|aG<|aW ?_;have Z:(cg C n cp).ownBlock≠some V:=fun h=>by have :=dK hO h; omega
 refine lp (fun am av ab=> ∃ (E:Nat) (r:Int) (I:Array Nat),(a+(b - a) / 4 *2 - 1≤E∧E≤a+(b - a) / 4 *2 +2)∧(p7 a b d I)∧(bX ab.heap V [.int .u64 r])∧(ab.ownsRow B 95 1 (.slice C n cp) n<|LE bA I)∧(Md (fun q=>(cg C n cp).ownBlock=some q) w ab)∧(Sl av [(0,.slice C n cp),(1,ay a),(6,ay (b - a)),(7,a6 V),(8,.int .u64 (2 ^ lN (b - a):Nat)),(9,ay E)])∧(a+(b - a) / 4 *2 +3 - E=am)) _ ⟨a+(b - a) / 4 *2 - 1,(b - a:Nat),d,aj,(Qr d a b),(ac.B aN),(bc (bc hO ao) ac),((Md.trans ao ac).mono fun _ _ h=>h.elim),ag,ag⟩ ?_;rintro am av ab ⟨E,r,I,bd,bS,aQ,ah,ae,a4,rfl⟩;refine bH a4<|aH fun aI=>ak fun aK=>aw (ay E)<|aw (ay a)<|aw (ay<|b - a)<|p (qw (((b - a) / 4:Nat):Int) ag ag aj<|bp aj aj)<|p (qs (((b - a) / 4 *2:Nat):Int) ag ag<|bp aj aj)<|p (bJ ((a+(b - a) / 4 *2:Nat):Int) ag ag<|bp aj aj)<|p (bJ ((a+(b - a) / 4 *2 +1:Nat):Int) ag ag<|bp aj aj)<|p (le ag ag)<|nl<|aK<|cd ag (fun aZ=> ?_) fun aZ=> ?_;refine aT<|aI<|aH fun aL=>aW<|ak fun aM=>e<|cl S5 (aaK V r _ aQ) ag ?_;rintro bt bv ⟨ai,rfl,bq,br,an,aa⟩;obtain ⟨o,bm,a3⟩:=RR ai (2 ^ lN (b - a)) aj;have bk:=Z;refine aw (.int .u64 (2 ^ lN (b - a):Nat))<|p (sb ag ag<|qF aj)<|p (gw ag ag a3)<|p (zB u3 ad8 ag<|cR aj)<|az<|aM ?_;refine ez (fun ax O=> ∃ (G:Nat),(G < b - a)∧(bX O.heap V [.int .u64 ai])∧(O.ownsRow B 95 1 (.slice C n cp) n<|LE bA I)∧(Md (fun q=>(cg C n cp).ownBlock=some q) w O)∧(Sl ax [(0,.slice C n cp),(1,ay a),(6,ay (b - a)),(7,a6 V),(8,.int .u64 (2 ^ lN (b - a):Nat)),(9,ay E),(10,ay G)])) ?_ ?_;refine ak fun aB=>p mv<|aw (ay<|b - a)<|p (ge ag ag)<|nl<|aB<|cd ag (fun a0=> ?_) fun a0=> ?_;exact rg ag<|p mv<|aw (ay<|b - a)<|p (ed ((o - (b - a):Nat):Int) ag ag<|bp aj aj)<|p aJ<|nl<|tn<|⟨o - (b - a),aj,an,(dz ah aa fun k hk h=>Z<|h ▸ hk),(Md.trans' ae aa fun k hk h=>by omega),ag⟩
 exact aT<|tn<|⟨o,aj,an,(dz ah aa fun k hk h=>Z<|h ▸ hk),(Md.trans' ae aa fun k hk h=>by omega),ag⟩
 rintro ax O ⟨G,bo,aP,J,aX,a5⟩;refine bH a5 ?_;have bb:=gd J;have A:(fun w'=>Wk O w') O.drew:=(Md.refl _ _).drew;refine fj (fun w'=>Wk O w') 17 ag wide A<|bM 0 ag (.slice C n cp) A<|bM 1 ag (ay E) A<|bM 2 ag (.slice C n cp) A<|bM 3 ag (ay a) A<|bM 4 ag (ay G) A<|bR 5 ag (bJ ((a+G:Nat):Int) ag ag<|bp aj aj) A<|bM 6 ag (.slice C n cp) A<|bM 7 ag (ay a) A<|bM 8 ag (ay G) A<|bR 9 ag (bJ ((a+G:Nat):Int) ag ag<|bp aj aj) A<|bR 10 ag (bh cQ ag ag aj<|aR.ok ((bg J).2)<|cX aj) A<|ej 11 ag (fun w' Y=>ld dA ag<|dY (i:=a+G) ((bg J).2.wk Y) aj) A<|bM 12 ag (.slice C n cp) A<|bM 13 ag (ay E) A<|bR 14 ag (bh cQ ag ag aj<|aR.ok ((bg J).2)<|cX aj) A<|ej 15 ag (fun w' Y=>ld dA ag<|dY (i:=E) ((bg J).2.wk Y) aj) A<|bR 16 ag (bh cQ ag ag aj<|aR.ok ((bg J).2)<|cX aj) A<|eb 17 ag au au<|gW (u:=I[a+G]!) (E) (bc J A) gU ag ag ag aj fun bz aU a1=> ?_;refine kB 18 ag (fun _=>bh cQ ag ag aj<|aR.ok ((bg J).2)<|cX aj) (fun h=>eA<|(show true =_ from by kernel_rfl).trans h)<|eb 19 ag au au<|gW (u:=I[E]!) (a+G) a1 gU ag ag ag aj fun aq aV a2=> ?_;have Y:aq.ownsRow B 95 1 (.slice C n cp) n (LE bA<|dx I (E)<|a+G):=a2;have ap:Md (fun q=>(cg C n cp).ownBlock=some q) O aq:=Md.trans (A.mono fun _ _ h=>h.elim)<|Md.trans aU aV;exact fi au<|bn<|aL<|rg ag<|aw (ay E)<|p (bJ ((E+1:Nat):Int) ag ag<|bp aj aj)<|p aJ<|nl<|tn<|⟨_,aj,E+1,ai,dx I E (a+G),aj,(abp bS aj aj aj ag),(ap.B aP fun h=>Z h),Y,(Md.trans aX ap),ag,ag⟩
 exact ext<|bj<|bj<|be<|f0 ag<|⟨I,ag,bS,ah,ae⟩
end Go.Hb
end
section
namespace Go.Hb
open Go.Hb.dX
theorem abg {d:Array Nat} {a b A i j:Nat} (h1:p9 (fun x=>cT x (dx d a A)[a]!) (dx d a A) (b - 1) (a+1)=i) (h2:p8 (fun x=> !cT x (dx d a A)[a]!) (dx d a A) i (b - 1)=j) (h:i > j):
 s6 cT d a b A=(j,true,dx (dx d a A) j a):=by
 unfold s6; simp only [h1,h2,if_pos h]
theorem part_go {d:Array Nat} {a b A i j C:Nat} {E:Array Nat} (h1:p9 (fun x=>cT x (dx d a A)[a]!) (dx d a A) (b - 1) (a+1)=i) (h2:p8 (fun x=> !cT x (dx d a A)[a]!) (dx d a A) i (b - 1)=j) (h:¬i > j)
 (h3:Hh cT a (i+1) (j - 1) (dx (dx d a A) i j)=(C,E)):
 s6 cT d a b A=(C,false,dx E C a):=by
 unfold s6; simp only [h1,h2,if_neg h,h3]
theorem abi (d:Array Nat) (a b C:Nat) (B n cp:Nat) (A:Option Addr) (w:World) (hO:w.ownsRow B 95 1 (.slice A n cp) n (LE bA d)) (c1:a≤C∧C < b∧b≤n) (c5:n≤1099511627776):
 bw aE 292 (bl [.slice A n cp,ay a,ay b,ay C]) w (fun v w'=>v= .tuple #[ay ((s6 cT d a b C).1),.bool (s6 cT d a b C).2.1]∧w'.ownsRow B 95 1 (.slice A n cp) n (LE bA (s6 cT d a b C).2.2)∧Md (fun q=>(cg A n cp).ownBlock=some q) w w'):=by
 refine enter func292 ag ntmps292 ag<|ak fun bP=>p aJ<|az<|bP<|aH fun bS=> ?_;have c2:=gd hO;have ah:(fun w'=>Wk w w') w.drew:=(Md.refl _ _).drew;refine fj (fun w'=>Wk w w') 13 ag wide ah<|bM 0 ag (.slice A n cp) ah<|bM 1 ag (ay a) ah<|bM 2 ag (.slice A n cp) ah<|bM 3 ag (ay C) ah<|bM 4 ag (.slice A n cp) ah<|bM 5 ag (ay C) ah<|bR 6 ag (bh cQ ag ag aj<|aR.ok ((bg hO).2)<|cX aj) ah<|ej 7 ag (fun w' G=>ld dA ag<|dY (i:=C) ((bg hO).2.wk G) aj) ah<|bM 8 ag (.slice A n cp) ah<|bM 9 ag (ay a) ah<|bR 10 ag (bh cQ ag ag aj<|aR.ok ((bg hO).2)<|cX aj) ah<|ej 11 ag (fun w' G=>ld dA ag<|dY (i:=a) ((bg hO).2.wk G) aj) ah<|bR 12 ag (bh cQ ag ag aj<|aR.ok ((bg hO).2)<|cX aj) ah<|eb 13 ag au au<|gW (u:=d[C]!) (a) (bc hO ah) gU ag ag ag aj fun c8 b2 cA=> ?_;refine kB 14 ag (fun _=>bh cQ ag ag aj<|aR.ok ((bg hO).2)<|cX aj) (fun h=>eA<|(show true =_ from by kernel_rfl).trans h)<|eb 15 ag au au<|gW (u:=d[a]!) (C) cA gU ag ag ag aj fun bt b3 cB=> ?_;have cn:bt.ownsRow B 95 1 (.slice A n cp) n (LE bA<|dx d (a)<|C):=cB;have b1:Md (fun q=>(cg A n cp).ownBlock=some q) w bt:=Md.trans (ah.mono fun _ _ h=>h.elim)<|Md.trans b2 b3;refine fi au<|bS<|ak fun bT=>aw (ay a)<|p (bJ ((a+1:Nat):Int) ag ag<|bp aj aj)<|aw (ay b)<|p (ed ((b - 1:Nat):Int) ag ag<|bp aj aj)<|p aJ ?_;refine az<|bT ?_;refine ez (fun bB ba=> ∃ (O:Nat),(a+1≤O∧(O=a+1∨O≤b - 1 +1))∧(p9 (fun x=>cT x (dx d a C)[a]!) (dx d a C) (b - 1) (a+1)=O)∧(ba.ownsRow B 95 1 (.slice A n cp) n<|LE bA<|dx d a C)∧(Md (fun q=>(cg A n cp).ownBlock=some q) w ba)∧(Sl bB [(0,.slice A n cp),(1,ay a),(10,ay O),(11,ay (b - 1))])) ?_ ?_;refine aW<|lp (fun aq bC aI=> ∃ (q:Nat),(a+1≤q∧(q=a+1∨q≤b - 1 +1))∧(p9 (fun x=>cT x (dx d a C)[a]!) (dx d a C) (b - 1) (q)=p9 (fun x=>cT x (dx d a C)[a]!) (dx d a C) (b - 1) (a+1))∧(aI.ownsRow B 95 1 (.slice A n cp) n<|LE bA<|dx d a C)∧(Md (fun q=>(cg A n cp).ownBlock=some q) w aI)∧(Sl bC [(0,.slice A n cp),(1,ay a),(10,ay q),(11,ay (b - 1))])∧(b - 1 +1 - q=aq)) _ ⟨a+1,aj,ag,cn,b1,ag,ag⟩ ?_;rintro aq bC aI ⟨q,av,ap,E,ao,cL,rfl⟩;refine bH cL<|aH fun aS=>aH fun aC=> ?_;have aG:=gd E;have ab:(fun w'=>Wk aI w') aI.drew:=(Md.refl _ _).drew;refine cj (fun w'=>Wk aI w') ag wide ab<|bQ 0 ag (ay q) ab<|bQ 1 ag (ay<|b - 1) ab<|aU 2 ag (le ag ag) ab<|aU 3 ag (mv) ab<|iP (t:=33) ag (fun cy=> ?_) fun cy=> ?_;refine bm 4 ag (fun _ _=>a8 (.slice A n cp) ag) ab<|bm 5 ag (fun _ _=>a8 (ay q) ag) ab<|bm 6 ag (fun _ _=>bh cQ ag ag aj<|aR.ok ((bg E).2)<|cX aj) ab<|bm 7 ag (fun w' G=>ld dA ag<|dY (i:=q) ((bg E).2.wk G) aj) ab<|bm 8 ag (fun _ _=>a8 (.slice A n cp) ag) ab<|bm 9 ag (fun _ _=>a8 (ay a) ag) ab<|bm 10 ag (fun _ _=>bh cQ ag ag aj<|aR.ok ((bg E).2)<|cX aj) ab<|bm 11 ag (fun w' G=>ld dA ag<|dY (i:=a) ((bg E).2.wk G) aj) ab<|nM 12 ag au ag ag ag<|cl mS (mW (dx d a C)[q]! (dx d a C)[a]! _) ag ?_;rintro c7 cZ ⟨rfl,bY⟩;have aP:(fun w'=>Wk aI w') cZ:=Md.trans ab bY;refine ⟨aP,?_⟩;refine aU 13 ag (bI ag) aP<|hn au<|aC<|cb ag (fun a6=> ?_) fun a6=> ?_
 exact aT<|aS<|aW<|rg ag<|aw (ay q)<|p (bJ ((q+1:Nat):Int) ag ag<|bp aj aj)<|p aJ<|nl<|bn<|tn<|⟨_,aj,q+1,aj,(by rw [← ap,GF (show q≤b - 1 by omega) (by simpa using a6)]),(bc E aP),(Md.trans ao<|aP.mono fun _ _ h=>h.elim),ag,ag⟩
 exact ext<|bj<|bj<|be<|tn<|⟨q,av,(by rw [← ap,vR (.inr<|by simpa using a6)]),(bc E aP),(Md.trans ao<|aP.mono fun _ _ h=>h.elim),ag⟩
 exact bf 4 ag ab<|bf 5 ag ab<|bf 6 ag ab<|bf 7 ag ab<|bf 8 ag ab<|bf 9 ag ab<|bf 10 ag ab<|bf 11 ag ab<|bf 12 ag ab<|aU 13 ag (bD ag) ab<|hn au<|aC<|cf ag<|ext<|bj<|bj<|be<|tn<|⟨q,av,(by rw [← ap,vR (.inl aj)]),(bc E (Md.refl _ _).drew),ao.drew,ag⟩
 rintro bB ba ⟨O,c3,br,a3,a2,cK⟩;refine bH cK ?_;refine ez (fun bE ax=> ∃ (V:Nat),(a≤V∧V≤b - 1)∧(p8 (fun x=> !cT x (dx d a C)[a]!) (dx d a C) (O) (b - 1)=V)∧(ax.ownsRow B 95 1 (.slice A n cp) n<|LE bA<|dx d a C)∧(Md (fun q=>(cg A n cp).ownBlock=some q) w ax)∧(Sl bE [(0,.slice A n cp),(1,ay a),(10,ay O),(11,ay V)])) ?_ ?_;refine aW<|lp (fun aq bF aL=> ∃ (q:Nat),(a≤q∧q≤b - 1)∧(p8 (fun x=> !cT x (dx d a C)[a]!) (dx d a C) (O) (q)=p8 (fun x=> !cT x (dx d a C)[a]!) (dx d a C) (O) (b - 1))∧(aL.ownsRow B 95 1 (.slice A n cp) n<|LE bA<|dx d a C)∧(Md (fun q=>(cg A n cp).ownBlock=some q) w aL)∧(Sl bF [(0,.slice A n cp),(1,ay a),(10,ay O),(11,ay q)])∧(q=aq)) _ ⟨b - 1,aj,ag,a3,a2,ag,ag⟩ ?_;rintro aq bF aL ⟨q,av,ap,E,ao,cN,rfl⟩;refine bH cN<|aH fun aS=>aH fun aC=> ?_;have aG:=gd E;have Z:(fun w'=>Wk aL w') aL.drew:=(Md.refl _ _).drew;refine cj (fun w'=>Wk aL w') ag wide Z<|bQ 0 ag (ay O) Z<|bQ 1 ag (ay q) Z<|aU 2 ag (le ag ag) Z<|aU 3 ag (mv) Z<|iP (t:=49) ag (fun cz=> ?_) fun cz=> ?_;refine bm 4 ag (fun _ _=>a8 (.slice A n cp) ag) Z<|bm 5 ag (fun _ _=>a8 (ay q) ag) Z<|bm 6 ag (fun _ _=>bh cQ ag ag aj<|aR.ok ((bg E).2)<|cX aj) Z<|bm 7 ag (fun w' G=>ld dA ag<|dY (i:=q) ((bg E).2.wk G) aj) Z<|bm 8 ag (fun _ _=>a8 (.slice A n cp) ag) Z<|bm 9 ag (fun _ _=>a8 (ay a) ag) Z<|bm 10 ag (fun _ _=>bh cQ ag ag aj<|aR.ok ((bg E).2)<|cX aj) Z<|bm 11 ag (fun w' G=>ld dA ag<|dY (i:=a) ((bg E).2.wk G) aj) Z<|nM 12 ag au ag ag ag<|cl mS (mW (dx d a C)[q]! (dx d a C)[a]! _) ag ?_;rintro v58 c0 ⟨rfl,bZ⟩;have aF:(fun w'=>Wk aL w') c0:=Md.trans Z bZ;refine ⟨aF,?_⟩;refine bm 13 ag (fun _ _=>no ag) aF<|aU 14 ag (bI ag) aF<|hn au<|aC<|cb ag (fun a7=> ?_) fun a7=> ?_;exact aT<|aS<|aW<|rg ag<|aw (ay q)<|p (ed ((q - 1:Nat):Int) ag ag<|bp aj aj)<|p aJ<|nl<|bn<|tn<|⟨_,aj,q - 1,aj,(by rw [← ap,Dz (show 0 < q by omega) (show O≤q by omega) (by simpa using a7)]),(bc E aF),(Md.trans ao<|aF.mono fun _ _ h=>h.elim),ag,ag⟩
 exact ext<|bj<|bj<|be<|tn<|⟨q,av,(by rw [← ap,uY (.inr<|by simpa using a7)]),(bc E aF),(Md.trans ao<|aF.mono fun _ _ h=>h.elim),ag⟩
 exact bf 4 ag Z<|bf 5 ag Z<|bf 6 ag Z<|bf 7 ag Z<|bf 8 ag Z<|bf 9 ag Z<|bf 10 ag Z<|bf 11 ag Z<|bf 12 ag Z<|bf 13 ag Z<|aU 14 ag (bD ag) Z<|hn au<|aC<|cf ag<|ext<|bj<|bj<|be<|tn<|⟨q,av,(by rw [← ap,uY (.inl aj)]),(bc E (Md.refl _ _).drew),ao.drew,ag⟩
 rintro bE ax ⟨V,c4,bd,I,aV,cM⟩;refine bH cM<|aH fun aS=>ak fun aC=>aw (ay O)<|aw (ay V)<|p (gt ag ag)<|nl<|aC<|cd ag (fun cv=> ?_) fun cv=> ?_;refine aH fun a0=> ?_;have aG:=gd I;have an:(fun w'=>Wk ax w') ax.drew:=(Md.refl _ _).drew;refine fj (fun w'=>Wk ax w') 13 ag wide an<|bM 0 ag (.slice A n cp) an<|bM 1 ag (ay V) an<|bM 2 ag (.slice A n cp) an<|bM 3 ag (ay a) an<|bM 4 ag (.slice A n cp) an<|bM 5 ag (ay a) an<|bR 6 ag (bh cQ ag ag aj<|aR.ok ((bg I).2)<|cX aj) an<|ej 7 ag (fun w' G=>ld dA ag<|dY (i:=a) ((bg I).2.wk G) aj) an<|bM 8 ag (.slice A n cp) an<|bM 9 ag (ay V) an<|bR 10 ag (bh cQ ag ag aj<|aR.ok ((bg I).2)<|cX aj) an<|ej 11 ag (fun w' G=>ld dA ag<|dY (i:=V) ((bg I).2.wk G) aj) an<|bR 12 ag (bh cQ ag ag aj<|aR.ok ((bg I).2)<|cX aj) an<|eb 13 ag au au<|gW (u:=(dx d a C)[a]!) (V) (bc I an) gU ag ag ag aj fun c9 b5 cC=> ?_;refine kB 14 ag (fun _=>bh cQ ag ag aj<|aR.ok ((bg I).2)<|cX aj) (fun h=>eA<|(show true =_ from by kernel_rfl).trans h)<|eb 15 ag au au<|gW (u:=(dx d a C)[V]!) (a) cC gU ag ag ag aj fun bu b6 cD=> ?_;have co:bu.ownsRow B 95 1 (.slice A n cp) n (LE bA<|dx (dx d a C) (V)<|a):=cD;have b4:Md (fun q=>(cg A n cp).ownBlock=some q) ax bu:=Md.trans (an.mono fun _ _ h=>h.elim)<|Md.trans b5 b6;refine fi au<|a0<|ak fun a1=>aw (ay V)<|p (cV (ay V) ag)<|az<|a1 ?_;refine rt<|tr<|f2 ag ag ag ?_;have aX:=abg br bd aj;exact ⟨by rw [aX]; rfl,by rw [aX]; exact co,Md.trans aV b4⟩;refine aT<|aS<|aH fun a0=> ?_;have aG:=gd I;have ai:(fun w'=>Wk ax w') ax.drew:=(Md.refl _ _).drew;refine fj (fun w'=>Wk ax w') 13 ag wide ai<|bM 0 ag (.slice A n cp) ai<|bM 1 ag (ay O) ai<|bM 2 ag (.slice A n cp) ai<|bM 3 ag (ay V) ai<|bM 4 ag (.slice A n cp) ai<|bM 5 ag (ay V) ai<|bR 6 ag (bh cQ ag ag aj<|aR.ok ((bg I).2)<|cX aj) ai<|ej 7 ag (fun w' G=>ld dA ag<|dY (i:=V) ((bg I).2.wk G) aj) ai<|bM 8 ag (.slice A n cp) ai<|bM 9 ag (ay O) ai<|bR 10 ag (bh cQ ag ag aj<|aR.ok ((bg I).2)<|cX aj) ai<|ej 11 ag (fun w' G=>ld dA ag<|dY (i:=O) ((bg I).2.wk G) aj) ai<|bR 12 ag (bh cQ ag ag aj<|aR.ok ((bg I).2)<|cX aj) ai<|eb 13 ag au au<|gW (u:=(dx d a C)[V]!) (O) (bc I ai) gU ag ag ag aj fun da b8 cE=> ?_;refine kB 14 ag (fun _=>bh cQ ag ag aj<|aR.ok ((bg I).2)<|cX aj) (fun h=>eA<|(show true =_ from by kernel_rfl).trans h)<|eb 15 ag au au<|gW (u:=(dx d a C)[O]!) (V) cE gU ag ag ag aj fun bv b9 cF=> ?_;have cq:bv.ownsRow B 95 1 (.slice A n cp) n (LE bA<|dx (dx d a C) (O)<|V):=cF;have b7:Md (fun q=>(cg A n cp).ownBlock=some q) ax bv:=Md.trans (ai.mono fun _ _ h=>h.elim)<|Md.trans b8 b9;refine fi au<|a0<|ak fun a1=>aw (ay O)<|p (bJ ((O+1:Nat):Int) ag ag<|bp aj aj)<|az<|a1 ?_
 refine ak fun bU=>aw (ay V)<|p (ed ((V - 1:Nat):Int) ag ag<|bp aj aj)<|az<|bU<|aH fun bV=>aW<|lp (fun aq bG a9=> ∃ (i j:Nat) (J:Array Nat),(a+2≤i∧i≤b∧a≤j∧j < b∧i≤j+2)∧(Hh cT a i j J=Hh cT a (O+1) (V - 1) (dx (dx d a C) O V))∧(a9.ownsRow B 95 1 (.slice A n cp) n<|LE bA J)∧(Md (fun q=>(cg A n cp).ownBlock=some q) w a9)∧(Sl bG [(0,.slice A n cp),(1,ay a),(10,ay i),(11,ay j)])∧(j+1 - i=aq)) _ ⟨O+1,V - 1,dx (dx d a C) O V,aj,ag,cq,(Md.trans aV b7),ag,ag⟩ ?_;rintro aq bG a9 ⟨i,j,J,hi,bq,cm,b0,cO,rfl⟩;refine bH cO<|aW ?_;refine ez (fun bK bb=> ∃ (ac:Nat),(i≤ac∧(ac=i∨ac≤j+1))∧(p9 (fun x=>cT x J[a]!) J (j) (i)=ac)∧(bb.ownsRow B 95 1 (.slice A n cp) n<|LE bA J)∧(Md (fun q=>(cg A n cp).ownBlock=some q) w bb)∧(Sl bK [(0,.slice A n cp),(1,ay a),(10,ay ac),(11,ay j)])) ?_ ?_;refine aW<|lp (fun aq bL aK=> ∃ (q:Nat),(i≤q∧(q=i∨q≤j+1))∧(p9 (fun x=>cT x J[a]!) J (j) (q)=p9 (fun x=>cT x J[a]!) J (j) (i))∧(aK.ownsRow B 95 1 (.slice A n cp) n<|LE bA J)∧(Md (fun q=>(cg A n cp).ownBlock=some q) w aK)∧(Sl bL [(0,.slice A n cp),(1,ay a),(10,ay q),(11,ay j)])∧(j+1 - q=aq)) _ ⟨i,aj,ag,cm,b0,ag,ag⟩ ?_;rintro aq bL aK ⟨q,av,ap,E,ao,cR,rfl⟩;refine bH cR<|aH fun aQ=>aH fun aB=> ?_;have aG:=gd E;have aa:(fun w'=>Wk aK w') aK.drew:=(Md.refl _ _).drew;refine cj (fun w'=>Wk aK w') ag wide aa<|bQ 0 ag (ay q) aa<|bQ 1 ag (ay j) aa<|aU 2 ag (le ag ag) aa<|aU 3 ag (mv) aa<|iP (t:=102) ag (fun cw=> ?_) fun cw=> ?_;refine bm 4 ag (fun _ _=>a8 (.slice A n cp) ag) aa<|bm 5 ag (fun _ _=>a8 (ay q) ag) aa<|bm 6 ag (fun _ _=>bh cQ ag ag aj<|aR.ok ((bg E).2)<|cX aj) aa<|bm 7 ag (fun w' G=>ld dA ag<|dY (i:=q) ((bg E).2.wk G) aj) aa<|bm 8 ag (fun _ _=>a8 (.slice A n cp) ag) aa<|bm 9 ag (fun _ _=>a8 (ay a) ag) aa<|bm 10 ag (fun _ _=>bh cQ ag ag aj<|aR.ok ((bg E).2)<|cX aj) aa<|bm 11 ag (fun w' G=>ld dA ag<|dY (i:=a) ((bg E).2.wk G) aj) aa<|nM 12 ag au ag ag ag<|cl mS (mW J[q]! J[a]! _) ag ?_;rintro c6 cW ⟨rfl,bW⟩;have aO:(fun w'=>Wk aK w') cW:=Md.trans aa bW;refine ⟨aO,?_⟩;refine aU 13 ag (bI ag) aO<|hn au<|aB<|cb ag (fun a4=> ?_) fun a4=> ?_;exact aT<|aQ<|aW<|rg ag<|aw (ay q)<|p (bJ ((q+1:Nat):Int) ag ag<|bp aj aj)<|p aJ<|nl<|bn<|tn<|⟨_,aj,q+1,aj,(by rw [← ap,GF (show q≤j by omega) (by simpa using a4)]),(bc E aO),(Md.trans ao<|aO.mono fun _ _ h=>h.elim),ag,ag⟩
 exact ext<|bj<|bj<|be<|tn<|⟨q,av,(by rw [← ap,vR (.inr<|by simpa using a4)]),(bc E aO),(Md.trans ao<|aO.mono fun _ _ h=>h.elim),ag⟩
 exact bf 4 ag aa<|bf 5 ag aa<|bf 6 ag aa<|bf 7 ag aa<|bf 8 ag aa<|bf 9 ag aa<|bf 10 ag aa<|bf 11 ag aa<|bf 12 ag aa<|aU 13 ag (bD ag) aa<|hn au<|aB<|cf ag<|ext<|bj<|bj<|be<|tn<|⟨q,av,(by rw [← ap,vR (.inl aj)]),(bc E (Md.refl _ _).drew),ao.drew,ag⟩
 rintro bK bb ⟨ac,bk,bs,a3,a2,cP⟩;refine bH cP ?_;refine ez (fun bN aA=> ∃ (ae:Nat),(a≤ae∧ae≤j)∧(p8 (fun x=> !cT x J[a]!) J (ac) (j)=ae)∧(aA.ownsRow B 95 1 (.slice A n cp) n<|LE bA J)∧(Md (fun q=>(cg A n cp).ownBlock=some q) w aA)∧(Sl bN [(0,.slice A n cp),(1,ay a),(10,ay ac),(11,ay ae)])) ?_ ?_;refine aW<|lp (fun aq bO aN=> ∃ (q:Nat),(a≤q∧q≤j)∧(p8 (fun x=> !cT x J[a]!) J (ac) (q)=p8 (fun x=> !cT x J[a]!) J (ac) (j))∧(aN.ownsRow B 95 1 (.slice A n cp) n<|LE bA J)∧(Md (fun q=>(cg A n cp).ownBlock=some q) w aN)∧(Sl bO [(0,.slice A n cp),(1,ay a),(10,ay ac),(11,ay q)])∧(q=aq)) _ ⟨j,aj,ag,a3,a2,ag,ag⟩ ?_;rintro aq bO aN ⟨q,av,ap,E,ao,cU,rfl⟩;refine bH cU<|aH fun aQ=>aH fun aB=> ?_;have aG:=gd E;have Y:(fun w'=>Wk aN w') aN.drew:=(Md.refl _ _).drew;refine cj (fun w'=>Wk aN w') ag wide Y<|bQ 0 ag (ay ac) Y<|bQ 1 ag (ay q) Y<|aU 2 ag (le ag ag) Y<|aU 3 ag (mv) Y<|iP (t:=118) ag (fun cx=> ?_) fun cx=> ?_;refine bm 4 ag (fun _ _=>a8 (.slice A n cp) ag) Y<|bm 5 ag (fun _ _=>a8 (ay q) ag) Y<|bm 6 ag (fun _ _=>bh cQ ag ag aj<|aR.ok ((bg E).2)<|cX aj) Y<|bm 7 ag (fun w' G=>ld dA ag<|dY (i:=q) ((bg E).2.wk G) aj) Y<|bm 8 ag (fun _ _=>a8 (.slice A n cp) ag) Y<|bm 9 ag (fun _ _=>a8 (ay a) ag) Y<|bm 10 ag (fun _ _=>bh cQ ag ag aj<|aR.ok ((bg E).2)<|cX aj) Y<|bm 11 ag (fun w' G=>ld dA ag<|dY (i:=a) ((bg E).2.wk G) aj) Y<|nM 12 ag au ag ag ag<|cl mS (mW J[q]! J[a]! _) ag ?_;rintro v127 cY ⟨rfl,bX⟩;have aD:(fun w'=>Wk aN w') cY:=Md.trans Y bX;refine ⟨aD,?_⟩;refine bm 13 ag (fun _ _=>no ag) aD<|aU 14 ag (bI ag) aD<|hn au<|aB<|cb ag (fun a5=> ?_) fun a5=> ?_;exact aT<|aQ<|aW<|rg ag<|aw (ay q)<|p (ed ((q - 1:Nat):Int) ag ag<|bp aj aj)<|p aJ<|nl<|bn<|tn<|⟨_,aj,q - 1,aj,(by rw [← ap,Dz (show 0 < q by omega) (show ac≤q by omega) (by simpa using a5)]),(bc E aD),(Md.trans ao<|aD.mono fun _ _ h=>h.elim),ag,ag⟩
 exact ext<|bj<|bj<|be<|tn<|⟨q,av,(by rw [← ap,uY (.inr<|by simpa using a5)]),(bc E aD),(Md.trans ao<|aD.mono fun _ _ h=>h.elim),ag⟩
 exact bf 4 ag Y<|bf 5 ag Y<|bf 6 ag Y<|bf 7 ag Y<|bf 8 ag Y<|bf 9 ag Y<|bf 10 ag Y<|bf 11 ag Y<|bf 12 ag Y<|bf 13 ag Y<|aU 14 ag (bD ag) Y<|hn au<|aB<|cf ag<|ext<|bj<|bj<|be<|tn<|⟨q,av,(by rw [← ap,uY (.inl aj)]),(bc E (Md.refl _ _).drew),ao.drew,ag⟩
 rintro bN aA ⟨ae,bo,bi,I,aV,cS⟩;refine bH cS<|aH fun aQ=>ak fun aB=>aw (ay ac)<|aw (ay ae)<|p (gt ag ag)<|nl<|aB<|cd ag (fun cu=> ?_) fun cu=> ?_;refine ext<|bj<|qh aM<|bj<|be<|bV<|aH fun aY=> ?_;have aG:=gd I;have am:(fun w'=>Wk aA w') aA.drew:=(Md.refl _ _).drew;refine fj (fun w'=>Wk aA w') 13 ag wide am<|bM 0 ag (.slice A n cp) am<|bM 1 ag (ay ae) am<|bM 2 ag (.slice A n cp) am<|bM 3 ag (ay a) am<|bM 4 ag (.slice A n cp) am<|bM 5 ag (ay a) am<|bR 6 ag (bh cQ ag ag aj<|aR.ok ((bg I).2)<|cX aj) am<|ej 7 ag (fun w' G=>ld dA ag<|dY (i:=a) ((bg I).2.wk G) aj) am<|bM 8 ag (.slice A n cp) am<|bM 9 ag (ay ae) am<|bR 10 ag (bh cQ ag ag aj<|aR.ok ((bg I).2)<|cX aj) am<|ej 11 ag (fun w' G=>ld dA ag<|dY (i:=ae) ((bg I).2.wk G) aj) am<|bR 12 ag (bh cQ ag ag aj<|aR.ok ((bg I).2)<|cX aj) am<|eb 13 ag au au<|gW (u:=J[a]!) (ae) (bc I am) gU ag ag ag aj fun dc ci cI=> ?_;refine kB 14 ag (fun _=>bh cQ ag ag aj<|aR.ok ((bg I).2)<|cX aj) (fun h=>eA<|(show true =_ from by kernel_rfl).trans h)<|eb 15 ag au au<|gW (u:=J[ae]!) (a) cI gU ag ag ag aj fun bz ck cJ=> ?_;have ct:bz.ownsRow B 95 1 (.slice A n cp) n (LE bA<|dx J (ae)<|a):=cJ;have ch:Md (fun q=>(cg A n cp).ownBlock=some q) aA bz:=Md.trans (am.mono fun _ _ h=>h.elim)<|Md.trans ci ck;refine fi au<|aY<|ak fun aZ=>aw (ay ae)<|p (cV (ay ae) ag)<|az<|aZ ?_;refine rt<|f2 ag ag ag ?_;have aX:=part_go br bd aj<|bq.symm.trans<|by rw [NP bs bi bk.1 bo.2,if_pos aj]
 exact ⟨by rw [aX]; rfl,by rw [aX]; exact ct,Md.trans aV ch⟩;refine aT<|aQ<|aH fun aY=> ?_;have aG:=gd I;have al:(fun w'=>Wk aA w') aA.drew:=(Md.refl _ _).drew;refine fj (fun w'=>Wk aA w') 13 ag wide al<|bM 0 ag (.slice A n cp) al<|bM 1 ag (ay ac) al<|bM 2 ag (.slice A n cp) al<|bM 3 ag (ay ae) al<|bM 4 ag (.slice A n cp) al<|bM 5 ag (ay ae) al<|bR 6 ag (bh cQ ag ag aj<|aR.ok ((bg I).2)<|cX aj) al<|ej 7 ag (fun w' G=>ld dA ag<|dY (i:=ae) ((bg I).2.wk G) aj) al<|bM 8 ag (.slice A n cp) al<|bM 9 ag (ay ac) al<|bR 10 ag (bh cQ ag ag aj<|aR.ok ((bg I).2)<|cX aj) al<|ej 11 ag (fun w' G=>ld dA ag<|dY (i:=ac) ((bg I).2.wk G) aj) al<|bR 12 ag (bh cQ ag ag aj<|aR.ok ((bg I).2)<|cX aj) al<|eb 13 ag au au<|gW (u:=J[ae]!) (ac) (bc I al) gU ag ag ag aj fun db cc cG=> ?_;refine kB 14 ag (fun _=>bh cQ ag ag aj<|aR.ok ((bg I).2)<|cX aj) (fun h=>eA<|(show true =_ from by kernel_rfl).trans h)<|eb 15 ag au au<|gW (u:=J[ac]!) (ae) cG gU ag ag ag aj fun bx ce cH=> ?_;have cs:bx.ownsRow B 95 1 (.slice A n cp) n (LE bA<|dx J (ac)<|ae):=cH;have ca:Md (fun q=>(cg A n cp).ownBlock=some q) aA bx:=Md.trans (al.mono fun _ _ h=>h.elim)<|Md.trans cc ce;refine fi au<|aY<|ak fun aZ=>aw (ay ac)<|p (bJ ((ac+1:Nat):Int) ag ag<|bp aj aj)<|az<|aZ ?_;exact rg ag<|aw (ay ae)<|p (ed ((ae - 1:Nat):Int) ag ag<|bp aj aj)<|p aJ<|nl<|bn<|tn<|⟨_,aj,ac+1,ae - 1,dx J ac ae,aj,(by rw [← bq,NP bs bi bk.1 bo.2,if_neg aj,if_pos aj]),cs,(Md.trans aV ca),ag,ag⟩
theorem abk (d:Array Nat) (a b aa:Nat) (B n cp:Nat) (A:Option Addr) (w:World) (hO:w.ownsRow B 95 1 (.slice A n cp) n (LE bA d)) (bS:a≤aa∧aa < b∧b≤n) (bW:n≤1099511627776):
 bw aE 291 (bl [.slice A n cp,ay a,ay b,ay aa]) w (fun v w'=>v=ay ((yJ cT d a b aa).1)∧w'.ownsRow B 95 1 (.slice A n cp) n (LE bA (yJ cT d a b aa).2)∧Md (fun q=>(cg A n cp).ownBlock=some q) w w'):=by
 refine enter func291 ag ntmps291 ag<|ak fun aZ=>az<|aZ<|aH fun a0=> ?_;have bT:=gd hO;have O:(fun w'=>Wk w w') w.drew:=(Md.refl _ _).drew;refine fj (fun w'=>Wk w w') 13 ag wide O<|bM 0 ag (.slice A n cp) O<|bM 1 ag (ay a) O<|bM 2 ag (.slice A n cp) O<|bM 3 ag (ay aa) O<|bM 4 ag (.slice A n cp) O<|bM 5 ag (ay aa) O<|bR 6 ag (bh cQ ag ag aj<|aR.ok ((bg hO).2)<|cX aj) O<|ej 7 ag (fun w' Z=>ld dA ag<|dY (i:=aa) ((bg hO).2.wk Z) aj) O<|bM 8 ag (.slice A n cp) O<|bM 9 ag (ay a) O<|bR 10 ag (bh cQ ag ag aj<|aR.ok ((bg hO).2)<|cX aj) O<|ej 11 ag (fun w' Z=>ld dA ag<|dY (i:=a) ((bg hO).2.wk Z) aj) O<|bR 12 ag (bh cQ ag ag aj<|aR.ok ((bg hO).2)<|cX aj) O<|eb 13 ag au au<|gW (u:=d[aa]!) (a) (bc hO O) gU ag ag ag aj fun bX a9 bz=> ?_;refine kB 14 ag (fun _=>bh cQ ag ag aj<|aR.ok ((bg hO).2)<|cX aj) (fun h=>eA<|(show true =_ from by kernel_rfl).trans h)<|eb 15 ag au au<|gW (u:=d[a]!) (aa) bz gU ag ag ag aj fun aO bb bB=> ?_;have bs:aO.ownsRow B 95 1 (.slice A n cp) n (LE bA<|dx d (a)<|aa):=bB;have a7:Md (fun q=>(cg A n cp).ownBlock=some q) w aO:=Md.trans (O.mono fun _ _ h=>h.elim)<|Md.trans a9 bb;refine fi au<|a0<|ak fun a1=>aw (ay a)<|p (bJ ((a+1:Nat):Int) ag ag<|bp aj aj)<|aw (ay b)<|p (ed ((b - 1:Nat):Int) ag ag<|bp aj aj)<|p aJ ?_;refine az<|a1<|aH fun a2=>aW<|lp (fun ac aQ aC=> ∃ (i j:Nat) (C:Array Nat),(a+1≤i∧i≤b∧a≤j∧j < b∧i≤j+2)∧(Go.Sort.partEqLoop cT a i j C=yJ cT d a b aa)∧(aC.ownsRow B 95 1 (.slice A n cp) n<|LE bA C)∧(Md (fun q=>(cg A n cp).ownBlock=some q) w aC)∧(Sl aQ [(0,.slice A n cp),(1,ay a),(9,ay i),(10,ay j)])∧(j+1 - i=ac)) _ ⟨a+1,b - 1,(dx d a aa),aj,ag,bs,a7,ag,ag⟩ ?_;rintro ac aQ aC ⟨i,j,C,hi,aK,bq,a6,bF,rfl⟩;refine bH bF<|aW ?_;refine ez (fun aS aD=> ∃ (E:Nat),(i≤E∧(E=i∨E≤j+1))∧(p9 (fun x=> !cT C[a]! x) C (j) (i)=E)∧(aD.ownsRow B 95 1 (.slice A n cp) n<|LE bA C)∧(Md (fun q=>(cg A n cp).ownBlock=some q) w aD)∧(Sl aS [(0,.slice A n cp),(1,ay a),(9,ay E),(10,ay j)])) ?_ ?_;refine aW<|lp (fun ac aV am=> ∃ (q:Nat),(i≤q∧(q=i∨q≤j+1))∧(p9 (fun x=> !cT C[a]! x) C (j) (q)=p9 (fun x=> !cT C[a]! x) C (j) (i))∧(am.ownsRow B 95 1 (.slice A n cp) n<|LE bA C)∧(Md (fun q=>(cg A n cp).ownBlock=some q) w am)∧(Sl aV [(0,.slice A n cp),(1,ay a),(9,ay q),(10,ay j)])∧(j+1 - q=ac)) _ ⟨i,aj,ag,bq,a6,ag,ag⟩ ?_;rintro ac aV am ⟨q,av,al,J,ah,bK,rfl⟩;refine bH bK<|aH fun aq=>aH fun ae=> ?_;have aG:=gd J;have G:(fun w'=>Wk am w') am.drew:=(Md.refl _ _).drew;refine cj (fun w'=>Wk am w') ag wide G<|bQ 0 ag (ay q) G<|bQ 1 ag (ay j) G<|aU 2 ag (le ag ag) G<|aU 3 ag (mv) G<|iP (t:=32) ag (fun bv=> ?_) fun bv=> ?_
 refine bm 4 ag (fun _ _=>a8 (.slice A n cp) ag) G<|bm 5 ag (fun _ _=>a8 (ay a) ag) G<|bm 6 ag (fun _ _=>bh cQ ag ag aj<|aR.ok ((bg J).2)<|cX aj) G<|bm 7 ag (fun w' Z=>ld dA ag<|dY (i:=a) ((bg J).2.wk Z) aj) G<|bm 8 ag (fun _ _=>a8 (.slice A n cp) ag) G<|bm 9 ag (fun _ _=>a8 (ay q) ag) G<|bm 10 ag (fun _ _=>bh cQ ag ag aj<|aR.ok ((bg J).2)<|cX aj) G<|bm 11 ag (fun w' Z=>ld dA ag<|dY (i:=q) ((bg J).2.wk Z) aj) G<|nM 12 ag au ag ag ag<|cl mS (mW C[a]! C[q]! _) ag ?_;rintro v41 bO ⟨rfl,a4⟩;have ai:(fun w'=>Wk am w') bO:=Md.trans G a4;refine ⟨ai,?_⟩;refine bm 13 ag (fun _ _=>no ag) ai<|aU 14 ag (bI ag) ai<|hn au<|ae<|cb ag (fun aA=> ?_) fun aA=> ?_;exact aT<|aq<|aW<|rg ag<|aw (ay q)<|p (bJ ((q+1:Nat):Int) ag ag<|bp aj aj)<|p aJ<|nl<|bn<|tn<|⟨_,aj,q+1,aj,(by rw [← al,GF (show q≤j by omega) (by simpa using aA)]),(bc J ai),(Md.trans ah<|ai.mono fun _ _ h=>h.elim),ag,ag⟩
 exact ext<|bj<|bj<|be<|tn<|⟨q,av,(by rw [← al,vR (.inr<|by simpa using aA)]),(bc J ai),(Md.trans ah<|ai.mono fun _ _ h=>h.elim),ag⟩
 exact bf 4 ag G<|bf 5 ag G<|bf 6 ag G<|bf 7 ag G<|bf 8 ag G<|bf 9 ag G<|bf 10 ag G<|bf 11 ag G<|bf 12 ag G<|bf 13 ag G<|aU 14 ag (bD ag) G<|hn au<|ae<|cf ag<|ext<|bj<|bj<|be<|tn<|⟨q,av,(by rw [← al,vR (.inl aj)]),(bc J (Md.refl _ _).drew),ah.drew,ag⟩
 rintro aS aD ⟨E,bU,aL,br,bo,bG⟩;refine bH bG ?_;refine ez (fun aX ao=> ∃ (Y:Nat),(a≤Y∧Y≤j)∧(p8 (fun x=>cT C[a]! x) C (E) (j)=Y)∧(ao.ownsRow B 95 1 (.slice A n cp) n<|LE bA C)∧(Md (fun q=>(cg A n cp).ownBlock=some q) w ao)∧(Sl aX [(0,.slice A n cp),(1,ay a),(9,ay E),(10,ay Y)])) ?_ ?_;refine aW<|lp (fun ac aY an=> ∃ (q:Nat),(a≤q∧q≤j)∧(p8 (fun x=>cT C[a]! x) C (E) (q)=p8 (fun x=>cT C[a]! x) C (E) (j))∧(an.ownsRow B 95 1 (.slice A n cp) n<|LE bA C)∧(Md (fun q=>(cg A n cp).ownBlock=some q) w an)∧(Sl aY [(0,.slice A n cp),(1,ay a),(9,ay E),(10,ay q)])∧(q=ac)) _ ⟨j,aj,ag,br,bo,ag,ag⟩ ?_;rintro ac aY an ⟨q,av,al,J,ah,bN,rfl⟩;refine bH bN<|aH fun aq=>aH fun ae=> ?_;have aG:=gd J;have I:(fun w'=>Wk an w') an.drew:=(Md.refl _ _).drew;refine cj (fun w'=>Wk an w') ag wide I<|bQ 0 ag (ay E) I<|bQ 1 ag (ay q) I<|aU 2 ag (le ag ag) I<|aU 3 ag (mv) I<|iP (t:=49) ag (fun bx=> ?_) fun bx=> ?_;refine bm 4 ag (fun _ _=>a8 (.slice A n cp) ag) I<|bm 5 ag (fun _ _=>a8 (ay a) ag) I<|bm 6 ag (fun _ _=>bh cQ ag ag aj<|aR.ok ((bg J).2)<|cX aj) I<|bm 7 ag (fun w' Z=>ld dA ag<|dY (i:=a) ((bg J).2.wk Z) aj) I<|bm 8 ag (fun _ _=>a8 (.slice A n cp) ag) I<|bm 9 ag (fun _ _=>a8 (ay q) ag) I<|bm 10 ag (fun _ _=>bh cQ ag ag aj<|aR.ok ((bg J).2)<|cX aj) I<|bm 11 ag (fun w' Z=>ld dA ag<|dY (i:=q) ((bg J).2.wk Z) aj) I<|nM 12 ag au ag ag ag<|cl mS (mW C[a]! C[q]! _) ag ?_;rintro v58 bP ⟨rfl,a5⟩;have ap:(fun w'=>Wk an w') bP:=Md.trans I a5;refine ⟨ap,?_⟩;refine aU 13 ag (bI ag) ap<|hn au<|ae<|cb ag (fun aB=> ?_) fun aB=> ?_;exact aT<|aq<|aW<|rg ag<|aw (ay q)<|p (ed ((q - 1:Nat):Int) ag ag<|bp aj aj)<|p aJ<|nl<|bn<|tn<|⟨_,aj,q - 1,aj,(by rw [← al,Dz (show 0 < q by omega) (show E≤q by omega) (by simpa using aB)]),(bc J ap),(Md.trans ah<|ap.mono fun _ _ h=>h.elim),ag,ag⟩
 exact ext<|bj<|bj<|be<|tn<|⟨q,av,(by rw [← al,uY (.inr<|by simpa using aB)]),(bc J ap),(Md.trans ah<|ap.mono fun _ _ h=>h.elim),ag⟩
 exact bf 4 ag I<|bf 5 ag I<|bf 6 ag I<|bf 7 ag I<|bf 8 ag I<|bf 9 ag I<|bf 10 ag I<|bf 11 ag I<|bf 12 ag I<|aU 13 ag (bD ag) I<|hn au<|ae<|cf ag<|ext<|bj<|bj<|be<|tn<|⟨q,av,(by rw [← al,uY (.inl aj)]),(bc J (Md.refl _ _).drew),ah.drew,ag⟩
 rintro aX ao ⟨Y,bV,aI,ab,aF,bL⟩;refine bH bL<|aH fun aq=>ak fun ae=>aw (ay E)<|aw (ay Y)<|p (gt ag ag)<|nl<|ae<|cd ag (fun bu=> ?_) fun bu=> ?_;refine ext<|bj<|qh aM<|bj<|be<|a2<|ak fun ax=>aw (ay E)<|p (cV (ay E) ag)<|nl<|ax<|rt<|ba ag ?_;have aN:yJ cT d a b aa=(E,C):=by rw [← aK,NI aL aI,if_pos aj]
 exact ⟨by rw [aN]; rfl,by rw [aN]; exact ab,aF⟩;refine aT<|aq<|aH fun ax=> ?_;have aG:=gd ab;have V:(fun w'=>Wk ao w') ao.drew:=(Md.refl _ _).drew;refine fj (fun w'=>Wk ao w') 13 ag wide V<|bM 0 ag (.slice A n cp) V<|bM 1 ag (ay E) V<|bM 2 ag (.slice A n cp) V<|bM 3 ag (ay Y) V<|bM 4 ag (.slice A n cp) V<|bM 5 ag (ay Y) V<|bR 6 ag (bh cQ ag ag aj<|aR.ok ((bg ab).2)<|cX aj) V<|ej 7 ag (fun w' Z=>ld dA ag<|dY (i:=Y) ((bg ab).2.wk Z) aj) V<|bM 8 ag (.slice A n cp) V<|bM 9 ag (ay E) V<|bR 10 ag (bh cQ ag ag aj<|aR.ok ((bg ab).2)<|cX aj) V<|ej 11 ag (fun w' Z=>ld dA ag<|dY (i:=E) ((bg ab).2.wk Z) aj) V<|bR 12 ag (bh cQ ag ag aj<|aR.ok ((bg ab).2)<|cX aj) V<|eb 13 ag au au<|gW (u:=C[Y]!) (E) (bc ab V) gU ag ag ag aj fun bY bi bC=> ?_;refine kB 14 ag (fun _=>bh cQ ag ag aj<|aR.ok ((bg ab).2)<|cX aj) (fun h=>eA<|(show true =_ from by kernel_rfl).trans h)<|eb 15 ag au au<|gW (u:=C[E]!) (Y) bC gU ag ag ag aj fun aP bk bE=> ?_;have bt:aP.ownsRow B 95 1 (.slice A n cp) n (LE bA<|dx C (E)<|Y):=bE;have bd:Md (fun q=>(cg A n cp).ownBlock=some q) ao aP:=Md.trans (V.mono fun _ _ h=>h.elim)<|Md.trans bi bk;refine fi au<|ax<|ak fun a3=>aw (ay E)<|p (bJ ((E+1:Nat):Int) ag ag<|bp aj aj)<|az<|a3 ?_;exact rg ag<|aw (ay Y)<|p (ed ((Y - 1:Nat):Int) ag ag<|bp aj aj)<|p aJ<|nl<|bn<|tn<|⟨_,aj,E+1,Y - 1,dx C E Y,aj,(by rw [← aK,NI aL aI,if_neg aj,if_pos aj]),bt,(Md.trans aF bd),ag,ag⟩
end Go.Hb
end
section
namespace Go.Hb
open Go.Hb.dX
theorem abr {d:Array Nat} {a b s i i2:Nat} (A:0 < s) (h:wm cT d b i=i2) (h1:i2=b):s5 cT a b s i d=(d,true):=by
 cases s with
 | zero=>omega
 | succ s=>rw [s5]; simp only [h,if_pos h1]
theorem pi_short {d:Array Nat} {a b s i i2:Nat} (A:0 < s) (h:wm cT d b i=i2) (h1:¬i2=b) (h2:b - a < 50):s5 cT a b s i d=(d,false):=by
 cases s with
 | zero=>omega
 | succ s=>rw [s5]; simp only [h,if_neg h1,if_pos h2]
theorem pi_go {d A C:Array Nat} {a b s i i2:Nat} (I:0 < s) (h:wm cT d b i=i2) (h1:¬i2=b) (h2:¬b - a < 50)
 (E:A=if i2 - a≥2 then BX cT (i2 - 1) (dx d i2<|i2 - 1) else dx d i2 (i2 - 1)) (G:C=if b - i2≥2 then Hj cT b (i2+1) A else A):
 s5 cT a b s i d=s5 cT a b (s - 1) i2 C:=by
 cases s with
 | zero=>omega
 | succ s=>rw [s5]; simp only [h,if_neg h1,if_neg h2]; rw [← E,← G]; rfl
theorem abv (d:Array Nat) (a b:Nat) (B n cp:Nat) (A:Option Addr) (w:World) (hO:w.ownsRow B 95 1 (.slice A n cp) n (LE bA d)) (cI:a < b∧b≤n) (cM:n≤1099511627776):
 bw aE 289 (bl [.slice A n cp,ay a,ay b]) w (fun v w'=>v= .bool (wj cT d a b).2∧w'.ownsRow B 95 1 (.slice A n cp) n (LE bA (wj cT d a b).1)∧Md (fun q=>(cg A n cp).ownBlock=some q) w w'):=by
 refine enter func289 ag ntmps289 ag<|ak fun bU=>az<|bU<|ak fun bW=>aw (ay a)<|p (bJ ((a+1:Nat):Int) ag ag<|bp aj aj)<|az<|bW<|aH fun bX=>ak fun bY=>p aJ<|nl<|bY<|aW<|lp (fun Z bG bq=> ∃ (s i:Nat) (G:Array Nat),(a+1≤i∧i≤b∧s≤5)∧(s5 cT a b (5 - s) i G=(wj cT d a b))∧(bq.ownsRow B 95 1 (.slice A n cp) n<|LE bA G)∧(Md (fun q=>(cg A n cp).ownBlock=some q) w bq)∧(Sl bG [(0,.slice A n cp),(1,ay a),(2,ay b),(7,ay i),(8,ay s)])∧(5 - s=Z)) _ ⟨0,a+1,d,aj,ag,hO,(Md.refl _ _),ag,ag⟩ ?_;rintro Z bG bq ⟨s,i,G,hi,aD,bv,bs,cB,rfl⟩;refine bH cB<|aH fun bZ=>ak fun b0=>aw (ay s)<|p (lt ag ag)<|nl<|b0<|cd ag (fun ck=> ?_) fun ck=> ?_;refine aT<|bZ<|aH fun aF=>aW ?_;refine ez (fun bK aq=> ∃ (i2:Nat),(i≤i2∧i2≤b)∧(wm cT G b i=i2)∧(aq.ownsRow B 95 1 (.slice A n cp) n<|LE bA G)∧(Md (fun q=>(cg A n cp).ownBlock=some q) w aq)∧(Sl bK [(0,.slice A n cp),(1,ay a),(2,ay b),(7,ay i2),(8,ay s)])) ?_ ?_;refine aW<|lp (fun Z bL aA=> ∃ (q:Nat),(i≤q∧q≤b)∧(wm cT G b q=wm cT G b i)∧(aA.ownsRow B 95 1 (.slice A n cp) n<|LE bA G)∧(Md (fun q=>(cg A n cp).ownBlock=some q) w aA)∧(Sl bL [(0,.slice A n cp),(1,ay a),(2,ay b),(7,ay q),(8,ay s)])∧(b - q=Z)) _ ⟨i,aj,ag,bv,bs,ag,ag⟩ ?_;rintro Z bL aA ⟨q,bB,bd,ae,a3,cD,rfl⟩;refine bH cD<|aH fun a1=>aH fun aL=> ?_;have ct:=gd ae;have C:(fun w'=>Wk aA w') aA.drew:=(Md.refl _ _).drew;refine cj (fun w'=>Wk aA w') ag wide C<|bQ 0 ag (ay q) C<|bQ 1 ag (ay b) C<|aU 2 ag (lt ag ag) C<|aU 3 ag (mv) C<|iP (t:=20) ag (fun cu=> ?_) fun cu=> ?_;refine bm 4 ag (fun _ _=>a8 (.slice A n cp) ag) C<|bm 5 ag (fun _ _=>a8 (ay q) ag) C<|bm 6 ag (fun _ _=>bh cQ ag ag aj<|aR.ok ((bg ae).2)<|cX aj) C<|bm 7 ag (fun w' E=>ld dA ag<|dY (i:=q) ((bg ae).2.wk E) aj) C<|bm 8 ag (fun _ _=>a8 (.slice A n cp) ag) C<|bm 9 ag (fun _ _=>a8 (ay q) ag) C<|bm 10 ag (fun _ _=>ed ((q - 1:Nat):Int) ag ag<|bp aj aj) C<|bm 11 ag (fun _ _=>bh cQ ag ag aj<|aR.ok ((bg ae).2)<|cX aj) C<|bm 12 ag (fun w' E=>ld dA ag<|dY (i:=q - 1) ((bg ae).2.wk E) aj) C<|nM 13 ag au ag ag ag<|cl mS (mW G[q]! G[q - 1]! _) ag ?_;rintro v30 cH ⟨rfl,b2⟩;have ap:(fun w'=>Wk aA w') cH:=Md.trans C b2;refine ⟨ap,?_⟩;refine bm 14 ag (fun _ _=>no ag) ap<|aU 15 ag (bI ag) ap<|hn au<|aL<|cb ag (fun a7=> ?_) fun a7=> ?_;exact aT<|a1<|aW<|rg ag<|aw (ay q)<|p (bJ ((q+1:Nat):Int) ag ag<|bp aj aj)<|p aJ<|nl<|bn<|tn<|⟨_,aj,q+1,aj,(by rw [← bd,acY (show q < b by omega) (by simpa using a7)]),(bc ae ap),(Md.trans a3<|ap.mono fun _ _ h=>h.elim),ag,ag⟩
 exact ext<|bj<|bj<|be<|tn<|⟨q,aj,(by rw [← bd,OQ (.inr<|by simpa using a7)]),(bc ae ap),(Md.trans a3<|ap.mono fun _ _ h=>h.elim),ag⟩
 exact bf 4 ag C<|bf 5 ag C<|bf 6 ag C<|bf 7 ag C<|bf 8 ag C<|bf 9 ag C<|bf 10 ag C<|bf 11 ag C<|bf 12 ag C<|bf 13 ag C<|bf 14 ag C<|aU 15 ag (bD ag) C<|hn au<|aL<|cf ag<|ext<|bj<|bj<|be<|tn<|⟨q,aj,(by rw [← bd,OQ (.inl aj)]),(bc ae (Md.refl _ _).drew),a3.drew,ag⟩
 rintro bK aq ⟨i2,cL,aG,ac,aN,cC⟩;refine bH cC<|aH fun a1=>ak fun aL=>aw (ay i2)<|aw (ay b)<|p (bT ag ag)<|nl<|aL<|cd ag (fun cm=> ?_) fun cm=> ?_;refine ak fun aO=>az<|aO<|rt<|tr<|br<|tr<|tr<|br<|tr<|ba ag ?_;have al:(wj cT d a b)=(G,true):=by rw [← aD,abr (show 0 < 5 - s by omega) aG aj]
 exact ⟨by rw [al]; rfl,by rw [al]; exact ac,aN⟩;have a2:¬i2=b:=aj;refine aT<|a1<|aH fun aO=>ak fun bV=>aw (ay b)<|aw (ay a)<|p (ed ((b - a:Nat):Int) ag ag<|bp aj aj)<|p (lt ag ag)<|nl<|bV<|cd ag (fun cn=> ?_) fun cn=> ?_;refine ak fun aP=>az<|aP<|rt<|tr<|br<|tr<|tr<|br<|tr<|ba ag ?_;have al:(wj cT d a b)=(G,false):=by rw [← aD,pi_short (show 0 < 5 - s by omega) aG aj aj]
 exact ⟨by rw [al]; rfl,by rw [al]; exact ac,aN⟩;refine aT<|aO<|aH fun aP=> ?_;have ct:=gd ac;have I:(fun w'=>Wk aq w') aq.drew:=(Md.refl _ _).drew;refine fj (fun w'=>Wk aq w') 15 ag wide I<|bM 0 ag (.slice A n cp) I<|bM 1 ag (ay i2) I<|bM 2 ag (.slice A n cp) I<|bM 3 ag (ay i2) I<|bR 4 ag (ed ((i2 - 1:Nat):Int) ag ag<|bp aj aj) I<|bM 5 ag (.slice A n cp) I<|bM 6 ag (ay i2) I<|bR 7 ag (ed ((i2 - 1:Nat):Int) ag ag<|bp aj aj) I<|bR 8 ag (bh cQ ag ag aj<|aR.ok ((bg ac).2)<|cX aj) I<|ej 9 ag (fun w' E=>ld dA ag<|dY (i:=i2 - 1) ((bg ac).2.wk E) aj) I<|bM 10 ag (.slice A n cp) I<|bM 11 ag (ay i2) I<|bR 12 ag (bh cQ ag ag aj<|aR.ok ((bg ac).2)<|cX aj) I<|ej 13 ag (fun w' E=>ld dA ag<|dY (i:=i2) ((bg ac).2.wk E) aj) I<|bR 14 ag (bh cQ ag ag aj<|aR.ok ((bg ac).2)<|cX aj) I ?_;refine eb 15 ag au au<|gW (u:=G[i2 - 1]!) (i2) (bc ac I) gU ag ag ag aj fun cO b4 cv=>kB 16 ag (fun _=>bh cQ ag ag aj<|aR.ok ((bg ac).2)<|cX aj) (fun h=>eA<|(show true =_ from by kernel_rfl).trans h)<|eb 17 ag au au<|gW (u:=G[i2]!) (i2 - 1) cv gU ag ag ag aj fun bC b5 cw=> ?_;have bz:bC.ownsRow B 95 1 (.slice A n cp) n (LE bA<|dx G (i2)<|i2 - 1):=cw;have bt:Md (fun q=>(cg A n cp).ownBlock=some q) aq bC:=Md.trans (I.mono fun _ _ h=>h.elim)<|Md.trans b4 b5;refine fi au<|aP ?_;refine ez (fun bN bo=> ∃ (am:Array Nat),(am=if i2 - a≥2 then BX cT (i2 - 1) (dx G i2<|i2 - 1) else (dx G i2<|i2 - 1))∧(bo.ownsRow B 95 1 (.slice A n cp) n<|LE bA am)∧(Md (fun q=>(cg A n cp).ownBlock=some q) w bo)∧(Sl bN [(0,.slice A n cp),(1,ay a),(2,ay b),(7,ay i2),(8,ay s)])) ?_ ?_;refine ak fun aQ=>aw (ay i2)<|aw (ay a)<|p (ed ((i2 - a:Nat):Int) ag ag<|bp aj aj)<|p (ge ag ag)<|nl<|aQ<|cd ag (fun co=> ?_) fun co=> ?_;refine ak fun aS=>aw (ay i2)<|p (ed ((i2 - 1:Nat):Int) ag ag<|bp aj aj)<|az<|aS<|aW<|lp (fun Z bO av=> ∃ (q:Nat) (Y:Array Nat),(q≤i2 - 1)∧(BX cT q Y=BX cT (i2 - 1) (dx G i2<|i2 - 1))∧(av.ownsRow B 95 1 (.slice A n cp) n<|LE bA Y)∧(Md (fun q=>(cg A n cp).ownBlock=some q) w av)∧(Sl bO [(0,.slice A n cp),(1,ay a),(2,ay b),(7,ay i2),(8,ay s),(9,ay q)])∧(q=Z)) _ ⟨i2 - 1,(dx G i2<|i2 - 1),aj,ag,bz,(Md.trans aN bt),ag,ag⟩ ?_;rintro Z bO av ⟨q,Y,bB,bi,ah,a4,cF,rfl⟩;refine bH cF<|aH fun aV=>ak fun aX=>aw (ay q)<|p (ge ag ag)<|nl<|aX<|cd ag (fun cq=> ?_) fun cq=> ?_;refine aT<|aV<|aH fun aY=>aW<|aH fun aZ=>aH fun a0=> ?_;have cJ:=gd ah;have aa:(fun w'=>Wk av w') av.drew:=(Md.refl _ _).drew;refine cj (fun w'=>Wk av w') ag wide aa<|bQ 0 ag (.slice A n cp) aa<|bQ 1 ag (ay q) aa<|aU 2 ag (bh cQ ag ag aj<|aR.ok ((bg ah).2)<|cX aj) aa<|bS 3 ag (fun w' E=>ld dA ag<|dY (i:=q) ((bg ah).2.wk E) aj) aa<|bQ 4 ag (.slice A n cp) aa<|bQ 5 ag (ay q) aa<|aU 6 ag (ed ((q - 1:Nat):Int) ag ag<|bp aj aj) aa<|aU 7 ag (bh cQ ag ag aj<|aR.ok ((bg ah).2)<|cX aj) aa<|bS 8 ag (fun w' E=>ld dA ag<|dY (i:=q - 1) ((bg ah).2.wk E) aj) aa<|he 9 ag au<|cl mS (mW Y[q]! Y[q - 1]! _) ag ?_;rintro v77 aK ⟨rfl,b3⟩;have aB:(fun w'=>Wk av w') aK:=Md.trans aa b3;refine ⟨aB,?_⟩;refine aU 10 ag (no ag) aB<|hn au<|a0<|cb ag (fun a9=> ?_) fun a9=> ?_
 exact ext<|bj<|qh aM<|bj<|bj<|be<|tn<|⟨Y,(by rw [if_pos aj,← bi,Oi (.inr<|by simpa using a9)]),(bc ah aB),(Md.trans a4<|aB.mono fun _ _ h=>h.elim),ag⟩
 refine aT<|aZ ?_;have an:=bc ah aB;have J:(fun w'=>Wk aK w') aK.drew:=(Md.refl _ _).drew;refine fj (fun w'=>Wk aK w') 15 ag wide J<|bM 0 ag (.slice A n cp) J<|bM 1 ag (ay q) J<|bM 2 ag (.slice A n cp) J<|bM 3 ag (ay q) J<|bR 4 ag (ed ((q - 1:Nat):Int) ag ag<|bp aj aj) J<|bM 5 ag (.slice A n cp) J<|bM 6 ag (ay q) J<|bR 7 ag (ed ((q - 1:Nat):Int) ag ag<|bp aj aj) J<|bR 8 ag (bh cQ ag ag aj<|aR.ok ((bg an).2)<|cX aj) J<|ej 9 ag (fun w' E=>ld dA ag<|dY (i:=q - 1) ((bg an).2.wk E) aj) J<|bM 10 ag (.slice A n cp) J<|bM 11 ag (ay q) J<|bR 12 ag (bh cQ ag ag aj<|aR.ok ((bg an).2)<|cX aj) J<|ej 13 ag (fun w' E=>ld dA ag<|dY (i:=q) ((bg an).2.wk E) aj) J<|bR 14 ag (bh cQ ag ag aj<|aR.ok ((bg an).2)<|cX aj) J ?_;refine eb 15 ag au au<|gW (u:=Y[q - 1]!) (q) (bc an J) gU ag ag ag aj fun cP b7 cx=>kB 16 ag (fun _=>bh cQ ag ag aj<|aR.ok ((bg an).2)<|cX aj) (fun h=>eA<|(show true =_ from by kernel_rfl).trans h)<|eb 17 ag au au<|gW (u:=Y[q]!) (q - 1) cx gU ag ag ag aj fun bE b8 cy=> ?_;have ce:bE.ownsRow B 95 1 (.slice A n cp) n (LE bA<|dx Y (q)<|q - 1):=cy;have b6:Md (fun q=>(cg A n cp).ownBlock=some q) aK bE:=Md.trans (J.mono fun _ _ h=>h.elim)<|Md.trans b7 b8;exact fi au<|bn<|aY<|rg ag<|aw (ay q)<|p (ed ((q - 1:Nat):Int) ag ag<|bp aj aj)<|p aJ<|nl<|tn<|⟨_,aj,q - 1,dx Y q (q - 1),aj,(by rw [← bi,acp (show 0 < q by omega) (by simpa using a9)]),ce,(Md.trans a4<|Md.trans (aB.mono fun _ _ h=>h.elim) b6),ag,ag⟩
 exact ext<|bj<|bj<|be<|tn<|⟨Y,(by rw [if_pos aj,← bi,Oi (.inl aj)]),ah,a4,ag⟩
 exact aT<|tn<|⟨(dx G i2<|i2 - 1),(by rw [if_neg aj]),bz,(Md.trans aN bt),ag⟩
 rintro bN bo ⟨am,bb,bx,bu,cE⟩;refine bH cE<|ak fun aQ=>aw (ay b)<|aw (ay i2)<|p (ed ((b - i2:Nat):Int) ag ag<|bp aj aj)<|p (ge ag ag)<|nl<|aQ<|cd ag (fun cs=> ?_) fun cs=> ?_;refine ak fun aS=>aw (ay i2)<|p (bJ ((i2+1:Nat):Int) ag ag<|bp aj aj)<|az<|aS<|aW<|lp (fun Z bP ax=> ∃ (q:Nat) (V:Array Nat),(i2+1≤q∧q≤b)∧(Hj cT b q V=Hj cT b (i2+1) am)∧(ax.ownsRow B 95 1 (.slice A n cp) n<|LE bA V)∧(Md (fun q=>(cg A n cp).ownBlock=some q) w ax)∧(Sl bP [(0,.slice A n cp),(1,ay a),(2,ay b),(7,ay i2),(8,ay s),(10,ay q)])∧(b - q=Z)) _ ⟨i2+1,am,aj,ag,bx,bu,ag,ag⟩ ?_;rintro Z bP ax ⟨q,V,bB,bk,ai,a5,cG,rfl⟩;refine bH cG<|aH fun aV=>ak fun aX=>aw (ay q)<|aw (ay b)<|p (lt ag ag)<|nl<|aX<|cd ag (fun ci=> ?_) fun ci=> ?_;refine aT<|aV<|aH fun aY=>aW<|aH fun aZ=>aH fun a0=> ?_;have cK:=gd ai;have ab:(fun w'=>Wk ax w') ax.drew:=(Md.refl _ _).drew;refine cj (fun w'=>Wk ax w') ag wide ab<|bQ 0 ag (.slice A n cp) ab<|bQ 1 ag (ay q) ab<|aU 2 ag (bh cQ ag ag aj<|aR.ok ((bg ai).2)<|cX aj) ab<|bS 3 ag (fun w' E=>ld dA ag<|dY (i:=q) ((bg ai).2.wk E) aj) ab<|bQ 4 ag (.slice A n cp) ab<|bQ 5 ag (ay q) ab<|aU 6 ag (ed ((q - 1:Nat):Int) ag ag<|bp aj aj) ab<|aU 7 ag (bh cQ ag ag aj<|aR.ok ((bg ai).2)<|cX aj) ab<|bS 8 ag (fun w' E=>ld dA ag<|dY (i:=q - 1) ((bg ai).2.wk E) aj) ab<|he 9 ag au<|cl mS (mW V[q]! V[q - 1]! _) ag ?_;rintro cN aI ⟨rfl,b1⟩;have aC:(fun w'=>Wk ax w') aI:=Md.trans ab b1;refine ⟨aC,?_⟩;refine aU 10 ag (no ag) aC<|hn au<|a0<|cb ag (fun a6=> ?_) fun a6=> ?_;exact ext<|bj<|qh aM<|bj<|bj<|be<|bn<|aF<|rg ag<|aw (ay s)<|p (bJ ((s+1:Nat):Int) ag ag<|bp aj aj)<|p aJ<|nl<|tn<|⟨_,aj,s+1,i2,V,aj,(by rw [← aD,pi_go (show 0 < 5 - s by omega) aG a2 aj bb (show V=_ by rw [if_pos aj,← bk,O1 (.inr<|by simpa using a6)])]; rfl),(bc ai aC),(Md.trans a5<|aC.mono fun _ _ h=>h.elim),ag,ag⟩
 refine aT<|aZ ?_;have ao:=bc ai aC;have O:(fun w'=>Wk aI w') aI.drew:=(Md.refl _ _).drew;refine fj (fun w'=>Wk aI w') 15 ag wide O<|bM 0 ag (.slice A n cp) O<|bM 1 ag (ay q) O<|bM 2 ag (.slice A n cp) O<|bM 3 ag (ay q) O<|bR 4 ag (ed ((q - 1:Nat):Int) ag ag<|bp aj aj) O<|bM 5 ag (.slice A n cp) O<|bM 6 ag (ay q) O<|bR 7 ag (ed ((q - 1:Nat):Int) ag ag<|bp aj aj) O<|bR 8 ag (bh cQ ag ag aj<|aR.ok ((bg ao).2)<|cX aj) O<|ej 9 ag (fun w' E=>ld dA ag<|dY (i:=q - 1) ((bg ao).2.wk E) aj) O<|bM 10 ag (.slice A n cp) O<|bM 11 ag (ay q) O<|bR 12 ag (bh cQ ag ag aj<|aR.ok ((bg ao).2)<|cX aj) O<|ej 13 ag (fun w' E=>ld dA ag<|dY (i:=q) ((bg ao).2.wk E) aj) O<|bR 14 ag (bh cQ ag ag aj<|aR.ok ((bg ao).2)<|cX aj) O ?_;refine eb 15 ag au au<|gW (u:=V[q - 1]!) (q) (bc ao O) gU ag ag ag aj fun cR ca cz=>kB 16 ag (fun _=>bh cQ ag ag aj<|aR.ok ((bg ao).2)<|cX aj) (fun h=>eA<|(show true =_ from by kernel_rfl).trans h)<|eb 17 ag au au<|gW (u:=V[q]!) (q - 1) cz gU ag ag ag aj fun bF cc cA=> ?_;have ch:bF.ownsRow B 95 1 (.slice A n cp) n (LE bA<|dx V (q)<|q - 1):=cA;have b9:Md (fun q=>(cg A n cp).ownBlock=some q) aI bF:=Md.trans (O.mono fun _ _ h=>h.elim)<|Md.trans ca cc;exact fi au<|bn<|aY<|rg ag<|aw (ay q)<|p (bJ ((q+1:Nat):Int) ag ag<|bp aj aj)<|p aJ<|nl<|tn<|⟨_,aj,q+1,dx V q (q - 1),aj,(by rw [← bk,adu (show q < b by omega) (by simpa using a6)]),ch,(Md.trans a5<|Md.trans (aC.mono fun _ _ h=>h.elim) b9),ag,ag⟩
 exact ext<|bj<|bj<|be<|bn<|aF<|rg ag<|aw (ay s)<|p (bJ ((s+1:Nat):Int) ag ag<|bp aj aj)<|p aJ<|nl<|tn<|⟨_,aj,s+1,i2,V,aj,(by rw [← aD,pi_go (show 0 < 5 - s by omega) aG a2 aj bb (show V=_ by rw [if_pos aj,← bk,O1 (.inl aj)])]; rfl),ai,a5,ag,ag⟩
 exact aT<|bn<|aF<|rg ag<|aw (ay s)<|p (bJ ((s+1:Nat):Int) ag ag<|bp aj aj)<|p aJ<|nl<|tn<|⟨_,aj,s+1,i2,am,aj,(by rw [← aD,pi_go (show 0 < 5 - s by omega) aG a2 aj bb (show am=_ by rw [if_neg aj])]; rfl),bx,bu,ag,ag⟩
 refine ext<|bj<|bj<|be<|bX<|ak fun aF=>p aJ<|nl<|aF<|rt<|ba ag ?_;have al:(wj cT d a b)=(G,false):=by rw [← aD,show 5 - s=0 by omega]; rfl
 exact ⟨by rw [al]; rfl,by rw [al]; exact bv,bs⟩
end Go.Hb
end
section
namespace Go.Hb
open Go.Hb.dX
theorem abj (d:Array Nat) (a b C:Nat) (B n cp:Nat) (A:Option Addr) (w:World) (hO:w.ownsRow B 95 1 (.slice A n cp) n (LE bA d)) (G:a≤C∧C < b∧b≤n) (I:n≤1099511627776):bw aE 292 (bl [.slice A n cp,.int .i64 (a:Nat),.int .i64 (b:Nat),.int .i64 (C:Nat)]) w
 (fun v w'=> ∃ E ap d4,s6 cT d a b C=(E,ap,d4)∧v= .tuple #[.int .i64 (E:Nat),.bool ap]∧w'.ownsRow B 95 1 (.slice A n cp) n (LE bA d4)∧Md (fun q=>(cg A n cp).ownBlock=some q) w w'):=
 (abi d a b C B n cp A w hO G I).mono fun _ _ h=>⟨_,_,_,rfl,h⟩
theorem abl (d:Array Nat) (a b C:Nat) (B n cp:Nat) (A:Option Addr) (w:World) (hO:w.ownsRow B 95 1 (.slice A n cp) n (LE bA d)) (G:a≤C∧C < b∧b≤n) (I:n≤1099511627776):bw aE 291 (bl [.slice A n cp,.int .i64 (a:Nat),.int .i64 (b:Nat),.int .i64 (C:Nat)]) w
 (fun v w'=> ∃ E d4,yJ cT d a b C=(E,d4)∧v= .int .i64 (E:Nat)∧w'.ownsRow B 95 1 (.slice A n cp) n (LE bA d4)∧Md (fun q=>(cg A n cp).ownBlock=some q) w w'):=
 (abk d a b C B n cp A w hO G I).mono fun _ _ h=>⟨_,_,rfl,h⟩
theorem abn (m:Nat) (d:Array Nat) (a b lim:Nat) (B n cp:Nat) (E:Option Addr) (w:World) (hO:w.ownsRow B 95 1 (.slice E n cp) n (LE bA d)) (hm:b - a < m) (cH:a≤b∧b≤n) (cx:n≤255) (cN:lim≤64) (bV:Hf cT a b d):
 bw aE 268 (bl [.slice E n cp,ay a,ay b,ay lim]) w (fun v w'=> ∃ d1,v= .tuple #[]∧p7 a b d d1∧wi cT a b d1∧w'.ownsRow B 95 1 (.slice E n cp) n (LE bA d1)∧Md (fun q=>(cg E n cp).ownBlock=some q) w w'):=by
 have bz:True:=trivial
 induction m generalizing d a b lim w with
 | zero=>omega
 | succ m bz=>
   have bx:∀ (d:Array Nat) (a b lim:Nat) (w:World),w.ownsRow B 95 1 (.slice E n cp) n (LE bA d)→b - a < m→(a≤b∧b≤n)→lim≤64→Hf cT a b d→_:=fun d a b lim w h1 h2 h3 h4 h5=>bz d a b lim w h1 h2 h3 h4 h5;have cM:=gd hO;refine enter func268 ag ntmps268 ag<|ak fun bL=>az<|bL<|ak fun bO=>p aJ<|nl<|bO<|aW<|lp (fun ba bC a9=> ∃ (A C aa:Nat) (wb wp:Bool) (I:Array Nat),(a≤A∧A≤C∧C≤b∧aa≤64)∧(Hf cT A C I)∧(∀ R,p7 A C I R→wi cT A C R→p7 a b d R∧wi cT a b R)∧(a9.ownsRow B 95 1 (.slice E n cp) n<|LE bA I)∧(Md (fun q=>(cg E n cp).ownBlock=some q) w a9)∧(Sl bC [(0,.slice E n cp),(1,ay A),(2,ay C),(3,ay aa),(8,.bool wb),(9,.bool wp)])∧(C - A=ba)) _ ⟨a,b,lim,true,true,d,aj,bV,(fun R h1 h2=>⟨h1,h2⟩),hO,(Md.refl _ _),ag,ag⟩ ?_;rintro ba bC a9 ⟨A,C,aa,wb,wp,I,cR,aL,ah,aq,aC,cz,rfl⟩;refine bH cz ?_;have cL:=gd aq;refine aW<|ak fun bP=>aw (ay C)<|aw (ay A)<|p (ed ((C - A:Nat):Int) ag ag<|bp aj aj)<|p aJ<|nl<|bP<|aH fun bR=>ak fun bS=>p mv<|p (le ag ag)<|nl<|bS ?_;refine cd ag (fun cc=> ?_) fun cc=> ?_;refine ak fun aK=>aw (.slice E n cp)<|aw (ay A)<|aw (ay C)<|e<|cl TL (Zu I A C B n cp E _ aq aj aj) ag ?_;rintro cV c1 ⟨rfl,b4,bY⟩;refine nl<|aK<|rt<|tr<|br<|tr<|br<|si ag ?_;obtain ⟨h1,h2⟩:=Go.Sort.insertionSort_holds xU I A C aj aj;obtain ⟨aA,aB⟩:=ah _ (h1)<|h2;exact ⟨_,ag,aA,aB,b4,Md.trans aC bY⟩;refine aT<|bR<|aH fun aK=>ak fun bU=>aw (ay aa)<|p (bT ag ag)<|nl<|bU<|cd ag (fun ce=> ?_) fun ce=> ?_;refine ak fun am=>aw (.slice E n cp)<|aw (ay A)<|aw (ay C)<|e<|cl TM (Y7 I A C B n cp E _ aq aj aj) ag ?_;rintro v33 c2 ⟨rfl,b5,bZ⟩;refine nl<|am<|rt<|tr<|br<|tr<|br<|si ag ?_;obtain ⟨h1,h2⟩:=Go.Sort.heapSort_holds xU I A C aj aj;obtain ⟨aA,aB⟩:=ah _ (h1)<|h2;exact ⟨_,ag,aA,aB,b5,Md.trans aC bZ⟩;refine aT<|aK ?_;refine ez (fun bE wB=> ∃ (J:Nat) (d1:Array Nat),(J≤64)∧(p7 A C I d1)∧(wB.ownsRow B 95 1 (.slice E n cp) n<|LE bA d1)∧(Md (fun q=>(cg E n cp).ownBlock=some q) w wB)∧(Sl bE [(0,.slice E n cp),(1,ay A),(2,ay C),(3,ay J),(8,.bool wb),(9,.bool wp),(10,ay (C - A))])) ?_ ?_;refine ak fun am=>aw (.bool wb)<|p (no ag)<|nl<|am<|cb ag (fun ch=> ?_) fun ch=> ?_;refine ak fun V=>aw (.slice E n cp)<|aw (ay A)<|aw (ay C)<|e<|cl TN (Se I A C B n cp E _ aq aj cx) ag ?_;rintro v39 c3 ⟨d1,rfl,cy,b6,b0⟩;exact nl<|V<|rg ag<|aw (ay aa)<|p (ed ((aa - 1:Nat):Int) ag ag<|bp aj aj)<|p aJ<|nl<|tn<|⟨aa - 1,d1,aj,cy,b6,(Md.trans aC b0),ag⟩
   exact aT<|tn<|⟨aa,I,aj,(Qr I A C),aq,aC,ag⟩
   rintro bE wB ⟨J,d1,cO,bv,b9,b3,cA⟩;refine bH cA<|ak fun am=>aw (.slice E n cp)<|aw (ay A)<|aw (ay C)<|e<|cl TO (UG d1 A C B n cp E _ b9 aj aj) ag ?_;rintro v46 c4 ⟨aF,cF,rfl,cP,aO,bW⟩;have bb:=Md.trans b3<|bW.mono fun _ _ h=>h.elim;refine p mv<|p (xt ag ag)<|p (xt ag ag)<|p aJ<|az<|am ?_;refine ez (fun bF a6=> ∃ (O:Nat) (a4:Int) (d2:Array Nat),(A≤O∧O < C)∧(p7 A C I d2)∧(a6.ownsRow B 95 1 (.slice E n cp) n<|LE bA d2)∧(Md (fun q=>(cg E n cp).ownBlock=some q) w a6)∧(Sl bF [(0,.slice E n cp),(1,ay A),(2,ay C),(3,ay J),(8,.bool wb),(9,.bool wp),(10,ay (C - A)),(11,ay O),(12,.int .i64 a4)])) ?_ ?_;refine ak fun V=>p mv<|p (bT ag ag)<|nl<|V<|cd ag (fun ci=> ?_) fun ci=> ?_;refine ak fun ab=>aw (.slice E n cp)<|aw (ay A)<|aw (ay C)<|e<|cl TP (abW d1 A C B n cp E _ aO aj aj) ag ?_;rintro v54 c5 ⟨rfl,b7,b1⟩;have cI:=gd aO;exact nl<|ab<|ak fun al=>aw (ay C)<|p (ed ((C - 1:Nat):Int) ag ag<|bp aj aj)<|p mv<|aw (ay A)<|p (ed ((aF - A:Nat):Int) ag ag<|bp aj aj)<|p (ed ((C - 1 - (aF - A):Nat):Int) ag ag<|bp aj aj)<|az<|al<|rg ag<|p aJ<|nl<|tn<|⟨C - 1 - (aF - A),1,Hi d1 A C,aj,(uo _ _ _ A C bv<|Go.Sort.reverseRange_holds d1 A C aj aj),b7,(Md.trans bb b1),ag⟩
   exact aT<|tn<|⟨aF,cF,d1,aj,bv,aO,bb,ag⟩
   rintro bF a6 ⟨O,a4,d2,aD,ai,av,ao,cB⟩;refine bH cB ?_;refine ez (fun bG ae=> ∃ (d3:Array Nat),(p7 A C I d3)∧(ae.ownsRow B 95 1 (.slice E n cp) n<|LE bA d3)∧(Md (fun q=>(cg E n cp).ownBlock=some q) w ae)∧(Sl bG [(0,.slice E n cp),(1,ay A),(2,ay C),(3,ay J),(8,.bool wb),(9,.bool wp),(10,ay (C - A)),(11,ay O)])) ?_ ?_;refine ak fun V=>aw (.bool wb)<|aw (.bool wb)<|gb (t:=62) ag (fun cn=> ?_) fun cn=> ?_;refine aV ag (a8 (.bool wp) ag)<|p (bI ag)<|p mv<|gb (t:=65) ag (fun co=> ?_) fun co=> ?_;refine aV ag (a8 (.int .i64 a4) ag)<|aV ag (bT ag ag)<|p (bI ag)<|nl<|V<|cd ag (fun ck=> ?_) fun ck=> ?_;refine ak fun ab=>aw (.slice E n cp)<|aw (ay A)<|aw (ay C)<|e<|cl TQ (abv d2 A C B n cp E _ av aj aj) ag ?_;rintro v72 c6 ⟨rfl,bo,bd⟩;have cJ:=gd av;obtain ⟨bu,cs⟩:=Go.Sort.partialInsertionSort_holds xU d2 A C aj aj<|Hg aL aj ai;refine nl<|ab<|cb ag (fun bs=> ?_) fun bs=> ?_;have cE:=cs bs;refine rt<|tr<|br<|tr<|br<|si ag ?_;obtain ⟨aA,aB⟩:=ah _ (uo _ _ _ A C ai bu)<|cE;exact ⟨_,ag,aA,aB,bo,Md.trans ao bd⟩;exact aT<|tn<|⟨_,(uo _ _ _ A C ai bu),bo,(Md.trans ao bd),ag⟩
   exact aT<|tn<|⟨d2,ai,av,ao,ag⟩
   exact aQ ag<|aQ ag<|p (bD ag)<|nl<|V<|cf ag<|aT<|tn<|⟨d2,ai,av,ao,ag⟩
   exact aQ ag<|p (bD ag)<|p mv<|aQ ag<|aQ ag<|p (bD ag)<|nl<|V<|cf ag<|aT<|tn<|⟨d2,ai,av,ao,ag⟩
   rintro bG ae ⟨d3,ax,Z,aM,cC⟩;refine bH cC ?_;refine ez (fun bK a7=>(a7.ownsRow B 95 1 (.slice E n cp) n<|LE bA d3)∧(Md (fun q=>(cg E n cp).ownBlock=some q) w a7)∧(Sl bK [(0,.slice E n cp),(1,ay A),(2,ay C),(3,ay J),(8,.bool wb),(9,.bool wp),(10,ay (C - A)),(11,ay O)])) ?_ ?_;refine aH fun V=> ?_;have cm:=gd Z;have G:(fun w'=>Wk ae w') ae.drew:=(Md.refl _ _).drew;refine cj (fun w'=>Wk ae w') ag wide G<|bQ 0 ag (ay A) G<|aU 1 ag (gt ag ag) G<|aU 2 ag (mv) G<|iP (t:=75) ag (fun cq=> ?_) fun cq=> ?_;refine bm 3 ag (fun _ _=>a8 (.slice E n cp) ag) G<|bm 4 ag (fun _ _=>a8 (ay A) ag) G<|bm 5 ag (fun _ _=>ed ((A - 1:Nat):Int) ag ag<|bp aj aj) G<|bm 6 ag (fun _ _=>bh cQ ag ag aj<|aR.ok ((bg Z).2)<|cX aj) G<|bm 7 ag (fun w' aX=>ld dA ag<|dY (i:=A - 1) ((bg Z).2.wk aX) aj) G<|bm 8 ag (fun _ _=>a8 (.slice E n cp) ag) G<|bm 9 ag (fun _ _=>a8 (ay O) ag) G<|bm 10 ag (fun _ _=>bh cQ ag ag aj<|aR.ok ((bg Z).2)<|cX aj) G<|bm 11 ag (fun w' aX=>ld dA ag<|dY (i:=O) ((bg Z).2.wk aX) aj) G<|nM 12 ag au ag ag ag<|cl mS (mW d3[A - 1]! d3[O]! _) ag ?_;rintro v85 cG ⟨rfl,bX⟩;have ac:(fun w'=>Wk ae w') cG:=Md.trans G bX;refine ⟨ac,?_⟩;refine bm 13 ag (fun _ _=>no ag) ac<|aU 14 ag (bI ag) ac<|hn au<|V<|cb ag (fun bt=> ?_) fun bt=> ?_;refine ak fun ab=>aw (.slice E n cp)<|aw (ay A)<|aw (ay C)<|aw (ay O)<|e<|cl TS (abl d3 A C O B n cp E _ (bc Z ac) aj aj) ag ?_;rintro cW c7 ⟨Y,d4,a5,rfl,b8,b2⟩;obtain ⟨bQ,ct,cu,a0,a1⟩:=Go.Sort.round_eq xU (Go.Sort.partitionEqual_holds cT) (show 0 < A by omega) aD.1 aD.2 aj (Hg aL aj ax) (by simpa using bt) a5;exact az<|ab<|ak fun al=>p mv<|p aJ<|nl<|al<|ext<|bj<|be<|tn<|⟨_,aj,Y,C,J,wb,wp,d4,aj,a0,(fun R h1 h2=>by obtain ⟨h3,h4⟩:=a1 R h1 h2; exact ah R (uo _ _ _ A C ax h3) h4),b8,(Md.trans aM<|Md.trans (ac.mono fun _ _ h=>h.elim) b2),ag,ag⟩
   exact aT<|tn<|⟨(bc Z ac),(Md.trans aM<|ac.mono fun _ _ h=>h.elim),ag⟩
   exact bf 3 ag G<|bf 4 ag G<|bf 5 ag G<|bf 6 ag G<|bf 7 ag G<|bf 8 ag G<|bf 9 ag G<|bf 10 ag G<|bf 11 ag G<|bf 12 ag G<|bf 13 ag G<|aU 14 ag (bD ag) G<|hn au<|V<|cf ag<|aT<|tn<|⟨(bc Z (Md.refl _ _).drew),aM.drew,ag⟩
   rintro bK a7 ⟨bq,bk,cD⟩;refine bH cD<|ak fun V=>aw (.slice E n cp)<|aw (ay A)<|aw (ay C)<|aw (ay O)<|e<|cl TT (abj d3 A C O B n cp E _ bq aj aj) ag ?_;rintro cY bB ⟨Y,ap,d4,a5,rfl,aP,bi⟩;have cm:=gd bq;have cK:=gd aP;obtain ⟨bQ,ct,cu,a0,a1,cv,cw⟩:=Go.Sort.round_part xU (Go.Sort.partition_holds cT) aD.1 aD.2 aj (Hg aL aj ax) a5;refine p mv<|p (xt ag ag)<|p (xt ag ag)<|p aJ<|az<|V<|aH fun ab=>rg ag<|p mv<|az<|ab<|ak fun al=>p mv<|aw (ay A)<|p (ed ((Y - A:Nat):Int) ag ag<|bp aj aj)<|aw (ay C)<|p mv<|p (ed ((C - Y:Nat):Int) ag ag<|bp aj aj)<|p aJ<|p aJ<|nl<|al<|ak fun bM=>aw (ay<|C - A)<|p (qw (((C - A) / 8:Nat):Int) ag ag aj<|bp aj aj)<|az<|bM ?_;refine ak fun bN=>p mv<|p mv<|p (lt ag ag)<|nl<|bN<|cd ag (fun ca=> ?_) fun ca=> ?_;refine ak fun aG=>p mv<|p mv<|p (ge ag ag)<|az<|aG<|ak fun aI=>aw (.slice E n cp)<|aw (ay A)<|p mv<|aw (ay J)<|e<|cl C3 (bx d4 A Y J bB aP aj aj aj a0) ag ?_;rintro cS cZ ⟨an,rfl,a2,a3,aS,aN⟩;obtain ⟨aY,aZ⟩:=cv an a2 a3;exact nl<|aI<|rg ag<|p mv<|p (bJ ((Y+1:Nat):Int) ag ag<|bp aj aj)<|p aJ<|nl<|bn<|tn<|⟨_,aj,Y+1,C,J,decide (((Y - A:Nat):Int)≥(((C - A) / 8:Nat):Int)),ap,an,aj,aY,(fun R h1 h2=>by obtain ⟨h3,h4⟩:=aZ R h1 h2; exact ah R (uo _ _ _ A C ax h3) h4),aS,(Md.trans bk<|Md.trans bi aN),ag,ag⟩
   refine ak fun aG=>p mv<|p mv<|p (ge ag ag)<|az<|aG<|ak fun aI=>aw (.slice E n cp)<|p mv<|p (bJ ((Y+1:Nat):Int) ag ag<|bp aj aj)<|aw (ay C)<|aw (ay J)<|e<|cl C3 (bx d4 (Y+1) C J bB aP aj aj aj a1) ag ?_;rintro cU c0 ⟨an,rfl,a2,a3,aS,aN⟩;obtain ⟨aY,aZ⟩:=cw an a2 a3;exact nl<|aI<|rg ag<|p mv<|p aJ<|nl<|bn<|tn<|⟨_,aj,A,Y,J,decide (((C - Y:Nat):Int)≥(((C - A) / 8:Nat):Int)),ap,an,aj,aY,(fun R h1 h2=>by obtain ⟨h3,h4⟩:=aZ R h1 h2; exact ah R (uo _ _ _ A C ax h3) h4),aS,(Md.trans bk<|Md.trans bi aN),ag,ag⟩
theorem acQ (d:Array Nat) (B n cp:Nat) (A:Option Addr) (w:World) (hO:w.ownsRow B 95 1 (.slice A n cp) n (LE bA d)) (G:n≤255):
 bw aE 241 (bl [.slice A n cp]) w (fun v w'=> ∃ d1,v= .tuple #[]∧p7 0 n d d1∧wi cT 0 n d1∧w'.ownsRow B 95 1 (.slice A n cp) n (LE bA d1)∧Md (fun q=>(cg A n cp).ownBlock=some q) w w'):=by
 refine enter func241 ag ntmps241 ag<|ak fun E=>aw (.slice A n cp)<|p (bN qA ag ag)<|az<|E<|rg ag<|aw (.slice A n cp)<|p mv<|p mv<|p (mC Pg sU ag<|qF aj)<|e<|cl Jc (MQ n _ aj) ag ?_;rintro v9 O ⟨rfl,C⟩;have I:=AA (n:=n) aj;refine e<|cl C3 (abn (n+1) d 0 n (lN n) B n cp A _ (bc hO C) aj aj G aj<|.inl ag) ag ?_;rintro v10 J ⟨d1,rfl,h1,h2,h3,h4⟩;exact nl<|f0 ag<|⟨d1,ag,h1,h2,h3,Md.trans (C.mono fun _ _ h=>h.elim) h4⟩
end Go.Hb
end
section
namespace Go.Hb.gr
open Go.Hb.dX
theorem vL {w:World} {B e n cp i:Nat} {a:Option Addr} {d:Array Nat} (h:w.ownsRow B e 1 (.slice a n cp) n (LE bA d)):aR w.heap (fR a cp i 1) ((LE bA d).drop i):=by
 have :=(bg h).2.drop (cap:=cp) (k:=i) (size:=1)<|by rw [sE]; have h1:=gd h; have h2:=(bg h).1; omega
 rwa [Nat.mul_one] at this
theorem aak (l:List Nat):l.map bA=LE bA l.toArray:=by simp [LE]
theorem uL (l:List Nat):(l.map bA).all gI=true :=by
 rw [List.all_eq_true]; intro v A; obtain ⟨x,_,rfl⟩:=List.mem_map.1 A; rfl
theorem adG (d:Array Nat) (k:Nat):(LE bA d).take k=(d.toList.take k).map bA:=by simp [LE,List.map_take]
theorem qz (b:UInt8):jR b=decide ((b.toNat:Int) > 32∧(b.toNat:Int) < 127∧(b.toNat:Int)≠47∧(b.toNat:Int)≠44∧(b.toNat:Int)≠35):=by
 unfold jR; exact decide_eq_decide.2 aj
theorem Fv {w:World} {B e size n cp:Nat} {a:Option Addr} {xs:List Value} (h:w.ownsRow B e size (.slice a n cp) n xs) (hn:0 < n):a≠none:=by
 rintro rfl;rcases h.2 with ⟨_,h5⟩ | ⟨g,cap,cur,h4,_⟩
 · omega
 · simp at h4
theorem uT (a:Option Addr) (n c:Nat) (xs:List Value) (w:World) (Y:aR w.heap a xs) (ai:xs.length=n*1) (ab:a=none→n=0) (h1:xs.all gI=true) (hn:n≤1048576):
 bw aE 44 (bl [.slice a n c]) w (fun v w'=>bB w' w.heap.size 95 1 v n xs∧Wk w w'):=by
 refine enter func44 ag ntmps44 ag<|ak fun I=>az<|I<|aH fun J=>ak fun O=>aw (.slice a n c)<|p (sh qA ag ag)<|nl<|O<|cb ag (fun E=> ?_) fun E=> ?_;have ac:a=none:=by simpa using E
 refine ak fun A=>az<|A<|rt<|tr<|ba ag ?_;have ae:=ab ac;subst ae;obtain rfl :=List.eq_nil_of_length_eq_zero (show xs.length=0 by omega);exact ⟨World.ownsRow_nil _ _ _ _,Md.refl _ _⟩;refine aT<|J<|ak fun A=>e<|mQ Bc fun ao ax aq C V=> ?_;have G:=V w.heap.size aj;refine aw (.slice a n c)<|e<|ap Bc (G) ag (by have :=C.size; omega) ag (Y.wk C.md) (ai) (h1) aj aj fun am an ah aa av au=> ?_;have Z:=Wk.own C.md G aa<|cU _;refine az<|A<|rt<|ba ag ?_;have al:bB an w.heap.size 95 1 am n xs:=by simpa using ah
 exact ⟨al,Z⟩
theorem Vt (d:Array Nat) (B n cp:Nat) (A:Option Addr) (w:World) (hO:w.ownsRow B 95 1 (.slice A n cp) n (LE bA d)) (bi:n≤1048576):
 bw aE 242 (bl [.slice A n cp]) w (fun v w'=> ∃ k,v= .slice A k cp∧k=(jr d.toList).length∧bB w' B 95 1 (.slice A k cp) k ((jr d.toList).map bA)∧Md (fun q=>(cg A n cp).ownBlock=some q) w w'):=by
 have bf:=gd hO;have bb:=(bg hO).1;refine enter func242 ag ntmps242 ag<|ak fun aA=>az<|aA<|aH fun aK=>ak fun aL=>aw (.slice A n cp)<|p (bN qA ag ag)<|p (lt ag ag)<|nl<|aL<|cd ag (fun a0=> ?_) fun a0=> ?_;refine ak fun am=>aw (.slice A n cp)<|p (cV (.slice A n cp) ag)<|nl<|am<|rt<|tr<|ba ag ?_;have ai:jr d.toList=d.toList:=by
  have ap:d.toList.length < 2:=by rw [vO]; omega
  revert ap;generalize d.toList=l;intro ap
  match l,ap with
  | [],_=>rfl
  | [x],_=>rfl
 exact ⟨n,ag,by rw [ai,vO]; omega,by rw [ai]; exact hO,Md.refl _ _⟩;refine aT<|aK<|aH fun am=>ak fun aM=>az<|aM<|aW<|lp (fun Z av ac=> ∃ (i:Nat),(1≤i∧i≤n∧2≤n)∧(jr (d.toList.take i)=d.toList.take i)∧(Wk w ac)∧(Sl av [(0,.slice A n cp),(3,ay i)])∧(n - i=Z)) _ ⟨1,aj,(by have h1:=Bs (d:=d) (i:=0) aj; rw [h1]; rfl),(Md.refl _ _),ag,ag⟩ ?_;rintro Z av ac ⟨i,hi,aa,J,a8,rfl⟩;refine bH a8<|aH fun aN=>ak fun aO=>aw (ay i)<|aw (.slice A n cp)<|p (bN qA ag ag)<|p (lt ag ag)<|nl<|aO<|cd ag (fun aV=> ?_) fun aV=> ?_;refine aT<|aN<|aH fun an=>aW<|aH fun aP=> ?_;have E:(fun w'=>Wk ac w') ac.drew:=(Md.refl _ _).drew;refine cj (fun w'=>Wk ac w') ag wide E<|bQ 0 ag (.slice A n cp) E<|bQ 1 ag (ay i) E<|aU 2 ag (bh cQ ag ag aj<|aR.ok ((bg hO).2)<|cX aj) E<|bS 3 ag (fun w' O=>ld dA ag<|Wk.a7 O<|dY (i:=i) (bg<|bc hO J).2 aj) E<|bQ 4 ag (.slice A n cp) E<|bQ 5 ag (ay i) E<|aU 6 ag (ed ((i - 1:Nat):Int) ag ag<|bp aj aj) E<|aU 7 ag (bh cQ ag ag aj<|aR.ok ((bg hO).2)<|cX aj) E<|bS 8 ag (fun w' O=>ld dA ag<|Wk.a7 O<|dY (i:=i - 1) (bg<|bc hO J).2 aj) E<|aU 9 ag (bT ag ag) E<|hn au<|aP<|cd ag (fun aX=> ?_) fun aX=> ?_;have heq:d[i - 1]! =d[i]! :=aj;refine ak fun aB=>aw (.slice A n cp)<|aw (ay i)<|p (sP cQ ag ag aj)<|az<|aB<|aH fun aC=>ak fun aD=>az<|aD<|aW<|lp (fun Z ax Y=> ∃ (k i2:Nat) (G:Array Nat),(1≤k∧k < i+i2∧1≤i2∧i2≤n - i)∧(G.toList.drop k=d.toList.drop k)∧(G.toList.take k=jr (d.toList.take<|i+i2))∧(Y.ownsRow B 95 1 (.slice A n cp) n<|LE bA G)∧(Md (fun q=>(cg A n cp).ownBlock=some q) w Y)∧(Sl ax [(0,.slice A n cp),(3,ay k),(4,.slice (fR A cp i 1) (n - i) (cp - i)),(5,ay i2)])∧(n - i2=Z)) _ ⟨i,1,d,aj,ag,(by rw [zH aj aj,if_pos heq,aa]),(bc hO<|Md.trans J (Md.refl _ _).drew),((Md.trans J (Md.refl _ _).drew).mono fun _ _ h=>h.elim),ag,ag⟩ ?_;rintro Z ax Y ⟨k,i2,G,hk,V,ab,I,ao,a9,rfl⟩;refine bH a9 ?_;have bd:=gd I;refine aH fun aF=>ak fun aG=>aw (ay i2)<|aw (.slice (fR A cp i 1) (n - i)<|cp - i)<|p (bN qA ag ag)<|p (lt ag ag)<|nl<|aG<|cd ag (fun aY=> ?_) fun aY=> ?_;refine aT<|aF<|aH fun ae=>aW<|aH fun al=> ?_;have C:(fun w'=>Wk Y w') Y.drew:=(Md.refl _ _).drew;refine cj (fun w'=>Wk Y w') ag wide C<|bQ 0 ag (.slice (fR A cp i 1) (n - i)<|cp - i) C<|bQ 1 ag (ay i2) C<|aU 2 ag (bh cQ ag ag aj<|aR.ok (vL I)<|EN aj) C<|bS 3 ag (fun w' O=>ld dA ag<|Wk.a7 O<|EM (j:=i2) (vL I) aj) C<|bQ 4 ag (.slice (fR A cp i 1) (n - i)<|cp - i) C<|bQ 5 ag (ay i2) C<|aU 6 ag (ed ((i2 - 1:Nat):Int) ag ag<|bp aj aj) C<|aU 7 ag (bh cQ ag ag aj<|aR.ok (vL I)<|EN aj) C<|bS 8 ag (fun w' O=>ld dA ag<|Wk.a7 O<|EM (j:=i2 - 1) (vL I) aj) C<|aU 9 ag (dw ag ag) C<|hn au<|al<|cd ag (fun aZ=> ?_) fun aZ=> ?_;have ah:=bc I C;have g1:=zM V (show k≤i+i2 by omega);have g2:=zM V (show k≤i+(i2 - 1) by omega);have a3:¬d[i+i2 - 1]! =d[i+i2]! :=by rw [show i+i2 - 1=i+(i2 - 1) by omega,← g1,← g2]; omega
 exact ak fun aI=>aw (.slice A n cp)<|aw (ay k)<|aw (.slice (fR A cp i 1) (n - i)<|cp - i)<|aw (ay i2)<|p (bh cQ ag ag aj<|aR.ok (vL ah)<|EN aj)<|p (ld dA ag<|EM (j:=i2) (vL ah) aj)<|p (bh cQ ag ag aj<|aR.ok ((bg ah).2)<|cX aj)<|e<|gW (u:=G[i+i2]!) (k) ah gU ag ag ag aj fun bk aQ a5=>nl<|aI<|rg ag<|aw (ay k)<|p (bJ ((k+1:Nat):Int) ag ag<|bp aj aj)<|p aJ<|nl<|bn<|ae<|rg ag<|aw (ay i2)<|p (bJ ((i2+1:Nat):Int) ag ag<|bp aj aj)<|p aJ<|nl<|tn<|⟨_,aj,k+1,i2+1,G.setIfInBounds k G[i+i2]!,aj,(by rw [set_drop aj]; have h3:=congrArg (List.drop 1) V; rwa [rR,rR] at h3),(by rw [F4 aj,ab,show i+(i2+1)=i+i2+1 from ag,zH aj aj,if_neg a3,g1]),a5,(Md.trans ao<|Md.trans (C.mono fun _ _ h=>h.elim) aQ),ag,ag⟩
 have g1:=zM V (show k≤i+i2 by omega);have g2:=zM V (show k≤i+(i2 - 1) by omega);have a1:d[i+i2 - 1]! =d[i+i2]! :=by rw [show i+i2 - 1=i+(i2 - 1) by omega,← g1,← g2]; omega
 exact aT<|bn<|ae<|rg ag<|aw (ay i2)<|p (bJ ((i2+1:Nat):Int) ag ag<|bp aj aj)<|p aJ<|nl<|tn<|⟨_,aj,k,i2+1,G,aj,V,(by rw [ab,show i+(i2+1)=i+i2+1 from ag,zH aj aj,if_pos a1]),(bc I (Md.refl _ _).drew),ao.drew,ag,ag⟩
 refine ext<|bj<|bj<|be<|aC<|ak fun ae=>aw (.slice A n cp)<|aw (ay k)<|p (sP cQ ag ag aj)<|e<|Jt (k:=k) qA aeN ag I ag ag aj fun bm aS a6=>nl<|ae<|ak fun al=>aw (.slice A n cp)<|aw (ay k)<|p (sO cQ ag ag aj)<|az<|al<|rt<|br<|tr<|tr<|br<|tr<|ba ag ?_;have ai:d.toList.take (i+i2)=d.toList:=eK<|by rw [vO]; omega
 rw [ai] at ab;have a2:k=(jr d.toList).length:=by rw [← ab,dM,vO]; omega
 refine ⟨k,ag,a2,?_,Md.trans ao aS⟩;have aq:=Fw a6 (show k≤n by omega)<|Fv hO aj;rw [Nat.mul_one,List.take_append,eK (l:=(LE bA G).take k) (by rw [dM]; omega),dM,sE,show k - min k G.size=0 by omega,oq,List.append_nil,adG,ab] at aq;exact aq;have a4:¬d[i - 1]! =d[i]! :=aj;exact aT<|bn<|an<|rg ag<|aw (ay i)<|p (ad ag ag<|cR aj)<|p aJ<|nl<|tn<|⟨_,aj,i+1,aj,(by rw [zH aj aj,if_neg a4,aa,Bs aj]),(Md.trans J (Md.refl _ _).drew),ag,ag⟩
 refine ext<|bj<|bj<|be<|am<|ak fun an=>aw (.slice A n cp)<|p (cV (.slice A n cp) ag)<|nl<|an<|rt<|ba ag ?_;rw [show d.toList.take i=d.toList from eK (by rw [vO]; omega)] at aa;exact ⟨n,ag,by rw [aa,vO]; omega,by rw [aa]; exact bc hO J,J.mono fun _ _ h=>h.elim⟩
theorem AO (l:List Nat) (a:Option Addr) (c:Nat) (w:World) (Z:aR w.heap a (l.map bA)) (ah:a=none→l.length=0) (ai:l.length≤255):
 bw aE 206 (bl [.slice a l.length c]) w (fun v w'=>bB w' w.heap.size 95 1 v (kX l).length ((kX l).map bA)∧Wk w w'):=by
 refine enter func206 ag ntmps206 ag<|ak fun J=>az<|J<|ak fun O=>aw (.slice a l.length c)<|e<|cl uR (uT a l.length c (l.map bA) _ Z (by simp) ah (uL l) aj) ag ?_;rintro v5 ap ⟨E,aa⟩;obtain ⟨A,C,rfl⟩:=cM E;rw [aak] at E;refine az<|O<|ak fun V=>aw (.slice A l.length C)<|e<|cl Tu (acQ l.toArray w.heap.size l.length C A _ E ai) ag ?_;rintro ao aq ⟨d1,rfl,al,am,G,ac⟩;refine nl<|V<|ak fun Y=>aw (.slice A l.length C)<|e<|cl Tv (Vt d1 w.heap.size l.length C A _ G aj) ag ?_;rintro v9 an ⟨k,rfl,hk,I,ae⟩;have ab:Wk w an:=Wk.own (Wk.own aa E ac<|cU _) G ae<|cU _;refine az<|Y<|rt<|ba ag ?_;rw [acP al am] at hk I;exact ⟨by rw [← hk]; exact I,ab⟩
theorem F6 (b:UInt8) (w:World):
 bw aE 265 (bl [.int .u8 b.toNat]) w (fun v w'=>v= .bool (jR b)∧Wk w w'):=by
 refine enter func265 ag ntmps265 ag<|ak fun C=>az<|C<|ak fun A=>aw (.int .u8 b.toNat)<|p (gt ag ag)<|p mv<|gs (t:=5) ag (fun I=> ?_) fun I=> ?_;refine aV ag (a8 (.int .u8 b.toNat) ag)<|aV ag (lt ag ag)<|p (bI ag)<|p mv<|gs (t:=9) ag (fun J=> ?_) fun J=> ?_;refine aV ag (a8 (.int .u8 b.toNat) ag)<|aV ag (dw ag ag)<|p (bI ag)<|p mv<|gs (t:=13) ag (fun E=> ?_) fun E=> ?_;refine aV ag (a8 (.int .u8 b.toNat) ag)<|aV ag (dw ag ag)<|p (bI ag)<|p mv<|gs (t:=17) ag (fun G=> ?_) fun G=> ?_;exact aV ag (a8 (.int .u8 b.toNat) ag)<|aV ag (dw ag ag)<|p (bI ag)<|az<|A<|rt<|ba ag<|⟨by show cy (decide _)=_; rw [qz]; exact bv (by constructor <;> intro h <;> first | exact ⟨aj,aj,aj,aj,h⟩ | exact h.2.2.2.2),Md.refl _ _⟩
 exact aQ ag<|aQ ag<|p (bD ag)<|az<|A<|rt<|ba ag<|⟨by show cy false =_; rw [qz,decide_eq_false aj],Md.refl _ _⟩
 exact aQ ag<|aQ ag<|p (bD ag)<|p mv<|aQ ag<|aQ ag<|p (bD ag)<|p aJ<|nl<|A<|rt<|ba ag<|⟨by show cy false =_; rw [qz,decide_eq_false aj],Md.refl _ _⟩
 exact aQ ag<|aQ ag<|p (bD ag)<|p mv<|aQ ag<|aQ ag<|p (bD ag)<|p mv<|aQ ag<|aQ ag<|p (bD ag)<|az<|A<|rt<|ba ag<|⟨by show cy false =_; rw [qz,decide_eq_false aj],Md.refl _ _⟩
 exact aQ ag<|aQ ag<|p (bD ag)<|p mv<|aQ ag<|aQ ag<|p (bD ag)<|p mv<|aQ ag<|aQ ag<|p (bD ag)<|p mv<|aQ ag<|aQ ag<|p (bD ag)<|p aJ<|nl<|A<|rt<|ba ag<|⟨by show cy false =_; rw [qz,decide_eq_false aj],Md.refl _ _⟩
theorem MI (k:Nat) (w:World):
 bw aE 236 (bl [ay k]) w (fun v w'=>v= .bool (decide (1≤k∧k≤3))∧Wk w w'):=by
 refine enter func236 ag ntmps236 ag<|ak fun C=>az<|C<|ak fun A=>aw (ay k)<|p (ge ag ag)<|p mv<|gs (t:=5) ag (fun E=> ?_) fun E=> ?_;exact aV ag (a8 (ay k) ag)<|aV ag (le ag ag)<|p (bI ag)<|az<|A<|rt<|ba ag<|⟨by show cy (decide _)=_; exact bv aj,Md.refl _ _⟩
 exact aQ ag<|aQ ag<|p (bD ag)<|az<|A<|rt<|ba ag<|⟨by show cy false =_; rw [decide_eq_false aj],Md.refl _ _⟩
end Go.Hb.gr
end
