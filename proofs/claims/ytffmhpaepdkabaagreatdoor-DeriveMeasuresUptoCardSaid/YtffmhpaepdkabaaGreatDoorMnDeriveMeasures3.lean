/-
  Walks and plain laws that the law rests on, laid together. No conditions but those that each theorem names.
-/
import Derived.Test.YtffmhpaepdkabaaGreatDoorMnDeriveMeasures2
set_option linter.unusedVariables false
set_option maxRecDepth 20000
set_option maxHeartbeats 1000000
open Bool renaming noConfusion→ee
open Go.IntKind renaming u64→eJ
open Go.Proofs.Tryz renaming prog→ay
open Go.Sort renaming Below→El,PermIn→od,SortedIn→tX,heapBuild→MU,heapSort→MV,insInner→MW,insertionSort→MX,partLoop→En,partialIns→qZ,partialInsertionSort→tY,partition→q4,partitionEqual→wi,permIn_refl→MY,permIn_trans→sg,reverseRange→Eo,scanDown→og,scanSorted→tZ,scanUp→oh,shiftDown→zw,shiftUp→Ep,siftDown→q5,swp→cM
open Go.Sort.Below renaming perm→Em
open Go.Value renaming bool→bQ,pointer→zx,slice→bR,tuple→gz
open List renaming drop_eq_nil_of_le→gU,length_append→bL,length_eq_zero_iff→wx,length_pos_iff→lG,length_singleton→fA,length_take→dR,take_of_length_le→eM,take_zero→ou,toArray→bf
open Nat renaming blt→gD,lt_or_ge→fi
open Prod renaming fst→mT
open UInt8 renaming toNat_lt→iT
open Go.Proofs.Tryz
open Go.Proofs

section
namespace Go.Hb
abbrev au (n:Nat):Value:= .int .i64 (n:Nat)
abbrev aQ (b:Nat):Value:= .pointer<|some ⟨b,0,none⟩
variable {P:Program} {N:Fm} {ops:Array Oper} {Q:Exit→(Nat→Value)→World→Prop} {σ:Nat→Value} {w:World} {S:World→Prop} {r fuel:Nat} {bc:Array Bool} {d:Nat} {op:Op} {ty:TypeId} {pos :String} {af:Array Edge} {v:Value}
theorem aC (i:Nat) (hi:ops[i]? =some ⟨some d,op,ty,pos,af,none⟩) (A:∀ w,S w→(execOp (ev N σ) ⟨some d,op,ty,pos,af,none⟩).run P w= .ok (.value v) w) (a:S w) (k:fL P N ops Q S fuel (bc.setIfInBounds i true) (dy σ d v) w) (q:iV N.F ops bc i=true :=by kernel_rfl):fL P N ops Q S (fuel+1) bc σ w:=hp i hi q A a k
theorem dI (i:Nat) (hi:ops[i]? =some ⟨some d,op,ty,pos,af,none⟩) (A:∀ w,S w→(execOp (ev N σ) ⟨some d,op,ty,pos,af,none⟩).run P w= .ok (.value v) w) (a:S w) (k:iM P N ops Q S r fuel (bc.setIfInBounds i true) (dy σ d v) w) (q:B3 N.F ops bc r i=true :=by kernel_rfl):iM P N ops Q S r (fuel+1) bc σ w:=kI i hi q A a k
theorem bz (i:Nat) (hi:ops[i]? =some ⟨some d,op,ty,pos,af,none⟩) (A:∀ w,(execOp (ev N σ) ⟨some d,op,ty,pos,af,none⟩).run P w= .ok (.value v) w) (a:bc.getD r false =false→S w) (k:iM P N ops Q S r fuel (bc.setIfInBounds i true) (dy σ d v) w) (q:yc N.F ops bc r i=true :=by kernel_rfl):iM P N ops Q S r (fuel+1) bc σ w:=dx i hi q A a k
theorem bF {x:Operand} (i:Nat) (hi:ops[i]? =some ⟨some d,.move x,ty,pos,af,none⟩) (v:Value) (a:S w) (k:fL P N ops Q S fuel (bc.setIfInBounds i true) (dy σ d v) w) (A:ev N σ x=v:=by exact aa) (q:iV N.F ops bc i=true :=by kernel_rfl):fL P N ops Q S (fuel+1) bc σ w:=hp i hi q (fun _ _=>aT v A) a k
theorem bC {x:Operand} (i:Nat) (hi:ops[i]? =some ⟨some d,.move x,ty,pos,af,none⟩) (v:Value) (a:S w) (k:iM P N ops Q S r fuel (bc.setIfInBounds i true) (dy σ d v) w) (A:ev N σ x=v:=by exact aa) (q:yc N.F ops bc r i=true :=by kernel_rfl):iM P N ops Q S r (fuel+1) bc σ w:=dx i hi q (fun _=>aT v A) (fun _=>a) k
theorem bo {P:Program} {f:FuncId} {fn:Func} (i:P.funcs[f]? =some fn) (hn:(fn.name== "runtime.NumGoroutine")=false :=by kernel_rfl) (a:fn.body.isNone=false :=by kernel_rfl):bl P f:=Qz i hn a
section
variable {rest:List Oper} {x:Operand} {K:(Nat→Value)→World→Prop} {l:List Oper} {id:Nat} {y z:Code} {j t:Nat} {want b:Bool} {fn:Func} {R:Value→World→Prop}
theorem aB (h:∀ {K:(Nat→Value)→World→Prop},(∀ {σ w},dO P N y Q σ w→lS K Q .normal σ w)→dO P N z (lS K Q) σ w):dO P N (.seq z y) Q σ w:=sq fun K a=>h fun hw=>a _ _ hw
theorem ag (h:∀ {K:(Nat→Value)→World→Prop},(∀ {σ w},dO P N y Q σ w→lS K Q .normal σ w)→eL P N l.toArray (lS K Q) l σ w) (i:tu N.r l=true :=by exact aa):dO P N (.seq (.region id l.toArray false) y) Q σ w:=sq fun K a=>rg i<|h fun hw=>a _ _ hw
theorem aw (h:Q .normal (dy σ d<|ev N σ x) w):eL P N ops Q [⟨some d,.assign x,ty,pos,af,none⟩] σ w:=p aA<|nl h
theorem ba {id:Nat} (h:Q (.exit id) σ w):lS K Q (.exit id) σ w:=h
theorem aE (h:(jW ops j,gD t N.n,σ t,b==want)=(some t,true,.bool b,false)) (k:eL P N ops Q rest (dy σ d undef) w):eL P N ops Q (⟨some d,op,ty,pos,af,some (j,want)⟩::rest) σ w:=sk (congrArg mT h) (congrArg (·.2.1) h) (congrArg (·.2.2.1) h) (congrArg (·.2.2.2) h) k
theorem ec (h:(jW ops j,gD t N.n,σ t)=(some t,true,undef)) (k:eL P N ops Q rest (dy σ d undef) w):eL P N ops Q (⟨some d,op,ty,pos,af,some (j,want)⟩::rest) σ w:=yQ (congrArg mT h) (congrArg (·.2.1) h) (congrArg (·.2.2) h) k
theorem aI (h:(jW ops j,gD t N.n,σ t)=(some t,true,.bool want)) (a:(execOp (ev N σ) ⟨some d,op,ty,pos,af,some (j,want)⟩).run P w= .ok (.value v) w) (k:eL P N ops Q rest (dy σ d v) w):eL P N ops Q (⟨some d,op,ty,pos,af,some (j,want)⟩::rest) σ w:=pg (congrArg mT h) (congrArg (·.2.1) h) (congrArg (·.2.2) h) a k
theorem a6 (i:Nat) (h:(ops[i]?,jW ops j,gD t N.n,σ t,b==want)=(some ⟨some d,op,ty,pos,af,some (j,want)⟩,some t,true,.bool b,false)) (a:S w) (k:fL P N ops Q S fuel (bc.setIfInBounds i true) (dy σ d undef) w) (q:iV N.F ops bc i=true :=by kernel_rfl):fL P N ops Q S (fuel+1) bc σ w:=oJ i (congrArg mT h) q (congrArg (·.2.1) h) (congrArg (·.2.2.1) h) (congrArg (·.2.2.2.1) h) (congrArg (·.2.2.2.2) h) a k
theorem bh (i:Nat) (h:(ops[i]?,jW ops j,gD t N.n,σ t)=(some ⟨some d,op,ty,pos,af,some (j,want)⟩,some t,true,.bool want)) (A:∀ w,S w→(execOp (ev N σ) ⟨some d,op,ty,pos,af,some (j,want)⟩).run P w= .ok (.value v) w) (a:S w) (k:fL P N ops Q S fuel (bc.setIfInBounds i true) (dy σ d v) w) (q:iV N.F ops bc i=true :=by kernel_rfl):fL P N ops Q S (fuel+1) bc σ w:=oI i (congrArg mT h) q (congrArg (·.2.1) h) (congrArg (·.2.2.1) h) (congrArg (·.2.2.2) h) A a k
theorem aV (h:(fn.results,ev N σ (.tmp t))=(#[.tmp t],v)) (a:R v w):fin P fn N R .ret σ w:=f1 (congrArg mT h) (congrArg Prod.snd h) a
theorem ak (v:Value) (h:eL P N ops Q rest (dy σ d v) w) (a:ev N σ x=v:=by exact aa):eL P N ops Q (⟨some d,.move x,ty,pos,af,none⟩::rest) σ w:=p (aT v a) h
end
end Go.Hb
end
namespace Go.Hb.dT
theorem zV:dw ay 106=some (some 3):=aj
theorem EU:dw ay 113=some none:=aj
theorem ur:dw ay 123=some none:=aj
theorem uu:dw ay 131=some (some 5):=aj
theorem EV:dw ay 152=some none:=aj
theorem zW:dw ay 153=some none:=aj
theorem sy:dw ay 158=some none:=aj
theorem oA:dw ay 169=some (some 2):=aj
theorem rm:dw ay 174=some (some 8):=aj
theorem N2:dw ay 176=some none:=aj
theorem xc:dw ay 177=some none:=aj
theorem qe:dw ay 178=some none:=aj
theorem kb:dw ay 179=some none:=aj
theorem EW:dw ay 184=some none:=aj
theorem sA:dw ay 187=some none:=aj
theorem sB:dw ay 193=some none:=aj
theorem EX:dw ay 200=some none:=aj
theorem xd:dw ay 209=some (some 2):=aj
theorem mX:dw ay 22=some none:=aj
theorem zX:dw ay 230=some none:=aj
theorem sD:dw ay 242=some (some 5):=aj
theorem nC:dw ay 268=some none:=aj
theorem xe:dw ay 27=some none:=aj
theorem mY:dw ay 270=some (some 1):=aj
theorem ig:dw ay 29=some none:=aj
theorem bu:dw ay 3=some none:=aj
theorem uv:dw ay 30=some none:=aj
theorem kP:dw ay 325=some (some 4):=aj
theorem N3:dw ay 34=some none:=aj
theorem rp:dw ay 340=some none:=aj
theorem sE:dw ay 349=some (some 1):=aj
theorem kt:dw ay 4=some none:=aj
theorem sF:dw ay 41=some (some 5):=aj
theorem uw:dw ay 43=some (some 5):=aj
theorem lj:dw ay 47=some (some 3):=aj
theorem pw:dw ay 5=some none:=aj
theorem cV:dw ay 51=some none:=aj
theorem EY:dw ay 52=some (some 5):=aj
theorem EZ:dw ay 53=some none:=aj
theorem rq:dw ay 54=some none:=aj
theorem xf:dw ay 55=some none:=aj
theorem lX:dw ay 56=some none:=aj
theorem zY:dw ay 58=some (some 13):=aj
theorem gn:dw ay 60=some none:=aj
theorem E0:dw ay 61=some none:=aj
theorem sG:dw ay 62=some none:=aj
theorem mZ:dw ay 70=some none:=aj
theorem lK:dw ay 72=some (some 2):=aj
theorem pz:dw ay 75=some none:=aj
theorem m3:dw ay 77=some (some 7):=aj
theorem jR:dw ay 87=some none:=aj
theorem bT:dw ay 9=some none:=aj
theorem sI:qh ay 175=some (5,1):=aj
theorem rr:qh ay 325=some (4,1):=aj
theorem Fe:qh ay 351=some (256,1):=aj
theorem uy:qh ay 52=some (5,1):=aj
theorem Ff:Ac ay 325=some ([.int .u64 0,.int .u64 0,.int .u64 0,.int .u64 0]):=aj
theorem m5:xk ay 153 5 9=true :=aj
theorem Fu:bl ay 100:=bo func100
theorem ON:bl ay 109:=bo func109
theorem ky:bl ay 11:=bo func11
theorem Fv:bl ay 111:=bo func111
theorem Fw:bl ay 112:=bo func112
theorem Ak:bl ay 113:=bo func113
theorem OO:bl ay 114:=bo func114
theorem Al:bl ay 115:=bo func115
theorem OP:bl ay 116:=bo func116
theorem Am:bl ay 117:=bo func117
theorem ry:bl ay 118:=bo func118
theorem OQ:bl ay 119:=bo func119
theorem kz:bl ay 12:=bo func12
theorem An:bl ay 120:=bo func120
theorem Fy:bl ay 121:=bo func121
theorem Fz:bl ay 122:=bo func122
theorem OR:bl ay 123:=bo func123
theorem OS:bl ay 124:=bo func124
theorem Ao:bl ay 125:=bo func125
theorem FA:bl ay 126:=bo func126
theorem OT:bl ay 127:=bo func127
theorem OU:bl ay 128:=bo func128
theorem OV:bl ay 129:=bo func129
theorem OW:bl ay 13:=bo func13
theorem OX:bl ay 130:=bo func130
theorem uB:bl ay 131:=bo func131
theorem OY:bl ay 132:=bo func132
theorem OZ:bl ay 133:=bo func133
theorem O0:bl ay 134:=bo func134
theorem FB:bl ay 135:=bo func135
theorem oC:bl ay 136:=bo func136
theorem Ap:bl ay 137:=bo func137
theorem xn:bl ay 138:=bo func138
theorem Aq:bl ay 139:=bo func139
theorem FC:bl ay 140:=bo func140
theorem FD:bl ay 141:=bo func141
theorem O1:bl ay 142:=bo func142
theorem FE:bl ay 144:=bo func144
theorem O2:bl ay 145:=bo func145
theorem O3:bl ay 146:=bo func146
theorem O4:bl ay 147:=bo func147
theorem FF:bl ay 148:=bo func148
theorem FG:bl ay 149:=bo func149
theorem O5:bl ay 150:=bo func150
theorem O6:bl ay 151:=bo func151
theorem O7:bl ay 16:=bo func16
theorem O8:bl ay 169:=bo func169
theorem O9:bl ay 170:=bo func170
theorem Pa:bl ay 171:=bo func171
theorem FH:bl ay 172:=bo func172
theorem Ar:bl ay 173:=bo func173
theorem FI:bl ay 174:=bo func174
theorem Pb:bl ay 175:=bo func175
theorem uC:bl ay 176:=bo func176
theorem Pc:bl ay 177:=bo func177
theorem As:bl ay 178:=bo func178
theorem Pd:bl ay 179:=bo func179
theorem Au:bl ay 18:=bo func18
theorem xo:bl ay 180:=bo func180
theorem FJ:bl ay 181:=bo func181
theorem Pe:bl ay 182:=bo func182
theorem Pf:bl ay 183:=bo func183
theorem Av:bl ay 184:=bo func184
theorem Pg:bl ay 185:=bo func185
theorem FK:bl ay 186:=bo func186
theorem Ph:bl ay 187:=bo func187
theorem FL:bl ay 188:=bo func188
theorem FM:bl ay 189:=bo func189
theorem FN:bl ay 19:=bo func19
theorem Pj:bl ay 190:=bo func190
theorem Aw:bl ay 191:=bo func191
theorem FO:bl ay 192:=bo func192
theorem Ax:bl ay 193:=bo func193
theorem Pk:bl ay 194:=bo func194
theorem Ay:bl ay 195:=bo func195
theorem xp:bl ay 196:=bo func196
theorem Az:bl ay 197:=bo func197
theorem FP:bl ay 198:=bo func198
theorem FQ:bl ay 199:=bo func199
theorem AA:bl ay 20:=bo func20
theorem FR:bl ay 200:=bo func200
theorem Pl:bl ay 201:=bo func201
theorem Pm:bl ay 202:=bo func202
theorem FT:bl ay 203:=bo func203
theorem FU:bl ay 204:=bo func204
theorem FV:bl ay 205:=bo func205
theorem Po:bl ay 206:=bo func206
theorem Pp:bl ay 207:=bo func207
theorem AB:bl ay 208:=bo func208
theorem FW:bl ay 209:=bo func209
theorem AD:bl ay 210:=bo func210
theorem AE:bl ay 211:=bo func211
theorem Pq:bl ay 212:=bo func212
theorem Pr:bl ay 213:=bo func213
theorem uD:bl ay 22:=bo func22
theorem Ps:bl ay 227:=bo func227
theorem Pt:bl ay 228:=bo func228
theorem Pu:bl ay 23:=bo func23
theorem Pv:bl ay 232:=bo func232
theorem Pw:bl ay 233:=bo func233
theorem Px:bl ay 234:=bo func234
theorem FX:bl ay 235:=bo func235
theorem Py:bl ay 236:=bo func236
theorem AF:bl ay 237:=bo func237
theorem Pz:bl ay 238:=bo func238
theorem PA:bl ay 239:=bo func239
theorem qm:bl ay 24:=bo func24
theorem PB:bl ay 240:=bo func240
theorem FY:bl ay 241:=bo func241
theorem FZ:bl ay 242:=bo func242
theorem PC:bl ay 243:=bo func243
theorem F1:bl ay 244:=bo func244
theorem PD:bl ay 245:=bo func245
theorem PE:bl ay 246:=bo func246
theorem PF:bl ay 247:=bo func247
theorem PG:bl ay 248:=bo func248
theorem PH:bl ay 249:=bo func249
theorem F3:bl ay 25:=bo func25
theorem PI:bl ay 250:=bo func250
theorem AG:bl ay 251:=bo func251
theorem F4:bl ay 258:=bo func258
theorem AH:bl ay 259:=bo func259
theorem F5:bl ay 260:=bo func260
theorem PJ:bl ay 261:=bo func261
theorem PK:bl ay 262:=bo func262
theorem F6:bl ay 263:=bo func263
theorem F7:bl ay 264:=bo func264
theorem PL:bl ay 265:=bo func265
theorem AI:bl ay 266:=bo func266
theorem PM:bl ay 267:=bo func267
theorem AJ:bl ay 268:=bo func268
theorem F8:bl ay 269:=bo func269
theorem PN:bl ay 270:=bo func270
theorem AK:bl ay 273:=bo func273
theorem AL:bl ay 274:=bo func274
theorem PO:bl ay 275:=bo func275
theorem PQ:bl ay 279:=bo func279
theorem F9:bl ay 280:=bo func280
theorem PR:bl ay 281:=bo func281
theorem PS:bl ay 282:=bo func282
theorem PT:bl ay 283:=bo func283
theorem PU:bl ay 284:=bo func284
theorem PV:bl ay 285:=bo func285
theorem PW:bl ay 286:=bo func286
theorem PX:bl ay 287:=bo func287
theorem PY:bl ay 288:=bo func288
theorem lZ:bl ay 289:=bo func289
theorem PZ:bl ay 290:=bo func290
theorem P0:bl ay 291:=bo func291
theorem P1:bl ay 294:=bo func294
theorem P2:bl ay 297:=bo func297
theorem P3:bl ay 298:=bo func298
theorem Ga:bl ay 299:=bo func299
theorem AM:bl ay 300:=bo func300
theorem Gb:bl ay 301:=bo func301
theorem P4:bl ay 302:=bo func302
theorem Gc:bl ay 304:=bo func304
theorem AN:bl ay 308:=bo func308
theorem P5:bl ay 38:=bo func38
theorem P6:bl ay 39:=bo func39
theorem P7:bl ay 40:=bo func40
theorem Gd:bl ay 41:=bo func41
theorem Ge:bl ay 42:=bo func42
theorem Gf:bl ay 43:=bo func43
theorem P8:bl ay 44:=bo func44
theorem P9:bl ay 45:=bo func45
theorem Qa:bl ay 46:=bo func46
theorem Qb:bl ay 47:=bo func47
theorem Qc:bl ay 48:=bo func48
theorem Qd:bl ay 49:=bo func49
theorem Qe:bl ay 50:=bo func50
theorem rA:bl ay 51:=bo func51
theorem Qf:bl ay 52:=bo func52
theorem Qg:bl ay 53:=bo func53
theorem Qh:bl ay 54:=bo func54
theorem Qi:bl ay 55:=bo func55
theorem Gg:bl ay 57:=bo func57
theorem AO:bl ay 59:=bo func59
theorem Qj:bl ay 61:=bo func61
theorem Qk:bl ay 64:=bo func64
theorem AP:bl ay 70:=bo func70
theorem Ql:bl ay 71:=bo func71
theorem Qm:bl ay 72:=bo func72
theorem Qn:bl ay 73:=bo func73
theorem Qo:bl ay 74:=bo func74
theorem AQ:bl ay 75:=bo func75
theorem Qp:bl ay 76:=bo func76
theorem AR:bl ay 77:=bo func77
theorem Qq:bl ay 78:=bo func78
theorem Qr:bl ay 79:=bo func79
theorem Gh:bl ay 80:=bo func80
theorem Gi:bl ay 81:=bo func81
theorem Qs:bl ay 82:=bo func82
theorem Qt:bl ay 83:=bo func83
theorem Gj:bl ay 84:=bo func84
theorem iy:bl ay 85:=bo func85
theorem Qu:bl ay 86:=bo func86
theorem sO:bl ay 87:=bo func87
theorem Qv:bl ay 88:=bo func88
theorem Qw:bl ay 89:=bo func89
theorem Qx:bl ay 90:=bo func90
theorem AS:bl ay 91:=bo func91
theorem xq:bl ay 93:=bo func93
theorem Qy:bl ay 94:=bo func94
theorem Gk:bl ay 95:=bo func95
theorem Gl:bl ay 96:=bo func96
theorem Gm:bl ay 97:=bo func97
theorem AT:bl ay 99:=bo func99
theorem Rk:∀ (l:List UInt8) (c:UInt8) (w:World),(callFunc 307 #[str l,.int .u8 c.toNat]).run ay w= .ok (.value<|.int .i64 (l.count c:Nat)) w:=XC func307 aj aj aj aj
theorem RJ:∀ v w,(callFunc 158 #[v]).run ay w= .ok (.value v) w:=fun v w=>aj
theorem xz:ei ay 106=some 3:=aj
theorem rC:ei ay 131=some 5:=aj
theorem RK:ei ay 152=some 1:=aj
theorem RL:ei ay 153=some 1:=aj
theorem RM:ei ay 158=some 1:=aj
theorem oD:ei ay 169=some 2:=aj
theorem A4:ei ay 174=some 8:=aj
theorem RN:ei ay 176=some 1:=aj
theorem RO:ei ay 177=some 1:=aj
theorem RP:ei ay 178=some 1:=aj
theorem GM:ei ay 179=some 1:=aj
theorem GN:ei ay 187=some 1:=aj
theorem RQ:ei ay 202=some 2:=aj
theorem GO:ei ay 209=some 2:=aj
theorem qn:ei ay 242=some 5:=aj
theorem GP:ei ay 268=some 1:=aj
theorem RR:ei ay 27=some 1:=aj
theorem qo:ei ay 270=some 1:=aj
theorem eZ:ei ay 3=some 1:=aj
theorem pD:ei ay 325=some 4:=aj
theorem RS:ei ay 34=some 1:=aj
theorem xA:ei ay 340=some 1:=aj
theorem rD:ei ay 4=some 1:=aj
theorem xB:ei ay 41=some 5:=aj
theorem jT:ei ay 47=some 3:=aj
theorem gp:ei ay 51=some 1:=aj
theorem RT:ei ay 52=some 5:=aj
theorem GQ:ei ay 53=some 1:=aj
theorem GR:ei ay 54=some 1:=aj
theorem GU:ei ay 55=some 1:=aj
theorem GV:ei ay 56=some 1:=aj
theorem A5:ei ay 58=some 13:=aj
theorem A6:ei ay 60=some 1:=aj
theorem GW:ei ay 62=some 1:=aj
theorem sS:ei ay 70=some 1:=aj
theorem kB:ei ay 72=some 2:=aj
theorem A7:ei ay 75=some 1:=aj
theorem pE:ei ay 77=some 7:=aj
theorem GX:ei ay 87=some 1:=aj
theorem kS:ei ay 9=some 1:=aj
theorem l5:gA ay 153=some 1:=aj
theorem SO:gA ay 177=some 1:=aj
theorem xN:gA ay 178=some 5:=aj
theorem nM:gA ay 179=some 8:=aj
theorem sX:gA ay 187=some 2:=aj
theorem Hl:gA ay 217=some 1:=aj
theorem nN:gA ay 230=some 2:=aj
theorem Hm:gA ay 268=some 4:=aj
theorem Bk:gA ay 27=some 5:=aj
theorem Hn:gA ay 30=some 2:=aj
theorem Ho:gA ay 304=some 1:=aj
theorem Bl:gA ay 54=some 1:=aj
theorem SP:gA ay 55=some 5:=aj
theorem na:gA ay 56=some 7:=aj
theorem Bn:gA ay 62=some 2:=aj
theorem bY:gA ay 70=some 1:=aj
theorem kg:gA ay 75=some 1:=aj
theorem cH:gA ay 87=some 1:=aj
theorem SV:Bu ay 58 8=some 12:=aj
theorem Tc:bW ay 111 0=some 0:=aj
theorem Td:bW ay 111 1=some 1:=aj
theorem xY:bW ay 111 3=some 3:=aj
theorem xZ:bW ay 111 4=some 4:=aj
theorem qv:bW ay 111 5=some 5:=aj
theorem nO:bW ay 111 6=some 6:=aj
theorem HW:bW ay 111 7=some 7:=aj
theorem gG:bW ay 125 0=some 0:=aj
theorem HX:bW ay 125 1=some 13:=aj
theorem BH:bW ay 131 0=some 0:=aj
theorem uO:bW ay 131 1=some 1:=aj
theorem HY:bW ay 131 2=some 2:=aj
theorem HZ:bW ay 131 3=some 3:=aj
theorem x3:bW ay 131 4=some 4:=aj
theorem BI:bW ay 155 0=some 0:=aj
theorem x4:bW ay 155 1=some 1:=aj
theorem Te:bW ay 169 0=some 0:=aj
theorem Tf:bW ay 169 1=some 1:=aj
theorem uP:bW ay 174 0=some 0:=aj
theorem Th:bW ay 174 1=some 1:=aj
theorem Ti:bW ay 174 2=some 2:=aj
theorem sZ:bW ay 174 3=some 3:=aj
theorem BJ:bW ay 174 4=some 4:=aj
theorem BK:bW ay 174 5=some 5:=aj
theorem uQ:bW ay 174 6=some 6:=aj
theorem H0:bW ay 174 7=some 7:=aj
theorem s5:bW ay 181 0=some 0:=aj
theorem Tj:bW ay 181 1=some 1:=aj
theorem Tk:bW ay 181 2=some 2:=aj
theorem s6:bW ay 181 3=some 3:=aj
theorem Tl:bW ay 181 4=some 8:=aj
theorem H2:bW ay 181 5=some 9:=aj
theorem uR:bW ay 181 6=some 10:=aj
theorem pH:bW ay 181 7=some 11:=aj
theorem jK:bW ay 181 8=some 12:=aj
theorem s7:bW ay 183 0=some 0:=aj
theorem uS:bW ay 183 1=some 1:=aj
theorem BL:bW ay 183 2=some 2:=aj
theorem BM:bW ay 183 3=some 3:=aj
theorem H3:bW ay 183 4=some 4:=aj
theorem H4:bW ay 183 5=some 5:=aj
theorem uT:bW ay 186 0=some 0:=aj
theorem H5:bW ay 186 1=some 1:=aj
theorem ij:bW ay 195 0=some 0:=aj
theorem uU:bW ay 195 1=some 1:=aj
theorem uV:bW ay 195 2=some 2:=aj
theorem Tm:bW ay 195 3=some 3:=aj
theorem s8:bW ay 195 4=some 4:=aj
theorem BN:bW ay 195 5=some 5:=aj
theorem BO:bW ay 195 6=some 6:=aj
theorem H6:bW ay 202 0=some 0:=aj
theorem H7:bW ay 202 1=some 1:=aj
theorem x5:bW ay 209 0=some 0:=aj
theorem uW:bW ay 209 1=some 1:=aj
theorem lO:bW ay 236 0=some 0:=aj
theorem BQ:bW ay 236 1=some 1:=aj
theorem oH:bW ay 236 2=some 2:=aj
theorem Tn:bW ay 236 3=some 3:=aj
theorem pI:bW ay 236 4=some 4:=aj
theorem pJ:bW ay 236 5=some 5:=aj
theorem s9:bW ay 237 0=some 0:=aj
theorem uX:bW ay 237 1=some 1:=aj
theorem BR:bW ay 242 0=some 0:=aj
theorem x6:bW ay 242 1=some 1:=aj
theorem H8:bW ay 242 2=some 2:=aj
theorem mz:bW ay 270 0=some 0:=aj
theorem nb:bW ay 32 0=some 0:=aj
theorem uY:bW ay 32 1=some 1:=aj
theorem To:bW ay 349 0=some 0:=aj
theorem x7:bW ay 41 0=some 0:=aj
theorem Tp:bW ay 41 1=some 1:=aj
theorem ta:bW ay 41 2=some 2:=aj
theorem rF:bW ay 41 3=some 3:=aj
theorem tc:bW ay 41 4=some 4:=aj
theorem BS:bW ay 43 0=some 0:=aj
theorem Tq:bW ay 43 1=some 1:=aj
theorem BT:bW ay 43 2=some 2:=aj
theorem BU:bW ay 43 3=some 3:=aj
theorem td:bW ay 43 4=some 4:=aj
theorem tg:bW ay 58 0=some 0:=aj
theorem Tr:bW ay 58 1=some 1:=aj
theorem Ts:bW ay 58 2=some 2:=aj
theorem x8:bW ay 58 3=some 3:=aj
theorem BV:bW ay 58 4=some 8:=aj
theorem x9:bW ay 58 5=some 9:=aj
theorem pK:bW ay 58 6=some 10:=aj
theorem th:bW ay 58 7=some 11:=aj
theorem nP:bW ay 58 8=some 12:=aj
theorem BW:bW ay 64 0=some 0:=aj
theorem H9:bW ay 64 1=some 1:=aj
theorem uZ:bW ay 64 2=some 2:=aj
theorem BX:bW ay 64 3=some 15:=aj
theorem BY:bW ay 72 0=some 0:=aj
theorem rG:bW ay 72 1=some 1:=aj
theorem Ia:bW ay 77 0=some 0:=aj
theorem u0:bW ay 77 2=some 2:=aj
theorem ti:bW ay 77 3=some 3:=aj
theorem BZ:bW ay 77 4=some 4:=aj
theorem Ib:bW ay 77 5=some 5:=aj
theorem qw:bW ay 77 6=some 6:=aj
theorem UJ:(ay.info? 155).isSome=true :=aj
theorem UY:∀ (l:List UInt8) (c:UInt8) (w:World),(callFunc 292 #[str l,.int .u8 c.toNat]).run ay w= .ok (.value<|.int .i64<|e9 c l) w:=XD func292 aj aj aj aj
theorem rJ:oy ay 51 (pM .u16):=Va (q:= .u16) aj
theorem iZ:oy ay 9 ji:=Vb aj
theorem CG:rN ay 47=true :=aj
theorem WO:ptrTo ay 227 5=true :=aj
theorem im:gi ay 153 5 1 1=true :=aj
theorem KU:gi ay 176 369 2 32=true :=aj
theorem KV:gi ay 177 75 1 24=true :=aj
theorem KW:gi ay 178 242 5 40=true :=aj
theorem yR:gi ay 179 174 8 104=true :=aj
theorem KX:gi ay 187 209 2 32=true :=aj
theorem yS:gi ay 230 237 2 32=true :=aj
theorem yT:gi ay 268 325 4 32=true :=aj
theorem KY:gi ay 27 41 5 48=true :=aj
theorem KZ:gi ay 30 169 2 40=true :=aj
theorem K0:gi ay 304 349 1 16=true :=aj
theorem La:gi ay 34 43 5 48=true :=aj
theorem yU:gi ay 53 128 2 32=true :=aj
theorem yV:gi ay 54 70 1 24=true :=aj
theorem yW:gi ay 55 131 5 40=true :=aj
theorem yX:gi ay 56 77 7 88=true :=aj
theorem yY:gi ay 62 72 2 40=true :=aj
theorem yZ:gi ay 70 51 1 2=true :=aj
theorem nm:gi ay 75 3 1 8=true :=aj
theorem fQ:gi ay 87 9 1 16=true :=aj
theorem Dw:gR ay 106=some ([(0,1),(1,1),(2,1)],[.int .i64 0,.int .i64 0,.int .i64 0]):=aj
theorem Yd:gR ay 111=some ([(0,1),(1,1),(2,1),(3,1),(4,1),(5,1),(6,1),(7,1)],[.bool false,.bool false,.string ⟨⟨[]⟩⟩,.int .i64 0,.int .i64 0,.int .i64 0,.int .i64 0,.slice none 0 0]):=aj
theorem Ye:gR ay 125=some ([(0,13),(13,1)],[.int .i64 0,.string ⟨⟨[]⟩⟩,.string ⟨⟨[]⟩⟩,.int .u16 0,.int .u16 0,.int .u16 0,.int .u16 0,.int .u16 0,.int .i64 0,.slice none 0 0,.slice none 0 0,.slice none 0 0,.slice none 0 0,.map none]):=aj
theorem Yf:gR ay 128=some ([(0,1),(1,1)],[.string ⟨⟨[]⟩⟩,.string ⟨⟨[]⟩⟩]):=aj
theorem Dx:gR ay 131=some ([(0,1),(1,1),(2,1),(3,1),(4,1)],[.int .u16 0,.int .i64 0,.bool false,.int .i64 0,.int .i64 0]):=aj
theorem pS:gR ay 169=some ([(0,1),(1,1)],[.string ⟨⟨[]⟩⟩,.slice none 0 0]):=aj
theorem Lg:gR ay 174=some ([(0,1),(1,1),(2,1),(3,1),(4,1),(5,1),(6,1),(7,1)],[.int .i64 0,.int .i64 0,.bool false,.string ⟨⟨[]⟩⟩,.string ⟨⟨[]⟩⟩,.string ⟨⟨[]⟩⟩,.slice none 0 0,.int .i64 0]):=aj
theorem Yg:gR ay 181=some ([(0,1),(1,1),(2,1),(3,5),(8,1),(9,1),(10,1),(11,1),(12,1)],[.int .i64 0,.string ⟨⟨[]⟩⟩,.string ⟨⟨[]⟩⟩,.int .i64 0,.int .i64 0,.int .i64 0,.int .i64 0,.int .i64 0,.int .i64 0,.slice none 0 0,.slice none 0 0,.slice none 0 0,.slice none 0 0]):=aj
theorem Yh:gR ay 183=some ([(0,1),(1,1),(2,1),(3,1),(4,1),(5,1)],[.pointer none,.slice none 0 0,.int .i64 0,.string ⟨⟨[]⟩⟩,.slice none 0 0,.nilFunc]):=aj
theorem Yi:gR ay 186=some ([(0,1),(1,1)],[.slice none 0 0,.map none]):=aj
theorem Yj:gR ay 195=some ([(0,1),(1,1),(2,1),(3,1),(4,1),(5,1),(6,1)],[.pointer none,.slice none 0 0,.int .i64 0,.int .i64 0,.map none,.map none,.slice none 0 0]):=aj
theorem mM:gR ay 202=some ([(0,1),(1,1)],[.int .i64 0,.nilFunc]):=aj
theorem Yk:gR ay 209=some ([(0,1),(1,1)],[.int .i64 0,.slice none 0 0]):=aj
theorem Yl:gR ay 236=some ([(0,1),(1,1),(2,1),(3,1),(4,1),(5,1)],[.pointer none,.slice none 0 0,.int .i64 0,.int .i64 0,.slice none 0 0,.int .i64 0]):=aj
theorem Lh:gR ay 237=some ([(0,1),(1,1)],[.int .i64 0,.slice none 0 0]):=aj
theorem Li:gR ay 242=some ([(0,1),(1,1),(2,1),(3,1),(4,1)],[.int .i64 0,.int .i64 0,.bool false,.int .i64 0,.int .i64 0]):=aj
theorem vI:gR ay 270=some ([(0,1)],[.slice none 0 0]):=aj
theorem Ym:gR ay 32=some ([(0,1),(1,1)],[.pointer none,.slice none 0 0]):=aj
theorem Yn:gR ay 349=some ([(0,1)],[.string ⟨⟨[]⟩⟩]):=aj
theorem Yo:gR ay 369=some ([(0,1),(1,1)],[.string ⟨⟨[]⟩⟩,.string ⟨⟨[]⟩⟩]):=aj
theorem Lj:gR ay 41=some ([(0,1),(1,1),(2,1),(3,1),(4,1)],[.string ⟨⟨[]⟩⟩,.int .i64 0,.int .i64 0,.int .i64 0,.int .i64 0]):=aj
theorem Dy:gR ay 43=some ([(0,1),(1,1),(2,1),(3,1),(4,1)],[.string ⟨⟨[]⟩⟩,.int .i64 0,.int .i64 0,.int .i64 0,.int .i64 0]):=aj
theorem tB:gR ay 47=some ([(0,1),(1,1),(2,1)],[.int .i64 0,.int .i64 0,.int .i64 0]):=aj
theorem Yp:gR ay 64=some ([(0,1),(1,1),(2,13),(15,1)],[.pointer none,.pointer none,.int .i64 0,.string ⟨⟨[]⟩⟩,.string ⟨⟨[]⟩⟩,.int .u16 0,.int .u16 0,.int .u16 0,.int .u16 0,.int .u16 0,.int .i64 0,.slice none 0 0,.slice none 0 0,.slice none 0 0,.slice none 0 0,.slice none 0 0]):=aj
theorem nZ:gR ay 72=some ([(0,1),(1,1)],[.string ⟨⟨[]⟩⟩,.slice none 0 0]):=aj
theorem Dz:gR ay 77=some ([(0,1),(1,1),(2,1),(3,1),(4,1),(5,1),(6,1)],[.int .i64 0,.int .u16 0,.bool false,.string ⟨⟨[]⟩⟩,.string ⟨⟨[]⟩⟩,.string ⟨⟨[]⟩⟩,.slice none 0 0]):=aj
theorem rY:ay.underlying 123=some (.map 51 3):=aj
theorem LD:ay.underlying 152=some (.pointer 155):=aj
theorem mP:ay.underlying 153=some (.slice 5):=aj
theorem LG:ay.underlying 177=some (.slice 75):=aj
theorem DF:ay.underlying 178=some (.slice 242):=aj
theorem tG:ay.underlying 179=some (.slice 174):=aj
theorem LH:ay.underlying 184=some (.map 9 75):=aj
theorem y5:ay.underlying 187=some (.slice 209):=aj
theorem qR:ay.underlying 193=some (.map 9 3):=aj
theorem mh:ay.underlying 197=some (.map 9 202):=aj
theorem LI:ay.underlying 217=some (.slice 51):=aj
theorem tH:ay.underlying 22=some (.pointer 64):=aj
theorem LJ:ay.underlying 226=some (.int .u64):=aj
theorem DG:ay.underlying 23=some (.pointer 32):=aj
theorem y6:ay.underlying 230=some (.slice 237):=aj
theorem qS:ay.underlying 268=some (.slice 325):=aj
theorem LK:ay.underlying 27=some (.slice 41):=aj
theorem u3:ay.underlying 3=some (.int .i64):=aj
theorem y7:ay.underlying 30=some (.slice 169):=aj
theorem rZ:ay.underlying 304=some (.slice 349):=aj
theorem YS:ay.underlying 340=some (.int .u64):=aj
theorem u4:ay.underlying 4=some (.bool):=aj
theorem u5:ay.underlying 5=some (.int .u8):=aj
theorem y8:ay.underlying 51=some (.int .u16):=aj
theorem YT:ay.underlying 53=some (.slice 128):=aj
theorem y9:ay.underlying 54=some (.slice 70):=aj
theorem LL:ay.underlying 55=some (.slice 131):=aj
theorem vL:ay.underlying 56=some (.slice 77):=aj
theorem vM:ay.underlying 60=some (.pointer 125):=aj
theorem DH:ay.underlying 61=some (.pointer 186):=aj
theorem vN:ay.underlying 62=some (.slice 72):=aj
theorem oR:ay.underlying 70=some (.slice 51):=aj
theorem np:ay.underlying 75=some (.slice 3):=aj
theorem eV:ay.underlying 87=some (.slice 9):=aj
theorem u9:ay.underlying 9=some (.string):=aj
theorem LO:vO ay 152 279 155 2=true :=aj
theorem Y2:(ay.underlying 158).isSome=true :=aj
theorem Y3:(ay.underlying 226).isSome=true :=aj
theorem qT:(ay.underlying 3).isSome=true :=aj
theorem pV:(ay.underlying 5).isSome=true :=aj
theorem wide:ay.follows .mixedOrders=true :=aj
theorem Mg:zeroOf ay 106=some (some [.int .i64 0,.int .i64 0,.int .i64 0]):=aj
theorem tP:zeroOf ay 131=some (some [.int .u16 0,.int .i64 0,.bool false,.int .i64 0,.int .i64 0]):=aj
theorem Mh:zeroOf ay 155=some (some [.pointer none,.slice none 0 0]):=aj
theorem Mi:zeroOf ay 169=some (some [.string ⟨⟨[]⟩⟩,.slice none 0 0]):=aj
theorem DU:zeroOf ay 174=some (some [.int .i64 0,.int .i64 0,.bool false,.string ⟨⟨[]⟩⟩,.string ⟨⟨[]⟩⟩,.string ⟨⟨[]⟩⟩,.slice none 0 0,.int .i64 0]):=aj
theorem Zw:zeroOf ay 187=some (some [.slice none 0 0]):=aj
theorem Zx:zeroOf ay 202=some (some [.int .i64 0,.nilFunc]):=aj
theorem Mj:zeroOf ay 209=some (some [.int .i64 0,.slice none 0 0]):=aj
theorem r5:zeroOf ay 242=some (some [.int .i64 0,.int .i64 0,.bool false,.int .i64 0,.int .i64 0]):=aj
theorem Zy:zeroOf ay 27=some (some [.slice none 0 0]):=aj
theorem zj:zeroOf ay 270=some (some [.slice none 0 0]):=aj
theorem vR:zeroOf ay 3=some (some [.int .i64 0]):=aj
theorem r6:zeroOf ay 325=some (some [.int .u64 0,.int .u64 0,.int .u64 0,.int .u64 0]):=aj
theorem Zz:zeroOf ay 340=some (some [.int .u64 0]):=aj
theorem Mk:zeroOf ay 4=some (some [.bool false]):=aj
theorem zk:zeroOf ay 41=some (some [.string ⟨⟨[]⟩⟩,.int .i64 0,.int .i64 0,.int .i64 0,.int .i64 0]):=aj
theorem p4:zeroOf ay 47=some (some [.int .i64 0,.int .i64 0,.int .i64 0]):=aj
theorem ZA:zeroOf ay 52=some (some [.int .u16 0,.int .u16 0,.int .u16 0,.int .u16 0,.int .u16 0]):=aj
theorem Ml:zeroOf ay 58=some (some [.int .i64 0,.string ⟨⟨[]⟩⟩,.string ⟨⟨[]⟩⟩,.int .u16 0,.int .u16 0,.int .u16 0,.int .u16 0,.int .u16 0,.int .i64 0,.slice none 0 0,.slice none 0 0,.slice none 0 0,.slice none 0 0]):=aj
theorem ZB:zeroOf ay 60=some (some [.pointer none]):=aj
theorem qU:zeroOf ay 72=some (some [.string ⟨⟨[]⟩⟩,.slice none 0 0]):=aj
theorem r7:zeroOf ay 77=some (some [.int .i64 0,.int .u16 0,.bool false,.string ⟨⟨[]⟩⟩,.string ⟨⟨[]⟩⟩,.string ⟨⟨[]⟩⟩,.slice none 0 0]):=aj
theorem ZC:zeroOf ay 87=some (some [.slice none 0 0]):=aj
theorem ZD:zeroOf ay 9=some (some [.string ⟨⟨[]⟩⟩]):=aj
theorem ZE:zeroOf ay 351=some (some<|List.replicate 256<|.bool false):=aj
theorem ZF:zeroV ay 202=some (.agg #[.int .i64 0,.nilFunc]):=aj
theorem oW:zeroV ay 3=some (.int .i64 0):=aj
theorem ZG:zeroV ay 47=some (.agg #[.int .i64 0,.int .i64 0,.int .i64 0]):=aj
theorem ZH:zeroV ay 5=some (.int .u8 0):=aj
theorem ZI:zeroV ay 51=some (.int .u16 0):=aj
theorem ZJ:zeroV ay 75=some (.slice none 0 0):=aj
end Go.Hb.dT
section
namespace Go.Hb
open Go.Hb.dT
theorem Rt (b:Nat) (i:Option Addr) (A:Value) (w:World) (a:w.heap[b]? =some (.cells [zx i,A].toArray 155 (0,0))) (hp:i=none∨i=some ⟨b,0,none⟩):
 bm ay 109 (bf [aQ b]) w (fun v w'=>v= .tuple #[]∧w'.heap[b]? =some (.cells [zx (some ⟨b,0,none⟩),A].toArray 155 (0,0))∧Md (fun k=>k=b) w w'):=by
 refine enter func109 aa ntmps109 aa<|ag fun C=>ak (aQ b)<|p (nc aa)<|p (fa BI aa)<|p (ld EV aa<|(aX a).trans aa)<|p (kT LD aa aa)<|nl<|C<|cb aa (fun q=> ?_) fun q=> ?_
 obtain rfl :i=none:=by simpa using q
 exact rg aa<|ak (aQ b)<|ak (aQ b)<|p (YK LO aa a aa)<|p (Ri RJ aa)<|p (Tv LO aa a aa)<|p (nc aa)<|p (fa BI aa)<|e<|cw RK aa aa aa a (by simp) fun J I G=>nl<|f0 aa<|⟨aa,G,I⟩
 obtain rfl :i=some ⟨b,0,none⟩:=hp.resolve_left<|by rintro rfl; simp at q
 exact ag fun E=>ak (aQ b)<|p (nc aa)<|p (fa BI aa)<|p (ld EV aa<|(aX a).trans aa)<|ak (aQ b)<|p (VW LD UJ aa aa)<|nl<|E<|cf aa<|aM<|f0 aa<|⟨aa,a,Md.refl _ _⟩
theorem Ma (b:Nat) (i:Value) (l:List UInt8) (c:UInt8) (w:World) (al:Bd 155 5 w b i l) (az:l.length≤70368744177664):
 bm ay 203 (bf [aQ b,.int .u8 c.toNat]) w (fun v w'=>v= .nilIface∧∃ E,Bd 155 5 w' b E (l++ [c])∧Md (BF b i) w w'∧∀ k,BF b E k→BF b i k∨w.heap.size≤k):=by
 obtain ⟨⟨au,M,aq⟩,hown,hnil⟩:=al
 have aB:b < w.heap.size:=(Array.getElem?_eq_some_iff.1 M).1
 have O:∀ k,i.ownBlock=some k→k≠b∧k < w.heap.size:=fun k hk=>by have :=hown.lt k hk; exact ⟨ab,this.2⟩
 refine enter func203 aa ntmps203 aa<|ag fun V=>aw<|V<|ag fun Y=>ak (aQ b)<|e<|cl ON (Rt b au i w M aq) aa fun v6 aG aj=> ?_
 obtain ⟨_,J,A⟩:=aj
 have ao:=dq hown A fun k hk=>(O k hk).1
 have aC:=A.size
 refine nl<|Y<|ag fun Z=>ak (aQ b)<|ak (aQ b)<|p (nc aa)<|p (fa x4 aa)<|p (ld zW aa<|(aX J).trans aa)<|ak (.int .u8 c.toNat)<|e<|fZ im aa aa fun av aD ax q ah=>e<|ap im (aW ao q.md) aa (by have :=q.size; omega) aa (aJ.dX ah) (aa) (aa) ab ab fun U aE C G ar an=> ?_
 have am:=G.aH (Wk.aH q.md J) fun h=>(O b h).1 rfl
 refine p (nc aa)<|p (fa x4 aa)<|e<|cw RL aa aa (by obtain ⟨a,c,h,_⟩:=tv C; exact congrArg Value.oneCell' h) am (by simp) fun aF I ai=>nl<|Z<|ag fun ac=>p aA<|nl<|ac<|rt<|aV aa ?_
 have ae:∀ k,U.ownBlock=some k→k≠b:=fun k hk=>by have :=C.lt k hk; omega
 refine ⟨aa,U,⟨⟨_,ai,.inr aa⟩,?_,?_⟩,?_,?_⟩
 rw [bL,wX]; exact dq C I fun k hk=>ae k hk
 rw [ar]; simp
 refine Md.trans' (Md.trans' (Md.trans' (A.mono fun k _ h=> .inl h) q.md fun _ _ h=>h.elim) G fun k _ h=> .inr h) I fun k _ h=> .inl h
 rintro k (rfl | hk)
 exact .inl<|.inl aa
 by_cases h:i.ownBlock=some k
 exact .inl<|.inr h
 have :=an k hk; have h1:=A.size; have h2:=q.md.size; exact .inr<|by rcases this with h3 | h3; exact absurd h3 h; omega
theorem DB (b:Nat) (C:Value) (l:List UInt8) (w:World) (M:Bd 155 5 w b C l) (Y:l.length≤70368744177664):
 bm ay 70 (bf [aQ b]) w (fun v w'=>v=str l∧Md (fun k=>C.ownBlock=some k) w w'):=by
 obtain ⟨⟨ae,E,Z⟩,hown,hnil⟩:=M
 obtain ⟨a,c,rfl,U,hle,hk,V⟩:=tv hown
 refine enter func70 aa ntmps70 aa<|ag fun G=>aw<|G<|aB fun I=> ?_
 have i:(fun w'=>Md (fun k=>(bR a l.length c).ownBlock=some k) w w') w.drew:=(Md.refl _ _).drew
 refine bI (fun w'=>Md (fun k=>(bR a l.length c).ownBlock=some k) w w') aa wide i<|bF 0 aa (aQ b) i<|aC 1 aa (fun _ _=>nc aa) i<|aC 2 aa (fun _ _=>fa x4 aa) i<|aC 3 aa (fun w' q=>ld zW aa<|q.aO ((aX E).trans aa) fun h=>by have :=hown.lt _ h; omega) i<|bF 5 aa (aQ b) i<|aC 6 aa (fun _ _=>nc aa) i<|aC 7 aa (fun _ _=>fa x4 aa) i<|aC 8 aa (fun w' q=>ld zW aa<|q.aO ((aX E).trans aa) fun h=>by have :=hown.lt _ h; omega) i<|aC 9 aa (fun _ _=>bK mP aa aa) i ?_
 refine aC 4 aa (fun _ _=>Y4 (v:= .nilFunc) aa (by
  by_cases h:l= []
  have :=hnil.2 h; simp only [Value.slice.injEq] at this; exact .inl this.1
  right; have :0 < l.length:=lG.2 h; omega)) i ?_
 refine he 10 aa aj<|Y5 WO aa aa hown aa ab fun O J ac=> ?_
 have A:(fun w'=>Md (fun k=>(bR a l.length c).ownBlock=some k) w w') O:=i.trans' J fun _ _ h=>h
 refine ⟨A,?_⟩
 exact aC 11 aa (fun _ _=>aA) A<|hn aj<|I<|rt<|aV aa<|⟨aa,A⟩
end Go.Hb
end
section
namespace Go.Hb
open Go.Hb.dT
theorem ll (b:UInt8):rE b=decide ((b.toNat:Int)=92∨(b.toNat:Int)=47∨(b.toNat:Int)=35):=by
 unfold rE; exact decide_eq_decide.2 ab
theorem By (b:UInt8):iP b=decide (32 < (b.toNat:Int)∧(b.toNat:Int)≠127):=by
 unfold iP; exact decide_eq_decide.2 ab
theorem S5 {b:UInt8} (h:32 < (b.toNat:Int)) (h1:(b.toNat:Int)≠127):iP b=true :=by rw [By]; exact decide_eq_true ⟨h,h1⟩
theorem Bx {b:UInt8} (h:¬(32 < (b.toNat:Int)∧(b.toNat:Int)≠127)):iP b=false :=by rw [By]; exact decide_eq_false h
theorem HE (b:UInt8) (w:World):
 bm ay 204 (bf [.int .u8 b.toNat]) w (fun v w'=>v= .bool (iP b)∧Wk w w'):=by
 refine enter func204 aa ntmps204 aa<|ag fun i=>aw<|i<|ag fun a=>ak (.int .u8 b.toNat)<|p (gt aa aa)<|p mv<|gs (t:=5) aa (fun q=> ?_) fun q=> ?_
 exact aI aa (aT (.int .u8 b.toNat) aa)<|aI aa (db aa aa)<|p (bB aa)<|aw<|a<|rt<|aV aa<|⟨by show bQ (decide _)=_; rw [By]; exact bv (by constructor <;> intro h <;> first | exact ⟨ab,h⟩ | exact h.2),Md.refl _ _⟩
 exact aE aa<|aE aa<|p (bp aa)<|aw<|a<|rt<|aV aa<|⟨by show bQ false =_; rw [Bx ab],Md.refl _ _⟩
theorem VC (b:UInt8) (w:World):
 bm ay 202 (bf [.int .u8 b.toNat]) w (fun v w'=>v= .bool (rE b)∧Wk w w'):=by
 refine enter func202 aa ntmps202 aa<|ag fun E=>aw<|E<|aB fun A=>ag fun G=>ak (.int .u8 b.toNat)<|nl<|G<|aH<|aB fun C=>ag fun I=>p (bJ aa aa)<|aw<|I<|cd aa (fun a=> ?_) fun a=> ?_
 refine aM<|C<|cd aa (fun a=> ?_) fun a=> ?_
 refine ag fun q=>aw<|q<|rt<|br<|tr<|aV aa ?_
 first | exact ⟨by show bQ true =_; rw [ll,decide_eq_true ab],Md.refl _ _⟩ | exact ⟨by show bQ false =_; rw [ll,decide_eq_false ab],Md.refl _ _⟩
 refine aM<|bn<|A<|ag fun q=>aw<|q<|rt<|aV aa ?_
 first | exact ⟨by show bQ true =_; rw [ll,decide_eq_true ab],Md.refl _ _⟩ | exact ⟨by show bQ false =_; rw [ll,decide_eq_false ab],Md.refl _ _⟩
 refine ag fun q=>p (bJ aa aa)<|aw<|q<|cd aa (fun a=> ?_) fun a=> ?_
 refine aM<|C<|cd aa (fun a=> ?_) fun a=> ?_
 refine ag fun i=>aw<|i<|rt<|br<|tr<|aV aa ?_
 first | exact ⟨by show bQ true =_; rw [ll,decide_eq_true ab],Md.refl _ _⟩ | exact ⟨by show bQ false =_; rw [ll,decide_eq_false ab],Md.refl _ _⟩
 refine aM<|bn<|A<|ag fun i=>aw<|i<|rt<|aV aa ?_
 first | exact ⟨by show bQ true =_; rw [ll,decide_eq_true ab],Md.refl _ _⟩ | exact ⟨by show bQ false =_; rw [ll,decide_eq_false ab],Md.refl _ _⟩
 refine rg aa<|p (bJ aa aa)<|aw<|C<|cd aa (fun a=> ?_) fun a=> ?_
 refine ag fun i=>aw<|i<|rt<|br<|tr<|aV aa ?_
 first | exact ⟨by show bQ true =_; rw [ll,decide_eq_true ab],Md.refl _ _⟩ | exact ⟨by show bQ false =_; rw [ll,decide_eq_false ab],Md.refl _ _⟩
 refine aM<|bn<|A<|ag fun i=>aw<|i<|rt<|aV aa ?_
 first | exact ⟨by show bQ true =_; rw [ll,decide_eq_true ab],Md.refl _ _⟩ | exact ⟨by show bQ false =_; rw [ll,decide_eq_false ab],Md.refl _ _⟩
theorem LU (s:List UInt8) (w:World) (hs:s.length≤1048576):
 bm ay 140 (bf [str s]) w (fun v w'=>v= .bool (pW s)∧Wk w w'):=by
 refine enter func140 aa ntmps140 aa<|ag fun Y=>aw<|Y<|aB fun ae=>ag fun J=>ak (str s)<|p (dV aa aa)<|p mv<|gs (t:=6) aa (fun G=> ?_) fun G=> ?_
 exact aE aa<|aE aa<|aE aa<|p (bB aa)<|nl<|J<|ct aa<|aB fun a=>rg aa<|aw<|a<|rt<|tr<|aV aa<|⟨by show bQ false =_; unfold pW; rw [decide_eq_false (by rw [G]; simp)],Md.refl _ _⟩
 refine aI aa (aT (str s) aa)<|aI aa (cz u9 aa aa)<|aI aa (gt aa aa)<|p (bp aa)<|nl<|J<|cd aa (fun an=> ?_) fun an=> ?_
 exact ag fun a=>aw<|a<|rt<|tr<|aV aa<|⟨by show bQ false =_; unfold pW; rw [decide_eq_false ab],Md.refl _ _⟩
 refine aM<|ae<|aB fun a=>ag fun ah=>ak (str s)<|p (cz u9 aa aa)<|p mv<|nl<|ah<|aH<|lp (fun M q V=> ∃ (i:Nat),(i≤s.length∧1≤s.length∧s.length≤64)∧(∀ j,j < i→iP (s.getD j 0)=true)∧(Wk w V)∧(q 0=str s)∧(q 12= .int .i64 s.length)∧(q 13= .int .i64 i)∧(s.length - i=M)) _ ⟨0,(⟨ab,by rcases Nat.eq_zero_or_pos s.length with h | h <;> first | exact absurd (wx.1 h) G | exact h,ab⟩),(fun j U=>by omega),(Md.refl _ _),aa,aa,aa,aa⟩ ?_
 rintro M q V ⟨i,hi,hp,C,ap,aq,ar,rfl⟩
 refine fx 0 ap<|fx 12 aq<|fx 13 ar<|ag fun ai=>p (lt aa aa)<|nl<|ai<|aB fun aj=>cd aa (fun ao=> ?_) fun ao=> ?_
 refine aM<|aj<|aB fun A=>aH<|ag fun al=>ak (.int .i64 i)<|p (cJ (.int .i64 i) aa)<|nl<|al<|ag fun Z=>ak (str s)<|ak (.int .i64 i)<|p (eQ u9 aa aa ab)<|e<|cl FU (HE (s.getD i 0) _) aa fun au av am=> ?_
 obtain ⟨rfl,O⟩:=am
 refine p (no aa)<|nl<|Z<|cb aa (fun E=> ?_) fun E=> ?_
 have I:iP (s.getD i 0)=false :=by simpa using E
 exact ag fun ac=>aw<|ac<|rt<|br<|tr<|tr<|br<|tr<|aV aa<|⟨by show bQ false =_; unfold pW; rw [sN (i:=i) ab I,decide_eq_false (by simp)],Md.trans C O⟩
 have I:iP (s.getD i 0)=true :=by simpa using E
 exact aM<|bn<|A<|rg aa<|p (ad aa aa<|bX ab)<|p mv<|nl<|tn<|⟨_,ab,i+1,ab,(fun j U=>by rcases fi j i with h | h <;> first | exact hp j h | (rw [show j=i by omega]; exact I)),(Md.trans C O),aa,aa,aa,aa⟩
 exact ext<|ba<|ba<|be<|a<|ag fun A=>p aA<|nl<|A<|rt<|aV aa<|⟨by show bQ true =_; unfold pW; rw [uA (fun j U=>hp j ab),decide_eq_true ⟨hi.2.1,hi.2.2,aa⟩],C⟩
theorem DT (s:List UInt8) (w:World) (hs:s.length≤1048576):
 bm ay 139 (bf [str s]) w (fun v w'=>v=Ko (bA s)∧Wk w w'):=by
 refine enter func139 aa ntmps139 aa<|ag fun ao=>p aA<|p aA<|p aA<|aw<|ao<|ag fun av=>e<|fk Mh fun a bs bd aU aL=>nl<|av<|aB fun ax=>ag fun aD=>aw<|aD<|aH<|lp (fun am J I=> ∃ (i:Nat) (acc:List UInt8) (q:Value),(i≤s.length∧acc.length≤i)∧(Bd 155 5 I a q acc)∧(Wk w I)∧(jj acc (s.drop i)=bA s)∧(J 0=str s)∧(J 6=aQ a)∧(J 7= .int .i64 i)∧(s.length - i=am)) _ ⟨0,[],.slice none 0 0,(by simp),(Bd.new aL),aU.md,aa,aa,aa,aa,aa⟩ ?_
 rintro am J I ⟨i,acc,q,hi,A,C,hd,a5,a6,a7,rfl⟩
 refine fx 0 a5<|fx 6 a6<|fx 7 a7<|aB fun aF=>ag fun aG=>ak (.int .i64 i)<|ak (str s)<|p (cz u9 aa aa)<|p (lt aa aa)<|nl<|aG<|cd aa (fun a0=> ?_) fun a0=> ?_
 refine aM<|aF<|aB fun V=>aH<|ag fun aJ=>ak (str s)<|ak (.int .i64 i)<|p (eQ u9 aa aa ab)<|nl<|aJ<|aH ?_
 refine ed (fun M ah=> ∃ (k:Nat),(k < s.length∧i≤k∧k≤i+1)∧(Bd 155 5 ah a q acc)∧(Wk w ah)∧(jj (acc++ [s.getD k 0]) (s.drop<|k+1)=bA s)∧(M 0=str s)∧(M 6=aQ a)∧(M 7= .int .i64 k)) ?_ ?_
 refine aH<|aB fun Y=>aH<|aB fun ap=>aH<|aB fun aq=>aB fun ar=>aB fun au=>rg aa<|p (bJ aa aa)<|aw<|au<|cd aa (fun a1=> ?_) fun a1=> ?_
 have aZ:(s.getD i 0).toNat=47:=ab
 refine ext<|ba<|ba<|be<|ap<|aB fun ai=>aB fun O=> ?_
 have E:(fun w'=>True) I.drew:=trivial
 refine bI (fun w'=>True) aa wide E<|bF 1 aa (str s) E<|bF 2 aa (.int .i64 i) E<|aC 3 aa (fun _ _=>bE ((i+1:Nat):Int) aa aa<|bj ab ab) E<|aC 4 aa (fun _ _=>mg u9 aa aa ab) E<|he 0 aa aj<|cl AP (DB a q acc _ (A.md (Md.refl (fun _=>False) _).drew fun _ _ h=>h) ab) aa fun v21 bc aV=> ?_
 obtain ⟨rfl,aP⟩:=aV
 have G:(fun w'=>True) bc:=trivial
 refine ⟨G,?_⟩
 refine aC 5 aa (fun _ _=>aA) G<|aC 6 aa (fun _ _=>aA) G<|aC 7 aa (fun _ _=>aA) G<|aC 8 aa (fun _ _=>aA) G<|hn aj<|O<|rt<|tr<|br<|tr<|br<|tr<|br<|br<|tr<|tr<|br<|tr<|f4 aa aa aa aa aa ?_
 skip
 exact ⟨by rw [← hd,drop_cons 0 (by omega :i < s.length),DS aZ]; rfl,A.DA C (Md.trans (Md.refl _ _).drew aP) ab⟩
 refine aM<|ar<|ag fun ai=>p (bJ aa aa)<|aw<|ai<|cd aa (fun a2=> ?_) fun a2=> ?_
 have ac:(s.getD i 0).toNat=92:=ab
 refine ext<|ba<|nE az<|ba<|be<|Y<|ag fun O=>ak (.int .i64 i)<|p (bE ((i+1:Nat):Int) aa aa<|bj ab ab)<|aw<|O<|ag fun al=>p mv<|ak (str s)<|p (cz u9 aa aa)<|p (bJ aa aa)<|p mv<|gs (t:=32) aa (fun a4=> ?_) fun a4=> ?_
 refine aE aa<|aE aa<|aE aa<|aE aa<|aE aa<|p (bB aa)<|nl<|al<|ct aa<|ag fun U=>p aA<|p aA<|p aA<|p aA<|nl<|U<|rt<|br<|tr<|br<|br<|tr<|tr ?_
 exact br<|tr<|f4 aa aa aa aa aa<|⟨by rw [← hd,drop_cons 0 (by omega :i < s.length),gU ab,DP ac]; rfl,C⟩
 refine aI aa (aT (str s) aa)<|aI aa mv<|aI aa (eQ u9 aa aa ab)<|eg aa aa aa<|cl Pm (VC (s.getD (i+1) 0) _) aa fun bh bl aW=> ?_
 obtain ⟨rfl,Z⟩:=aW
 refine aI aa (no aa)<|p (bp aa)<|nl<|al<|cb aa (fun ae=> ?_) fun ae=> ?_
 exact ag fun U=>p aA<|p aA<|p aA<|aw<|U<|rt<|br<|tr<|br<|br<|tr<|tr<|br<|tr<|f4 aa aa aa aa aa<|⟨by rw [← hd,drop_cons 0 (by omega :i < s.length),drop_cons 0 (by omega :i+1 < s.length),DQ ac (by simpa using ae)]; rfl,Md.trans C Z⟩
 exact aM<|bn<|tn<|⟨i+1,ab,(A.md Z fun _ _ h=>h),(Md.trans C Z),(by rw [← hd,drop_cons 0 (by omega :i < s.length),drop_cons 0 (by omega :i+1 < s.length),vQ ac (by simpa using ae)]),aa,aa,aa⟩
 exact aM<|aq<|ext<|nE az<|ba<|nE az<|ba<|be<|tn<|⟨i,ab,A,C,(by rw [← hd,drop_cons 0 (by omega :i < s.length),DR ab ab]),aa,aa,aa⟩
 rintro M ah ⟨k,hk,an,aO,a3,a8,a9,bb⟩
 refine fx 0 a8<|fx 6 a9<|fx 7 bb<|ag fun Y=>ak (str s)<|ak (.int .i64 k)<|p (eQ u9 aa aa ab)<|e<|cl FT (Ma a q (acc) (s.getD k 0) _ an ab) aa fun bi bo aX=> ?_
 obtain ⟨rfl,aK,aN,aR,bg⟩:=aX
 exact nl<|Y<|ext<|be<|bn<|V<|rg aa<|ak (.int .i64 k)<|p (ad aa aa<|bX ab)<|p aA<|nl<|tn<|⟨_,ab,k+1,acc++ [s.getD k 0],aK,(by rw [bL,fA]; omega),aN,(an.step aO aR ab),a3,aa,aa,aa,aa⟩
 refine ext<|ba<|ba<|be<|ax<|ag fun V=>e<|cl AP (DB a q acc _ A ab) aa fun bk bq aY=> ?_
 obtain ⟨rfl,aS⟩:=aY
 exact p aA<|p aA<|p aA<|aw<|V<|rt<|f4 aa aa aa aa aa<|⟨by rw [← hd,gU ab,zh]; rfl,A.DA C aS ab⟩
theorem Vm (s:List UInt8) (w:World) (hs:s.length≤1048576):
 bm ay 194 (bf [str s]) w (fun v w'=>v= .tuple #[str (letE s).1,.int .i64 (letE s).2]∧Wk w w'):=by
 refine enter func194 aa ntmps194 aa<|ag fun az=>p aA<|aw<|az<|ag fun aG=>e<|al ZE fun V a9 bc I ap=> ?_
 have aS:bO a9.heap V (marksOf []):=by rw [VE]; exact ap
 refine nl<|aG<|aB fun aI=>ag fun aJ=>ak (str s)<|p (dV aa aa)<|nl<|aJ<|cd aa (fun am=> ?_) fun am=> ?_
 exact ag fun U=>p aA<|aw<|U<|rt<|tr<|f2 aa aa aa<|⟨by show gz #[str [],.int .i64 21]=_; unfold letE; rw [if_pos (.inl am)]; rfl,I.md⟩
 refine aM<|aI<|ag fun U=>e<|fk Mh fun G bs bg ax aT=>nl<|U<|aB fun aK=>ag fun aL=>ak (str s)<|p (cz u9 aa aa)<|p mv<|nl<|aL<|aH ?_
 have bd:=ap.lt
 refine lp (fun ao a M=> ∃ (i:Nat) (q:Value),(i≤s.length)∧(∀ j,j < i→iP (s.getD j 0)=true)∧(bO M.heap V<|marksOf<|lets<|s.take i)∧(Bd 155 5 M G q<|lets<|s.take i)∧(Wk w M)∧(a 0=str s)∧(a 4=aQ V)∧(a 5=aQ G)∧(a 10= .int .i64 s.length)∧(a 11= .int .i64 i)∧(s.length - i=ao)) _ ⟨0,.slice none 0 0,ab,(fun j an=>by omega),(ax.md.B aS),(Bd.new aT),(Md.trans I.md ax.md),aa,aa,aa,aa,aa,aa⟩ ?_
 rintro ao a M ⟨i,q,hi,hp,av,Z,ah,a3,a6,a7,a4,a5,rfl⟩
 refine fx 0 a3<|fx 4 a6<|fx 5 a7<|fx 10 a4<|fx 11 a5 ?_
 have a2:=Cx<|s.take i
 rw [dR] at a2
 have bh:=av.lt
 refine ag fun aN=>p (lt aa aa)<|nl<|aN<|aB fun aO=>cd aa (fun a1=> ?_) fun a1=> ?_
 refine aM<|aO<|aB fun E=>aH<|ag fun aC=>ak (.int .i64 i)<|p (cJ (.int .i64 i) aa)<|nl<|aC<|aB fun aD=>ag fun aE=>ak (str s)<|ak (.int .i64 i)<|p (eQ u9 aa aa ab)<|e<|cl FU (HE (s.getD i 0) _) aa fun bk a8 aY=> ?_
 obtain ⟨rfl,A⟩:=aY
 refine p (no aa)<|nl<|aE<|cb aa (fun ai=> ?_) fun ai=> ?_
 have J:iP (s.getD i 0)=false :=by simpa using ai
 exact ag fun O=>p aA<|aw<|O<|rt<|tr<|br<|tr<|tr<|br<|tr<|f2 aa aa aa<|⟨by show gz #[str [],.int .i64 21]=_; unfold letE; rw [if_pos (.inr<|sN ab J)]; rfl,Md.trans ah A⟩
 have J:iP (s.getD i 0)=true :=by simpa using ai
 have aq:Wk w a8:=Md.trans ah A
 have Y:=A.B av
 have ae:=Z.md A fun _ _ h=>h
 have bj:=A.size
 refine aM<|aD<|ag fun O=>ak (str s)<|ak (.int .i64 i)<|p (eQ u9 aa aa ab)<|p (kh Fe aa aa<|by have :=iT (s.getD i 0); omega)<|p (ld kt aa<|VG Y _)<|p (no aa)<|nl<|O<|cb aa (fun aj=> ?_) fun aj=> ?_
 have C:¬s.getD i 0∈lets (s.take i):=of_decide_eq_false<|by simpa using aj
 refine ag fun aF=>ak (str s)<|ak (.int .i64 i)<|p (eQ u9 aa aa ab)<|p (kh Fe aa aa<|by have :=iT (s.getD i 0); omega)<|e<|st rD aa aa (aa) (Y) (by rw [Js]; have :=iT (s.getD i 0); omega) fun bb ar aR=> ?_
 have aX:=VH aR
 have aV:Wk w bb:=Md.trans' aq ar fun k hk h=>by omega
 have ac:=ae.md ar fun k hk h=>by have :=ae.jh hk; omega
 refine nl<|aF<|rg aa<|ak (str s)<|ak (.int .i64 i)<|p (eQ u9 aa aa ab)<|e<|cl FT (Ma G q (lets<|s.take i) (s.getD i 0) _ ac ab) aa fun bl bp aZ=> ?_
 obtain ⟨rfl,aP,aU,au,bi⟩:=aZ
 exact nl<|bn<|E<|rg aa<|p (ad aa aa<|bX ab)<|p mv<|nl<|tn<|⟨_,ab,i+1,aP,ab,(fun j an=>by rcases fi j i with h | h <;> first | exact hp j h | (rw [show j=i by omega]; exact J)),(by rw [qF ab,if_neg C]; exact au.B aX fun h=>by have :=ac.jh h; omega),(by rw [qF ab,if_neg C]; exact aU),(ac.step aV au<|by have :=I.md.size; omega),aa,aa,aa,aa,aa,aa⟩
 have C:s.getD i 0∈lets (s.take i):=by simpa using aj
 exact aM<|bn<|E<|rg aa<|p (ad aa aa<|bX ab)<|p mv<|nl<|tn<|⟨_,ab,i+1,q,ab,(fun j an=>by rcases fi j i with h | h <;> first | exact hp j h | (rw [show j=i by omega]; exact J)),(by rw [qF ab,if_pos C]; exact Y),(by rw [qF ab,if_pos C]; exact ae),aq,aa,aa,aa,aa,aa,aa⟩
 refine ext<|ba<|ba<|be<|aK<|ag fun E=>e<|cl AP (DB G q (lets<|s.take i) _ Z<|by have :=Cx (s.take i); rw [dR] at this; omega) aa fun bo bq a0=> ?_
 obtain ⟨rfl,aW⟩:=a0
 exact p aA<|aw<|E<|rt<|f2 aa aa aa<|⟨by show gz #[str (lets<|s.take i),.int .i64 0]=_; unfold letE; rw [if_neg (by rw [uA (fun j an=>hp j ab)]; exact fun h=>h.elim am ee),show s.take i=s from eM ab]; rfl,Z.DA ah aW<|by have :=I.md.size; omega⟩
end Go.Hb
end
section
namespace Go.Hb
open Go.Hb.dT
theorem yj {s:List UInt8} (h:¬s= []) (h1:¬(1 < s.length∧(s.getD 0 0).toNat=48)):¬qC s:=fun a=>a.elim h h1
theorem Kj {s:List UInt8} (h:¬qC s):0 < s.length:=lG.2 fun e=>h<|.inl e
theorem yC (s:List UInt8) (most:Int) (w:World) (hs:s.length≤1048576) (hm: -9223372036854775808≤most∧most≤9223372036854775807):
 bm ay 138 (bf [str s,.int .i64 most]) w (fun v w'=>v= .tuple #[.int .i64 (dZ s most).1,.int .i64 (dZ s most).2]∧Wk w w'):=by
 refine enter func138 aa ntmps138 aa<|ag fun ac=>p aA<|aw<|ac ?_
 refine ed (fun O M=>(¬qC s)∧(M=w)∧(O 0=str s)∧(O 1= .int .i64 most)) ?_ ?_
 refine ag fun A=>ak (str s)<|p (dV aa aa)<|p mv<|gs (t:=11) aa (fun G=> ?_) fun G=> ?_
 exact aE aa<|aE aa<|aE aa<|aE aa<|ec aa<|ec aa<|ec aa<|aE aa<|p (bB aa)<|nl<|A<|ct aa<|ag fun C=>p aA<|p aA<|nl<|C<|rt<|tr<|f2 aa aa aa<|⟨by show gz #[.int .i64 0,.int .i64 13]=_; rw [yB (.inl G)]; rfl,Md.refl _ _⟩
 refine aI aa (aT (str s) aa)<|aI aa (cz u9 aa aa)<|aI aa (gt aa aa)<|aI aa mv<|gs (t:=15) aa (fun ax=> ?_) fun ax=> ?_
 refine aI aa (aT (str s) aa)<|aI aa (iY 0 u9 aa aa ab)<|aI aa (bJ aa aa)<|aI aa (bB aa)<|p (bp aa)<|nl<|A<|cd aa (fun ap=> ?_) fun ap=> ?_
 exact ag fun C=>p aA<|aw<|C<|rt<|tr<|f2 aa aa aa<|⟨by show gz #[.int .i64 0,.int .i64 13]=_; rw [yB (.inr ⟨ab,ab⟩)]; rfl,Md.refl _ _⟩
 have I:=yj (s:=s) G ab
 exact aM<|tn<|⟨I,aa,aa,aa⟩
 exact aE aa<|aE aa<|aE aa<|aI aa (bp aa)<|p (bp aa)<|nl<|A<|cf aa<|aM<|tn<|⟨(yj (s:=s) G ab),aa,aa,aa⟩
 rintro O M ⟨I,an,aF,aG⟩
 refine fx 0 aF<|fx 1 aG ?_
 subst an
 have hp:=Kj I
 refine ag fun A=>aw<|A<|aB fun C=>ag fun ah=>ak (str s)<|p (cz u9 aa aa)<|p mv<|nl<|ah<|aH<|lp (fun U q Z=> ∃ (i:Nat),(i≤s.length)∧(Z=M)∧((eO (s.take i):Int)≤max 0 most∧(0 < i→(eO (s.take i):Int)≤most))∧(∀ j,j < i→qq (s.getD j 0)=true)∧(q 0=str s)∧(q 1= .int .i64 most)∧(q 6=au (eO<|s.take i))∧(q 22= .int .i64 s.length)∧(q 23= .int .i64 i)∧(s.length - i=U)) _ ⟨0,ab,aa,(by rw [ou]; show (0:Int)≤_∧_; omega),(fun j Y=>by omega),aa,aa,(iv<|by first | rfl | (rw [m9 ab])),aa,aa,aa⟩ ?_
 rintro U q Z ⟨i,hi,ao,hn,V,aJ,aK,aO,aL,aN,rfl⟩
 refine fx 0 aJ<|fx 1 aK<|fx 6 aO<|fx 22 aL<|fx 23 aN ?_
 subst ao
 have aP:=iT<|s.getD i 0
 refine ag fun ai=>p (lt aa aa)<|nl<|ai<|aB fun aj=>cd aa (fun aq=> ?_) fun aq=> ?_
 refine aM<|aj<|aB fun J=>aH<|ag fun al=>ak (.int .i64 i)<|p (cJ (.int .i64 i) aa)<|nl<|al<|ag fun am=>ak (str s)<|ak (.int .i64 i)<|p (eQ u9 aa aa ab)<|p (xy u3 pV aa<|bX ab)<|p (sb aa aa<|bX ab)<|aw<|am<|aB fun ae=>ag fun E=>p mv<|p (lt aa aa)<|p mv<|gs (t:=33) aa (fun az=> ?_) fun az=> ?_
 refine aE aa<|aE aa<|p (bB aa)<|p mv<|aE aa<|aE aa<|aE aa<|p (bB aa)<|p mv<|aE aa<|aE aa<|aE aa<|aE aa<|aE aa<|aE aa<|p (bB aa)<|nl<|E<|ct aa<|ag fun a=>p aA<|p aA<|nl<|a<|rt<|tr<|br<|tr<|tr<|br<|tr ?_
 exact f2 aa aa aa<|⟨by show gz #[.int .i64 0,.int .i64 13]=_; rw [yA (i:=i) ab (xE ab)]; rfl,Md.refl _ _⟩
 refine aI aa mv<|aI aa (gt aa aa)<|p (bp aa)<|p mv<|gs (t:=37) aa (fun aC=> ?_) fun aC=> ?_
 exact aE aa<|aE aa<|aE aa<|p (bB aa)<|p mv<|aE aa<|aE aa<|aE aa<|aE aa<|aE aa<|aE aa<|p (bB aa)<|nl<|E<|ct aa<|aB fun a=>rg aa<|p aA<|aw<|a<|rt<|tr<|br<|tr<|tr<|br<|tr<|f2 aa aa aa<|⟨by show gz #[.int .i64 0,.int .i64 13]=_; rw [yA (i:=i) ab (xE ab)]; rfl,Md.refl _ _⟩
 refine aI aa (aT (.int .i64 most) aa)<|aI aa mv<|aI aa (lt aa aa)<|p (bp aa)<|p mv<|gs (t:=42) aa (fun aD=> ?_) fun aD=> ?_
 refine aE aa<|aE aa<|aE aa<|aE aa<|aE aa<|aE aa<|p (bB aa)<|nl<|E<|ct aa<|ag fun a=>p aA<|aw<|a ?_
 exact rt<|tr<|br<|tr<|tr<|br<|tr<|f2 aa aa aa<|⟨by show gz #[.int .i64 0,.int .i64 13]=_; rw [vl (i+1) (by rw [m9 ab]; omega)]; rfl,Md.refl _ _⟩
 have aQ:((s.getD i 0).toNat:Int) - 48≤most:=ab
 refine aI aa (aT (au<|eO<|s.take i) aa)<|aI aa (aT (.int .i64 most) aa)<|aI aa mv<|aI aa (sb aa aa<|bX ab)<|aI aa (qM (((most - (((s.getD i 0).toNat:Int) - 48)).toNat / 10:Nat):Int) aa aa ab<|bj ab ab)<|aI aa (gt aa aa)<|p (bp aa)<|nl<|E<|cd aa (fun ar=> ?_) fun ar=> ?_
 exact ag fun a=>p aA<|aw<|a<|rt<|tr<|br<|tr<|tr<|br<|tr<|f2 aa aa aa<|⟨by show gz #[.int .i64 0,.int .i64 13]=_; rw [vl (i+1) (by rw [m9 ab]; omega)]; rfl,Md.refl _ _⟩
 have av:qq (s.getD i 0)=true :=decide_eq_true ab
 exact aM<|ae<|rg aa<|ak (au<|eO<|s.take i)<|p (oM ((eO (s.take i)*10:Nat):Int) aa aa<|bj ab ab)<|p mv<|p (bE ((eO (s.take i)*10 +((s.getD i 0).toNat - 48):Nat):Int) aa aa<|bj ab ab)<|p aA<|nl<|bn<|J<|rg aa<|p (ad aa aa<|bX ab)<|p mv<|nl<|tn<|⟨_,ab,i+1,ab,aa,(by rw [m9 ab]; omega),(fun j Y=>by rcases fi j i with h | h <;> first | exact V j h | (rw [show j=i by omega]; exact av)),aa,aa,(iv<|by first | rfl | (rw [m9 ab])),aa,aa,aa⟩
 exact ext<|ba<|ba<|be<|C<|ag fun J=>ak (au<|eO<|s.take i)<|p (cJ (au<|eO<|s.take i) aa)<|aw<|J<|rt<|f2 aa aa aa<|⟨by show gz #[au (eO<|s.take i),.int .i64 0]=_; rw [show s.take i=s from eM ab,CJ I (fun j Y=>V j ab) (by rw [show s.take i=s from eM ab] at hn; omega)],Md.refl _ _⟩
theorem rS (s:List UInt8) (most:Int) (w:World) (hs:s.length≤1048576) (hm: -9223372036854775808≤most∧most≤9223372036854775807):
 bm ay 118 (bf [str s,.int .i64 most]) w (fun v w'=>v= .tuple #[.int .i64 (dZ s most).1,.int .i64 (dZ s most).2]∧Wk w w'):=by
 refine enter func118 aa ntmps118 aa<|ag fun ao=>p aA<|aw<|ao ?_
 refine ed (fun aj ah=>(¬qC s)∧(ah=w)∧(aj 0=str s)∧(aj 1= .int .i64 most)) ?_ ?_
 refine ag fun A=>ak (str s)<|p (cz u9 aa aa)<|p (bJ aa aa)<|p mv<|gs (t:=13) aa (fun ae=> ?_) fun ae=> ?_
 exact aE aa<|aE aa<|aE aa<|aE aa<|ec aa<|ec aa<|ec aa<|aE aa<|p (bB aa)<|nl<|A<|ct aa<|ag fun C=>p aA<|p aA<|nl<|C<|rt<|tr<|f2 aa aa aa<|⟨by show gz #[.int .i64 0,.int .i64 13]=_; rw [yB (.inl<|wx.1 ab)]; rfl,Md.refl _ _⟩
 refine aI aa (aT (str s) aa)<|aI aa (cz u9 aa aa)<|aI aa (gt aa aa)<|aI aa mv<|gs (t:=17) aa (fun aO=> ?_) fun aO=> ?_
 refine aI aa (aT (str s) aa)<|aI aa (iY 0 u9 aa aa ab)<|aI aa (bJ aa aa)<|aI aa (bB aa)<|p (bp aa)<|nl<|A<|cd aa (fun aD=> ?_) fun aD=> ?_
 exact ag fun C=>p aA<|aw<|C<|rt<|tr<|f2 aa aa aa<|⟨by show gz #[.int .i64 0,.int .i64 13]=_; rw [yB (.inr ⟨ab,ab⟩)]; rfl,Md.refl _ _⟩
 exact aM<|tn<|⟨(yj (s:=s) (fun e=>by subst e; exact ae aa) ab),aa,aa,aa⟩
 exact aE aa<|aE aa<|aE aa<|aI aa (bp aa)<|p (bp aa)<|nl<|A<|cf aa<|aM<|tn<|⟨(yj (s:=s) (fun e=>by subst e; exact ae aa) ab),aa,aa,aa⟩
 rintro aj ah ⟨al,ax,aS,aU⟩
 refine fx 0 aS<|fx 1 aU ?_
 subst ax
 have hp:=Kj al
 refine ag fun A=>aw<|A<|aB fun C=>ag fun aq=>aw<|aq<|aH<|lp (fun G J ai=> ∃ (i:Nat),(i≤s.length)∧(ai=ah)∧(∀ j,j < i→qq (s.getD j 0)=true)∧(J 0=str s)∧(J 1= .int .i64 most)∧(J 6= .int .i64 0)∧(J 7= .int .i64 i)∧(s.length - i=G)) _ ⟨0,ab,aa,(fun j am=>by omega),aa,aa,aa,aa,aa⟩ ?_
 rintro G J ai ⟨i,hi,az,I,aV,aW,aX,aY,rfl⟩
 refine fx 0 aV<|fx 1 aW<|fx 6 aX<|fx 7 aY ?_
 subst az
 refine aB fun ar=>ag fun av=>ak (.int .i64 i)<|ak (str s)<|p (cz u9 aa aa)<|p (lt aa aa)<|nl<|av<|cd aa (fun aF=> ?_) fun aF=> ?_
 refine aM<|ar<|aB fun ac=>aH<|ag fun U=>ak (str s)<|ak (.int .i64 i)<|p (eQ u9 aa aa ab)<|p (lt aa aa)<|p mv<|gs (t:=33) aa (fun aP=> ?_) fun aP=> ?_
 exact aE aa<|aE aa<|aE aa<|aE aa<|p (bB aa)<|nl<|U<|ct aa<|ag fun E=>p aA<|aw<|E<|rt<|br<|tr<|tr<|br<|tr<|f2 aa aa aa<|⟨by show gz #[.int .i64 0,.int .i64 13]=_; rw [yA (i:=i) ab (xE ab)]; rfl,Md.refl _ _⟩
 refine aI aa (aT (str s) aa)<|aI aa (aT (.int .i64 i) aa)<|aI aa (eQ u9 aa aa ab)<|aI aa (gt aa aa)<|p (bp aa)<|nl<|U<|cd aa (fun aG=> ?_) fun aG=> ?_
 exact ag fun E=>p aA<|aw<|E<|rt<|br<|tr<|tr<|br<|tr<|f2 aa aa aa<|⟨by show gz #[.int .i64 0,.int .i64 13]=_; rw [yA (i:=i) ab (xE ab)]; rfl,Md.refl _ _⟩
 have aN:qq (s.getD i 0)=true :=decide_eq_true ab
 exact aM<|bn<|ac<|rg aa<|ak (.int .i64 i)<|p (ad aa aa<|bX ab)<|p aA<|nl<|tn<|⟨_,ab,i+1,ab,aa,(fun j am=>by rcases fi j i with h | h <;> first | exact I j h | (rw [show j=i by omega]; exact aN)),aa,aa,aa,aa,aa⟩
 refine ext<|ba<|ba<|be<|C<|aB fun ac=>ag fun U=>aw<|U<|aH<|lp (fun G M an=> ∃ (j:Nat),(j≤s.length)∧(an=ai)∧(eO (s.take j)≤9223372036854775807)∧(M 0=str s)∧(M 1= .int .i64 most)∧(M 6=au (eO<|s.take j))∧(M 8= .int .i64 j)∧(s.length - j=G)) _ ⟨0,ab,aa,(by rw [ou]; exact Nat.zero_le _),aa,aa,(iv<|by first | rfl | (rw [m9 ab])),aa,aa⟩ ?_
 rintro G M an ⟨j,am,aC,hn,aZ,a0,a1,a2,rfl⟩
 refine fx 0 aZ<|fx 1 a0<|fx 6 a1<|fx 8 a2 ?_
 subst aC
 refine aB fun E=>ag fun ap=>ak (.int .i64 j)<|ak (str s)<|p (cz u9 aa aa)<|p (lt aa aa)<|nl<|ap<|cd aa (fun aJ=> ?_) fun aJ=> ?_
 refine aM<|E<|aB fun O=>aH<|aB fun V=> ?_
 have a3:=Ba<|I j ab
 refine rg aa<|ak (str s)<|ak (.int .i64 j)<|p (eQ u9 aa aa ab)<|p (sb aa aa<|tO ab)<|p (xy u3 pV aa<|bX ab)<|p aA<|nl<|V<|aB fun a=>ag fun Y=>ak (au<|eO<|s.take j)<|p (gt aa aa)<|p mv<|gs (t:=52) aa (fun aQ=> ?_) fun aQ=> ?_
 refine aE aa<|aE aa<|aE aa<|ec aa<|ec aa<|aE aa<|p (bB aa)<|nl<|Y<|ct aa<|ag fun Z=>p aA<|aw<|Z ?_
 exact rt<|tr<|br<|tr<|tr<|br<|tr<|f2 aa aa aa<|⟨by show gz #[.int .i64 0,.int .i64 13]=_; rw [vl (j+1) (by rw [m9 ab]; omega)]; rfl,Md.refl _ _⟩
 refine aI aa (aT (au<|eO<|s.take j) aa)<|aI aa (bJ aa aa)<|aI aa mv<|gs (t:=55) aa (fun aR=> ?_) fun aR=> ?_
 refine aI aa mv<|aI aa (gt aa aa)<|aI aa (bB aa)<|p (bp aa)<|nl<|Y<|cd aa (fun aK=> ?_) fun aK=> ?_
 exact ag fun Z=>p aA<|aw<|Z<|rt<|tr<|br<|tr<|tr<|br<|tr<|f2 aa aa aa<|⟨by show gz #[.int .i64 0,.int .i64 13]=_; rw [vl (j+1) (by rw [m9 ab]; omega)]; rfl,Md.refl _ _⟩
 exact aM<|a<|rg aa<|ak (au<|eO<|s.take j)<|p (oM ((eO (s.take j)*10:Nat):Int) aa aa<|bj ab ab)<|p mv<|p (bE ((eO (s.take j)*10 +((s.getD j 0).toNat - 48):Nat):Int) aa aa<|bj ab ab)<|p aA<|nl<|bn<|O<|rg aa<|ak (.int .i64 j)<|p (ad aa aa<|bX ab)<|p aA<|nl<|tn<|⟨_,ab,j+1,ab,aa,(by have :=Ba (I j ab); rw [m9 ab]; omega),aa,aa,(iv<|by first | rfl | (rw [m9 ab])),aa,aa⟩
 refine aE aa<|aE aa<|aI aa (bp aa)<|p (bp aa)<|nl<|Y<|cf aa<|aM<|a<|rg aa<|ak (au<|eO<|s.take j)<|p (oM ((eO (s.take j)*10:Nat):Int) aa aa<|bj ab ab)<|p mv<|p (bE ((eO (s.take j)*10 +((s.getD j 0).toNat - 48):Nat):Int) aa aa<|bj ab ab)<|p aA<|nl ?_
 exact bn<|O<|rg aa<|ak (.int .i64 j)<|p (ad aa aa<|bX ab)<|p aA<|nl<|tn<|⟨_,ab,j+1,ab,aa,(by have :=Ba (I j ab); rw [m9 ab]; omega),aa,aa,(iv<|by first | rfl | (rw [m9 ab])),aa,aa⟩
 refine ext<|ba<|ba<|be<|ac<|aB fun O=>ag fun V=>ak (au<|eO<|s.take j)<|ak (.int .i64 most)<|p (gt aa aa)<|nl<|V<|cd aa (fun aL=> ?_) fun aL=> ?_
 exact ag fun a=>p aA<|aw<|a<|rt<|tr<|f2 aa aa aa<|⟨by show gz #[.int .i64 0,.int .i64 13]=_; rw [vl j ab]; rfl,Md.refl _ _⟩
 exact aM<|O<|ag fun a=>ak (au<|eO<|s.take j)<|p (cJ (au<|eO<|s.take j) aa)<|p aA<|nl<|a<|rt<|f2 aa aa aa<|⟨by show gz #[au (eO<|s.take j),.int .i64 0]=_; rw [show s.take j=s from eM ab,CJ al (fun q a4=>I q ab) (by rw [show s.take j=s from eM ab] at*; omega)],Md.refl _ _⟩
end Go.Hb
end
section
namespace Go.Hb
open Go.Hb.dT
theorem C6 {s pr:List UInt8} (h:s.take pr.length=pr):pr.length≤s.length:=by
 have :=congrArg List.length h
 rw [dR] at this; omega
theorem Ys {s:List UInt8} (h:decide (1≤s.length∧s.drop (s.length - 1)= [13])=true):jJ s=s.take (s.length - 1):=by
 have h1:=of_decide_eq_true h
 rw [Jd ab] at h1
 exact Ha ab<|by simpa using h1.2
theorem Yt {s:List UInt8} (h:decide (1≤s.length∧s.drop (s.length - 1)= [13])=false):jJ s=s:=by
 have h1:=of_decide_eq_false h
 refine Bi fun h2=>h1 ⟨ab,?_⟩
 rw [Jd ab,h2.2]
theorem UX (c:UInt8):e9 c [c]=0:=by unfold e9; simp
theorem Cj (s pr:List UInt8) (w:World) (hs:s.length≤1099511627776) (hp:pr.length≤1099511627776):
 bm ay 211 (bf [str s,str pr]) w (fun v w'=>v= .bool (decide (s.take pr.length=pr))∧Wk w w'):=by
 refine enter func211 aa ntmps211 aa<|ag fun i=>aw<|i<|ag fun a=>ak (str s)<|p (cz u9 aa aa)<|ak (str pr)<|p (cz u9 aa aa)<|p (ge aa aa)<|p mv<|gs (t:=10) aa (fun q=> ?_) fun q=> ?_
 exact aI aa (aT (str s) aa)<|aI aa (aT (str pr) aa)<|aI aa (cz u9 aa aa)<|aI aa (rW u9 aa aa ab)<|aI aa (aT (str pr) aa)<|aI aa (dV aa aa)<|p (bB aa)<|p aA<|nl<|a<|rt<|aV aa<|⟨aa,Md.refl _ _⟩
 exact aE aa<|aE aa<|aE aa<|aE aa<|aE aa<|aE aa<|p (bp aa)<|p aA<|nl<|a<|rt<|aV aa<|⟨by show bQ false =_; rw [decide_eq_false (fun h=>by have :=C6 h; omega)],Md.refl _ _⟩
theorem YM (s pr:List UInt8) (w:World) (hs:s.length≤1099511627776) (hp:pr.length≤1099511627776):
 bm ay 150 (bf [str s,str pr]) w (fun v w'=>v=str (gy s pr)∧Wk w w'):=by
 refine enter func150 aa ntmps150 aa<|ag fun C=>aw<|C<|aB fun E=>ag fun G=>ak (str s)<|ak (str pr)<|e<|cl AE (Cj s pr _ hs hp) aa fun M O I=> ?_
 obtain ⟨rfl,A⟩:=I
 refine nl<|G<|cb aa (fun q=> ?_) fun q=> ?_
 have a:=of_decide_eq_true q
 have J:=C6 a
 exact ag fun i=>ak (str s)<|ak (str pr)<|p (cz u9 aa aa)<|p (mg u9 aa aa ab)<|p aA<|nl<|i<|rt<|tr<|aV aa<|⟨by show str (s.drop (pr.length:Int).toNat)=_; unfold gy; rw [if_pos a]; rfl,A⟩
 have a:=of_decide_eq_false q
 exact aM<|E<|ag fun i=>ak (str s)<|p (cJ (str s) aa)<|nl<|i<|rt<|aV aa<|⟨by show str s=_; unfold gy; rw [if_neg a],A⟩
theorem Lz (s pr:List UInt8) (w:World) (hs:s.length≤1099511627776) (hp:pr.length≤1099511627776):
 bm ay 96 (bf [str s,str pr]) w (fun v w'=>v=str (gy s pr)∧Wk w w'):=by
 refine enter func96 aa ntmps96 aa<|ag fun a=>aw<|a<|ag fun i=>ak (str s)<|ak (str pr)<|e<|cl O5 (YM s pr _ hs hp) aa fun C E A=> ?_
 obtain ⟨rfl,q⟩:=A
 exact aw<|i<|rt<|aV aa<|⟨aa,q⟩
theorem Ck (s pr:List UInt8) (w:World) (hs:s.length≤1099511627776) (hp:pr.length≤1099511627776):
 bm ay 210 (bf [str s,str pr]) w (fun v w'=>v= .bool (decide (pr.length≤s.length∧s.drop (s.length - pr.length)=pr))∧Wk w w'):=by
 refine enter func210 aa ntmps210 aa<|ag fun i=>aw<|i<|ag fun a=>ak (str s)<|p (cz u9 aa aa)<|ak (str pr)<|p (cz u9 aa aa)<|p (ge aa aa)<|p mv<|gs (t:=10) aa (fun q=> ?_) fun q=> ?_
 exact aI aa (aT (str s) aa)<|aI aa (aT (str s) aa)<|aI aa (cz u9 aa aa)<|aI aa (aT (str pr) aa)<|aI aa (cz u9 aa aa)<|aI aa (sb aa aa<|bX ab)<|aI aa (mg u9 aa aa ab)<|aI aa (aT (str pr) aa)<|aI aa (dV aa aa)<|p (bB aa)<|aw<|a<|rt<|aV aa<|⟨by show bQ (decide (s.drop ((s.length:Int) - (pr.length:Int)).toNat=pr))=_; rw [show ((s.length:Int) - (pr.length:Int)).toNat=s.length - pr.length from by omega]; exact bv (by constructor <;> intro h <;> first | exact ⟨ab,h⟩ | exact h.2),Md.refl _ _⟩
 exact aE aa<|aE aa<|aE aa<|aE aa<|aE aa<|aE aa<|aE aa<|aE aa<|aE aa<|p (bp aa)<|aw<|a<|rt<|aV aa<|⟨by show bQ false =_; rw [decide_eq_false ab],Md.refl _ _⟩
theorem YP (s:List UInt8) (w:World) (hs:s.length≤1099511627776):
 bm ay 149 (bf [str s,str [13]]) w (fun v w'=>v=str (jJ s)∧Wk w w'):=by
 refine enter func149 aa ntmps149 aa<|ag fun A=>aw<|A<|aB fun C=>ag fun E=>ak (str s)<|ak (str [13])<|e<|cl AD (Ck s [13] _ hs az) aa fun M O G=> ?_
 obtain ⟨rfl,q⟩:=G
 refine nl<|E<|cb aa (fun a=> ?_) fun a=> ?_
 have J:=(of_decide_eq_true a).1
 have I:([13]:List UInt8).length=1:=rfl
 exact ag fun i=>ak (str s)<|ak (str s)<|p (cz u9 aa aa)<|ak (str [13])<|p (cz u9 aa aa)<|p (sb aa aa<|bX ab)<|p (rW u9 aa aa ab)<|aw<|i<|rt<|tr<|aV aa<|⟨by show str (s.take ((s.length:Int) - (([13]:List UInt8).length:Int)).toNat)=_; rw [Ys a,show ((s.length:Int) - (([13]:List UInt8).length:Int)).toNat=s.length - 1 from by simp only [fA]; omega],q⟩
 exact aM<|C<|ag fun i=>ak (str s)<|p (cJ (str s) aa)<|nl<|i<|rt<|aV aa<|⟨by show str s=_; rw [Yt a],q⟩
theorem YQ (s:List UInt8) (w:World) (hs:s.length≤1099511627776):
 bm ay 95 (bf [str s,str [13]]) w (fun v w'=>v=str (jJ s)∧Wk w w'):=by
 refine enter func95 aa ntmps95 aa<|ag fun a=>aw<|a<|ag fun i=>ak (str s)<|ak (str [13])<|e<|cl FG (YP s _ hs) aa fun C E A=> ?_
 obtain ⟨rfl,q⟩:=A
 exact aw<|i<|rt<|aV aa<|⟨aa,q⟩
theorem IY (s:List UInt8) (c:UInt8) (w:World):
 bm ay 269 (bf [str s,.int .u8 c.toNat]) w (fun v w'=>v= .int .i64 (e9 c s)∧Wk w w'):=by
 exact enter func269 aa ntmps269 aa<|ag fun a=>aw<|a<|ag fun i=>ak (str s)<|ak (.int .u8 c.toNat)<|p (Gy (UY s c _) aa)<|aw<|i<|rt<|aV aa<|⟨aa,Md.refl _ _⟩
theorem IX (s:List UInt8) (c:UInt8) (w:World):
 bm ay 264 (bf [str s,str [c]]) w (fun v w'=>v= .int .i64 (e9 c s)∧Wk w w'):=by
 refine enter func264 aa ntmps264 aa<|ag fun q=>aw<|q<|ag fun A=>ak (str [c])<|p (cz u9 aa aa)<|aw<|A<|aB fun J=>aH<|ag fun C=>p mv<|p (bJ aa aa)<|p mv<|gs (t:=19) aa (fun h=>absurd h<|by simp) fun O=>aI aa (aT (str [c]) aa)<|aI aa (aT (str s) aa)<|aI aa (dV aa aa)<|p (bp aa)<|aw<|C<|cd aa (fun i=> ?_) fun i=> ?_
 exact ag fun a=>aw<|a<|rt<|br<|tr<|aV aa<|⟨by show Value.int .i64 0=_; rw [← i,UX],Md.refl _ _⟩
 refine ag fun a=>p mv<|p (bJ aa aa)<|aw<|a<|cd aa (fun M=> ?_) fun h=>absurd aa h
 refine ag fun E=>ak (str s)<|ak (str [c])<|p (iY 0 u9 aa aa<|by simp)<|e<|cl F8 (IY s c _) aa fun v30 U I=> ?_
 obtain ⟨rfl,G⟩:=I
 exact aw<|E<|rt<|br<|tr<|aV aa<|⟨aa,G⟩
theorem UI (s:List UInt8) (c:UInt8) (w:World):
 bm ay 298 (bf [str s,str [c]]) w (fun v w'=>v= .int .i64 (e9 c s)∧Wk w w'):=by
 refine enter func298 aa ntmps298 aa<|ag fun a=>aw<|a<|ag fun i=>ak (str s)<|ak (str [c])<|e<|cl F7 (IX s c _) aa fun C E A=> ?_
 obtain ⟨rfl,q⟩:=A
 exact aw<|i<|rt<|aV aa<|⟨aa,q⟩
theorem RD (s:List UInt8) (c:UInt8) (w:World) (hs:s.length≤1099511627776):
 bm ay 238 (bf [str s,str [c]]) w (fun v w'=>v= .tuple #[str (my c s),str (nJ c s),.bool (!decide (e9 c s < 0))]∧Wk w w'):=by
 refine enter func238 aa ntmps238 aa<|ag fun C=>p aA<|p aA<|aw<|C<|aB fun E=>ag fun G=>ak (str s)<|ak (str [c])<|e<|cl F7 (IX s c _) aa fun v10 q J=> ?_
 obtain ⟨rfl,A⟩:=J
 refine aw<|G<|ag fun I=>p mv<|p (ge aa aa)<|nl<|I<|cd aa (fun M=> ?_) fun M=> ?_
 have O:=rI (c:=c) (l:=s) ab
 have U:[c].length=1:=rfl
 refine aB fun i=> ?_
 have a:(fun w'=>Wk q w') q.drew:=(Md.refl _ _).drew
 exact bI (fun w'=>Wk q w') aa wide a<|bF 0 aa (str s) a<|aC 1 aa (fun _ _=>mv) a<|aC 2 aa (fun _ _=>rW u9 aa aa ab) a<|bF 3 aa (str s) a<|aC 4 aa (fun _ _=>mv) a<|bF 5 aa (str [c]) a<|aC 6 aa (fun _ _=>cz u9 aa aa) a<|aC 7 aa (fun _ _=>bE ((s.idxOf c+1:Nat):Int) aa aa<|bj ab ab) a<|aC 8 aa (fun _ _=>mg u9 aa aa ab) a<|aC 9 aa (fun _ _=>aA) a<|aC 10 aa (fun _ _=>aA) a<|aC 11 aa (fun _ _=>aA) a<|hn aj<|i<|rt<|tr<|f3 aa aa aa aa<|⟨by show gz #[str (s.take (e9 c s).toNat),str (s.drop<|s.idxOf c+1),.bool true]=_; unfold my nJ; rw [if_neg ab,if_neg ab,O.1,decide_eq_false ab]; rfl,Md.trans A (Md.refl _ _).drew⟩
 exact aM<|E<|ag fun i=>ak (str s)<|p (cJ (str s) aa)<|p aA<|p aA<|nl<|i<|rt<|f3 aa aa aa aa<|⟨by show gz #[str s,str [],.bool false]=_; unfold my nJ; rw [if_pos ab,if_pos ab,decide_eq_true ab]; rfl,A⟩
theorem RH (s:List UInt8) (c:UInt8) (w:World) (hs:s.length≤1099511627776):
 bm ay 190 (bf [str s,str [c]]) w (fun v w'=>v= .tuple #[str (my c s),str (nJ c s),.bool (!decide (e9 c s < 0))]∧Wk w w'):=by
 refine enter func190 aa ntmps190 aa<|ag fun a=>p aA<|p aA<|aw<|a<|aB fun i=>rg aa<|ak (str s)<|ak (str [c])<|e<|cl Pz (RD s c _ hs) aa fun v9 C A=> ?_
 obtain ⟨rfl,q⟩:=A
 exact p (xt aa aa)<|p (xt aa aa)<|p (xt aa aa)<|p aA<|p aA<|aw<|i<|rt<|f3 aa aa aa aa<|⟨aa,q⟩
end Go.Hb
end
section
namespace Go.Hb
open Go.Hb.dT
theorem UT (x:Nat) (w:World):
 bm ay 302 (bf [bg x]) w (fun v w'=>v= .bool false∧Wk w w'):=by
 exact enter func302 aa ntmps302 aa<|ag fun a=>aw<|a<|ag fun i=>ak (bg x)<|ak (bg x)<|p (db aa aa)<|aw<|i<|rt<|aV aa<|⟨congrArg bQ (decide_eq_false fun h=>h aa),Md.refl _ _⟩
theorem l7 (x y:Nat) (w:World):
 bm ay 289 (bf [bg x,bg y]) w (fun v w'=>v= .bool (bZ x y)∧Wk w w'):=by
 refine enter func289 aa ntmps289 aa<|ag fun a=>aw<|a<|ag fun i=>ak (bg x)<|e<|cl P4 (UT x _) aa fun v6 C A=> ?_
 obtain ⟨rfl,q⟩:=A
 exact p mv<|aE aa<|aE aa<|aE aa<|p (bp aa)<|p mv<|aI aa (aT (bg x) aa)<|aI aa (aT (bg y) aa)<|aI aa (lt aa aa)<|p (bp aa)<|aw<|i<|rt<|aV aa<|⟨by show bQ (decide ((x:Int) < (y:Int)))=_; unfold bZ; exact congrArg bQ (decide_eq_decide.2 ab),q⟩
theorem UQ (d:Array Nat) (a b:Nat) (B n cp:Nat) (C:Option Addr) (w:World) (ar:w.ownsRow B 51 1 (.slice C n cp) n (LE bg d)) (a5:a≤b∧b≤n) (bd:n≤1099511627776):
 bm ay 283 (bf [.slice C n cp,au a,au b]) w (fun v w'=>v= .tuple #[]∧w'.ownsRow B 51 1 (.slice C n cp) n (LE bg<|MX bZ d a b)∧Md (fun q=>(bR C n cp).ownBlock=some q) w w'):=by
 have bb:=fP ar
 refine enter func283 aa ntmps283 aa<|ag fun az=>ak (au a)<|p (bE ((a+1:Nat):Int) aa aa<|bj ab ab)<|aw<|az<|aH<|lp (fun Z ae an=> ∃ (i:Nat) (Y:Array Nat),(a+1≤i∧i≤n+1)∧(Go.Sort.insOuter bZ a b i Y=MX bZ d a b)∧(an.ownsRow B 51 1 (.slice C n cp) n<|LE bg Y)∧(Md (fun q=>(bR C n cp).ownBlock=some q) w an)∧(ae 0= .slice C n cp)∧(ae 1=au a)∧(ae 2=au b)∧(ae 6=au i)∧(b - i=Z)) _ ⟨a+1,d,ab,aa,ar,(Md.refl _ _),aa,aa,aa,aa,aa⟩ ?_
 rintro Z ae an ⟨i,Y,hi,al,av,aq,aV,aX,aY,aZ,rfl⟩
 refine fx 0 aV<|fx 1 aX<|fx 2 aY<|fx 6 aZ<|aB fun aD=>ag fun aE=>ak (au i)<|ak (au b)<|p (lt aa aa)<|nl<|aE<|cd aa (fun aR=> ?_) fun aR=> ?_
 refine aM<|aD<|aB fun ao=>aH<|ag fun aF=>ak (au i)<|p (cJ (au i) aa)<|nl<|aF<|aH<|lp (fun Z V O=> ∃ (j:Nat) (G:Array Nat),(a≤j∧j≤i)∧(MW bZ a j G=MW bZ a i Y)∧(O.ownsRow B 51 1 (.slice C n cp) n<|LE bg G)∧(Md (fun q=>(bR C n cp).ownBlock=some q) w O)∧(V 0= .slice C n cp)∧(V 1=au a)∧(V 2=au b)∧(V 6=au i)∧(V 7=au j)∧(j=Z)) _ ⟨i,Y,ab,aa,av,aq,aa,aa,aa,aa,aa,aa⟩ ?_
 rintro Z V O ⟨j,G,bc,am,J,ah,a0,a1,a2,a3,a4,rfl⟩
 refine fx 0 a0<|fx 1 a1<|fx 2 a2<|fx 6 a3<|fx 7 a4<|aB fun aG=>aB fun ap=> ?_
 have a9:=fP J
 have A:(fun w'=>Wk O w') O.drew:=(Md.refl _ _).drew
 refine bI (fun w'=>Wk O w') aa wide A<|bF 0 aa (au j) A<|bF 1 aa (au a) A<|aC 2 aa (fun _ _=>gt aa aa) A<|aC 3 aa (fun _ _=>mv) A<|iQ (t:=19) aa (fun aQ=> ?_) fun aQ=> ?_
 refine bh 4 aa (fun _ _=>aT (.slice C n cp) aa) A<|bh 5 aa (fun _ _=>aT (au j) aa) A<|bh 6 aa (fun _ _=>a8 bY aa aa ab<|aJ.ok ((a7 J).2)<|cy ab) A<|bh 7 aa (fun w' I=>ld cV aa<|dG (i:=j) ((a7 J).2.wk I) ab) A<|bh 8 aa (fun _ _=>aT (.slice C n cp) aa) A<|bh 9 aa (fun _ _=>aT (au j) aa) A<|bh 10 aa (fun _ _=>dK ((j - 1:Nat):Int) aa aa<|bj ab ab) A<|bh 11 aa (fun _ _=>a8 bY aa aa ab<|aJ.ok ((a7 J).2)<|cy ab) A<|bh 12 aa (fun w' I=>ld cV aa<|dG (i:=j - 1) ((a7 J).2.wk I) ab) A<|mB 13 aa aj aa aa aa<|cl lZ (l7 G[j]! G[j - 1]! _) aa fun bi ac aP=> ?_
 obtain ⟨rfl,aK⟩:=aP
 have U:(fun w'=>Wk O w') ac:=Md.trans A aK
 refine ⟨U,?_⟩
 refine aC 14 aa (fun _ _=>bB aa) U<|hn aj<|ap<|cb aa (fun ai=> ?_) fun ai=> ?_
 refine aM<|aG<|aB fun aI=>aH ?_
 have M:=aW J U
 have E:(fun w'=>Wk ac w') ac.drew:=(Md.refl _ _).drew
 refine eS (fun w'=>Wk ac w') 15 aa wide E<|bC 0 aa (.slice C n cp) E<|bC 1 aa (au j) E<|bC 2 aa (.slice C n cp) E<|bC 3 aa (au j) E<|bz 4 aa (fun _=>dK ((j - 1:Nat):Int) aa aa<|bj ab ab) (fun _=>E)<|bC 5 aa (.slice C n cp) E<|bC 6 aa (au j) E<|bz 7 aa (fun _=>dK ((j - 1:Nat):Int) aa aa<|bj ab ab) (fun _=>E)<|bz 8 aa (fun _=>a8 bY aa aa ab<|aJ.ok ((a7 M).2)<|cy ab) (fun _=>E)<|dI 9 aa (fun w' I=>ld cV aa<|dG (i:=j - 1) ((a7 M).2.wk I) ab) E<|bC 10 aa (.slice C n cp) E<|bC 11 aa (au j) E<|bz 12 aa (fun _=>a8 bY aa aa ab<|aJ.ok ((a7 M).2)<|cy ab) (fun _=>E)<|dI 13 aa (fun w' I=>ld cV aa<|dG (i:=j) ((a7 M).2.wk I) ab) E<|bz 14 aa (fun _=>a8 bY aa aa ab<|aJ.ok ((a7 M).2)<|cy ab) (fun _=>E) ?_
 refine dH 15 aa aj aj<|gx (u:=G[j - 1]!) (j) (aW M E) gp aa aa aa ab fun bk aN aS=>bz 16 aa (fun _=>a8 bY aa aa ab<|aJ.ok ((a7 M).2)<|cy ab) (fun h=>ee<|(show true =_ from by kernel_rfl).trans h)<|dH 17 aa aj aj<|gx (u:=G[j]!) (j - 1) aS gp aa aa aa ab fun ax aO aU=> ?_
 have I:ax.ownsRow B 51 1 (.slice C n cp) n (LE bg<|cM G (j)<|j - 1):=aU
 have aL:Md (fun q=>(bR C n cp).ownBlock=some q) ac ax:=Md.trans (E.mono fun _ _ h=>h.elim)<|Md.trans aN aO
 exact eR aj<|bn<|aI<|rg aa<|ak (au j)<|p (dK ((j - 1:Nat):Int) aa aa<|bj ab ab)<|p aA<|nl<|tn<|⟨_,ab,j - 1,cM G j (j - 1),ab,(by rw [← am,UN (show a < j by omega) ai]),I,(Md.trans ah<|Md.trans (U.mono fun _ _ h=>h.elim) aL),aa,aa,aa,aa,aa,aa⟩
 exact ext<|ba<|ba<|be<|bn<|ao<|rg aa<|ak (au i)<|p (bE ((i+1:Nat):Int) aa aa<|bj ab ab)<|p aA<|nl<|tn<|⟨_,ab,i+1,G,ab,(by rw [← al,I1 (show i < b by omega),← am,UO (by simpa using ai)]),(aW J U),(Md.trans ah<|U.mono fun _ _ h=>h.elim),aa,aa,aa,aa,aa⟩
 exact a6 4 aa A<|a6 5 aa A<|a6 6 aa A<|a6 7 aa A<|a6 8 aa A<|a6 9 aa A<|a6 10 aa A<|a6 11 aa A<|a6 12 aa A<|a6 13 aa A<|aC 14 aa (fun _ _=>bp aa) A<|hn aj<|ap<|cf aa<|ext<|ba<|ba<|be<|bn<|ao<|rg aa<|ak (au i)<|p (bE ((i+1:Nat):Int) aa aa<|bj ab ab)<|p aA<|nl<|tn<|⟨_,ab,i+1,G,ab,(by rw [← al,I1 (show i < b by omega),← am,UP ab]),(aW J (Md.refl _ _).drew),ah.drew,aa,aa,aa,aa,aa⟩
 exact ext<|ba<|ba<|be<|f0 aa<|⟨aa,by rw [← al,UM ab]; exact av,aq⟩
theorem XW (d:Array Nat) (lo hi first :Nat) (B n cp:Nat) (C:Option Addr) (w:World) (aP:w.ownsRow B 51 1 (.slice C n cp) n (LE bg d)) (bd:lo≤hi∧first+hi≤n) (bk:n≤1099511627776):
 bm ay 299 (bf [.slice C n cp,au lo,au hi,au first]) w (fun v w'=>v= .tuple #[]∧w'.ownsRow B 51 1 (.slice C n cp) n (LE bg<|q5 bZ hi first lo d)∧Md (fun q=>(bR C n cp).ownBlock=some q) w w'):=by
 refine enter func299 aa ntmps299 aa<|ag fun aw=>ak (au lo)<|p (cJ (au lo) aa)<|nl<|aw<|aH<|lp (fun ap ah V=> ∃ (r:Nat) (E:Array Nat),(r≤hi)∧(q5 bZ hi first r E=q5 bZ hi first lo d)∧(V.ownsRow B 51 1 (.slice C n cp) n<|LE bg E)∧(Md (fun q=>(bR C n cp).ownBlock=some q) w V)∧(ah 0= .slice C n cp)∧(ah 2=au hi)∧(ah 3=au first)∧(ah 8=au r)∧(hi - r=ap)) _ ⟨lo,d,ab,aa,aP,(Md.refl _ _),aa,aa,aa,aa,aa⟩ ?_
 rintro ap ah V ⟨r,E,bl,ao,J,al,aZ,a0,a1,a2,rfl⟩
 refine fx 0 aZ<|fx 2 a0<|fx 3 a1<|fx 8 a2<|aH<|ag fun ax=>ak (au r)<|p (oM ((2 *r:Nat):Int) aa aa<|bj ab ab)<|p (bE ((2 *r+1:Nat):Int) aa aa<|bj ab ab)<|p aA<|nl<|ax<|aB fun aD=>ag fun aE=>p mv<|ak (au hi)<|p (ge aa aa)<|nl<|aE<|cd aa (fun aS=> ?_) fun aS=> ?_
 exact ext<|ba<|nE az<|ba<|be<|f0 aa<|⟨aa,by rw [← ao,XU ab]; exact J,al⟩
 refine aM<|aD ?_
 refine ed (fun ac U=> ∃ (c:Nat),(r < c∧c < hi)∧(q5 bZ hi first r E=if (!bZ E[first+r]! E[first+c]!)=true then E else q5 bZ hi first c (cM E (first+r)<|first+c))∧(U.ownsRow B 51 1 (.slice C n cp) n<|LE bg E)∧(Md (fun q=>(bR C n cp).ownBlock=some q) w U)∧(ac 0= .slice C n cp)∧(ac 2=au hi)∧(ac 3=au first)∧(ac 8=au r)∧(ac 9=au c)) ?_ ?_
 refine aB fun ai=> ?_
 have aU:=fP J
 have a:(fun w'=>Wk V w') V.drew:=(Md.refl _ _).drew
 refine bI (fun w'=>Wk V w') aa wide a<|aC 0 aa (fun _ _=>mv) a<|aC 1 aa (fun _ _=>bE ((2 *r+1 +1:Nat):Int) aa aa<|bj ab ab) a<|bF 2 aa (au hi) a<|aC 3 aa (fun _ _=>lt aa aa) a<|aC 4 aa (fun _ _=>mv) a<|iQ (t:=21) aa (fun aV=> ?_) fun aV=> ?_
 refine bh 5 aa (fun _ _=>aT (.slice C n cp) aa) a<|bh 6 aa (fun _ _=>aT (au first) aa) a<|bh 7 aa (fun _ _=>mv) a<|bh 8 aa (fun _ _=>bE ((first+(2 *r+1):Nat):Int) aa aa<|bj ab ab) a<|bh 9 aa (fun _ _=>a8 bY aa aa ab<|aJ.ok ((a7 J).2)<|cy ab) a<|bh 10 aa (fun w' I=>ld cV aa<|dG (i:=first+(2 *r+1)) ((a7 J).2.wk I) ab) a<|bh 11 aa (fun _ _=>aT (.slice C n cp) aa) a<|bh 12 aa (fun _ _=>aT (au first) aa) a<|bh 13 aa (fun _ _=>mv) a<|bh 14 aa (fun _ _=>bE ((first+(2 *r+1):Nat):Int) aa aa<|bj ab ab) a<|bh 15 aa (fun _ _=>bE ((first+(2 *r+1)+1:Nat):Int) aa aa<|bj ab ab) a<|bh 16 aa (fun _ _=>a8 bY aa aa ab<|aJ.ok ((a7 J).2)<|cy ab) a<|bh 17 aa (fun w' I=>ld cV aa<|dG (i:=first+(2 *r+1)+1) ((a7 J).2.wk I) ab) a<|mB 18 aa aj aa aa aa<|cl lZ (l7 E[first+(2 *r+1)]! E[first+(2 *r+1)+1]! _) aa fun bo bc aQ=> ?_
 obtain ⟨rfl,aI⟩:=aQ
 have Y:(fun w'=>Wk V w') bc:=Md.trans a aI
 refine ⟨Y,?_⟩
 refine aC 19 aa (fun _ _=>bB aa) Y<|hn aj<|ai<|cb aa (fun am=> ?_) fun am=> ?_
 exact rg aa<|p mv<|p (bE ((2 *r+2:Nat):Int) aa aa<|bj ab ab)<|p aA<|nl<|tn<|⟨2 *r+2,ab,(XV ab am),(aW J Y),(Md.trans al<|Y.mono fun _ _ h=>h.elim),aa,aa,aa,aa,aa⟩
 exact aM<|tn<|⟨2 *r+1,ab,(KQ ab<|.inr am),(aW J Y),(Md.trans al<|Y.mono fun _ _ h=>h.elim),aa,aa,aa,aa,aa⟩
 exact a6 5 aa a<|a6 6 aa a<|a6 7 aa a<|a6 8 aa a<|a6 9 aa a<|a6 10 aa a<|a6 11 aa a<|a6 12 aa a<|a6 13 aa a<|a6 14 aa a<|a6 15 aa a<|a6 16 aa a<|a6 17 aa a<|a6 18 aa a<|aC 19 aa (fun _ _=>bp aa) a<|hn aj<|ai<|cf aa<|aM<|tn<|⟨2 *r+1,ab,(KQ ab<|.inl ab),(aW J (Md.refl _ _).drew),al.drew,aa,aa,aa,aa,aa⟩
 rintro ac U ⟨c,bi,ar,O,aq,a3,a4,a5,a9,bb⟩
 refine fx 0 a3<|fx 2 a4<|fx 3 a5<|fx 8 a9<|fx 9 bb<|aB fun ai=>aB fun aF=> ?_
 have aU:=fP O
 have G:(fun w'=>Wk U w') U.drew:=(Md.refl _ _).drew
 refine bI (fun w'=>Wk U w') aa wide G<|bF 0 aa (.slice C n cp) G<|bF 1 aa (au first) G<|bF 2 aa (au r) G<|aC 3 aa (fun _ _=>bE ((first+r:Nat):Int) aa aa<|bj ab ab) G<|aC 4 aa (fun _ _=>a8 bY aa aa ab<|aJ.ok ((a7 O).2)<|cy ab) G<|aC 5 aa (fun w' I=>ld cV aa<|dG (i:=first+r) ((a7 O).2.wk I) ab) G<|bF 6 aa (.slice C n cp) G<|bF 7 aa (au first) G<|bF 8 aa (au c) G<|aC 9 aa (fun _ _=>bE ((first+c:Nat):Int) aa aa<|bj ab ab) G<|aC 10 aa (fun _ _=>a8 bY aa aa ab<|aJ.ok ((a7 O).2)<|cy ab) G<|aC 11 aa (fun w' I=>ld cV aa<|dG (i:=first+c) ((a7 O).2.wk I) ab) G<|he 12 aa aj<|cl lZ (l7 E[first+r]! E[first+c]! _) aa fun v51 ae aR=> ?_
 obtain ⟨rfl,aK⟩:=aR
 have Z:(fun w'=>Wk U w') ae:=Md.trans G aK
 refine ⟨Z,?_⟩
 refine aC 13 aa (fun _ _=>no aa) Z<|hn aj<|aF<|cb aa (fun an=> ?_) fun an=> ?_
 exact rt<|tr<|br<|tr<|br<|qt aa<|⟨aa,by rw [← ao,ar,if_pos an]; exact aW O Z,Md.trans aq<|Z.mono fun _ _ h=>h.elim⟩
 refine aM<|ai<|aB fun aG=> ?_
 have M:=aW O Z
 have A:(fun w'=>Wk ae w') ae.drew:=(Md.refl _ _).drew
 refine eS (fun w'=>Wk ae w') 21 aa wide A<|bC 0 aa (.slice C n cp) A<|bC 1 aa (au first) A<|bC 2 aa (au r) A<|bz 3 aa (fun _=>bE ((first+r:Nat):Int) aa aa<|bj ab ab) (fun _=>A)<|bC 4 aa (.slice C n cp) A<|bC 5 aa (au first) A<|bC 6 aa (au c) A<|bz 7 aa (fun _=>bE ((first+c:Nat):Int) aa aa<|bj ab ab) (fun _=>A)<|bC 8 aa (.slice C n cp) A<|bC 9 aa (au first) A<|bC 10 aa (au c) A<|bz 11 aa (fun _=>bE ((first+c:Nat):Int) aa aa<|bj ab ab) (fun _=>A)<|bz 12 aa (fun _=>a8 bY aa aa ab<|aJ.ok ((a7 M).2)<|cy ab) (fun _=>A)<|dI 13 aa (fun w' I=>ld cV aa<|dG (i:=first+c) ((a7 M).2.wk I) ab) A<|bC 14 aa (.slice C n cp) A<|bC 15 aa (au first) A<|bC 16 aa (au r) A<|bz 17 aa (fun _=>bE ((first+r:Nat):Int) aa aa<|bj ab ab) (fun _=>A)<|bz 18 aa (fun _=>a8 bY aa aa ab<|aJ.ok ((a7 M).2)<|cy ab) (fun _=>A)<|dI 19 aa (fun w' I=>ld cV aa<|dG (i:=first+r) ((a7 M).2.wk I) ab) A<|bz 20 aa (fun _=>a8 bY aa aa ab<|aJ.ok ((a7 M).2)<|cy ab) (fun _=>A)<|dH 21 aa aj aj<|gx (u:=E[first+c]!) (first+r) (aW M A) gp aa aa aa ab fun bq aN aX=> ?_
 refine bz 22 aa (fun _=>a8 bY aa aa ab<|aJ.ok ((a7 M).2)<|cy ab) (fun h=>ee<|(show true =_ from by kernel_rfl).trans h)<|dH 23 aa aj aj<|gx (u:=E[first+r]!) (first+c) aX gp aa aa aa ab fun av aO aY=> ?_
 have I:av.ownsRow B 51 1 (.slice C n cp) n (LE bg<|cM E (first+r)<|first+c):=aY
 have aL:Md (fun q=>(bR C n cp).ownBlock=some q) ae av:=Md.trans (A.mono fun _ _ h=>h.elim)<|Md.trans aN aO
 exact eR aj<|aG<|rg aa<|ak (au c)<|p (cJ (au c) aa)<|nl<|bn<|tn<|⟨_,ab,c,cM E (first+r) (first+c),ab,(by rw [← ao,ar,if_neg (by rw [an]; exact ee)]),I,(Md.trans aq<|Md.trans (Z.mono fun _ _ h=>h.elim) aL),aa,aa,aa,aa,aa⟩
theorem KR (d:Array Nat) (lo hi first :Nat) (A i:Int) (B n cp:Nat) (a:Option Addr) (w:World) (C:w.ownsRow B 51 1 (.slice a n cp) n (LE bg d)) (E:lo≤hi∧first+hi≤n) (I:A=(lo:Nat)) (G:i=(hi:Nat)) (J:n≤1099511627776):
 bm ay 299 (bf [.slice a n cp,.int .i64 A,.int .i64 i,.int .i64 (first :Nat)]) w (fun v w'=>v= .tuple #[]∧w'.ownsRow B 51 1 (.slice a n cp) n (LE bg<|q5 bZ hi first lo d)∧Md (fun q=>(bR a n cp).ownBlock=some q) w w'):=by
 subst I G; exact XW d lo hi first B n cp a w C E J
theorem Uw (d:Array Nat) (a b:Nat) (B n cp:Nat) (A:Option Addr) (w:World) (aK:w.ownsRow B 51 1 (.slice A n cp) n (LE bg d)) (a5:a < b∧b≤n) (ae:n≤1099511627776):
 bm ay 284 (bf [.slice A n cp,au a,au b]) w (fun v w'=>v= .tuple #[]∧w'.ownsRow B 51 1 (.slice A n cp) n (LE bg<|MV bZ d a b)∧Md (fun q=>(bR A n cp).ownBlock=some q) w w'):=by
 refine enter func284 aa ntmps284 aa<|ag fun al=>ak (au a)<|p (cJ (au a) aa)<|nl<|al<|ag fun ap=>aw<|ap<|ag fun aq=>ak (au b)<|ak (au a)<|p (dK ((b - a:Nat):Int) aa aa<|bj ab ab)<|aw<|aq<|aB fun ar=>ag fun av=>p mv<|p (dK ((b - a - 1:Nat):Int) aa aa<|bj ab ab)<|p (qM (((b - a - 1) / 2:Nat):Int) aa aa ab<|bj ab ab)<|aw<|av<|aH<|lp (fun O J ac=> ∃ (k:Nat) (E:Array Nat),(k≤b - a)∧(MU bZ (b - a) a k E=MU bZ (b - a) a ((b - a - 1) / 2 +1) d)∧(ac.ownsRow B 51 1 (.slice A n cp) n<|LE bg E)∧(Md (fun q=>(bR A n cp).ownBlock=some q) w ac)∧(J 0= .slice A n cp)∧(J 6=au a)∧(J 7= .int .i64 0)∧(J 8=au (b - a))∧(J 9= .int .i64 ((k:Nat) - 1:Int))∧(k=O)) _ ⟨(b - a - 1) / 2 +1,d,ab,aa,aK,(Md.refl _ _),aa,aa,aa,aa,(iv ab),aa⟩ ?_
 rintro O J ac ⟨k,E,hk,Z,G,U,aU,aV,aX,aY,aZ,rfl⟩
 refine fx 0 aU<|fx 6 aV<|fx 7 aX<|fx 8 aY<|fx 9 aZ<|aB fun ax=>ag fun az=>ak (.int .i64 ((k:Nat) - 1:Int))<|p (ge aa aa)<|nl<|az<|cd aa (fun aQ=> ?_) fun aQ=> ?_
 refine aM<|ax<|aB fun Y=>aH<|rg aa<|ak (.slice A n cp)<|ak (.int .i64 ((k:Nat) - 1:Int))<|ak (au<|b - a)<|ak (au a)<|e<|cl Ga (KR E (k - 1) (b - a) a _ _ B n cp A _ G ab ab aa ae) aa fun bb bd aO=> ?_
 obtain ⟨rfl,aL,aD⟩:=aO
 exact nl<|bn<|Y<|rg aa<|ak (.int .i64 ((k:Nat) - 1:Int))<|p (sb aa aa<|bX ab)<|p aA<|nl<|tn<|⟨_,ab,k - 1,q5 bZ (b - a) a (k - 1) E,ab,(by rw [← Z,T9 (show 0 < k by omega)]),aL,(Md.trans U aD),aa,aa,aa,aa,(iv ab),aa⟩
 refine ext<|ba<|ba<|be<|ar<|ag fun Y=>ak (au<|b - a)<|p (dK ((b - a - 1:Nat):Int) aa aa<|bj ab ab)<|aw<|Y<|aH<|lp (fun O M I=> ∃ (k:Nat) (E:Array Nat),(k≤b - a)∧(Go.Sort.heapPop bZ a k E=MV bZ d a b)∧(I.ownsRow B 51 1 (.slice A n cp) n<|LE bg E)∧(Md (fun q=>(bR A n cp).ownBlock=some q) w I)∧(M 0= .slice A n cp)∧(M 6=au a)∧(M 7= .int .i64 0)∧(M 8=au (b - a))∧(M 10= .int .i64 ((k:Nat) - 1:Int))∧(k=O)) _ ⟨b - a,E,ab,(by rw [show k=0 by omega,Ua] at Z; rw [Z]; rfl),G,U,aa,aa,aa,aa,(iv ab),aa⟩ ?_
 rintro O M I ⟨k,E,a9,ah,G,U,a0,a2,a3,a4,a1,rfl⟩
 refine fx 0 a0<|fx 6 a2<|fx 7 a3<|fx 8 a4<|fx 10 a1<|aB fun aC=>ag fun am=>ak (.int .i64 ((k:Nat) - 1:Int))<|p (ge aa aa)<|nl<|am<|cd aa (fun aR=> ?_) fun aR=> ?_
 refine aM<|aC<|aB fun an=>aH<|aB fun ao=> ?_
 have a6:=fP G
 have C:(fun w'=>Wk I w') I.drew:=(Md.refl _ _).drew
 refine eS (fun w'=>Wk I w') 17 aa wide C<|bC 0 aa (.slice A n cp) C<|bC 1 aa (au a) C<|bC 2 aa (.slice A n cp) C<|bC 3 aa (au a) C<|bC 4 aa (.int .i64 ((k:Nat) - 1:Int)) C<|bz 5 aa (fun _=>bE ((a+(k - 1):Nat):Int) aa aa<|bj ab ab) (fun _=>C)<|bC 6 aa (.slice A n cp) C<|bC 7 aa (au a) C<|bC 8 aa (.int .i64 ((k:Nat) - 1:Int)) C<|bz 9 aa (fun _=>bE ((a+(k - 1):Nat):Int) aa aa<|bj ab ab) (fun _=>C)<|bz 10 aa (fun _=>a8 bY aa aa ab<|aJ.ok ((a7 G).2)<|cy ab) (fun _=>C)<|dI 11 aa (fun w' V=>ld cV aa<|dG (i:=a+(k - 1)) ((a7 G).2.wk V) ab) C<|bC 12 aa (.slice A n cp) C<|bC 13 aa (au a) C<|bz 14 aa (fun _=>a8 bY aa aa ab<|aJ.ok ((a7 G).2)<|cy ab) (fun _=>C) ?_
 refine dI 15 aa (fun w' V=>ld cV aa<|dG (i:=a) ((a7 G).2.wk V) ab) C<|bz 16 aa (fun _=>a8 bY aa aa ab<|aJ.ok ((a7 G).2)<|cy ab) (fun _=>C)<|dH 17 aa aj aj<|gx (u:=E[a+(k - 1)]!) (a) (aW G C) gp aa aa aa ab fun bi aG aS=>bz 18 aa (fun _=>a8 bY aa aa ab<|aJ.ok ((a7 G).2)<|cy ab) (fun h=>ee<|(show true =_ from by kernel_rfl).trans h)<|dH 19 aa aj aj<|gx (u:=E[a]!) (a+(k - 1)) aS gp aa aa aa ab fun ai aI aT=> ?_
 have V:ai.ownsRow B 51 1 (.slice A n cp) n (LE bg<|cM E (a)<|a+(k - 1)):=aT
 have aF:Md (fun q=>(bR A n cp).ownBlock=some q) I ai:=Md.trans (C.mono fun _ _ h=>h.elim)<|Md.trans aG aI
 refine eR aj<|ao<|rg aa<|ak (.slice A n cp)<|ak (.int .i64 0)<|ak (.int .i64 ((k:Nat) - 1:Int))<|ak (au a)<|e<|cl Ga (KR (cM E a<|a+(k - 1)) 0 (k - 1) a _ _ B n cp A _ V ab aa ab ae) aa fun bc bh aP=> ?_
 obtain ⟨rfl,aN,aE⟩:=aP
 exact nl<|bn<|an<|rg aa<|ak (.int .i64 ((k:Nat) - 1:Int))<|p (sb aa aa<|bX ab)<|p aA<|nl<|tn<|⟨_,ab,k - 1,q5 bZ (k - 1) a 0 (cM E a<|a+(k - 1)),ab,(by rw [← ah,Uy (show 0 < k by omega)]),aN,(Md.trans U<|Md.trans aF aE),aa,aa,aa,aa,(iv ab),aa⟩
 exact ext<|ba<|ba<|be<|f0 aa<|⟨aa,by rw [← ah,show k=0 by omega]; exact G,U⟩
theorem Xc (d:Array Nat) (a b:Nat) (B n cp:Nat) (C:Option Addr) (w:World) (ap:w.ownsRow B 51 1 (.slice C n cp) n (LE bg d)) (aD:a < b∧b≤n) (aF:n≤1099511627776):
 bm ay 287 (bf [.slice C n cp,au a,au b]) w (fun v w'=>v= .tuple #[]∧w'.ownsRow B 51 1 (.slice C n cp) n (LE bg<|Eo d a b)∧Md (fun q=>(bR C n cp).ownBlock=some q) w w'):=by
 refine enter func287 aa ntmps287 aa<|ag fun Z=>ak (au a)<|p (cJ (au a) aa)<|nl<|Z<|ag fun ac=>ak (au b)<|p (dK ((b - 1:Nat):Int) aa aa<|bj ab ab)<|aw<|ac<|aH<|lp (fun O M I=> ∃ (i j:Nat) (G:Array Nat),(i≤n∧j < n)∧(Go.Sort.reverseLoop i j G=Eo d a b)∧(I.ownsRow B 51 1 (.slice C n cp) n<|LE bg G)∧(Md (fun q=>(bR C n cp).ownBlock=some q) w I)∧(M 0= .slice C n cp)∧(M 6=au i)∧(M 7=au j)∧(j - i=O)) _ ⟨a,b - 1,d,ab,aa,ap,(Md.refl _ _),aa,aa,aa,aa⟩ ?_
 rintro O M I ⟨i,j,G,hi,V,E,U,ax,az,aC,rfl⟩
 refine fx 0 ax<|fx 6 az<|fx 7 aC<|aB fun ae=>ag fun ah=>ak (au i)<|ak (au j)<|p (lt aa aa)<|nl<|ah<|cd aa (fun aq=> ?_) fun aq=> ?_
 refine aM<|ae<|aH<|aB fun ai=> ?_
 have aE:=fP E
 have A:(fun w'=>Wk I w') I.drew:=(Md.refl _ _).drew
 refine eS (fun w'=>Wk I w') 13 aa wide A<|bC 0 aa (.slice C n cp) A<|bC 1 aa (au i) A<|bC 2 aa (.slice C n cp) A<|bC 3 aa (au j) A<|bC 4 aa (.slice C n cp) A<|bC 5 aa (au j) A<|bz 6 aa (fun _=>a8 bY aa aa ab<|aJ.ok ((a7 E).2)<|cy ab) (fun _=>A)<|dI 7 aa (fun w' J=>ld cV aa<|dG (i:=j) ((a7 E).2.wk J) ab) A<|bC 8 aa (.slice C n cp) A<|bC 9 aa (au i) A<|bz 10 aa (fun _=>a8 bY aa aa ab<|aJ.ok ((a7 E).2)<|cy ab) (fun _=>A)<|dI 11 aa (fun w' J=>ld cV aa<|dG (i:=i) ((a7 E).2.wk J) ab) A<|bz 12 aa (fun _=>a8 bY aa aa ab<|aJ.ok ((a7 E).2)<|cy ab) (fun _=>A)<|dH 13 aa aj aj<|gx (u:=G[j]!) (i) (aW E A) gp aa aa aa ab fun aG an ar=> ?_
 refine bz 14 aa (fun _=>a8 bY aa aa ab<|aJ.ok ((a7 E).2)<|cy ab) (fun h=>ee<|(show true =_ from by kernel_rfl).trans h)<|dH 15 aa aj aj<|gx (u:=G[i]!) (j) ar gp aa aa aa ab fun Y ao av=> ?_
 have J:Y.ownsRow B 51 1 (.slice C n cp) n (LE bg<|cM G (i)<|j):=av
 have am:Md (fun q=>(bR C n cp).ownBlock=some q) I Y:=Md.trans (A.mono fun _ _ h=>h.elim)<|Md.trans an ao
 refine eR aj<|ai<|ag fun al=>ak (au i)<|p (bE ((i+1:Nat):Int) aa aa<|bj ab ab)<|aw<|al ?_
 exact rg aa<|ak (au j)<|p (dK ((j - 1:Nat):Int) aa aa<|bj ab ab)<|p aA<|nl<|bn<|tn<|⟨_,ab,i+1,j - 1,cM G i j,ab,(by rw [← V,Xa (show i < j by omega)]),J,(Md.trans U am),aa,aa,aa,aa⟩
 exact ext<|ba<|ba<|be<|f0 aa<|⟨aa,by rw [← V,Xb ab]; exact E,U⟩
end Go.Hb
end
section
namespace Go.Hb
open Go.Hb.dT
theorem YW {n:Nat} {l:List UInt8} (h:n < 256) (a:∀ k:Fin 256,(l.getD k.val 0).toNat=kW k.val):IntKind.i64.wrap ((l.getD n 0).toNat:Int)=(kW n:Int):=by
 rw [a ⟨n,h⟩]; have :=yu h; exact bX<|by simp only; omega
theorem XM {k:Nat} (h:k≤8):eJ.wrap ((1:Int)*2 ^ min ((k:Nat):Int).toNat eJ.bits)=((2 ^ k:Nat):Int):=by
 have h2:(eJ.bits:Nat)=64:=rfl
 rw [Int.toNat_natCast,h2,Nat.min_eq_left ab,Int.one_mul]
 have h3:(2:Nat) ^ k≤2 ^ 8:=Nat.pow_le_pow_right az h
 have h4:((2:Int) ^ k)=((2 ^ k:Nat):Int):=by simp
 rw [h4]
 obtain ⟨m,hm⟩:∃ m:Nat,2 ^ k=m:=⟨_,rfl⟩
 rw [hm] at h3 ⊢; exact oV ab
theorem WE {d d1 d2:Array Nat} {a b i j:Nat} (h:od a b d d1) (hi:a≤i∧i < b) (q:a≤j∧j < b) (A:b≤d1.size) (h2:d2=cM d1 i j):od a b d d2:=by
 subst h2; exact sg _ _ _ a b h<|Go.Sort.swp_permIn d1 a b i j hi.1 hi.2 q.1 q.2 A
theorem CU (d:Array Nat) (i j s lo hi G:Nat) (B n cp:Nat) (E:Option Addr) (w:World) (A:w.ownsRow B 51 1 (.slice E n cp) n (LE bg d)) (U:bO w.heap G [au s]) (ao:(bR E n cp).ownBlock≠some G) (ax:lo≤i∧i < hi∧lo≤j∧j < hi∧hi≤n) (hs:s≤1000) (av:n≤1099511627776):
 bm ay 308 (bf [.slice E n cp,au i,au j,aQ G]) w (fun v w'=> ∃ M O s1:Nat,v= .tuple #[au M,au O]∧(lo≤M∧M < hi)∧(lo≤O∧O < hi)∧s1≤s+1∧bO w'.heap G [au s1]∧w'.ownsRow B 51 1 (.slice E n cp) n (LE bg d)∧Md (fun q=>q=G) w w'):=by
 refine enter func308 aa ntmps308 aa<|ag fun Z=>p aA<|aw<|Z<|aB fun ac=>aB fun ae=> ?_
 have ar:=fP A
 have a:(fun w'=>Wk w w') w.drew:=(Md.refl _ _).drew
 refine bI (fun w'=>Wk w w') aa wide a<|bF 0 aa (.slice E n cp) a<|bF 1 aa (au j) a<|aC 2 aa (fun _ _=>a8 bY aa aa ab<|aJ.ok ((a7 A).2)<|cy ab) a<|aC 3 aa (fun w' J=>ld cV aa<|dG (i:=j) ((a7 A).2.wk J) ab) a<|bF 4 aa (.slice E n cp) a<|bF 5 aa (au i) a<|aC 6 aa (fun _ _=>a8 bY aa aa ab<|aJ.ok ((a7 A).2)<|cy ab) a<|aC 7 aa (fun w' J=>ld cV aa<|dG (i:=i) ((a7 A).2.wk J) ab) a<|he 8 aa aj<|cl lZ (l7 d[j]! d[i]! _) aa fun az aq an=> ?_
 obtain ⟨rfl,al⟩:=an
 have C:(fun w'=>Wk w w') aq:=Md.trans a al
 refine ⟨C,?_⟩
 refine hn aj<|ae<|cb aa (fun ap=> ?_) fun ap=> ?_
 have V:=C.B U
 have am:=aW A C
 exact ag fun I=>ak (aQ G)<|p (nc aa)<|p (ld bu aa<|V.aO 0)<|p (bE ((s+1:Nat):Int) aa aa<|bj ab ab)<|p (nc aa)<|e<|st eZ aa aa (aa) (V) (by simp) fun aD Y ai=>nl<|I<|ag fun ah=>ak (au j)<|ak (au i)<|p (cJ (au j) aa)<|p (cJ (au i) aa)<|nl<|ah<|rt<|tr<|f2 aa aa aa<|⟨j,i,s+1,aa,ab,ab,ab,ai,dq am Y (fun k hk h=>ao<|h ▸ hk),Md.trans (C.mono fun _ _ h=>h.elim) Y⟩
 exact aM<|ac<|ag fun I=>ak (au i)<|ak (au j)<|p (cJ (au i) aa)<|p (cJ (au j) aa)<|nl<|I<|rt<|f2 aa aa aa<|⟨i,j,s,aa,ab,ab,ab,C.B U,aW A C,C.mono fun _ _ h=>h.elim⟩
theorem Jw (d:Array Nat) (i j k s lo hi a:Nat) (B n cp:Nat) (A:Option Addr) (w:World) (aj:w.ownsRow B 51 1 (.slice A n cp) n (LE bg d)) (V:bO w.heap a [au s]) (C:(bR A n cp).ownBlock≠some a) (aI:(lo≤i∧i < hi)∧(lo≤j∧j < hi)∧(lo≤k∧k < hi)∧hi≤n) (hs:s≤900) (E:n≤1099511627776):
 bm ay 301 (bf [.slice A n cp,au i,au j,au k,aQ a]) w (fun v w'=> ∃ G s1:Nat,v=au G∧(lo≤G∧G < hi)∧s1≤s+3∧bO w'.heap a [au s1]∧w'.ownsRow B 51 1 (.slice A n cp) n (LE bg d)∧Md (fun q=>q=a) w w'):=by
 refine enter func301 aa ntmps301 aa<|ag fun I=>aw<|I<|ag fun J=>ak (.slice A n cp)<|ak (au i)<|ak (au j)<|ak (aQ a)<|e<|cl AN (CU d i j s lo hi a B n cp A _ aj V C ab ab E) aa fun aN aP ao=> ?_
 obtain ⟨i1,av,s1,rfl,aD,aF,aJ,Y,al,ae⟩:=ao
 refine p mv<|p (xt aa aa)<|p (xt aa aa)<|p aA<|aw<|J<|aB fun M=>rg aa<|ak (.slice A n cp)<|p mv<|ak (au k)<|ak (aQ a)<|e<|cl AN (CU d av k s1 lo hi a B n cp A _ al Y C ab ab E) aa fun v24 aR ap=> ?_
 obtain ⟨ax,aM,s2,rfl,aG,aH,aK,Z,am,ah⟩:=ap
 refine p mv<|p (xt aa aa)<|p (xt aa aa)<|p aA<|aw<|M<|aB fun O=>rg aa<|ak (.slice A n cp)<|p mv<|p mv<|ak (aQ a)<|e<|cl AN (CU d i1 ax s2 lo hi a B n cp A _ am Z C ab ab E) aa fun aO aS aq=> ?_
 obtain ⟨i3,az,aC,rfl,aE,ar,aL,ac,an,ai⟩:=aq
 exact p mv<|p (xt aa aa)<|p (xt aa aa)<|p aA<|aw<|O<|aB fun U=>rg aa<|p mv<|aw<|U<|rt<|aV aa<|⟨az,aC,aa,ar,ab,ac,an,Md.trans ae<|Md.trans ah ai⟩
theorem CE (d:Array Nat) (i s lo hi a:Nat) (B n cp:Nat) (A:Option Addr) (w:World) (J:w.ownsRow B 51 1 (.slice A n cp) n (LE bg d)) (I:bO w.heap a [au s]) (O:(bR A n cp).ownBlock≠some a) (V:lo+1≤i∧i+1 < hi∧hi≤n) (hs:s≤900) (U:n≤1099511627776):
 bm ay 300 (bf [.slice A n cp,au i,aQ a]) w (fun v w'=> ∃ C s1:Nat,v=au C∧(lo≤C∧C < hi)∧s1≤s+3∧bO w'.heap a [au s1]∧w'.ownsRow B 51 1 (.slice A n cp) n (LE bg d)∧Md (fun q=>q=a) w w'):=by
 exact enter func300 aa ntmps300 aa<|ag fun E=>aw<|E<|ag fun G=>ak (.slice A n cp)<|ak (au i)<|p (dK ((i - 1:Nat):Int) aa aa<|bj ab ab)<|ak (au i)<|ak (au i)<|p (bE ((i+1:Nat):Int) aa aa<|bj ab ab)<|ak (aQ a)<|e<|cl Gb (Jw d (i - 1) i (i+1) s lo hi a B n cp A _ J I O ab ab U) aa fun Y Z M=>p aA<|nl<|G<|rt<|aV aa<|M
theorem QI (d:Array Nat) (a b:Nat) (B n cp:Nat) (i:Option Addr) (w:World) (ao:w.ownsRow B 51 1 (.slice i n cp) n (LE bg d)) (bq:a+12 < b∧b≤n) (M:n≤1099511627776):
 bm ay 286 (bf [.slice i n cp,au a,au b]) w (fun v w'=> ∃ (am:Nat) (bk:Int),v= .tuple #[au am,.int .i64 bk]∧(a≤am∧am < b)∧w'.ownsRow B 51 1 (.slice i n cp) n (LE bg d)∧Wk w w'):=by
 refine enter func286 aa ntmps286 aa<|ag fun aq=>p aA<|aw<|aq<|ag fun ar=>ak (au b)<|ak (au a)<|p (dK ((b - a:Nat):Int) aa aa<|bj ab ab)<|aw<|ar<|ag fun av=>e<|al vR fun A bM bs ae an=> ?_
 have ap:=aW ao ae.md
 have J:(bR i n cp).ownBlock≠some A:=fun h=>by have :=dM ao h; omega
 refine nl<|av<|ag fun ax=>ak (au a)<|p mv<|p (qM (((b - a) / 4:Nat):Int) aa aa ab<|bj ab ab)<|p (oM (((b - a) / 4:Nat):Int) aa aa<|bj ab ab)<|p (bE ((a+(b - a) / 4:Nat):Int) aa aa<|bj ab ab)<|aw<|ax<|ag fun az=>ak (au a)<|p mv<|p (qM (((b - a) / 4:Nat):Int) aa aa ab<|bj ab ab)<|p (oM (((b - a) / 4 *2:Nat):Int) aa aa<|bj ab ab)<|p (bE ((a+(b - a) / 4 *2:Nat):Int) aa aa<|bj ab ab)<|aw<|az<|ag fun aC=>ak (au a)<|p mv<|p (qM (((b - a) / 4:Nat):Int) aa aa ab<|bj ab ab)<|p (oM (((b - a) / 4 *3:Nat):Int) aa aa<|bj ab ab)<|p (bE ((a+(b - a) / 4 *3:Nat):Int) aa aa<|bj ab ab)<|aw<|aC ?_
 refine aB fun aD=>ag fun aE=>p mv<|p (ge aa aa)<|nl<|aE<|cd aa (fun bt=> ?_) fun h=>absurd ab h
 refine ed (fun q U=> ∃ (C E G O:Nat),(a≤C∧C < b)∧(a≤E∧E < b)∧(a≤G∧G < b)∧(O≤9)∧(bO U.heap A [au O])∧(U.ownsRow B 51 1 (.slice i n cp) n<|LE bg d)∧(Wk w U)∧(q 0= .slice i n cp)∧(q 1=au a)∧(q 2=au b)∧(q 8=au (b - a))∧(q 9=aQ A)∧(q 10=au C)∧(q 11=au E)∧(q 12=au G)) ?_ ?_
 refine ag fun Z=>p mv<|p (ge aa aa)<|nl<|Z<|cd aa (fun a2=> ?_) fun a2=> ?_
 refine ag fun V=>ak (.slice i n cp)<|p mv<|e<|cl AM (CE d (a+(b - a) / 4) 0 a b A B n cp i _ ap an J ab ab M) aa fun v37 bI aY=> ?_
 obtain ⟨i1,s1,rfl,a5,bz,aF,aT,aN⟩:=aY
 refine aw<|V<|ag fun I=>ak (.slice i n cp)<|p mv<|e<|cl AM (CE d (a+(b - a) / 4 *2) s1 a b A B n cp i _ aT aF J ab ab M) aa fun v40 bK aZ=> ?_
 obtain ⟨bl,s2,rfl,a6,bA,aG,aU,aP⟩:=aZ
 refine aw<|I<|rg aa<|ak (.slice i n cp)<|p mv<|e<|cl AM (CE d (a+(b - a) / 4 *3) s2 a b A B n cp i _ aU aG J ab ab M) aa fun bG bL a0=> ?_
 obtain ⟨bn,bo,rfl,a7,bB,aI,aV,aR⟩:=a0
 exact p aA<|nl<|tn<|⟨i1,bl,bn,bo,a5,a6,a7,ab,aI,aV,(Md.trans' ae.md (Md.trans aN<|Md.trans aP aR) fun k hk h=>by omega),aa,aa,aa,aa,aa,aa,aa,aa⟩
 exact aM<|tn<|⟨a+(b - a) / 4,a+(b - a) / 4 *2,a+(b - a) / 4 *3,0,ab,ab,ab,ab,an,ap,ae.md,aa,aa,aa,aa,aa,aa,aa,aa⟩
 rintro q U ⟨C,E,G,O,bv,bw,bx,bD,aK,aX,aL,a8,a9,bd,bh,bi,ba,bb,bc⟩
 refine fx 0 a8<|fx 1 a9<|fx 2 bd<|fx 8 bh<|fx 9 bi<|fx 10 ba<|fx 11 bb<|fx 12 bc<|rg aa<|ak (.slice i n cp)<|ak (au C)<|ak (au E)<|ak (au G)<|e<|cl Gb (Jw d C E G O a b A B n cp i _ aX aK J ab ab M) aa fun bH bp a1=> ?_
 obtain ⟨aj,bF,rfl,ai,bC,aJ,ah,aS⟩:=a1
 have ac:Wk w bp:=Md.trans' aL aS fun k hk h=>by omega
 refine aw<|aD<|ag fun Z=>p (ld bu aa<|aJ.aO 0)<|nl<|Z<|aH<|ag fun V=>p (bJ aa aa)<|aw<|V<|cd aa (fun a3=> ?_) fun a3=> ?_
 exact ag fun I=>p mv<|p aA<|aw<|I<|rt<|br<|f2 aa aa aa<|⟨aj,_,aa,ai,ah,ac⟩
 refine ag fun I=>p (bJ aa aa)<|aw<|I<|cd aa (fun a4=> ?_) fun a4=> ?_
 exact ag fun Y=>p mv<|p aA<|aw<|Y<|rt<|br<|f2 aa aa aa<|⟨aj,_,aa,ai,ah,ac⟩
 exact ag fun Y=>p mv<|p aA<|aw<|Y<|rt<|br<|f2 aa aa aa<|⟨aj,_,aa,ai,ah,ac⟩
theorem VY (a:Nat) (r:Int) (w:World) (I:bO w.heap a [.int .u64 r]):
 bm ay 228 (bf [aQ a]) w (fun v w'=> ∃ G:Int,v= .int .u64 G∧0≤G∧G < 18446744073709551616∧bO w'.heap a [.int .u64 G]∧Md (fun q=>q=a) w w'):=by
 refine enter func228 aa ntmps228 aa<|ag fun Y=>aw<|Y<|aB fun Z=> ?_
 have A:(fun w'=>Wk w w') w.drew:=(Md.refl _ _).drew
 refine eS (fun w'=>Wk w w') 9 aa wide A<|lq 0 aa aj (fun _ _=>aT (aQ a) aa) A<|lq 1 aa aj (fun _ _=>nc aa) A<|lq 2 aa aj (fun w' i=>ld rp aa<|Wk.aO i<|I.aO 0) A<|lq 3 aa aj (fun _ _=>aT (aQ a) aa) A<|lq 4 aa aj (fun _ _=>nc aa) A<|lq 5 aa aj (fun w' i=>ld rp aa<|Wk.aO i<|I.aO 0) A<|lq 6 aa aj (fun _ _=>shl aa aa az aa) A<|lq 7 aa aj (fun _ _=>Ag aa aa aa) A<|lq 8 aa aj (fun _ _=>nc aa) A<|dH 9 aa aj aj<|st xA aa aa (aa) (A.B I) (by simp) fun O ah J=>eR aj<|Z<|aB fun ab=> ?_
 have C:(fun w'=>Wk O w') O.drew:=(Md.refl _ _).drew
 refine eS (fun w'=>Wk O w') 9 aa wide C<|lq 0 aa aj (fun _ _=>aT (aQ a) aa) C<|lq 1 aa aj (fun _ _=>nc aa) C<|lq 2 aa aj (fun w' i=>ld rp aa<|Wk.aO i<|J.aO 0) C<|lq 3 aa aj (fun _ _=>aT (aQ a) aa) C<|lq 4 aa aj (fun _ _=>nc aa) C<|lq 5 aa aj (fun w' i=>ld rp aa<|Wk.aO i<|J.aO 0) C<|lq 6 aa aj (fun _ _=>shr aa aa az aa) C<|lq 7 aa aj (fun _ _=>Ag aa aa aa) C<|lq 8 aa aj (fun _ _=>nc aa) C<|dH 9 aa aj aj<|st xA aa aa (aa) (C.B J) (by simp) fun U ai M=>eR aj<|ab<|aB fun ac=> ?_
 have E:(fun w'=>Wk U w') U.drew:=(Md.refl _ _).drew
 refine eS (fun w'=>Wk U w') 9 aa wide E<|lq 0 aa aj (fun _ _=>aT (aQ a) aa) E<|lq 1 aa aj (fun _ _=>nc aa) E<|lq 2 aa aj (fun w' i=>ld rp aa<|Wk.aO i<|M.aO 0) E<|lq 3 aa aj (fun _ _=>aT (aQ a) aa) E<|lq 4 aa aj (fun _ _=>nc aa) E<|lq 5 aa aj (fun w' i=>ld rp aa<|Wk.aO i<|M.aO 0) E<|lq 6 aa aj (fun _ _=>shl aa aa az aa) E<|lq 7 aa aj (fun _ _=>Ag aa aa aa) E<|lq 8 aa aj (fun _ _=>nc aa) E<|dH 9 aa aj aj<|st xA aa aa (aa) (E.B M) (by simp) fun am al V=>eR aj<|ac<|ag fun ae=>ak (aQ a)<|p (nc aa)<|p (ld rp aa<|V.aO 0)<|p aA<|nl ?_
 refine ae<|rt<|aV aa ?_
 refine ⟨_,aa,(LM _).1,(LM _).2,V,?_⟩
 exact Md.trans (Md.refl _ _).drew<|Md.trans ah<|Md.trans (Md.refl _ _).drew<|Md.trans ai<|Md.trans (Md.refl _ _).drew al
theorem Vj (n:Nat) (w:World) (hn:n < 256):
 bm ay 169 (bf [.int .u64 (n:Nat)]) w (fun v w'=>v=au (kW n)∧Wk w w'):=by
 have U:=yu hn
 refine enter func169 aa ntmps169 aa<|ag fun a=>aw<|a<|aB fun i=>ag fun q=>ak (.int .u64 (n:Nat))<|p (ge aa aa)<|nl<|q<|cd aa (fun h=>absurd h ab) fun M=>aM<|i<|aB fun A=>ag fun C=>ak (.int .u64 (n:Nat))<|p (ge aa aa)<|nl<|C<|cd aa (fun h=>absurd h ab) fun O=> ?_
 refine aM<|A<|aB fun E=>ag fun G=>ak (.int .u64 (n:Nat))<|p (ge aa aa)<|nl<|G<|cd aa (fun h=>absurd h ab) fun J=> ?_
 exact aM<|E<|ag fun I=>ak (.int .i64 0)<|ak (.int .u64 (n:Nat))<|p (xy u5 Y2 aa<|tO ab)<|p (eQ u9 aa aa (by have :n < 256:=hn; simpa using this))<|p (lN u3 pV aa<|YW hn<|by decide+kernel)<|p (bE ((kW n:Nat):Int) aa aa<|bj ab ab)<|aw<|I<|rt<|aV aa<|⟨aa,Md.refl _ _⟩
theorem Jj (n:Nat) (w:World) (hn:n < 256):
 bm ay 111 (bf [.int .u64 (n:Nat)]) w (fun v w'=>v=au (kW n)∧Wk w w'):=by
 refine enter func111 aa ntmps111 aa<|ag fun a=>aw<|a<|aB fun i=>cf aa<|aM<|i<|ag fun q=>ak (.int .u64 (n:Nat))<|e<|cl O8 (Vj n _ hn) aa fun C E A=>aw<|q ?_
 exact rt<|aV aa<|A
theorem VZ (n:Nat) (w:World) (hn:n < 256):
 bm ay 227 (bf [au n]) w (fun v w'=>v= .int .u64 (2 ^ kW n:Nat)∧Wk w w'):=by
 refine enter func227 aa ntmps227 aa<|ag fun a=>aw<|a<|ag fun i=>ak (au n)<|p (lN LJ qT aa<|oV ab)<|e<|cl Fv (Jj n _ hn) aa fun v5 E A=> ?_
 obtain ⟨rfl,q⟩:=A
 have C:=yu hn
 exact p (shl aa aa ab<|XM C)<|aw<|i<|rt<|aV aa<|⟨aa,q⟩
theorem OB (d:Array Nat) (a b:Nat) (B n cp:Nat) (C:Option Addr) (w:World) (av:w.ownsRow B 51 1 (.slice C n cp) n (LE bg d)) (bu:a+12 < b∧b≤n) (bD:n≤255):
 bm ay 285 (bf [.slice C n cp,au a,au b]) w (fun v w'=> ∃ d1,v= .tuple #[]∧od a b d d1∧w'.ownsRow B 51 1 (.slice C n cp) n (LE bg d1)∧Md (fun q=>(bR C n cp).ownBlock=some q) w w'):=by
 refine enter func285 aa ntmps285 aa<|ag fun az=>ak (au b)<|ak (au a)<|p (dK ((b - a:Nat):Int) aa aa<|bj ab ab)<|aw<|az<|ag fun aE=>p mv<|p (ge aa aa)<|nl<|aE<|cd aa (fun bw=> ?_) fun h=>absurd ab h
 refine ag fun aF=>p mv<|p (lN YS qT aa<|oV ab)<|e<|al Zz fun V bP bv aZ aR=>e<|st xA aa aa (aa) (aR) (by simp) fun bt aU aP=> ?_
 have aq:Wk w bt:=Md.trans' aZ.md aU fun k hk h=>by omega
 refine nl<|aF<|ag fun aG=>p mv<|e<|cl Ps (VZ (b - a) _ ab) aa fun bK bM a0=> ?_
 obtain ⟨rfl,ah⟩:=a0
 have bB:=Vk (n:=b - a) ab ab
 refine aw<|aG<|ag fun aI=>ak (au a)<|p mv<|p (qM (((b - a) / 4:Nat):Int) aa aa ab<|bj ab ab)<|p (oM (((b - a) / 4 *2:Nat):Int) aa aa<|bj ab ab)<|p (bE ((a+(b - a) / 4 *2:Nat):Int) aa aa<|bj ab ab)<|p (dK ((a+(b - a) / 4 *2 - 1:Nat):Int) aa aa<|bj ab ab)<|aw<|aI<|aH ?_
 have Z:(bR C n cp).ownBlock≠some V:=fun h=>by have :=dM av h; omega
 refine lp (fun ao U ae=> ∃ (E:Nat) (r:Int) (I:Array Nat),(a+(b - a) / 4 *2 - 1≤E∧E≤a+(b - a) / 4 *2 +2)∧(od a b d I)∧(bO ae.heap V [.int .u64 r])∧(ae.ownsRow B 51 1 (.slice C n cp) n<|LE bg I)∧(Md (fun q=>(bR C n cp).ownBlock=some q) w ae)∧(U 0= .slice C n cp)∧(U 1=au a)∧(U 6=au (b - a))∧(U 7=aQ V)∧(U 8= .int .u64 (2 ^ kW (b - a):Nat))∧(U 9=au E)∧(a+(b - a) / 4 *2 +3 - E=ao)) _ ⟨a+(b - a) / 4 *2 - 1,(b - a:Nat),d,ab,(MY d a b),(ah.B aP),(aW (aW av aq) ah),((Md.trans aq ah).mono fun _ _ h=>h.elim),aa,aa,aa,aa,aa,aa,aa⟩ ?_
 rintro ao U ae ⟨E,r,I,bA,aC,aT,am,ai,a9,bb,bc,bd,bh,bi,rfl⟩
 refine fx 0 a9<|fx 1 bb<|fx 6 bc<|fx 7 bd<|fx 8 bh<|fx 9 bi<|aB fun aK=>ag fun aL=>ak (au E)<|ak (au a)<|ak (au<|b - a)<|p (qM (((b - a) / 4:Nat):Int) aa aa ab<|bj ab ab)<|p (oM (((b - a) / 4 *2:Nat):Int) aa aa<|bj ab ab)<|p (bE ((a+(b - a) / 4 *2:Nat):Int) aa aa<|bj ab ab)<|p (bE ((a+(b - a) / 4 *2 +1:Nat):Int) aa aa<|bj ab ab)<|p (le aa aa)<|nl<|aL<|cd aa (fun a2=> ?_) fun a2=> ?_
 refine aM<|aK<|aB fun aN=>aH<|ag fun aO=>e<|cl Pt (VY V r _ aT) aa fun bL bN a1=> ?_
 obtain ⟨an,rfl,bI,bJ,ap,ac⟩:=a1
 obtain ⟨o,bG,a6⟩:=Og an (2 ^ kW (b - a)) ab
 have bF:=Z
 refine ak (.int .u64 (2 ^ kW (b - a):Nat))<|p (sb aa aa<|oV ab)<|p (fF aa aa a6)<|p (xy u3 Y3 aa<|bX ab)<|aw<|aO ?_
 refine ed (fun O M=> ∃ (G:Nat),(G < b - a)∧(bO M.heap V [.int .u64 an])∧(M.ownsRow B 51 1 (.slice C n cp) n<|LE bg I)∧(Md (fun q=>(bR C n cp).ownBlock=some q) w M)∧(O 0= .slice C n cp)∧(O 1=au a)∧(O 6=au (b - a))∧(O 7=aQ V)∧(O 8= .int .u64 (2 ^ kW (b - a):Nat))∧(O 9=au E)∧(O 10=au G)) ?_ ?_
 refine ag fun aD=>p mv<|ak (au<|b - a)<|p (ge aa aa)<|nl<|aD<|cd aa (fun a3=> ?_) fun a3=> ?_
 exact rg aa<|p mv<|ak (au<|b - a)<|p (dK ((o - (b - a):Nat):Int) aa aa<|bj ab ab)<|p aA<|nl<|tn<|⟨o - (b - a),ab,ap,(dq am ac fun k hk h=>Z<|h ▸ hk),(Md.trans' ai ac fun k hk h=>by omega),aa,aa,aa,aa,aa,aa,aa⟩
 exact aM<|tn<|⟨o,ab,ap,(dq am ac fun k hk h=>Z<|h ▸ hk),(Md.trans' ai ac fun k hk h=>by omega),aa,aa,aa,aa,aa,aa,aa⟩
 rintro O M ⟨G,bH,aS,J,aY,bk,bl,bp,bq,br,bs,bo⟩
 refine fx 0 bk<|fx 1 bl<|fx 6 bp<|fx 7 bq<|fx 8 br<|fx 9 bs<|fx 10 bo ?_
 have bx:=fP J
 have A:(fun w'=>Wk M w') M.drew:=(Md.refl _ _).drew
 refine eS (fun w'=>Wk M w') 17 aa wide A<|bC 0 aa (.slice C n cp) A<|bC 1 aa (au E) A<|bC 2 aa (.slice C n cp) A<|bC 3 aa (au a) A<|bC 4 aa (au G) A<|bz 5 aa (fun _=>bE ((a+G:Nat):Int) aa aa<|bj ab ab) (fun _=>A)<|bC 6 aa (.slice C n cp) A<|bC 7 aa (au a) A<|bC 8 aa (au G) A<|bz 9 aa (fun _=>bE ((a+G:Nat):Int) aa aa<|bj ab ab) (fun _=>A)<|bz 10 aa (fun _=>a8 bY aa aa ab<|aJ.ok ((a7 J).2)<|cy ab) (fun _=>A)<|dI 11 aa (fun w' Y=>ld cV aa<|dG (i:=a+G) ((a7 J).2.wk Y) ab) A<|bC 12 aa (.slice C n cp) A<|bC 13 aa (au E) A<|bz 14 aa (fun _=>a8 bY aa aa ab<|aJ.ok ((a7 J).2)<|cy ab) (fun _=>A)<|dI 15 aa (fun w' Y=>ld cV aa<|dG (i:=E) ((a7 J).2.wk Y) ab) A<|bz 16 aa (fun _=>a8 bY aa aa ab<|aJ.ok ((a7 J).2)<|cy ab) (fun _=>A)<|dH 17 aa aj aj<|gx (u:=I[a+G]!) (E) (aW J A) gp aa aa aa ab fun bQ aV a4=> ?_
 refine bz 18 aa (fun _=>a8 bY aa aa ab<|aJ.ok ((a7 J).2)<|cy ab) (fun h=>ee<|(show true =_ from by kernel_rfl).trans h)<|dH 19 aa aj aj<|gx (u:=I[E]!) (a+G) a4 gp aa aa aa ab fun ax aX a5=> ?_
 have Y:ax.ownsRow B 51 1 (.slice C n cp) n (LE bg<|cM I (E)<|a+G):=a5
 have ar:Md (fun q=>(bR C n cp).ownBlock=some q) M ax:=Md.trans (A.mono fun _ _ h=>h.elim)<|Md.trans aV aX
 exact eR aj<|bn<|aN<|rg aa<|ak (au E)<|p (bE ((E+1:Nat):Int) aa aa<|bj ab ab)<|p aA<|nl<|tn<|⟨_,ab,E+1,an,cM I E (a+G),ab,(WE aC ab ab ab aa),(ar.B aS fun h=>Z h),Y,(Md.trans aY ar),aa,aa,aa,aa,aa,aa,aa⟩
 exact ext<|ba<|ba<|be<|f0 aa<|⟨I,aa,aC,am,ai⟩
end Go.Hb
end
section
namespace Go.Hb
open Go.Hb.dT
theorem Ww {d:Array Nat} {a b q i j:Nat} (h1:oh (fun x=>bZ x (cM d a q)[a]!) (cM d a q) (b - 1) (a+1)=i) (h2:og (fun x=> !bZ x (cM d a q)[a]!) (cM d a q) i (b - 1)=j) (h:i > j):
 q4 bZ d a b q=(j,true,cM (cM d a q) j a):=by
 unfold q4; simp only [h1,h2,if_pos h]
theorem part_go {d:Array Nat} {a b q i j A:Nat} {C:Array Nat} (h1:oh (fun x=>bZ x (cM d a q)[a]!) (cM d a q) (b - 1) (a+1)=i) (h2:og (fun x=> !bZ x (cM d a q)[a]!) (cM d a q) i (b - 1)=j) (h:¬i > j)
 (h3:En bZ a (i+1) (j - 1) (cM (cM d a q) i j)=(A,C)):
 q4 bZ d a b q=(A,false,cM C A a):=by
 unfold q4; simp only [h1,h2,if_neg h,h3]
theorem Wx (d:Array Nat) (a b C:Nat) (B n cp:Nat) (A:Option Addr) (w:World) (aD:w.ownsRow B 51 1 (.slice A n cp) n (LE bg d)) (dv:a≤C∧C < b∧b≤n) (dz:n≤1099511627776):
 bm ay 291 (bf [.slice A n cp,au a,au b,au C]) w (fun v w'=>v= .tuple #[au ((q4 bZ d a b C).1),.bool (q4 bZ d a b C).2.1]∧w'.ownsRow B 51 1 (.slice A n cp) n (LE bg (q4 bZ d a b C).2.2)∧Md (fun q=>(bR A n cp).ownBlock=some q) w w'):=by
 refine enter func291 aa ntmps291 aa<|ag fun bP=>p aA<|aw<|bP<|aB fun bQ=> ?_
 have dw:=fP aD
 have ah:(fun w'=>Wk w w') w.drew:=(Md.refl _ _).drew
 refine eS (fun w'=>Wk w w') 13 aa wide ah<|bC 0 aa (.slice A n cp) ah<|bC 1 aa (au a) ah<|bC 2 aa (.slice A n cp) ah<|bC 3 aa (au C) ah<|bC 4 aa (.slice A n cp) ah<|bC 5 aa (au C) ah<|bz 6 aa (fun _=>a8 bY aa aa ab<|aJ.ok ((a7 aD).2)<|cy ab) (fun _=>ah)<|dI 7 aa (fun w' G=>ld cV aa<|dG (i:=C) ((a7 aD).2.wk G) ab) ah<|bC 8 aa (.slice A n cp) ah<|bC 9 aa (au a) ah<|bz 10 aa (fun _=>a8 bY aa aa ab<|aJ.ok ((a7 aD).2)<|cy ab) (fun _=>ah)<|dI 11 aa (fun w' G=>ld cV aa<|dG (i:=a) ((a7 aD).2.wk G) ab) ah<|bz 12 aa (fun _=>a8 bY aa aa ab<|aJ.ok ((a7 aD).2)<|cy ab) (fun _=>ah)<|dH 13 aa aj aj<|gx (u:=d[C]!) (a) (aW aD ah) gp aa aa aa ab fun dD b3 cD=> ?_
 refine bz 14 aa (fun _=>a8 bY aa aa ab<|aJ.ok ((a7 aD).2)<|cy ab) (fun h=>ee<|(show true =_ from by kernel_rfl).trans h)<|dH 15 aa aj aj<|gx (u:=d[a]!) (C) cD gp aa aa aa ab fun bK b4 cE=> ?_
 have cm:bK.ownsRow B 51 1 (.slice A n cp) n (LE bg<|cM d (a)<|C):=cE
 have b2:Md (fun q=>(bR A n cp).ownBlock=some q) w bK:=Md.trans (ah.mono fun _ _ h=>h.elim)<|Md.trans b3 b4
 refine eR aj<|bQ<|ag fun bS=>ak (au a)<|p (bE ((a+1:Nat):Int) aa aa<|bj ab ab)<|ak (au b)<|p (dK ((b - 1:Nat):Int) aa aa<|bj ab ab)<|p aA ?_
 refine aw<|bS ?_
 refine ed (fun aY bu=> ∃ (M:Nat),(a+1≤M∧(M=a+1∨M≤b - 1 +1))∧(oh (fun x=>bZ x (cM d a C)[a]!) (cM d a C) (b - 1) (a+1)=M)∧(bu.ownsRow B 51 1 (.slice A n cp) n<|LE bg<|cM d a C)∧(Md (fun q=>(bR A n cp).ownBlock=some q) w bu)∧(aY 0= .slice A n cp)∧(aY 1=au a)∧(aY 10=au M)∧(aY 11=au (b - 1))) ?_ ?_
 refine aH<|lp (fun aq aZ aL=> ∃ (q:Nat),(a+1≤q∧(q=a+1∨q≤b - 1 +1))∧(oh (fun x=>bZ x (cM d a C)[a]!) (cM d a C) (b - 1) (q)=oh (fun x=>bZ x (cM d a C)[a]!) (cM d a C) (b - 1) (a+1))∧(aL.ownsRow B 51 1 (.slice A n cp) n<|LE bg<|cM d a C)∧(Md (fun q=>(bR A n cp).ownBlock=some q) w aL)∧(aZ 0= .slice A n cp)∧(aZ 1=au a)∧(aZ 10=au q)∧(aZ 11=au (b - 1))∧(b - 1 +1 - q=aq)) _ ⟨a+1,ab,aa,cm,b2,aa,aa,aa,aa,aa⟩ ?_
 rintro aq aZ aL ⟨q,ar,ap,E,ao,cT,cU,cW,cX,rfl⟩
 refine fx 0 cT<|fx 1 cU<|fx 10 cW<|fx 11 cX<|aB fun aU=>aB fun aF=> ?_
 have aK:=fP E
 have Z:(fun w'=>Wk aL w') aL.drew:=(Md.refl _ _).drew
 refine bI (fun w'=>Wk aL w') aa wide Z<|bF 0 aa (au q) Z<|bF 1 aa (au<|b - 1) Z<|aC 2 aa (fun _ _=>le aa aa) Z<|aC 3 aa (fun _ _=>mv) Z<|iQ (t:=33) aa (fun cB=> ?_) fun cB=> ?_
 refine bh 4 aa (fun _ _=>aT (.slice A n cp) aa) Z<|bh 5 aa (fun _ _=>aT (au q) aa) Z<|bh 6 aa (fun _ _=>a8 bY aa aa ab<|aJ.ok ((a7 E).2)<|cy ab) Z<|bh 7 aa (fun w' G=>ld cV aa<|dG (i:=q) ((a7 E).2.wk G) ab) Z<|bh 8 aa (fun _ _=>aT (.slice A n cp) aa) Z<|bh 9 aa (fun _ _=>aT (au a) aa) Z<|bh 10 aa (fun _ _=>a8 bY aa aa ab<|aJ.ok ((a7 E).2)<|cy ab) Z<|bh 11 aa (fun w' G=>ld cV aa<|dG (i:=a) ((a7 E).2.wk G) ab) Z<|mB 12 aa aj aa aa aa<|cl lZ (l7 (cM d a C)[q]! (cM d a C)[a]! _) aa fun dB dt cu=> ?_
 obtain ⟨rfl,bX⟩:=cu
 have aR:(fun w'=>Wk aL w') dt:=Md.trans Z bX
 refine ⟨aR,?_⟩
 refine aC 13 aa (fun _ _=>bB aa) aR<|hn aj<|aF<|cb aa (fun br=> ?_) fun br=> ?_
 exact aM<|aU<|aH<|rg aa<|ak (au q)<|p (bE ((q+1:Nat):Int) aa aa<|bj ab ab)<|p aA<|nl<|bn<|tn<|⟨_,ab,q+1,ab,(by rw [← ap,DJ (show q≤b - 1 by omega) (by simpa using br)]),(aW E aR),(Md.trans ao<|aR.mono fun _ _ h=>h.elim),aa,aa,aa,aa,aa⟩
 exact ext<|ba<|ba<|be<|tn<|⟨q,ar,(by rw [← ap,tI (.inr<|by simpa using br)]),(aW E aR),(Md.trans ao<|aR.mono fun _ _ h=>h.elim),aa,aa,aa,aa⟩
 exact a6 4 aa Z<|a6 5 aa Z<|a6 6 aa Z<|a6 7 aa Z<|a6 8 aa Z<|a6 9 aa Z<|a6 10 aa Z<|a6 11 aa Z<|a6 12 aa Z<|aC 13 aa (fun _ _=>bp aa) Z<|hn aj<|aF<|cf aa<|ext<|ba<|ba<|be<|tn<|⟨q,ar,(by rw [← ap,tI (.inl ab)]),(aW E (Md.refl _ _).drew),ao.drew,aa,aa,aa,aa⟩
 rintro aY bu ⟨M,dx,bH,bl,bk,cP,cQ,cR,cS⟩
 refine fx 0 cP<|fx 1 cQ<|fx 10 cR<|fx 11 cS ?_
 refine ed (fun a0 av=> ∃ (O:Nat),(a≤O∧O≤b - 1)∧(og (fun x=> !bZ x (cM d a C)[a]!) (cM d a C) (M) (b - 1)=O)∧(av.ownsRow B 51 1 (.slice A n cp) n<|LE bg<|cM d a C)∧(Md (fun q=>(bR A n cp).ownBlock=some q) w av)∧(a0 0= .slice A n cp)∧(a0 1=au a)∧(a0 10=au M)∧(a0 11=au O)) ?_ ?_
 refine aH<|lp (fun aq a1 aO=> ∃ (q:Nat),(a≤q∧q≤b - 1)∧(og (fun x=> !bZ x (cM d a C)[a]!) (cM d a C) (M) (q)=og (fun x=> !bZ x (cM d a C)[a]!) (cM d a C) (M) (b - 1))∧(aO.ownsRow B 51 1 (.slice A n cp) n<|LE bg<|cM d a C)∧(Md (fun q=>(bR A n cp).ownBlock=some q) w aO)∧(a1 0= .slice A n cp)∧(a1 1=au a)∧(a1 10=au M)∧(a1 11=au q)∧(q=aq)) _ ⟨b - 1,ab,aa,bl,bk,aa,aa,aa,aa,aa⟩ ?_
 rintro aq a1 aO ⟨q,ar,ap,E,ao,c2,c3,c4,c5,rfl⟩
 refine fx 0 c2<|fx 1 c3<|fx 10 c4<|fx 11 c5<|aB fun aU=>aB fun aF=> ?_
 have aK:=fP E
 have V:(fun w'=>Wk aO w') aO.drew:=(Md.refl _ _).drew
 refine bI (fun w'=>Wk aO w') aa wide V<|bF 0 aa (au M) V<|bF 1 aa (au q) V<|aC 2 aa (fun _ _=>le aa aa) V<|aC 3 aa (fun _ _=>mv) V<|iQ (t:=49) aa (fun cC=> ?_) fun cC=> ?_
 refine bh 4 aa (fun _ _=>aT (.slice A n cp) aa) V<|bh 5 aa (fun _ _=>aT (au q) aa) V<|bh 6 aa (fun _ _=>a8 bY aa aa ab<|aJ.ok ((a7 E).2)<|cy ab) V<|bh 7 aa (fun w' G=>ld cV aa<|dG (i:=q) ((a7 E).2.wk G) ab) V<|bh 8 aa (fun _ _=>aT (.slice A n cp) aa) V<|bh 9 aa (fun _ _=>aT (au a) aa) V<|bh 10 aa (fun _ _=>a8 bY aa aa ab<|aJ.ok ((a7 E).2)<|cy ab) V<|bh 11 aa (fun w' G=>ld cV aa<|dG (i:=a) ((a7 E).2.wk G) ab) V<|mB 12 aa aj aa aa aa<|cl lZ (l7 (cM d a C)[q]! (cM d a C)[a]! _) aa fun dC du cv=> ?_
 obtain ⟨rfl,b0⟩:=cv
 have aI:(fun w'=>Wk aO w') du:=Md.trans V b0
 refine ⟨aI,?_⟩
 refine bh 13 aa (fun _ _=>no aa) aI<|aC 14 aa (fun _ _=>bB aa) aI<|hn aj<|aF<|cb aa (fun bs=> ?_) fun bs=> ?_
 exact aM<|aU<|aH<|rg aa<|ak (au q)<|p (dK ((q - 1:Nat):Int) aa aa<|bj ab ab)<|p aA<|nl<|bn<|tn<|⟨_,ab,q - 1,ab,(by rw [← ap,Bc (show 0 < q by omega) (show M≤q by omega) (by simpa using bs)]),(aW E aI),(Md.trans ao<|aI.mono fun _ _ h=>h.elim),aa,aa,aa,aa,aa⟩
 exact ext<|ba<|ba<|be<|tn<|⟨q,ar,(by rw [← ap,sU (.inr<|by simpa using bs)]),(aW E aI),(Md.trans ao<|aI.mono fun _ _ h=>h.elim),aa,aa,aa,aa⟩
 exact a6 4 aa V<|a6 5 aa V<|a6 6 aa V<|a6 7 aa V<|a6 8 aa V<|a6 9 aa V<|a6 10 aa V<|a6 11 aa V<|a6 12 aa V<|a6 13 aa V<|aC 14 aa (fun _ _=>bp aa) V<|hn aj<|aF<|cf aa<|ext<|ba<|ba<|be<|tn<|⟨q,ar,(by rw [← ap,sU (.inl ab)]),(aW E (Md.refl _ _).drew),ao.drew,aa,aa,aa,aa⟩
 rintro a0 av ⟨O,dy,bw,I,aV,cY,cZ,c0,c1⟩
 refine fx 0 cY<|fx 1 cZ<|fx 10 c0<|fx 11 c1<|aB fun aU=>ag fun aF=>ak (au M)<|ak (au O)<|p (gt aa aa)<|nl<|aF<|cd aa (fun cx=> ?_) fun cx=> ?_
 refine aB fun bd=> ?_
 have aK:=fP I
 have an:(fun w'=>Wk av w') av.drew:=(Md.refl _ _).drew
 refine eS (fun w'=>Wk av w') 13 aa wide an<|bC 0 aa (.slice A n cp) an<|bC 1 aa (au O) an<|bC 2 aa (.slice A n cp) an<|bC 3 aa (au a) an<|bC 4 aa (.slice A n cp) an<|bC 5 aa (au a) an<|bz 6 aa (fun _=>a8 bY aa aa ab<|aJ.ok ((a7 I).2)<|cy ab) (fun _=>an)<|dI 7 aa (fun w' G=>ld cV aa<|dG (i:=a) ((a7 I).2.wk G) ab) an<|bC 8 aa (.slice A n cp) an<|bC 9 aa (au O) an<|bz 10 aa (fun _=>a8 bY aa aa ab<|aJ.ok ((a7 I).2)<|cy ab) (fun _=>an)<|dI 11 aa (fun w' G=>ld cV aa<|dG (i:=O) ((a7 I).2.wk G) ab) an<|bz 12 aa (fun _=>a8 bY aa aa ab<|aJ.ok ((a7 I).2)<|cy ab) (fun _=>an)<|dH 13 aa aj aj<|gx (u:=(cM d a C)[a]!) (O) (aW I an) gp aa aa aa ab fun dE b6 cF=> ?_
 refine bz 14 aa (fun _=>a8 bY aa aa ab<|aJ.ok ((a7 I).2)<|cy ab) (fun h=>ee<|(show true =_ from by kernel_rfl).trans h)<|dH 15 aa aj aj<|gx (u:=(cM d a C)[O]!) (a) cF gp aa aa aa ab fun bL b7 cG=> ?_
 have cn:bL.ownsRow B 51 1 (.slice A n cp) n (LE bg<|cM (cM d a C) (O)<|a):=cG
 have b5:Md (fun q=>(bR A n cp).ownBlock=some q) av bL:=Md.trans (an.mono fun _ _ h=>h.elim)<|Md.trans b6 b7
 refine eR aj<|bd<|ag fun bi=>ak (au O)<|p (cJ (au O) aa)<|aw<|bi ?_
 refine rt<|tr<|f2 aa aa aa ?_
 have aX:=Ww bH bw ab
 exact ⟨by rw [aX]; rfl,by rw [aX]; exact cn,Md.trans aV b5⟩
 refine aM<|aU<|aB fun bd=> ?_
 have aK:=fP I
 have ai:(fun w'=>Wk av w') av.drew:=(Md.refl _ _).drew
 refine eS (fun w'=>Wk av w') 13 aa wide ai<|bC 0 aa (.slice A n cp) ai<|bC 1 aa (au M) ai<|bC 2 aa (.slice A n cp) ai<|bC 3 aa (au O) ai<|bC 4 aa (.slice A n cp) ai<|bC 5 aa (au O) ai<|bz 6 aa (fun _=>a8 bY aa aa ab<|aJ.ok ((a7 I).2)<|cy ab) (fun _=>ai)<|dI 7 aa (fun w' G=>ld cV aa<|dG (i:=O) ((a7 I).2.wk G) ab) ai<|bC 8 aa (.slice A n cp) ai<|bC 9 aa (au M) ai<|bz 10 aa (fun _=>a8 bY aa aa ab<|aJ.ok ((a7 I).2)<|cy ab) (fun _=>ai)<|dI 11 aa (fun w' G=>ld cV aa<|dG (i:=M) ((a7 I).2.wk G) ab) ai<|bz 12 aa (fun _=>a8 bY aa aa ab<|aJ.ok ((a7 I).2)<|cy ab) (fun _=>ai)<|dH 13 aa aj aj<|gx (u:=(cM d a C)[O]!) (M) (aW I ai) gp aa aa aa ab fun dF b9 cH=> ?_
 refine bz 14 aa (fun _=>a8 bY aa aa ab<|aJ.ok ((a7 I).2)<|cy ab) (fun h=>ee<|(show true =_ from by kernel_rfl).trans h)<|dH 15 aa aj aj<|gx (u:=(cM d a C)[M]!) (O) cH gp aa aa aa ab fun bM ca cI=> ?_
 have co:bM.ownsRow B 51 1 (.slice A n cp) n (LE bg<|cM (cM d a C) (M)<|O):=cI
 have b8:Md (fun q=>(bR A n cp).ownBlock=some q) av bM:=Md.trans (ai.mono fun _ _ h=>h.elim)<|Md.trans b9 ca
 refine eR aj<|bd<|ag fun bi=>ak (au M)<|p (bE ((M+1:Nat):Int) aa aa<|bj ab ab)<|aw<|bi ?_
 refine ag fun bT=>ak (au O)<|p (dK ((O - 1:Nat):Int) aa aa<|bj ab ab)<|aw<|bT<|aB fun bU=>aH<|lp (fun aq a2 bt=> ∃ (i j:Nat) (J:Array Nat),(a+2≤i∧i≤b∧a≤j∧j < b∧i≤j+2)∧(En bZ a i j J=En bZ a (M+1) (O - 1) (cM (cM d a C) M O))∧(bt.ownsRow B 51 1 (.slice A n cp) n<|LE bg J)∧(Md (fun q=>(bR A n cp).ownBlock=some q) w bt)∧(a2 0= .slice A n cp)∧(a2 1=au a)∧(a2 10=au i)∧(a2 11=au j)∧(j+1 - i=aq)) _ ⟨M+1,O - 1,cM (cM d a C) M O,ab,aa,co,(Md.trans aV b8),aa,aa,aa,aa,aa⟩ ?_
 rintro aq a2 bt ⟨i,j,J,hi,bG,ck,b1,c6,c7,c8,c9,rfl⟩
 refine fx 0 c6<|fx 1 c7<|fx 10 c8<|fx 11 c9<|aH ?_
 refine ed (fun a3 bv=> ∃ (ac:Nat),(i≤ac∧(ac=i∨ac≤j+1))∧(oh (fun x=>bZ x J[a]!) J (j) (i)=ac)∧(bv.ownsRow B 51 1 (.slice A n cp) n<|LE bg J)∧(Md (fun q=>(bR A n cp).ownBlock=some q) w bv)∧(a3 0= .slice A n cp)∧(a3 1=au a)∧(a3 10=au ac)∧(a3 11=au j)) ?_ ?_
 refine aH<|lp (fun aq a4 aN=> ∃ (q:Nat),(i≤q∧(q=i∨q≤j+1))∧(oh (fun x=>bZ x J[a]!) J (j) (q)=oh (fun x=>bZ x J[a]!) J (j) (i))∧(aN.ownsRow B 51 1 (.slice A n cp) n<|LE bg J)∧(Md (fun q=>(bR A n cp).ownBlock=some q) w aN)∧(a4 0= .slice A n cp)∧(a4 1=au a)∧(a4 10=au q)∧(a4 11=au j)∧(j+1 - q=aq)) _ ⟨i,ab,aa,ck,b1,aa,aa,aa,aa,aa⟩ ?_
 rintro aq a4 aN ⟨q,ar,ap,E,ao,de,df,dg,dh,rfl⟩
 refine fx 0 de<|fx 1 df<|fx 10 dg<|fx 11 dh<|aB fun aS=>aB fun aE=> ?_
 have aK:=fP E
 have Y:(fun w'=>Wk aN w') aN.drew:=(Md.refl _ _).drew
 refine bI (fun w'=>Wk aN w') aa wide Y<|bF 0 aa (au q) Y<|bF 1 aa (au j) Y<|aC 2 aa (fun _ _=>le aa aa) Y<|aC 3 aa (fun _ _=>mv) Y<|iQ (t:=102) aa (fun cz=> ?_) fun cz=> ?_
 refine bh 4 aa (fun _ _=>aT (.slice A n cp) aa) Y<|bh 5 aa (fun _ _=>aT (au q) aa) Y<|bh 6 aa (fun _ _=>a8 bY aa aa ab<|aJ.ok ((a7 E).2)<|cy ab) Y<|bh 7 aa (fun w' G=>ld cV aa<|dG (i:=q) ((a7 E).2.wk G) ab) Y<|bh 8 aa (fun _ _=>aT (.slice A n cp) aa) Y<|bh 9 aa (fun _ _=>aT (au a) aa) Y<|bh 10 aa (fun _ _=>a8 bY aa aa ab<|aJ.ok ((a7 E).2)<|cy ab) Y<|bh 11 aa (fun w' G=>ld cV aa<|dG (i:=a) ((a7 E).2.wk G) ab) Y<|mB 12 aa aj aa aa aa<|cl lZ (l7 J[q]! J[a]! _) aa fun dA dr cs=> ?_
 obtain ⟨rfl,bV⟩:=cs
 have aQ:(fun w'=>Wk aN w') dr:=Md.trans Y bV
 refine ⟨aQ,?_⟩
 refine aC 13 aa (fun _ _=>bB aa) aQ<|hn aj<|aE<|cb aa (fun bo=> ?_) fun bo=> ?_
 exact aM<|aS<|aH<|rg aa<|ak (au q)<|p (bE ((q+1:Nat):Int) aa aa<|bj ab ab)<|p aA<|nl<|bn<|tn<|⟨_,ab,q+1,ab,(by rw [← ap,DJ (show q≤j by omega) (by simpa using bo)]),(aW E aQ),(Md.trans ao<|aQ.mono fun _ _ h=>h.elim),aa,aa,aa,aa,aa⟩
 exact ext<|ba<|ba<|be<|tn<|⟨q,ar,(by rw [← ap,tI (.inr<|by simpa using bo)]),(aW E aQ),(Md.trans ao<|aQ.mono fun _ _ h=>h.elim),aa,aa,aa,aa⟩
 exact a6 4 aa Y<|a6 5 aa Y<|a6 6 aa Y<|a6 7 aa Y<|a6 8 aa Y<|a6 9 aa Y<|a6 10 aa Y<|a6 11 aa Y<|a6 12 aa Y<|aC 13 aa (fun _ _=>bp aa) Y<|hn aj<|aE<|cf aa<|ext<|ba<|ba<|be<|tn<|⟨q,ar,(by rw [← ap,tI (.inl ab)]),(aW E (Md.refl _ _).drew),ao.drew,aa,aa,aa,aa⟩
 rintro a3 bv ⟨ac,bA,bJ,bl,bk,da,db,dc,dd⟩
 refine fx 0 da<|fx 1 db<|fx 10 dc<|fx 11 dd ?_
 refine ed (fun a5 ax=> ∃ (ae:Nat),(a≤ae∧ae≤j)∧(og (fun x=> !bZ x J[a]!) J (ac) (j)=ae)∧(ax.ownsRow B 51 1 (.slice A n cp) n<|LE bg J)∧(Md (fun q=>(bR A n cp).ownBlock=some q) w ax)∧(a5 0= .slice A n cp)∧(a5 1=au a)∧(a5 10=au ac)∧(a5 11=au ae)) ?_ ?_
 refine aH<|lp (fun aq a9 aP=> ∃ (q:Nat),(a≤q∧q≤j)∧(og (fun x=> !bZ x J[a]!) J (ac) (q)=og (fun x=> !bZ x J[a]!) J (ac) (j))∧(aP.ownsRow B 51 1 (.slice A n cp) n<|LE bg J)∧(Md (fun q=>(bR A n cp).ownBlock=some q) w aP)∧(a9 0= .slice A n cp)∧(a9 1=au a)∧(a9 10=au ac)∧(a9 11=au q)∧(q=aq)) _ ⟨j,ab,aa,bl,bk,aa,aa,aa,aa,aa⟩ ?_
 rintro aq a9 aP ⟨q,ar,ap,E,ao,dm,dn,dp,dq,rfl⟩
 refine fx 0 dm<|fx 1 dn<|fx 10 dp<|fx 11 dq<|aB fun aS=>aB fun aE=> ?_
 have aK:=fP E
 have U:(fun w'=>Wk aP w') aP.drew:=(Md.refl _ _).drew
 refine bI (fun w'=>Wk aP w') aa wide U<|bF 0 aa (au ac) U<|bF 1 aa (au q) U<|aC 2 aa (fun _ _=>le aa aa) U<|aC 3 aa (fun _ _=>mv) U<|iQ (t:=118) aa (fun cA=> ?_) fun cA=> ?_
 refine bh 4 aa (fun _ _=>aT (.slice A n cp) aa) U<|bh 5 aa (fun _ _=>aT (au q) aa) U<|bh 6 aa (fun _ _=>a8 bY aa aa ab<|aJ.ok ((a7 E).2)<|cy ab) U<|bh 7 aa (fun w' G=>ld cV aa<|dG (i:=q) ((a7 E).2.wk G) ab) U<|bh 8 aa (fun _ _=>aT (.slice A n cp) aa) U<|bh 9 aa (fun _ _=>aT (au a) aa) U<|bh 10 aa (fun _ _=>a8 bY aa aa ab<|aJ.ok ((a7 E).2)<|cy ab) U<|bh 11 aa (fun w' G=>ld cV aa<|dG (i:=a) ((a7 E).2.wk G) ab) U<|mB 12 aa aj aa aa aa<|cl lZ (l7 J[q]! J[a]! _) aa fun v127 ds ct=> ?_
 obtain ⟨rfl,bW⟩:=ct
 have aG:(fun w'=>Wk aP w') ds:=Md.trans U bW
 refine ⟨aG,?_⟩
 refine bh 13 aa (fun _ _=>no aa) aG<|aC 14 aa (fun _ _=>bB aa) aG<|hn aj<|aE<|cb aa (fun bq=> ?_) fun bq=> ?_
 exact aM<|aS<|aH<|rg aa<|ak (au q)<|p (dK ((q - 1:Nat):Int) aa aa<|bj ab ab)<|p aA<|nl<|bn<|tn<|⟨_,ab,q - 1,ab,(by rw [← ap,Bc (show 0 < q by omega) (show ac≤q by omega) (by simpa using bq)]),(aW E aG),(Md.trans ao<|aG.mono fun _ _ h=>h.elim),aa,aa,aa,aa,aa⟩
 exact ext<|ba<|ba<|be<|tn<|⟨q,ar,(by rw [← ap,sU (.inr<|by simpa using bq)]),(aW E aG),(Md.trans ao<|aG.mono fun _ _ h=>h.elim),aa,aa,aa,aa⟩
 exact a6 4 aa U<|a6 5 aa U<|a6 6 aa U<|a6 7 aa U<|a6 8 aa U<|a6 9 aa U<|a6 10 aa U<|a6 11 aa U<|a6 12 aa U<|a6 13 aa U<|aC 14 aa (fun _ _=>bp aa) U<|hn aj<|aE<|cf aa<|ext<|ba<|ba<|be<|tn<|⟨q,ar,(by rw [← ap,sU (.inl ab)]),(aW E (Md.refl _ _).drew),ao.drew,aa,aa,aa,aa⟩
 rintro a5 ax ⟨ae,bD,bx,I,aV,di,dj,dk,dl⟩
 refine fx 0 di<|fx 1 dj<|fx 10 dk<|fx 11 dl<|aB fun aS=>ag fun aE=>ak (au ac)<|ak (au ae)<|p (gt aa aa)<|nl<|aE<|cd aa (fun cw=> ?_) fun cw=> ?_
 refine ext<|ba<|nE az<|ba<|be<|bU<|aB fun bb=> ?_
 have aK:=fP I
 have am:(fun w'=>Wk ax w') ax.drew:=(Md.refl _ _).drew
 refine eS (fun w'=>Wk ax w') 13 aa wide am<|bC 0 aa (.slice A n cp) am<|bC 1 aa (au ae) am<|bC 2 aa (.slice A n cp) am<|bC 3 aa (au a) am<|bC 4 aa (.slice A n cp) am<|bC 5 aa (au a) am<|bz 6 aa (fun _=>a8 bY aa aa ab<|aJ.ok ((a7 I).2)<|cy ab) (fun _=>am)<|dI 7 aa (fun w' G=>ld cV aa<|dG (i:=a) ((a7 I).2.wk G) ab) am<|bC 8 aa (.slice A n cp) am<|bC 9 aa (au ae) am<|bz 10 aa (fun _=>a8 bY aa aa ab<|aJ.ok ((a7 I).2)<|cy ab) (fun _=>am)<|dI 11 aa (fun w' G=>ld cV aa<|dG (i:=ae) ((a7 I).2.wk G) ab) am<|bz 12 aa (fun _=>a8 bY aa aa ab<|aJ.ok ((a7 I).2)<|cy ab) (fun _=>am)<|dH 13 aa aj aj<|gx (u:=J[a]!) (ae) (aW I am) gp aa aa aa ab fun dL ci cN=> ?_
 refine bz 14 aa (fun _=>a8 bY aa aa ab<|aJ.ok ((a7 I).2)<|cy ab) (fun h=>ee<|(show true =_ from by kernel_rfl).trans h)<|dH 15 aa aj aj<|gx (u:=J[ae]!) (a) cN gp aa aa aa ab fun bO cj cO=> ?_
 have cr:bO.ownsRow B 51 1 (.slice A n cp) n (LE bg<|cM J (ae)<|a):=cO
 have ch:Md (fun q=>(bR A n cp).ownBlock=some q) ax bO:=Md.trans (am.mono fun _ _ h=>h.elim)<|Md.trans ci cj
 refine eR aj<|bb<|ag fun bc=>ak (au ae)<|p (cJ (au ae) aa)<|aw<|bc ?_
 refine rt<|f2 aa aa aa ?_
 have aX:=part_go bH bw ab<|bG.symm.trans<|by rw [Ki bJ bx bA.1 bD.2,if_pos ab]
 exact ⟨by rw [aX]; rfl,by rw [aX]; exact cr,Md.trans aV ch⟩
 refine aM<|aS<|aB fun bb=> ?_
 have aK:=fP I
 have al:(fun w'=>Wk ax w') ax.drew:=(Md.refl _ _).drew
 refine eS (fun w'=>Wk ax w') 13 aa wide al<|bC 0 aa (.slice A n cp) al<|bC 1 aa (au ac) al<|bC 2 aa (.slice A n cp) al<|bC 3 aa (au ae) al<|bC 4 aa (.slice A n cp) al<|bC 5 aa (au ae) al<|bz 6 aa (fun _=>a8 bY aa aa ab<|aJ.ok ((a7 I).2)<|cy ab) (fun _=>al)<|dI 7 aa (fun w' G=>ld cV aa<|dG (i:=ae) ((a7 I).2.wk G) ab) al<|bC 8 aa (.slice A n cp) al<|bC 9 aa (au ac) al<|bz 10 aa (fun _=>a8 bY aa aa ab<|aJ.ok ((a7 I).2)<|cy ab) (fun _=>al)<|dI 11 aa (fun w' G=>ld cV aa<|dG (i:=ac) ((a7 I).2.wk G) ab) al<|bz 12 aa (fun _=>a8 bY aa aa ab<|aJ.ok ((a7 I).2)<|cy ab) (fun _=>al)<|dH 13 aa aj aj<|gx (u:=J[ae]!) (ac) (aW I al) gp aa aa aa ab fun dJ ce cK=> ?_
 refine bz 14 aa (fun _=>a8 bY aa aa ab<|aJ.ok ((a7 I).2)<|cy ab) (fun h=>ee<|(show true =_ from by kernel_rfl).trans h)<|dH 15 aa aj aj<|gx (u:=J[ac]!) (ae) cK gp aa aa aa ab fun bN cg cL=> ?_
 have cq:bN.ownsRow B 51 1 (.slice A n cp) n (LE bg<|cM J (ac)<|ae):=cL
 have cc:Md (fun q=>(bR A n cp).ownBlock=some q) ax bN:=Md.trans (al.mono fun _ _ h=>h.elim)<|Md.trans ce cg
 refine eR aj<|bb<|ag fun bc=>ak (au ac)<|p (bE ((ac+1:Nat):Int) aa aa<|bj ab ab)<|aw<|bc ?_
 exact rg aa<|ak (au ae)<|p (dK ((ae - 1:Nat):Int) aa aa<|bj ab ab)<|p aA<|nl<|bn<|tn<|⟨_,ab,ac+1,ae - 1,cM J ac ae,ab,(by rw [← bG,Ki bJ bx bA.1 bD.2,if_neg ab,if_pos ab]),cq,(Md.trans aV cc),aa,aa,aa,aa,aa⟩
theorem Wz (d:Array Nat) (a b Y:Nat) (B n cp:Nat) (A:Option Addr) (w:World) (ae:w.ownsRow B 51 1 (.slice A n cp) n (LE bg d)) (ca:a≤Y∧Y < b∧b≤n) (ch:n≤1099511627776):
 bm ay 290 (bf [.slice A n cp,au a,au b,au Y]) w (fun v w'=>v=au ((wi bZ d a b Y).1)∧w'.ownsRow B 51 1 (.slice A n cp) n (LE bg (wi bZ d a b Y).2)∧Md (fun q=>(bR A n cp).ownBlock=some q) w w'):=by
 refine enter func290 aa ntmps290 aa<|ag fun a0=>aw<|a0<|aB fun a1=> ?_
 have cc:=fP ae
 have M:(fun w'=>Wk w w') w.drew:=(Md.refl _ _).drew
 refine eS (fun w'=>Wk w w') 13 aa wide M<|bC 0 aa (.slice A n cp) M<|bC 1 aa (au a) M<|bC 2 aa (.slice A n cp) M<|bC 3 aa (au Y) M<|bC 4 aa (.slice A n cp) M<|bC 5 aa (au Y) M<|bz 6 aa (fun _=>a8 bY aa aa ab<|aJ.ok ((a7 ae).2)<|cy ab) (fun _=>M)<|dI 7 aa (fun w' V=>ld cV aa<|dG (i:=Y) ((a7 ae).2.wk V) ab) M<|bC 8 aa (.slice A n cp) M<|bC 9 aa (au a) M<|bz 10 aa (fun _=>a8 bY aa aa ab<|aJ.ok ((a7 ae).2)<|cy ab) (fun _=>M)<|dI 11 aa (fun w' V=>ld cV aa<|dG (i:=a) ((a7 ae).2.wk V) ab) M<|bz 12 aa (fun _=>a8 bY aa aa ab<|aJ.ok ((a7 ae).2)<|cy ab) (fun _=>M)<|dH 13 aa aj aj<|gx (u:=d[Y]!) (a) (aW ae M) gp aa aa aa ab fun ck bd bG=> ?_
 refine bz 14 aa (fun _=>a8 bY aa aa ab<|aJ.ok ((a7 ae).2)<|cy ab) (fun h=>ee<|(show true =_ from by kernel_rfl).trans h)<|dH 15 aa aj aj<|gx (u:=d[a]!) (Y) bG gp aa aa aa ab fun aY bi bH=> ?_
 have bt:aY.ownsRow B 51 1 (.slice A n cp) n (LE bg<|cM d (a)<|Y):=bH
 have bc:Md (fun q=>(bR A n cp).ownBlock=some q) w aY:=Md.trans (M.mono fun _ _ h=>h.elim)<|Md.trans bd bi
 refine eR aj<|a1<|ag fun a2=>ak (au a)<|p (bE ((a+1:Nat):Int) aa aa<|bj ab ab)<|ak (au b)<|p (dK ((b - 1:Nat):Int) aa aa<|bj ab ab)<|p aA ?_
 refine aw<|a2<|aB fun a3=>aH<|lp (fun ac ax aN=> ∃ (i j:Nat) (C:Array Nat),(a+1≤i∧i≤b∧a≤j∧j < b∧i≤j+2)∧(Go.Sort.partEqLoop bZ a i j C=wi bZ d a b Y)∧(aN.ownsRow B 51 1 (.slice A n cp) n<|LE bg C)∧(Md (fun q=>(bR A n cp).ownBlock=some q) w aN)∧(ax 0= .slice A n cp)∧(ax 1=au a)∧(ax 9=au i)∧(ax 10=au j)∧(j+1 - i=ac)) _ ⟨a+1,b - 1,(cM d a Y),ab,aa,bt,bc,aa,aa,aa,aa,aa⟩ ?_
 rintro ac ax aN ⟨i,j,C,hi,aS,br,bb,bL,bM,bO,bN,rfl⟩
 refine fx 0 bL<|fx 1 bM<|fx 9 bO<|fx 10 bN<|aH ?_
 refine ed (fun aD aO=> ∃ (E:Nat),(i≤E∧(E=i∨E≤j+1))∧(oh (fun x=> !bZ C[a]! x) C (j) (i)=E)∧(aO.ownsRow B 51 1 (.slice A n cp) n<|LE bg C)∧(Md (fun q=>(bR A n cp).ownBlock=some q) w aO)∧(aD 0= .slice A n cp)∧(aD 1=au a)∧(aD 9=au E)∧(aD 10=au j)) ?_ ?_
 refine aH<|lp (fun ac aE an=> ∃ (q:Nat),(i≤q∧(q=i∨q≤j+1))∧(oh (fun x=> !bZ C[a]! x) C (j) (q)=oh (fun x=> !bZ C[a]! x) C (j) (i))∧(an.ownsRow B 51 1 (.slice A n cp) n<|LE bg C)∧(Md (fun q=>(bR A n cp).ownBlock=some q) w an)∧(aE 0= .slice A n cp)∧(aE 1=au a)∧(aE 9=au q)∧(aE 10=au j)∧(j+1 - q=ac)) _ ⟨i,ab,aa,br,bb,aa,aa,aa,aa,aa⟩ ?_
 rintro ac aE an ⟨q,av,am,J,ai,bU,bV,bX,bW,rfl⟩
 refine fx 0 bU<|fx 1 bV<|fx 9 bX<|fx 10 bW<|aB fun ar=>aB fun ah=> ?_
 have aQ:=fP J
 have G:(fun w'=>Wk an w') an.drew:=(Md.refl _ _).drew
 refine bI (fun w'=>Wk an w') aa wide G<|bF 0 aa (au q) G<|bF 1 aa (au j) G<|aC 2 aa (fun _ _=>le aa aa) G<|aC 3 aa (fun _ _=>mv) G<|iQ (t:=32) aa (fun bA=> ?_) fun bA=> ?_
 refine bh 4 aa (fun _ _=>aT (.slice A n cp) aa) G<|bh 5 aa (fun _ _=>aT (au a) aa) G<|bh 6 aa (fun _ _=>a8 bY aa aa ab<|aJ.ok ((a7 J).2)<|cy ab) G<|bh 7 aa (fun w' V=>ld cV aa<|dG (i:=a) ((a7 J).2.wk V) ab) G<|bh 8 aa (fun _ _=>aT (.slice A n cp) aa) G<|bh 9 aa (fun _ _=>aT (au q) aa) G<|bh 10 aa (fun _ _=>a8 bY aa aa ab<|aJ.ok ((a7 J).2)<|cy ab) G<|bh 11 aa (fun w' V=>ld cV aa<|dG (i:=q) ((a7 J).2.wk V) ab) G<|mB 12 aa aj aa aa aa<|cl lZ (l7 C[a]! C[q]! _) aa fun ci b8 bv=> ?_
 obtain ⟨rfl,a5⟩:=bv
 have al:(fun w'=>Wk an w') b8:=Md.trans G a5
 refine ⟨al,?_⟩
 refine bh 13 aa (fun _ _=>no aa) al<|aC 14 aa (fun _ _=>bB aa) al<|hn aj<|ah<|cb aa (fun aK=> ?_) fun aK=> ?_
 exact aM<|ar<|aH<|rg aa<|ak (au q)<|p (bE ((q+1:Nat):Int) aa aa<|bj ab ab)<|p aA<|nl<|bn<|tn<|⟨_,ab,q+1,ab,(by rw [← am,DJ (show q≤j by omega) (by simpa using aK)]),(aW J al),(Md.trans ai<|al.mono fun _ _ h=>h.elim),aa,aa,aa,aa,aa⟩
 exact ext<|ba<|ba<|be<|tn<|⟨q,av,(by rw [← am,tI (.inr<|by simpa using aK)]),(aW J al),(Md.trans ai<|al.mono fun _ _ h=>h.elim),aa,aa,aa,aa⟩
 exact a6 4 aa G<|a6 5 aa G<|a6 6 aa G<|a6 7 aa G<|a6 8 aa G<|a6 9 aa G<|a6 10 aa G<|a6 11 aa G<|a6 12 aa G<|a6 13 aa G<|aC 14 aa (fun _ _=>bp aa) G<|hn aj<|ah<|cf aa<|ext<|ba<|ba<|be<|tn<|⟨q,av,(by rw [← am,tI (.inl ab)]),(aW J (Md.refl _ _).drew),ai.drew,aa,aa,aa,aa⟩
 rintro aD aO ⟨E,ce,aU,bs,bq,bP,bQ,bT,bS⟩
 refine fx 0 bP<|fx 1 bQ<|fx 9 bT<|fx 10 bS ?_
 refine ed (fun aF ap=> ∃ (U:Nat),(a≤U∧U≤j)∧(og (fun x=>bZ C[a]! x) C (E) (j)=U)∧(ap.ownsRow B 51 1 (.slice A n cp) n<|LE bg C)∧(Md (fun q=>(bR A n cp).ownBlock=some q) w ap)∧(aF 0= .slice A n cp)∧(aF 1=au a)∧(aF 9=au E)∧(aF 10=au U)) ?_ ?_
 refine aH<|lp (fun ac aG ao=> ∃ (q:Nat),(a≤q∧q≤j)∧(og (fun x=>bZ C[a]! x) C (E) (q)=og (fun x=>bZ C[a]! x) C (E) (j))∧(ao.ownsRow B 51 1 (.slice A n cp) n<|LE bg C)∧(Md (fun q=>(bR A n cp).ownBlock=some q) w ao)∧(aG 0= .slice A n cp)∧(aG 1=au a)∧(aG 9=au E)∧(aG 10=au q)∧(q=ac)) _ ⟨j,ab,aa,bs,bq,aa,aa,aa,aa,aa⟩ ?_
 rintro ac aG ao ⟨q,av,am,J,ai,b4,b5,b7,b6,rfl⟩
 refine fx 0 b4<|fx 1 b5<|fx 9 b7<|fx 10 b6<|aB fun ar=>aB fun ah=> ?_
 have aQ:=fP J
 have I:(fun w'=>Wk ao w') ao.drew:=(Md.refl _ _).drew
 refine bI (fun w'=>Wk ao w') aa wide I<|bF 0 aa (au E) I<|bF 1 aa (au q) I<|aC 2 aa (fun _ _=>le aa aa) I<|aC 3 aa (fun _ _=>mv) I<|iQ (t:=49) aa (fun bD=> ?_) fun bD=> ?_
 refine bh 4 aa (fun _ _=>aT (.slice A n cp) aa) I<|bh 5 aa (fun _ _=>aT (au a) aa) I<|bh 6 aa (fun _ _=>a8 bY aa aa ab<|aJ.ok ((a7 J).2)<|cy ab) I<|bh 7 aa (fun w' V=>ld cV aa<|dG (i:=a) ((a7 J).2.wk V) ab) I<|bh 8 aa (fun _ _=>aT (.slice A n cp) aa) I<|bh 9 aa (fun _ _=>aT (au q) aa) I<|bh 10 aa (fun _ _=>a8 bY aa aa ab<|aJ.ok ((a7 J).2)<|cy ab) I<|bh 11 aa (fun w' V=>ld cV aa<|dG (i:=q) ((a7 J).2.wk V) ab) I<|mB 12 aa aj aa aa aa<|cl lZ (l7 C[a]! C[q]! _) aa fun cj b9 bw=> ?_
 obtain ⟨rfl,a9⟩:=bw
 have aq:(fun w'=>Wk ao w') b9:=Md.trans I a9
 refine ⟨aq,?_⟩
 refine aC 13 aa (fun _ _=>bB aa) aq<|hn aj<|ah<|cb aa (fun aL=> ?_) fun aL=> ?_
 exact aM<|ar<|aH<|rg aa<|ak (au q)<|p (dK ((q - 1:Nat):Int) aa aa<|bj ab ab)<|p aA<|nl<|bn<|tn<|⟨_,ab,q - 1,ab,(by rw [← am,Bc (show 0 < q by omega) (show E≤q by omega) (by simpa using aL)]),(aW J aq),(Md.trans ai<|aq.mono fun _ _ h=>h.elim),aa,aa,aa,aa,aa⟩
 exact ext<|ba<|ba<|be<|tn<|⟨q,av,(by rw [← am,sU (.inr<|by simpa using aL)]),(aW J aq),(Md.trans ai<|aq.mono fun _ _ h=>h.elim),aa,aa,aa,aa⟩
 exact a6 4 aa I<|a6 5 aa I<|a6 6 aa I<|a6 7 aa I<|a6 8 aa I<|a6 9 aa I<|a6 10 aa I<|a6 11 aa I<|a6 12 aa I<|aC 13 aa (fun _ _=>bp aa) I<|hn aj<|ah<|cf aa<|ext<|ba<|ba<|be<|tn<|⟨q,av,(by rw [← am,sU (.inl ab)]),(aW J (Md.refl _ _).drew),ai.drew,aa,aa,aa,aa⟩
 rintro aF ap ⟨U,cg,aR,Z,aP,b0,b1,b3,b2⟩
 refine fx 0 b0<|fx 1 b1<|fx 9 b3<|fx 10 b2<|aB fun ar=>ag fun ah=>ak (au E)<|ak (au U)<|p (gt aa aa)<|nl<|ah<|cd aa (fun bx=> ?_) fun bx=> ?_
 refine ext<|ba<|nE az<|ba<|be<|a3<|ag fun aI=>ak (au E)<|p (cJ (au E) aa)<|nl<|aI<|rt<|aV aa ?_
 have aX:wi bZ d a b Y=(E,C):=by rw [← aS,Kb aU aR,if_pos ab]
 exact ⟨by rw [aX]; rfl,by rw [aX]; exact Z,aP⟩
 refine aM<|ar<|aB fun aI=> ?_
 have aQ:=fP Z
 have O:(fun w'=>Wk ap w') ap.drew:=(Md.refl _ _).drew
 refine eS (fun w'=>Wk ap w') 13 aa wide O<|bC 0 aa (.slice A n cp) O<|bC 1 aa (au E) O<|bC 2 aa (.slice A n cp) O<|bC 3 aa (au U) O<|bC 4 aa (.slice A n cp) O<|bC 5 aa (au U) O<|bz 6 aa (fun _=>a8 bY aa aa ab<|aJ.ok ((a7 Z).2)<|cy ab) (fun _=>O)<|dI 7 aa (fun w' V=>ld cV aa<|dG (i:=U) ((a7 Z).2.wk V) ab) O<|bC 8 aa (.slice A n cp) O<|bC 9 aa (au E) O<|bz 10 aa (fun _=>a8 bY aa aa ab<|aJ.ok ((a7 Z).2)<|cy ab) (fun _=>O)<|dI 11 aa (fun w' V=>ld cV aa<|dG (i:=E) ((a7 Z).2.wk V) ab) O<|bz 12 aa (fun _=>a8 bY aa aa ab<|aJ.ok ((a7 Z).2)<|cy ab) (fun _=>O)<|dH 13 aa aj aj<|gx (u:=C[U]!) (E) (aW Z O) gp aa aa aa ab fun cm bl bJ=> ?_
 refine bz 14 aa (fun _=>a8 bY aa aa ab<|aJ.ok ((a7 Z).2)<|cy ab) (fun h=>ee<|(show true =_ from by kernel_rfl).trans h)<|dH 15 aa aj aj<|gx (u:=C[E]!) (U) bJ gp aa aa aa ab fun aZ bo bK=> ?_
 have bu:aZ.ownsRow B 51 1 (.slice A n cp) n (LE bg<|cM C (E)<|U):=bK
 have bk:Md (fun q=>(bR A n cp).ownBlock=some q) ap aZ:=Md.trans (O.mono fun _ _ h=>h.elim)<|Md.trans bl bo
 refine eR aj<|aI<|ag fun a4=>ak (au E)<|p (bE ((E+1:Nat):Int) aa aa<|bj ab ab)<|aw<|a4 ?_
 exact rg aa<|ak (au U)<|p (dK ((U - 1:Nat):Int) aa aa<|bj ab ab)<|p aA<|nl<|bn<|tn<|⟨_,ab,E+1,U - 1,cM C E U,ab,(by rw [← aS,Kb aU aR,if_neg ab,if_pos ab]),bu,(Md.trans aP bk),aa,aa,aa,aa,aa⟩
end Go.Hb
end
section
namespace Go.Hb
open Go.Hb.dT
theorem WH {d:Array Nat} {a b s i i2:Nat} (q:0 < s) (h:tZ bZ d b i=i2) (h1:i2=b):qZ bZ a b s i d=(d,true):=by
 cases s with
 | zero=>omega
 | succ s=>rw [qZ]; simp only [h,if_pos h1]
theorem pi_short {d:Array Nat} {a b s i i2:Nat} (q:0 < s) (h:tZ bZ d b i=i2) (h1:¬i2=b) (h2:b - a < 50):qZ bZ a b s i d=(d,false):=by
 cases s with
 | zero=>omega
 | succ s=>rw [qZ]; simp only [h,if_neg h1,if_pos h2]
theorem pi_go {d q A:Array Nat} {a b s i i2:Nat} (G:0 < s) (h:tZ bZ d b i=i2) (h1:¬i2=b) (h2:¬b - a < 50)
 (C:q=if i2 - a≥2 then zw bZ (i2 - 1) (cM d i2<|i2 - 1) else cM d i2 (i2 - 1)) (E:A=if b - i2≥2 then Ep bZ b (i2+1) q else q):
 qZ bZ a b s i d=qZ bZ a b (s - 1) i2 A:=by
 cases s with
 | zero=>omega
 | succ s=>rw [qZ]; simp only [h,if_neg h1,if_neg h2]; rw [← C,← E]; rfl
theorem WK (d:Array Nat) (a b:Nat) (B n cp:Nat) (A:Option Addr) (w:World) (cc:w.ownsRow B 51 1 (.slice A n cp) n (LE bg d)) (db:a < b∧b≤n) (df:n≤1099511627776):
 bm ay 288 (bf [.slice A n cp,au a,au b]) w (fun v w'=>v= .bool (tY bZ d a b).2∧w'.ownsRow B 51 1 (.slice A n cp) n (LE bg (tY bZ d a b).1)∧Md (fun q=>(bR A n cp).ownBlock=some q) w w'):=by
 refine enter func288 aa ntmps288 aa<|ag fun bQ=>aw<|bQ<|ag fun bT=>ak (au a)<|p (bE ((a+1:Nat):Int) aa aa<|bj ab ab)<|aw<|bT<|aB fun bU=>ag fun bV=>p aA<|nl<|bV<|aH<|lp (fun V aK bx=> ∃ (s i:Nat) (G:Array Nat),(a+1≤i∧i≤b∧s≤5)∧(qZ bZ a b (5 - s) i G=(tY bZ d a b))∧(bx.ownsRow B 51 1 (.slice A n cp) n<|LE bg G)∧(Md (fun q=>(bR A n cp).ownBlock=some q) w bx)∧(aK 0= .slice A n cp)∧(aK 1=au a)∧(aK 2=au b)∧(aK 7=au i)∧(aK 8=au s)∧(5 - s=V)) _ ⟨0,a+1,d,ab,aa,cc,(Md.refl _ _),aa,aa,aa,aa,aa,aa⟩ ?_
 rintro V aK bx ⟨s,i,G,hi,aI,bH,bA,cC,cD,cE,cF,cG,rfl⟩
 refine fx 0 cC<|fx 1 cD<|fx 2 cE<|fx 7 cF<|fx 8 cG<|aB fun bW=>ag fun bX=>ak (au s)<|p (lt aa aa)<|nl<|bX<|cd aa (fun cm=> ?_) fun cm=> ?_
 refine aM<|bW<|aB fun aP=>aH ?_
 refine ed (fun aL aq=> ∃ (i2:Nat),(i≤i2∧i2≤b)∧(tZ bZ G b i=i2)∧(aq.ownsRow B 51 1 (.slice A n cp) n<|LE bg G)∧(Md (fun q=>(bR A n cp).ownBlock=some q) w aq)∧(aL 0= .slice A n cp)∧(aL 1=au a)∧(aL 2=au b)∧(aL 7=au i2)∧(aL 8=au s)) ?_ ?_
 refine aH<|lp (fun V aN ax=> ∃ (q:Nat),(i≤q∧q≤b)∧(tZ bZ G b q=tZ bZ G b i)∧(ax.ownsRow B 51 1 (.slice A n cp) n<|LE bg G)∧(Md (fun q=>(bR A n cp).ownBlock=some q) w ax)∧(aN 0= .slice A n cp)∧(aN 1=au a)∧(aN 2=au b)∧(aN 7=au q)∧(aN 8=au s)∧(b - q=V)) _ ⟨i,ab,aa,bH,bA,aa,aa,aa,aa,aa,aa⟩ ?_
 rintro V aN ax ⟨q,bM,bt,ae,bd,cN,cO,cP,cQ,cR,rfl⟩
 refine fx 0 cN<|fx 1 cO<|fx 2 cP<|fx 7 cQ<|fx 8 cR<|aB fun bb=>aB fun aU=> ?_
 have ct:=fP ae
 have C:(fun w'=>Wk ax w') ax.drew:=(Md.refl _ _).drew
 refine bI (fun w'=>Wk ax w') aa wide C<|bF 0 aa (au q) C<|bF 1 aa (au b) C<|aC 2 aa (fun _ _=>lt aa aa) C<|aC 3 aa (fun _ _=>mv) C<|iQ (t:=20) aa (fun cu=> ?_) fun cu=> ?_
 refine bh 4 aa (fun _ _=>aT (.slice A n cp) aa) C<|bh 5 aa (fun _ _=>aT (au q) aa) C<|bh 6 aa (fun _ _=>a8 bY aa aa ab<|aJ.ok ((a7 ae).2)<|cy ab) C<|bh 7 aa (fun w' E=>ld cV aa<|dG (i:=q) ((a7 ae).2.wk E) ab) C<|bh 8 aa (fun _ _=>aT (.slice A n cp) aa) C<|bh 9 aa (fun _ _=>aT (au q) aa) C<|bh 10 aa (fun _ _=>dK ((q - 1:Nat):Int) aa aa<|bj ab ab) C<|bh 11 aa (fun _ _=>a8 bY aa aa ab<|aJ.ok ((a7 ae).2)<|cy ab) C<|bh 12 aa (fun w' E=>ld cV aa<|dG (i:=q - 1) ((a7 ae).2.wk E) ab) C<|mB 13 aa aj aa aa aa<|cl lZ (l7 G[q]! G[q - 1]! _) aa fun v30 da ci=> ?_
 obtain ⟨rfl,b1⟩:=ci
 have ap:(fun w'=>Wk ax w') da:=Md.trans C b1
 refine ⟨ap,?_⟩
 refine bh 14 aa (fun _ _=>no aa) ap<|aC 15 aa (fun _ _=>bB aa) ap<|hn aj<|aU<|cb aa (fun bo=> ?_) fun bo=> ?_
 exact aM<|bb<|aH<|rg aa<|ak (au q)<|p (bE ((q+1:Nat):Int) aa aa<|bj ab ab)<|p aA<|nl<|bn<|tn<|⟨_,ab,q+1,ab,(by rw [← bt,Yb (show q < b by omega) (by simpa using bo)]),(aW ae ap),(Md.trans bd<|ap.mono fun _ _ h=>h.elim),aa,aa,aa,aa,aa,aa⟩
 exact ext<|ba<|ba<|be<|tn<|⟨q,ab,(by rw [← bt,Lf (.inr<|by simpa using bo)]),(aW ae ap),(Md.trans bd<|ap.mono fun _ _ h=>h.elim),aa,aa,aa,aa,aa⟩
 exact a6 4 aa C<|a6 5 aa C<|a6 6 aa C<|a6 7 aa C<|a6 8 aa C<|a6 9 aa C<|a6 10 aa C<|a6 11 aa C<|a6 12 aa C<|a6 13 aa C<|a6 14 aa C<|aC 15 aa (fun _ _=>bp aa) C<|hn aj<|aU<|cf aa<|ext<|ba<|ba<|be<|tn<|⟨q,ab,(by rw [← bt,Lf (.inl ab)]),(aW ae (Md.refl _ _).drew),bd.drew,aa,aa,aa,aa,aa⟩
 rintro aL aq ⟨i2,de,aQ,ac,aX,cH,cI,cJ,cK,cL⟩
 refine fx 0 cH<|fx 1 cI<|fx 2 cJ<|fx 7 cK<|fx 8 cL<|aB fun bb=>ag fun aU=>ak (au i2)<|ak (au b)<|p (bJ aa aa)<|nl<|aU<|cd aa (fun cn=> ?_) fun cn=> ?_
 refine ag fun aY=>aw<|aY<|rt<|tr<|br<|tr<|tr<|br<|tr<|aV aa ?_
 have al:(tY bZ d a b)=(G,true):=by rw [← aI,WH (show 0 < 5 - s by omega) aQ ab]
 exact ⟨by rw [al]; rfl,by rw [al]; exact ac,aX⟩
 have bc:¬i2=b:=ab
 refine aM<|bb<|aB fun aY=>ag fun bS=>ak (au b)<|ak (au a)<|p (dK ((b - a:Nat):Int) aa aa<|bj ab ab)<|p (lt aa aa)<|nl<|bS<|cd aa (fun co=> ?_) fun co=> ?_
 refine ag fun aZ=>aw<|aZ<|rt<|tr<|br<|tr<|tr<|br<|tr<|aV aa ?_
 have al:(tY bZ d a b)=(G,false):=by rw [← aI,pi_short (show 0 < 5 - s by omega) aQ ab ab]
 exact ⟨by rw [al]; rfl,by rw [al]; exact ac,aX⟩
 refine aM<|aY<|aB fun aZ=> ?_
 have ct:=fP ac
 have I:(fun w'=>Wk aq w') aq.drew:=(Md.refl _ _).drew
 refine eS (fun w'=>Wk aq w') 15 aa wide I<|bC 0 aa (.slice A n cp) I<|bC 1 aa (au i2) I<|bC 2 aa (.slice A n cp) I<|bC 3 aa (au i2) I<|bz 4 aa (fun _=>dK ((i2 - 1:Nat):Int) aa aa<|bj ab ab) (fun _=>I)<|bC 5 aa (.slice A n cp) I<|bC 6 aa (au i2) I<|bz 7 aa (fun _=>dK ((i2 - 1:Nat):Int) aa aa<|bj ab ab) (fun _=>I)<|bz 8 aa (fun _=>a8 bY aa aa ab<|aJ.ok ((a7 ac).2)<|cy ab) (fun _=>I)<|dI 9 aa (fun w' E=>ld cV aa<|dG (i:=i2 - 1) ((a7 ac).2.wk E) ab) I<|bC 10 aa (.slice A n cp) I<|bC 11 aa (au i2) I<|bz 12 aa (fun _=>a8 bY aa aa ab<|aJ.ok ((a7 ac).2)<|cy ab) (fun _=>I)<|dI 13 aa (fun w' E=>ld cV aa<|dG (i:=i2) ((a7 ac).2.wk E) ab) I<|bz 14 aa (fun _=>a8 bY aa aa ab<|aJ.ok ((a7 ac).2)<|cy ab) (fun _=>I) ?_
 refine dH 15 aa aj aj<|gx (u:=G[i2 - 1]!) (i2) (aW ac I) gp aa aa aa ab fun di b3 cv=>bz 16 aa (fun _=>a8 bY aa aa ab<|aJ.ok ((a7 ac).2)<|cy ab) (fun h=>ee<|(show true =_ from by kernel_rfl).trans h)<|dH 17 aa aj aj<|gx (u:=G[i2]!) (i2 - 1) cv gp aa aa aa ab fun bN b4 cw=> ?_
 have bL:bN.ownsRow B 51 1 (.slice A n cp) n (LE bg<|cM G (i2)<|i2 - 1):=cw
 have bD:Md (fun q=>(bR A n cp).ownBlock=some q) aq bN:=Md.trans (I.mono fun _ _ h=>h.elim)<|Md.trans b3 b4
 refine eR aj<|aZ ?_
 refine ed (fun aO bw=> ∃ (am:Array Nat),(am=if i2 - a≥2 then zw bZ (i2 - 1) (cM G i2<|i2 - 1) else (cM G i2<|i2 - 1))∧(bw.ownsRow B 51 1 (.slice A n cp) n<|LE bg am)∧(Md (fun q=>(bR A n cp).ownBlock=some q) w bw)∧(aO 0= .slice A n cp)∧(aO 1=au a)∧(aO 2=au b)∧(aO 7=au i2)∧(aO 8=au s)) ?_ ?_
 refine ag fun a0=>ak (au i2)<|ak (au a)<|p (dK ((i2 - a:Nat):Int) aa aa<|bj ab ab)<|p (ge aa aa)<|nl<|a0<|cd aa (fun cq=> ?_) fun cq=> ?_
 refine ag fun a1=>ak (au i2)<|p (dK ((i2 - 1:Nat):Int) aa aa<|bj ab ab)<|aw<|a1<|aH<|lp (fun V aD ar=> ∃ (q:Nat) (U:Array Nat),(q≤i2 - 1)∧(zw bZ q U=zw bZ (i2 - 1) (cM G i2<|i2 - 1))∧(ar.ownsRow B 51 1 (.slice A n cp) n<|LE bg U)∧(Md (fun q=>(bR A n cp).ownBlock=some q) w ar)∧(aD 0= .slice A n cp)∧(aD 1=au a)∧(aD 2=au b)∧(aD 7=au i2)∧(aD 8=au s)∧(aD 9=au q)∧(q=V)) _ ⟨i2 - 1,(cM G i2<|i2 - 1),ab,aa,bL,(Md.trans aX bD),aa,aa,aa,aa,aa,aa,aa⟩ ?_
 rintro V aD ar ⟨q,U,bM,bu,ah,bi,cY,cZ,c0,c1,c2,c3,rfl⟩
 refine fx 0 cY<|fx 1 cZ<|fx 2 c0<|fx 7 c1<|fx 8 c2<|fx 9 c3<|aB fun a2=>ag fun a3=>ak (au q)<|p (ge aa aa)<|nl<|a3<|cd aa (fun cr=> ?_) fun cr=> ?_
 refine aM<|a2<|aB fun a4=>aH<|aB fun a5=>aB fun a9=> ?_
 have dc:=fP ah
 have Y:(fun w'=>Wk ar w') ar.drew:=(Md.refl _ _).drew
 refine bI (fun w'=>Wk ar w') aa wide Y<|bF 0 aa (.slice A n cp) Y<|bF 1 aa (au q) Y<|aC 2 aa (fun _ _=>a8 bY aa aa ab<|aJ.ok ((a7 ah).2)<|cy ab) Y<|aC 3 aa (fun w' E=>ld cV aa<|dG (i:=q) ((a7 ah).2.wk E) ab) Y<|bF 4 aa (.slice A n cp) Y<|bF 5 aa (au q) Y<|aC 6 aa (fun _ _=>dK ((q - 1:Nat):Int) aa aa<|bj ab ab) Y<|aC 7 aa (fun _ _=>a8 bY aa aa ab<|aJ.ok ((a7 ah).2)<|cy ab) Y<|aC 8 aa (fun w' E=>ld cV aa<|dG (i:=q - 1) ((a7 ah).2.wk E) ab) Y<|he 9 aa aj<|cl lZ (l7 U[q]! U[q - 1]! _) aa fun dh aS cj=> ?_
 obtain ⟨rfl,b2⟩:=cj
 have aF:(fun w'=>Wk ar w') aS:=Md.trans Y b2
 refine ⟨aF,?_⟩
 refine aC 10 aa (fun _ _=>no aa) aF<|hn aj<|a9<|cb aa (fun bq=> ?_) fun bq=> ?_
 exact ext<|ba<|nE az<|ba<|ba<|be<|tn<|⟨U,(by rw [if_pos ab,← bu,KI (.inr<|by simpa using bq)]),(aW ah aF),(Md.trans bi<|aF.mono fun _ _ h=>h.elim),aa,aa,aa,aa,aa⟩
 refine aM<|a5 ?_
 have an:=aW ah aF
 have J:(fun w'=>Wk aS w') aS.drew:=(Md.refl _ _).drew
 refine eS (fun w'=>Wk aS w') 15 aa wide J<|bC 0 aa (.slice A n cp) J<|bC 1 aa (au q) J<|bC 2 aa (.slice A n cp) J<|bC 3 aa (au q) J<|bz 4 aa (fun _=>dK ((q - 1:Nat):Int) aa aa<|bj ab ab) (fun _=>J)<|bC 5 aa (.slice A n cp) J<|bC 6 aa (au q) J<|bz 7 aa (fun _=>dK ((q - 1:Nat):Int) aa aa<|bj ab ab) (fun _=>J)<|bz 8 aa (fun _=>a8 bY aa aa ab<|aJ.ok ((a7 an).2)<|cy ab) (fun _=>J)<|dI 9 aa (fun w' E=>ld cV aa<|dG (i:=q - 1) ((a7 an).2.wk E) ab) J<|bC 10 aa (.slice A n cp) J<|bC 11 aa (au q) J<|bz 12 aa (fun _=>a8 bY aa aa ab<|aJ.ok ((a7 an).2)<|cy ab) (fun _=>J)<|dI 13 aa (fun w' E=>ld cV aa<|dG (i:=q) ((a7 an).2.wk E) ab) J<|bz 14 aa (fun _=>a8 bY aa aa ab<|aJ.ok ((a7 an).2)<|cy ab) (fun _=>J) ?_
 refine dH 15 aa aj aj<|gx (u:=U[q - 1]!) (q) (aW an J) gp aa aa aa ab fun dj b6 cx=>bz 16 aa (fun _=>a8 bY aa aa ab<|aJ.ok ((a7 an).2)<|cy ab) (fun h=>ee<|(show true =_ from by kernel_rfl).trans h)<|dH 17 aa aj aj<|gx (u:=U[q]!) (q - 1) cx gp aa aa aa ab fun bO b7 cz=> ?_
 have ce:bO.ownsRow B 51 1 (.slice A n cp) n (LE bg<|cM U (q)<|q - 1):=cz
 have b5:Md (fun q=>(bR A n cp).ownBlock=some q) aS bO:=Md.trans (J.mono fun _ _ h=>h.elim)<|Md.trans b6 b7
 exact eR aj<|bn<|a4<|rg aa<|ak (au q)<|p (dK ((q - 1:Nat):Int) aa aa<|bj ab ab)<|p aA<|nl<|tn<|⟨_,ab,q - 1,cM U q (q - 1),ab,(by rw [← bu,XG (show 0 < q by omega) (by simpa using bq)]),ce,(Md.trans bi<|Md.trans (aF.mono fun _ _ h=>h.elim) b5),aa,aa,aa,aa,aa,aa,aa⟩
 exact ext<|ba<|ba<|be<|tn<|⟨U,(by rw [if_pos ab,← bu,KI (.inl ab)]),ah,bi,aa,aa,aa,aa,aa⟩
 exact aM<|tn<|⟨(cM G i2<|i2 - 1),(by rw [if_neg ab]),bL,(Md.trans aX bD),aa,aa,aa,aa,aa⟩
 rintro aO bw ⟨am,bs,bK,bG,cS,cT,cU,cW,cX⟩
 refine fx 0 cS<|fx 1 cT<|fx 2 cU<|fx 7 cW<|fx 8 cX<|ag fun a0=>ak (au b)<|ak (au i2)<|p (dK ((b - i2:Nat):Int) aa aa<|bj ab ab)<|p (ge aa aa)<|nl<|a0<|cd aa (fun cs=> ?_) fun cs=> ?_
 refine ag fun a1=>ak (au i2)<|p (bE ((i2+1:Nat):Int) aa aa<|bj ab ab)<|aw<|a1<|aH<|lp (fun V aE av=> ∃ (q:Nat) (O:Array Nat),(i2+1≤q∧q≤b)∧(Ep bZ b q O=Ep bZ b (i2+1) am)∧(av.ownsRow B 51 1 (.slice A n cp) n<|LE bg O)∧(Md (fun q=>(bR A n cp).ownBlock=some q) w av)∧(aE 0= .slice A n cp)∧(aE 1=au a)∧(aE 2=au b)∧(aE 7=au i2)∧(aE 8=au s)∧(aE 10=au q)∧(b - q=V)) _ ⟨i2+1,am,ab,aa,bK,bG,aa,aa,aa,aa,aa,aa,aa⟩ ?_
 rintro V aE av ⟨q,O,bM,bv,ai,bk,c4,c5,c7,c8,c9,c6,rfl⟩
 refine fx 0 c4<|fx 1 c5<|fx 2 c7<|fx 7 c8<|fx 8 c9<|fx 10 c6<|aB fun a2=>ag fun a3=>ak (au q)<|ak (au b)<|p (lt aa aa)<|nl<|a3<|cd aa (fun ck=> ?_) fun ck=> ?_
 refine aM<|a2<|aB fun a4=>aH<|aB fun a5=>aB fun a9=> ?_
 have dd:=fP ai
 have Z:(fun w'=>Wk av w') av.drew:=(Md.refl _ _).drew
 refine bI (fun w'=>Wk av w') aa wide Z<|bF 0 aa (.slice A n cp) Z<|bF 1 aa (au q) Z<|aC 2 aa (fun _ _=>a8 bY aa aa ab<|aJ.ok ((a7 ai).2)<|cy ab) Z<|aC 3 aa (fun w' E=>ld cV aa<|dG (i:=q) ((a7 ai).2.wk E) ab) Z<|bF 4 aa (.slice A n cp) Z<|bF 5 aa (au q) Z<|aC 6 aa (fun _ _=>dK ((q - 1:Nat):Int) aa aa<|bj ab ab) Z<|aC 7 aa (fun _ _=>a8 bY aa aa ab<|aJ.ok ((a7 ai).2)<|cy ab) Z<|aC 8 aa (fun w' E=>ld cV aa<|dG (i:=q - 1) ((a7 ai).2.wk E) ab) Z<|he 9 aa aj<|cl lZ (l7 O[q]! O[q - 1]! _) aa fun dg aR ch=> ?_
 obtain ⟨rfl,b0⟩:=ch
 have aG:(fun w'=>Wk av w') aR:=Md.trans Z b0
 refine ⟨aG,?_⟩
 refine aC 10 aa (fun _ _=>no aa) aG<|hn aj<|a9<|cb aa (fun bl=> ?_) fun bl=> ?_
 exact ext<|ba<|nE az<|ba<|ba<|be<|bn<|aP<|rg aa<|ak (au s)<|p (bE ((s+1:Nat):Int) aa aa<|bj ab ab)<|p aA<|nl<|tn<|⟨_,ab,s+1,i2,O,ab,(by rw [← aI,pi_go (show 0 < 5 - s by omega) aQ bc ab bs (show O=_ by rw [if_pos ab,← bv,Lp (.inr<|by simpa using bl)])]; rfl),(aW ai aG),(Md.trans bk<|aG.mono fun _ _ h=>h.elim),aa,aa,aa,aa,aa,aa⟩
 refine aM<|a5 ?_
 have ao:=aW ai aG
 have M:(fun w'=>Wk aR w') aR.drew:=(Md.refl _ _).drew
 refine eS (fun w'=>Wk aR w') 15 aa wide M<|bC 0 aa (.slice A n cp) M<|bC 1 aa (au q) M<|bC 2 aa (.slice A n cp) M<|bC 3 aa (au q) M<|bz 4 aa (fun _=>dK ((q - 1:Nat):Int) aa aa<|bj ab ab) (fun _=>M)<|bC 5 aa (.slice A n cp) M<|bC 6 aa (au q) M<|bz 7 aa (fun _=>dK ((q - 1:Nat):Int) aa aa<|bj ab ab) (fun _=>M)<|bz 8 aa (fun _=>a8 bY aa aa ab<|aJ.ok ((a7 ao).2)<|cy ab) (fun _=>M)<|dI 9 aa (fun w' E=>ld cV aa<|dG (i:=q - 1) ((a7 ao).2.wk E) ab) M<|bC 10 aa (.slice A n cp) M<|bC 11 aa (au q) M<|bz 12 aa (fun _=>a8 bY aa aa ab<|aJ.ok ((a7 ao).2)<|cy ab) (fun _=>M)<|dI 13 aa (fun w' E=>ld cV aa<|dG (i:=q) ((a7 ao).2.wk E) ab) M<|bz 14 aa (fun _=>a8 bY aa aa ab<|aJ.ok ((a7 ao).2)<|cy ab) (fun _=>M) ?_
 refine dH 15 aa aj aj<|gx (u:=O[q - 1]!) (q) (aW ao M) gp aa aa aa ab fun dk b9 cA=>bz 16 aa (fun _=>a8 bY aa aa ab<|aJ.ok ((a7 ao).2)<|cy ab) (fun h=>ee<|(show true =_ from by kernel_rfl).trans h)<|dH 17 aa aj aj<|gx (u:=O[q]!) (q - 1) cA gp aa aa aa ab fun bP ca cB=> ?_
 have cg:bP.ownsRow B 51 1 (.slice A n cp) n (LE bg<|cM O (q)<|q - 1):=cB
 have b8:Md (fun q=>(bR A n cp).ownBlock=some q) aR bP:=Md.trans (M.mono fun _ _ h=>h.elim)<|Md.trans b9 ca
 exact eR aj<|bn<|a4<|rg aa<|ak (au q)<|p (bE ((q+1:Nat):Int) aa aa<|bj ab ab)<|p aA<|nl<|tn<|⟨_,ab,q+1,cM O q (q - 1),ab,(by rw [← bv,Yr (show q < b by omega) (by simpa using bl)]),cg,(Md.trans bk<|Md.trans (aG.mono fun _ _ h=>h.elim) b8),aa,aa,aa,aa,aa,aa,aa⟩
 exact ext<|ba<|ba<|be<|bn<|aP<|rg aa<|ak (au s)<|p (bE ((s+1:Nat):Int) aa aa<|bj ab ab)<|p aA<|nl<|tn<|⟨_,ab,s+1,i2,O,ab,(by rw [← aI,pi_go (show 0 < 5 - s by omega) aQ bc ab bs (show O=_ by rw [if_pos ab,← bv,Lp (.inl ab)])]; rfl),ai,bk,aa,aa,aa,aa,aa,aa⟩
 exact aM<|bn<|aP<|rg aa<|ak (au s)<|p (bE ((s+1:Nat):Int) aa aa<|bj ab ab)<|p aA<|nl<|tn<|⟨_,ab,s+1,i2,am,ab,(by rw [← aI,pi_go (show 0 < 5 - s by omega) aQ bc ab bs (show am=_ by rw [if_neg ab])]; rfl),bK,bG,aa,aa,aa,aa,aa,aa⟩
 refine ext<|ba<|ba<|be<|bU<|ag fun aP=>p aA<|nl<|aP<|rt<|aV aa ?_
 have al:(tY bZ d a b)=(G,false):=by rw [← aI,show 5 - s=0 by omega]; rfl
 exact ⟨by rw [al]; rfl,by rw [al]; exact bH,bA⟩
end Go.Hb
end
section
namespace Go.Hb
open Go.Hb.dT
theorem Wy (d:Array Nat) (a b A:Nat) (B n cp:Nat) (i:Option Addr) (w:World) (E:w.ownsRow B 51 1 (.slice i n cp) n (LE bg d)) (G:a≤A∧A < b∧b≤n) (I:n≤1099511627776):bm ay 291 (bf [.slice i n cp,.int .i64 (a:Nat),.int .i64 (b:Nat),.int .i64 (A:Nat)]) w
 (fun v w'=> ∃ C ap d4,q4 bZ d a b A=(C,ap,d4)∧v= .tuple #[.int .i64 (C:Nat),.bool ap]∧w'.ownsRow B 51 1 (.slice i n cp) n (LE bg d4)∧Md (fun q=>(bR i n cp).ownBlock=some q) w w'):=
 (Wx d a b A B n cp i w E G I).mono fun _ _ h=>⟨_,_,_,rfl,h⟩
theorem WA (d:Array Nat) (a b A:Nat) (B n cp:Nat) (i:Option Addr) (w:World) (E:w.ownsRow B 51 1 (.slice i n cp) n (LE bg d)) (G:a≤A∧A < b∧b≤n) (I:n≤1099511627776):bm ay 290 (bf [.slice i n cp,.int .i64 (a:Nat),.int .i64 (b:Nat),.int .i64 (A:Nat)]) w
 (fun v w'=> ∃ C d4,wi bZ d a b A=(C,d4)∧v= .int .i64 (C:Nat)∧w'.ownsRow B 51 1 (.slice i n cp) n (LE bg d4)∧Md (fun q=>(bR i n cp).ownBlock=some q) w w'):=
 (Wz d a b A B n cp i w E G I).mono fun _ _ h=>⟨_,_,rfl,h⟩
theorem WC (m:Nat) (d:Array Nat) (a b lim:Nat) (B n cp:Nat) (E:Option Addr) (w:World) (bw:w.ownsRow B 51 1 (.slice E n cp) n (LE bg d)) (hm:b - a < m) (dr:a≤b∧b≤n) (cI:n≤255) (dx:lim≤64) (bV:El bZ a b d):
 bm ay 268 (bf [.slice E n cp,au a,au b,au lim]) w (fun v w'=> ∃ d1,v= .tuple #[]∧od a b d d1∧tX bZ a b d1∧w'.ownsRow B 51 1 (.slice E n cp) n (LE bg d1)∧Md (fun q=>(bR E n cp).ownBlock=some q) w w'):=by
 have bK:True:=trivial
 induction m generalizing d a b lim w with
 | zero=>omega
 | succ m bK=>
   have bH:∀ (d:Array Nat) (a b lim:Nat) (w:World),w.ownsRow B 51 1 (.slice E n cp) n (LE bg d)→b - a < m→(a≤b∧b≤n)→lim≤64→El bZ a b d→_:=fun d a b lim w h1 h2 h3 h4 h5=>bK d a b lim w h1 h2 h3 h4 h5
   have dw:=fP bw
   refine enter func268 aa ntmps268 aa<|ag fun bM=>aw<|bM<|ag fun bP=>p aA<|nl<|bP<|aH<|lp (fun bq an bo=> ∃ (A C ae:Nat) (wb wp:Bool) (I:Array Nat),(a≤A∧A≤C∧C≤b∧ae≤64)∧(El bZ A C I)∧(∀ R,od A C I R→tX bZ A C R→od a b d R∧tX bZ a b R)∧(bo.ownsRow B 51 1 (.slice E n cp) n<|LE bg I)∧(Md (fun q=>(bR E n cp).ownBlock=some q) w bo)∧(an 0= .slice E n cp)∧(an 1=au A)∧(an 2=au C)∧(an 3=au ae)∧(an 8= .bool wb)∧(an 9= .bool wp)∧(C - A=bq)) _ ⟨a,b,lim,true,true,d,ab,bV,(fun R h1 h2=>⟨h1,h2⟩),bw,(Md.refl _ _),aa,aa,aa,aa,aa,aa,aa⟩ ?_
   rintro bq an bo ⟨A,C,ae,wb,wp,I,dA,aU,ao,aD,aN,cK,cL,cM,cN,cO,cP,rfl⟩
   refine fx 0 cK<|fx 1 cL<|fx 2 cM<|fx 3 cN<|fx 8 cO<|fx 9 cP ?_
   have dv:=fP aD
   refine aH<|ag fun bQ=>ak (au C)<|ak (au A)<|p (dK ((C - A:Nat):Int) aa aa<|bj ab ab)<|p aA<|nl<|bQ<|aB fun bS=>ag fun bT=>p mv<|p (le aa aa)<|nl<|bT ?_
   refine cd aa (fun ct=> ?_) fun ct=> ?_
   refine ag fun aS=>ak (.slice E n cp)<|ak (au A)<|ak (au C)<|e<|cl PT (UQ I A C B n cp E _ aD ab ab) aa fun dD dN ch=> ?_
   obtain ⟨rfl,b6,b0⟩:=ch
   refine nl<|aS<|rt<|tr<|br<|tr<|br<|qt aa ?_
   obtain ⟨h1,h2⟩:=Go.Sort.insertionSort_holds vd I A C ab ab
   obtain ⟨aK,aL⟩:=ao _ (h1)<|h2
   exact ⟨_,aa,aK,aL,b6,Md.trans aN b0⟩
   refine aM<|bS<|aB fun aS=>ag fun bU=>ak (au ae)<|p (bJ aa aa)<|nl<|bU<|cd aa (fun cu=> ?_) fun cu=> ?_
   refine ag fun av=>ak (.slice E n cp)<|ak (au A)<|ak (au C)<|e<|cl PU (Uw I A C B n cp E _ aD ab ab) aa fun dE dO ci=> ?_
   obtain ⟨rfl,b7,b1⟩:=ci
   refine nl<|av<|rt<|tr<|br<|tr<|br<|qt aa ?_
   obtain ⟨h1,h2⟩:=Go.Sort.heapSort_holds vd I A C ab ab
   obtain ⟨aK,aL⟩:=ao _ (h1)<|h2
   exact ⟨_,aa,aK,aL,b7,Md.trans aN b1⟩
   refine aM<|aS ?_
   refine ed (fun ah bi=> ∃ (J:Nat) (d1:Array Nat),(J≤64)∧(od A C I d1)∧(bi.ownsRow B 51 1 (.slice E n cp) n<|LE bg d1)∧(Md (fun q=>(bR E n cp).ownBlock=some q) w bi)∧(ah 0= .slice E n cp)∧(ah 1=au A)∧(ah 2=au C)∧(ah 3=au J)∧(ah 8= .bool wb)∧(ah 9= .bool wp)∧(ah 10=au (C - A))) ?_ ?_
   refine ag fun av=>ak (.bool wb)<|p (no aa)<|nl<|av<|cb aa (fun cv=> ?_) fun cv=> ?_
   refine ag fun O=>ak (.slice E n cp)<|ak (au A)<|ak (au C)<|e<|cl PV (OB I A C B n cp E _ aD ab cI) aa fun dF dP cj=> ?_
   obtain ⟨d1,rfl,cJ,b8,b2⟩:=cj
   exact nl<|O<|rg aa<|ak (au ae)<|p (dK ((ae - 1:Nat):Int) aa aa<|bj ab ab)<|p aA<|nl<|tn<|⟨ae - 1,d1,ab,cJ,b8,(Md.trans aN b2),aa,aa,aa,aa,aa,aa,aa⟩
   exact aM<|tn<|⟨ae,I,ab,(MY I A C),aD,aN,aa,aa,aa,aa,aa,aa,aa⟩
   rintro ah bi ⟨J,d1,dy,bG,cc,b5,cQ,cR,cT,cU,cW,cX,cS⟩
   refine fx 0 cQ<|fx 1 cR<|fx 2 cT<|fx 3 cU<|fx 8 cW<|fx 9 cX<|fx 10 cS<|ag fun av=>ak (.slice E n cp)<|ak (au A)<|ak (au C)<|e<|cl PW (QI d1 A C B n cp E _ cc ab ab) aa fun v46 dQ ck=> ?_
   obtain ⟨aP,dp,rfl,dz,aY,bW⟩:=ck
   have bs:=Md.trans b5<|bW.mono fun _ _ h=>h.elim
   refine p mv<|p (xt aa aa)<|p (xt aa aa)<|p aA<|aw<|av ?_
   refine ed (fun V bk=> ∃ (M:Nat) (bc:Int) (d2:Array Nat),(A≤M∧M < C)∧(od A C I d2)∧(bk.ownsRow B 51 1 (.slice E n cp) n<|LE bg d2)∧(Md (fun q=>(bR E n cp).ownBlock=some q) w bk)∧(V 0= .slice E n cp)∧(V 1=au A)∧(V 2=au C)∧(V 3=au J)∧(V 8= .bool wb)∧(V 9= .bool wp)∧(V 10=au (C - A))∧(V 11=au M)∧(V 12= .int .i64 bc)) ?_ ?_
   refine ag fun O=>p mv<|p (bJ aa aa)<|nl<|O<|cd aa (fun cw=> ?_) fun cw=> ?_
   refine ag fun ai=>ak (.slice E n cp)<|ak (au A)<|ak (au C)<|e<|cl PX (Xc d1 A C B n cp E _ aY ab ab) aa fun dH dR cm=> ?_
   obtain ⟨rfl,b9,b3⟩:=cm
   have ds:=fP aY
   exact nl<|ai<|ag fun ar=>ak (au C)<|p (dK ((C - 1:Nat):Int) aa aa<|bj ab ab)<|p mv<|ak (au A)<|p (dK ((aP - A:Nat):Int) aa aa<|bj ab ab)<|p (dK ((C - 1 - (aP - A):Nat):Int) aa aa<|bj ab ab)<|aw<|ar<|rg aa<|p aA<|nl<|tn<|⟨C - 1 - (aP - A),1,Eo d1 A C,ab,(sg _ _ _ A C bG<|Go.Sort.reverseRange_holds d1 A C ab ab),b9,(Md.trans bs b3),aa,aa,aa,aa,aa,aa,aa,aa,aa⟩
   exact aM<|tn<|⟨aP,dp,d1,ab,bG,aY,bs,aa,aa,aa,aa,aa,aa,aa,aa,aa⟩
   rintro V bk ⟨M,bc,d2,aO,aq,aF,az,cY,cZ,c3,c4,c5,c6,c0,c1,c2⟩
   refine fx 0 cY<|fx 1 cZ<|fx 2 c3<|fx 3 c4<|fx 8 c5<|fx 9 c6<|fx 10 c0<|fx 11 c1<|fx 12 c2 ?_
   refine ed (fun Y am=> ∃ (d3:Array Nat),(od A C I d3)∧(am.ownsRow B 51 1 (.slice E n cp) n<|LE bg d3)∧(Md (fun q=>(bR E n cp).ownBlock=some q) w am)∧(Y 0= .slice E n cp)∧(Y 1=au A)∧(Y 2=au C)∧(Y 3=au J)∧(Y 8= .bool wb)∧(Y 9= .bool wp)∧(Y 10=au (C - A))∧(Y 11=au M)) ?_ ?_
   refine ag fun O=>ak (.bool wb)<|ak (.bool wb)<|gb (t:=62) aa (fun cA=> ?_) fun cA=> ?_
   refine aI aa (aT (.bool wp) aa)<|p (bB aa)<|p mv<|gb (t:=65) aa (fun cB=> ?_) fun cB=> ?_
   refine aI aa (aT (.int .i64 bc) aa)<|aI aa (bJ aa aa)<|p (bB aa)<|nl<|O<|cd aa (fun cx=> ?_) fun cx=> ?_
   refine ag fun ai=>ak (.slice E n cp)<|ak (au A)<|ak (au C)<|e<|cl PY (WK d2 A C B n cp E _ aF ab ab) aa fun v72 dS cn=> ?_
   obtain ⟨rfl,bx,bt⟩:=cn
   have dt:=fP aF
   obtain ⟨bD,cD⟩:=Go.Sort.partialInsertionSort_holds vd d2 A C ab ab<|Em aU ab aq
   refine nl<|ai<|cb aa (fun bA=> ?_) fun bA=> ?_
   have dn:=cD bA
   refine rt<|tr<|br<|tr<|br<|qt aa ?_
   obtain ⟨aK,aL⟩:=ao _ (sg _ _ _ A C aq bD)<|dn
   exact ⟨_,aa,aK,aL,bx,Md.trans az bt⟩
   exact aM<|tn<|⟨_,(sg _ _ _ A C aq bD),bx,(Md.trans az bt),aa,aa,aa,aa,aa,aa,aa,aa⟩
   exact aM<|tn<|⟨d2,aq,aF,az,aa,aa,aa,aa,aa,aa,aa,aa⟩
   exact aE aa<|aE aa<|p (bp aa)<|nl<|O<|cf aa<|aM<|tn<|⟨d2,aq,aF,az,aa,aa,aa,aa,aa,aa,aa,aa⟩
   exact aE aa<|p (bp aa)<|p mv<|aE aa<|aE aa<|p (bp aa)<|nl<|O<|cf aa<|aM<|tn<|⟨d2,aq,aF,az,aa,aa,aa,aa,aa,aa,aa,aa⟩
   rintro Y am ⟨d3,aG,ac,aV,c7,c8,db,dc,dd,de,c9,da⟩
   refine fx 0 c7<|fx 1 c8<|fx 2 db<|fx 3 dc<|fx 8 dd<|fx 9 de<|fx 10 c9<|fx 11 da ?_
   refine ed (fun Z bl=>(bl.ownsRow B 51 1 (.slice E n cp) n<|LE bg d3)∧(Md (fun q=>(bR E n cp).ownBlock=some q) w bl)∧(Z 0= .slice E n cp)∧(Z 1=au A)∧(Z 2=au C)∧(Z 3=au J)∧(Z 8= .bool wb)∧(Z 9= .bool wp)∧(Z 10=au (C - A))∧(Z 11=au M)) ?_ ?_
   refine aB fun O=> ?_
   have cz:=fP ac
   have G:(fun w'=>Wk am w') am.drew:=(Md.refl _ _).drew
   refine bI (fun w'=>Wk am w') aa wide G<|bF 0 aa (au A) G<|aC 1 aa (fun _ _=>gt aa aa) G<|aC 2 aa (fun _ _=>mv) G<|iQ (t:=75) aa (fun cC=> ?_) fun cC=> ?_
   refine bh 3 aa (fun _ _=>aT (.slice E n cp) aa) G<|bh 4 aa (fun _ _=>aT (au A) aa) G<|bh 5 aa (fun _ _=>dK ((A - 1:Nat):Int) aa aa<|bj ab ab) G<|bh 6 aa (fun _ _=>a8 bY aa aa ab<|aJ.ok ((a7 ac).2)<|cy ab) G<|bh 7 aa (fun w' a1=>ld cV aa<|dG (i:=A - 1) ((a7 ac).2.wk a1) ab) G<|bh 8 aa (fun _ _=>aT (.slice E n cp) aa) G<|bh 9 aa (fun _ _=>aT (au M) aa) G<|bh 10 aa (fun _ _=>a8 bY aa aa ab<|aJ.ok ((a7 ac).2)<|cy ab) G<|bh 11 aa (fun w' a1=>ld cV aa<|dG (i:=M) ((a7 ac).2.wk a1) ab) G<|mB 12 aa aj aa aa aa<|cl lZ (l7 d3[A - 1]! d3[M]! _) aa fun v85 dq co=> ?_
   obtain ⟨rfl,bX⟩:=co
   have al:(fun w'=>Wk am w') dq:=Md.trans G bX
   refine ⟨al,?_⟩
   refine bh 13 aa (fun _ _=>no aa) al<|aC 14 aa (fun _ _=>bB aa) al<|hn aj<|O<|cb aa (fun bC=> ?_) fun bC=> ?_
   refine ag fun ai=>ak (.slice E n cp)<|ak (au A)<|ak (au C)<|ak (au M)<|e<|cl PZ (WA d3 A C M B n cp E _ (aW ac al) ab ab) aa fun dI dT cq=> ?_
   obtain ⟨U,d4,bd,rfl,ca,b4⟩:=cq
   obtain ⟨bF,cE,cF,a4,a5⟩:=Go.Sort.round_eq vd (Go.Sort.partitionEqual_holds bZ) (show 0 < A by omega) aO.1 aO.2 ab (Em aU ab aG) (by simpa using bC) bd
   exact aw<|ai<|ag fun ar=>p mv<|p aA<|nl<|ar<|ext<|ba<|be<|tn<|⟨_,ab,U,C,J,wb,wp,d4,ab,a4,(fun R h1 h2=>by obtain ⟨h3,h4⟩:=a5 R h1 h2; exact ao R (sg _ _ _ A C aG h3) h4),ca,(Md.trans aV<|Md.trans (al.mono fun _ _ h=>h.elim) b4),aa,aa,aa,aa,aa,aa,aa⟩
   exact aM<|tn<|⟨(aW ac al),(Md.trans aV<|al.mono fun _ _ h=>h.elim),aa,aa,aa,aa,aa,aa,aa,aa⟩
   exact a6 3 aa G<|a6 4 aa G<|a6 5 aa G<|a6 6 aa G<|a6 7 aa G<|a6 8 aa G<|a6 9 aa G<|a6 10 aa G<|a6 11 aa G<|a6 12 aa G<|a6 13 aa G<|aC 14 aa (fun _ _=>bp aa) G<|hn aj<|O<|cf aa<|aM<|tn<|⟨(aW ac (Md.refl _ _).drew),aV.drew,aa,aa,aa,aa,aa,aa,aa,aa⟩
   rintro Z bl ⟨bz,bv,df,dg,dj,dk,dl,dm,dh,di⟩
   refine fx 0 df<|fx 1 dg<|fx 2 dj<|fx 3 dk<|fx 8 dl<|fx 9 dm<|fx 10 dh<|fx 11 di<|ag fun O=>ak (.slice E n cp)<|ak (au A)<|ak (au C)<|ak (au M)<|e<|cl P0 (Wy d3 A C M B n cp E _ bz ab ab) aa fun dJ bL cr=> ?_
   obtain ⟨U,ap,d4,bd,rfl,aZ,bu⟩:=cr
   have cz:=fP bz
   have du:=fP aZ
   obtain ⟨bF,cE,cF,a4,a5,cG,cH⟩:=Go.Sort.round_part vd (Go.Sort.partition_holds bZ) aO.1 aO.2 ab (Em aU ab aG) bd
   refine p mv<|p (xt aa aa)<|p (xt aa aa)<|p aA<|aw<|O<|aB fun ai=>rg aa<|p mv<|aw<|ai<|ag fun ar=>p mv<|ak (au A)<|p (dK ((U - A:Nat):Int) aa aa<|bj ab ab)<|ak (au C)<|p mv<|p (dK ((C - U:Nat):Int) aa aa<|bj ab ab)<|p aA<|p aA<|nl<|ar<|ag fun bN=>ak (au<|C - A)<|p (qM (((C - A) / 8:Nat):Int) aa aa ab<|bj ab ab)<|aw<|bN ?_
   refine ag fun bO=>p mv<|p mv<|p (lt aa aa)<|nl<|bO<|cd aa (fun cs=> ?_) fun cs=> ?_
   refine ag fun aQ=>p mv<|p mv<|p (ge aa aa)<|aw<|aQ<|ag fun aR=>ak (.slice E n cp)<|ak (au A)<|p mv<|ak (au J)<|e<|cl AJ (bH d4 A U J bL aZ ab ab ab a4) aa fun dB dL ce=> ?_
   obtain ⟨ax,rfl,a9,bb,a0,aX⟩:=ce
   obtain ⟨a2,a3⟩:=cG ax a9 bb
   exact nl<|aR<|rg aa<|p mv<|p (bE ((U+1:Nat):Int) aa aa<|bj ab ab)<|p aA<|nl<|bn<|tn<|⟨_,ab,U+1,C,J,decide (((U - A:Nat):Int)≥(((C - A) / 8:Nat):Int)),ap,ax,ab,a2,(fun R h1 h2=>by obtain ⟨h3,h4⟩:=a3 R h1 h2; exact ao R (sg _ _ _ A C aG h3) h4),a0,(Md.trans bv<|Md.trans bu aX),aa,aa,aa,aa,aa,aa,aa⟩
   refine ag fun aQ=>p mv<|p mv<|p (ge aa aa)<|aw<|aQ<|ag fun aR=>ak (.slice E n cp)<|p mv<|p (bE ((U+1:Nat):Int) aa aa<|bj ab ab)<|ak (au C)<|ak (au J)<|e<|cl AJ (bH d4 (U+1) C J bL aZ ab ab ab a5) aa fun dC dM cg=> ?_
   obtain ⟨ax,rfl,a9,bb,a0,aX⟩:=cg
   obtain ⟨a2,a3⟩:=cH ax a9 bb
   exact nl<|aR<|rg aa<|p mv<|p aA<|nl<|bn<|tn<|⟨_,ab,A,U,J,decide (((C - U:Nat):Int)≥(((C - A) / 8:Nat):Int)),ap,ax,ab,a2,(fun R h1 h2=>by obtain ⟨h3,h4⟩:=a3 R h1 h2; exact ao R (sg _ _ _ A C aG h3) h4),a0,(Md.trans bv<|Md.trans bu aX),aa,aa,aa,aa,aa,aa,aa⟩
theorem X4 (d:Array Nat) (B n cp:Nat) (a:Option Addr) (w:World) (C:w.ownsRow B 51 1 (.slice a n cp) n (LE bg d)) (I:n≤255):
 bm ay 246 (bf [.slice a n cp]) w (fun v w'=> ∃ d1,v= .tuple #[]∧od 0 n d d1∧tX bZ 0 n d1∧w'.ownsRow B 51 1 (.slice a n cp) n (LE bg d1)∧Md (fun q=>(bR a n cp).ownBlock=some q) w w'):=by
 refine enter func246 aa ntmps246 aa<|ag fun A=>ak (.slice a n cp)<|p (bK oR aa aa)<|aw<|A<|rg aa<|ak (.slice a n cp)<|p mv<|p mv<|p (lN LJ qT aa<|oV ab)<|e<|cl Fv (Jj n _ ab) aa fun v9 O G=> ?_
 obtain ⟨rfl,i⟩:=G
 have J:=yu (n:=n) ab
 refine e<|cl AJ (WC (n+1) d 0 n (kW n) B n cp a _ (aW C i) ab ab I ab<|.inl aa) aa fun v10 M E=> ?_
 obtain ⟨d1,rfl,h1,h2,h3,h4⟩:=E
 exact nl<|f0 aa<|⟨d1,aa,h1,h2,h3,Md.trans (i.mono fun _ _ h=>h.elim) h4⟩
end Go.Hb
end
