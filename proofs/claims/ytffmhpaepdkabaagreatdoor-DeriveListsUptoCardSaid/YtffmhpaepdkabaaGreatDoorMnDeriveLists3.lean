/-
  Walks and plain laws that the law rests on, laid together. No conditions but those that each theorem names.
-/
import Derived.Test.YtffmhpaepdkabaaGreatDoorMnDeriveLists2
set_option linter.unusedVariables false
open Bool renaming noConfusion→eb
open Go.IntKind renaming u64→eF
open Go.Proofs.Tryz renaming prog→ay
open Go.Sort renaming Below→Eu,PermIn→od,SortedIn→ud,heapBuild→Nc,heapSort→Nd,insInner→Nf,insertionSort→Ng,partLoop→Ew,partialIns→q6,partialInsertionSort→ue,partition→q7,partitionEqual→wH,permIn_refl→Nh,permIn_trans→sr,reverseRange→Ex,scanDown→og,scanSorted→uf,scanUp→oh,shiftDown→zP,shiftUp→Ey,siftDown→q8,swp→cJ
open Go.Sort.Below renaming perm→Ev
open Go.Value renaming bool→bQ,pointer→zQ,slice→bO,tuple→gx
open List renaming drop_eq_nil_of_le→gP,length_append→bI,length_eq_zero_iff→wW,length_pos_iff→lx,length_singleton→eW,length_take→dO,take_of_length_le→eI,take_zero→oq,toArray→ba
open Nat renaming lt_or_ge→e8
open UInt8 renaming toNat_lt→iS
open Go.Proofs.Tryz
section
namespace Go.Hb
abbrev au (n:Nat):Value:= .int .i64 (n:Nat)
abbrev aQ (b:Nat):Value:= .pointer<|some ⟨b,0,none⟩
variable {P:Program} {N:Fm} {ops:Array Oper} {Q:Exit→(Nat→Value)→World→Prop} {σ:Nat→Value} {w:World} {S:World→Prop} {r fuel:Nat} {a8:Array Bool} {d:Nat} {op:Op} {ty:TypeId} {pos :String} {af:Array Edge} {v:Value}
theorem aH (i:Nat) (hi:ops[i]? =some ⟨some d,op,ty,pos,af,none⟩) (q:∀ w,S w→(execOp (ev N σ) ⟨some d,op,ty,pos,af,none⟩).run P w= .ok (.value v) w) (a:S w) (k:gj P N ops Q S fuel (a8.setIfInBounds i true) (dD σ d v) w) (j:ju N.F ops a8 i=true :=by kernel_rfl):gj P N ops Q S (fuel+1) a8 σ w:=hp i hi j q a k
theorem dH (i:Nat) (hi:ops[i]? =some ⟨some d,op,ty,pos,af,none⟩) (q:∀ w,S w→(execOp (ev N σ) ⟨some d,op,ty,pos,af,none⟩).run P w= .ok (.value v) w) (a:S w) (k:iG P N ops Q S r fuel (a8.setIfInBounds i true) (dD σ d v) w) (j:Ce N.F ops a8 r i=true :=by kernel_rfl):iG P N ops Q S r (fuel+1) a8 σ w:=kD i hi j q a k
theorem bq (i:Nat) (hi:ops[i]? =some ⟨some d,op,ty,pos,af,none⟩) (q:∀ w,(execOp (ev N σ) ⟨some d,op,ty,pos,af,none⟩).run P w= .ok (.value v) w) (a:a8.getD r false =false→S w) (k:iG P N ops Q S r fuel (a8.setIfInBounds i true) (dD σ d v) w) (j:yx N.F ops a8 r i=true :=by kernel_rfl):iG P N ops Q S r (fuel+1) a8 σ w:=dz i hi j q a k
theorem bC {x:Operand} (i:Nat) (hi:ops[i]? =some ⟨some d,.move x,ty,pos,af,none⟩) (v:Value) (a:S w) (k:gj P N ops Q S fuel (a8.setIfInBounds i true) (dD σ d v) w) (q:ev N σ x=v:=by exact aa) (j:ju N.F ops a8 i=true :=by kernel_rfl):gj P N ops Q S (fuel+1) a8 σ w:=hp i hi j (fun _ _=>aT v q) a k
theorem bz {x:Operand} (i:Nat) (hi:ops[i]? =some ⟨some d,.move x,ty,pos,af,none⟩) (v:Value) (a:S w) (k:iG P N ops Q S r fuel (a8.setIfInBounds i true) (dD σ d v) w) (q:ev N σ x=v:=by exact aa) (j:yx N.F ops a8 r i=true :=by kernel_rfl):iG P N ops Q S r (fuel+1) a8 σ w:=dz i hi j (fun _=>aT v q) (fun _=>a) k
theorem bl {P:Program} {f:FuncId} {fn:Func} (i:P.funcs[f]? =some fn) (hn:(fn.name== "runtime.NumGoroutine")=false :=by kernel_rfl) (a:fn.body.isNone=false :=by kernel_rfl):bg P f:=QO i hn a
section
variable {rest:List Oper} {x:Operand} {K:(Nat→Value)→World→Prop} {l:List Oper} {id:Nat} {y:Code}
theorem aj (h:∀ K:(Nat→Value)→World→Prop,(∀ σ w,dW P N y Q σ w→K σ w)→e7 P N l.toArray (mN K Q) l σ w) (i:tC N.r l=true :=by exact aa):dW P N (.seq (.region id l.toArray false) y) Q σ w:=sq fun K a=>rg i<|h K a
theorem aE (h:K σ w):e7 P N ops (mN K Q) [] σ w:=nl<|tn h
theorem aw (h:K (dD σ d<|ev N σ x) w):e7 P N ops (mN K Q) [⟨some d,.assign x,ty,pos,af,none⟩] σ w:=p aB<|nl<|tn h
theorem ak (v:Value) (h:e7 P N ops Q rest (dD σ d v) w) (a:ev N σ x=v:=by exact aa):e7 P N ops Q (⟨some d,.move x,ty,pos,af,none⟩::rest) σ w:=p (aT v a) h
end
end Go.Hb
end
section
namespace Go.Hb.dT
open Go.Proofs
theorem Aj:dy ay 106=some (some 3):=ag
theorem E9:dy ay 113=some none:=ag
theorem uB:dy ay 123=some none:=ag
theorem uC:dy ay 131=some (some 5):=ag
theorem Fa:dy ay 152=some none:=ag
theorem Ak:dy ay 153=some none:=ag
theorem sK:dy ay 158=some none:=ag
theorem oA:dy ay 169=some (some 2):=ag
theorem rv:dy ay 174=some (some 8):=ag
theorem Om:dy ay 176=some none:=ag
theorem xr:dy ay 177=some none:=ag
theorem qi:dy ay 178=some none:=ag
theorem j6:dy ay 179=some none:=ag
theorem Fb:dy ay 184=some none:=ag
theorem sL:dy ay 187=some none:=ag
theorem sM:dy ay 193=some none:=ag
theorem Fc:dy ay 200=some none:=ag
theorem xu:dy ay 209=some (some 2):=ag
theorem pA:dy ay 22=some none:=ag
theorem Al:dy ay 230=some none:=ag
theorem sN:dy ay 242=some (some 5):=ag
theorem nG:dy ay 268=some none:=ag
theorem qj:dy ay 27=some none:=ag
theorem mX:dy ay 270=some (some 1):=ag
theorem gW:dy ay 29=some none:=ag
theorem bA:dy ay 3=some none:=ag
theorem uD:dy ay 30=some none:=ag
theorem kL:dy ay 325=some (some 4):=ag
theorem Fe:dy ay 34=some none:=ag
theorem ry:dy ay 340=some none:=ag
theorem sO:dy ay 349=some (some 1):=ag
theorem mY:dy ay 4=some none:=ag
theorem qk:dy ay 41=some (some 5):=ag
theorem sP:dy ay 43=some (some 5):=ag
theorem k5:dy ay 47=some (some 3):=ag
theorem pB:dy ay 5=some none:=ag
theorem cU:dy ay 51=some none:=ag
theorem Ff:dy ay 52=some (some 5):=ag
theorem Fg:dy ay 53=some none:=ag
theorem rA:dy ay 54=some none:=ag
theorem xv:dy ay 55=some none:=ag
theorem lU:dy ay 56=some none:=ag
theorem Am:dy ay 58=some (some 13):=ag
theorem fZ:dy ay 60=some none:=ag
theorem On:dy ay 61=some none:=ag
theorem uE:dy ay 62=some none:=ag
theorem mZ:dy ay 70=some none:=ag
theorem lE:dy ay 72=some (some 2):=ag
theorem pC:dy ay 75=some none:=ag
theorem m3:dy ay 77=some (some 7):=ag
theorem jR:dy ay 87=some none:=ag
theorem bR:dy ay 9=some none:=ag
theorem sR:qn ay 175=some (5,1):=ag
theorem rB:qn ay 325=some (4,1):=ag
theorem Ft:qn ay 351=some (256,1):=ag
theorem uG:qn ay 52=some (5,1):=ag
theorem Fu:Au ay 325=some ([.int .u64 0,.int .u64 0,.int .u64 0,.int .u64 0]):=ag
theorem m6:xA ay 153 5 9=true :=ag
theorem FK:bg ay 100:=bl func100
theorem O3:bg ay 109:=bl func109
theorem kr:bg ay 11:=bl func11
theorem FL:bg ay 111:=bl func111
theorem FM:bg ay 112:=bl func112
theorem Az:bg ay 113:=bl func113
theorem O4:bg ay 114:=bl func114
theorem AA:bg ay 115:=bl func115
theorem O5:bg ay 116:=bl func116
theorem AB:bg ay 117:=bl func117
theorem rC:bg ay 118:=bl func118
theorem O6:bg ay 119:=bl func119
theorem ks:bg ay 12:=bl func12
theorem AD:bg ay 120:=bl func120
theorem FN:bg ay 121:=bl func121
theorem FO:bg ay 122:=bl func122
theorem O7:bg ay 123:=bl func123
theorem O8:bg ay 124:=bl func124
theorem AE:bg ay 125:=bl func125
theorem FP:bg ay 126:=bl func126
theorem O9:bg ay 127:=bl func127
theorem Pa:bg ay 128:=bl func128
theorem Pb:bg ay 129:=bl func129
theorem AF:bg ay 13:=bl func13
theorem Pc:bg ay 130:=bl func130
theorem uK:bg ay 131:=bl func131
theorem Pd:bg ay 132:=bl func132
theorem Pe:bg ay 133:=bl func133
theorem Pf:bg ay 134:=bl func134
theorem FQ:bg ay 135:=bl func135
theorem oD:bg ay 136:=bl func136
theorem AG:bg ay 137:=bl func137
theorem xB:bg ay 138:=bl func138
theorem AH:bg ay 139:=bl func139
theorem Pg:bg ay 14:=bl func14
theorem FR:bg ay 140:=bl func140
theorem FT:bg ay 141:=bl func141
theorem Ph:bg ay 142:=bl func142
theorem FU:bg ay 144:=bl func144
theorem Pj:bg ay 145:=bl func145
theorem Pk:bg ay 146:=bl func146
theorem Pl:bg ay 147:=bl func147
theorem FV:bg ay 148:=bl func148
theorem FW:bg ay 149:=bl func149
theorem uL:bg ay 15:=bl func15
theorem Pm:bg ay 150:=bl func150
theorem Po:bg ay 151:=bl func151
theorem FX:bg ay 16:=bl func16
theorem Pp:bg ay 169:=bl func169
theorem Pq:bg ay 17:=bl func17
theorem Pr:bg ay 170:=bl func170
theorem Ps:bg ay 171:=bl func171
theorem FY:bg ay 172:=bl func172
theorem AI:bg ay 173:=bl func173
theorem FZ:bg ay 174:=bl func174
theorem Pt:bg ay 175:=bl func175
theorem uM:bg ay 176:=bl func176
theorem Pu:bg ay 177:=bl func177
theorem AJ:bg ay 178:=bl func178
theorem Pv:bg ay 179:=bl func179
theorem xC:bg ay 180:=bl func180
theorem F1:bg ay 181:=bl func181
theorem Pw:bg ay 182:=bl func182
theorem Px:bg ay 183:=bl func183
theorem AK:bg ay 184:=bl func184
theorem Py:bg ay 185:=bl func185
theorem F3:bg ay 186:=bl func186
theorem Pz:bg ay 187:=bl func187
theorem F4:bg ay 188:=bl func188
theorem F5:bg ay 189:=bl func189
theorem F6:bg ay 19:=bl func19
theorem PA:bg ay 190:=bl func190
theorem AL:bg ay 191:=bl func191
theorem F7:bg ay 192:=bl func192
theorem AM:bg ay 193:=bl func193
theorem PB:bg ay 194:=bl func194
theorem AN:bg ay 195:=bl func195
theorem xD:bg ay 196:=bl func196
theorem AO:bg ay 197:=bl func197
theorem F8:bg ay 198:=bl func198
theorem F9:bg ay 199:=bl func199
theorem AP:bg ay 20:=bl func20
theorem Ga:bg ay 200:=bl func200
theorem PC:bg ay 201:=bl func201
theorem PD:bg ay 202:=bl func202
theorem Gb:bg ay 203:=bl func203
theorem Gc:bg ay 204:=bl func204
theorem Gd:bg ay 205:=bl func205
theorem PE:bg ay 206:=bl func206
theorem PF:bg ay 207:=bl func207
theorem AQ:bg ay 208:=bl func208
theorem Ge:bg ay 209:=bl func209
theorem AR:bg ay 210:=bl func210
theorem AS:bg ay 211:=bl func211
theorem PG:bg ay 212:=bl func212
theorem PH:bg ay 213:=bl func213
theorem PI:bg ay 227:=bl func227
theorem PJ:bg ay 228:=bl func228
theorem PK:bg ay 232:=bl func232
theorem PL:bg ay 233:=bl func233
theorem PM:bg ay 234:=bl func234
theorem Gf:bg ay 235:=bl func235
theorem PN:bg ay 236:=bl func236
theorem AT:bg ay 237:=bl func237
theorem PO:bg ay 238:=bl func238
theorem PQ:bg ay 239:=bl func239
theorem qt:bg ay 24:=bl func24
theorem PR:bg ay 240:=bl func240
theorem Gg:bg ay 241:=bl func241
theorem Gh:bg ay 242:=bl func242
theorem PS:bg ay 243:=bl func243
theorem Gi:bg ay 244:=bl func244
theorem PT:bg ay 245:=bl func245
theorem PU:bg ay 246:=bl func246
theorem PV:bg ay 247:=bl func247
theorem PW:bg ay 248:=bl func248
theorem PX:bg ay 249:=bl func249
theorem Gj:bg ay 25:=bl func25
theorem PY:bg ay 250:=bl func250
theorem AU:bg ay 251:=bl func251
theorem Gk:bg ay 258:=bl func258
theorem AV:bg ay 259:=bl func259
theorem Gl:bg ay 260:=bl func260
theorem PZ:bg ay 261:=bl func261
theorem P0:bg ay 262:=bl func262
theorem Gm:bg ay 263:=bl func263
theorem Gn:bg ay 264:=bl func264
theorem P1:bg ay 265:=bl func265
theorem AW:bg ay 266:=bl func266
theorem P2:bg ay 267:=bl func267
theorem AX:bg ay 268:=bl func268
theorem Gp:bg ay 269:=bl func269
theorem P3:bg ay 270:=bl func270
theorem AY:bg ay 273:=bl func273
theorem AZ:bg ay 274:=bl func274
theorem P4:bg ay 275:=bl func275
theorem P5:bg ay 279:=bl func279
theorem Gq:bg ay 280:=bl func280
theorem P6:bg ay 281:=bl func281
theorem P7:bg ay 282:=bl func282
theorem P8:bg ay 283:=bl func283
theorem P9:bg ay 284:=bl func284
theorem Qa:bg ay 285:=bl func285
theorem Qb:bg ay 286:=bl func286
theorem Qc:bg ay 287:=bl func287
theorem Qd:bg ay 288:=bl func288
theorem lW:bg ay 289:=bl func289
theorem Qe:bg ay 290:=bl func290
theorem Qf:bg ay 291:=bl func291
theorem Qg:bg ay 294:=bl func294
theorem Qh:bg ay 297:=bl func297
theorem Qi:bg ay 298:=bl func298
theorem Gr:bg ay 299:=bl func299
theorem A0:bg ay 300:=bl func300
theorem Gs:bg ay 301:=bl func301
theorem Qj:bg ay 302:=bl func302
theorem Gt:bg ay 304:=bl func304
theorem A1:bg ay 308:=bl func308
theorem Qk:bg ay 38:=bl func38
theorem Ql:bg ay 39:=bl func39
theorem Gu:bg ay 40:=bl func40
theorem Qm:bg ay 41:=bl func41
theorem Qn:bg ay 42:=bl func42
theorem Qo:bg ay 45:=bl func45
theorem Qp:bg ay 46:=bl func46
theorem Qq:bg ay 47:=bl func47
theorem Qr:bg ay 48:=bl func48
theorem Qs:bg ay 49:=bl func49
theorem Qt:bg ay 50:=bl func50
theorem rD:bg ay 51:=bl func51
theorem Qu:bg ay 52:=bl func52
theorem Qv:bg ay 53:=bl func53
theorem Qw:bg ay 54:=bl func54
theorem Qx:bg ay 55:=bl func55
theorem Gv:bg ay 57:=bl func57
theorem A2:bg ay 59:=bl func59
theorem Qy:bg ay 61:=bl func61
theorem Qz:bg ay 64:=bl func64
theorem A3:bg ay 70:=bl func70
theorem QA:bg ay 71:=bl func71
theorem QB:bg ay 72:=bl func72
theorem QC:bg ay 73:=bl func73
theorem QD:bg ay 74:=bl func74
theorem A4:bg ay 75:=bl func75
theorem QE:bg ay 76:=bl func76
theorem A5:bg ay 77:=bl func77
theorem QF:bg ay 78:=bl func78
theorem QG:bg ay 79:=bl func79
theorem Gx:bg ay 80:=bl func80
theorem Gy:bg ay 81:=bl func81
theorem QH:bg ay 82:=bl func82
theorem QI:bg ay 83:=bl func83
theorem Gz:bg ay 84:=bl func84
theorem il:bg ay 85:=bl func85
theorem QJ:bg ay 86:=bl func86
theorem sX:bg ay 87:=bl func87
theorem QK:bg ay 88:=bl func88
theorem QL:bg ay 89:=bl func89
theorem QM:bg ay 90:=bl func90
theorem A6:bg ay 91:=bl func91
theorem xE:bg ay 93:=bl func93
theorem QN:bg ay 94:=bl func94
theorem GA:bg ay 95:=bl func95
theorem GB:bg ay 96:=bl func96
theorem GC:bg ay 97:=bl func97
theorem A7:bg ay 99:=bl func99
theorem RB:∀ (l:List UInt8) (c:UInt8) (w:World),(callFunc 307 #[str l,.int .u8 c.toNat]).run ay w= .ok (.value<|.int .i64 (l.count c:Nat)) w:=XO func307 ag ag ag ag
theorem RY:∀ v w,(callFunc 158 #[v]).run ay w= .ok (.value v) w:=fun v w=>ag
theorem xL:ee ay 106=some 3:=ag
theorem rF:ee ay 131=some 5:=ag
theorem RZ:ee ay 152=some 1:=ag
theorem R5:ee ay 153=some 1:=ag
theorem R6:ee ay 158=some 1:=ag
theorem oE:ee ay 169=some 2:=ag
theorem Bk:ee ay 174=some 8:=ag
theorem R7:ee ay 176=some 1:=ag
theorem R8:ee ay 177=some 1:=ag
theorem R9:ee ay 178=some 1:=ag
theorem G2:ee ay 179=some 1:=ag
theorem G3:ee ay 187=some 1:=ag
theorem Sa:ee ay 202=some 2:=ag
theorem G4:ee ay 209=some 2:=ag
theorem qu:ee ay 242=some 5:=ag
theorem G5:ee ay 268=some 1:=ag
theorem G6:ee ay 27=some 1:=ag
theorem qv:ee ay 270=some 1:=ag
theorem gX:ee ay 3=some 1:=ag
theorem pF:ee ay 325=some 4:=ag
theorem Sb:ee ay 34=some 1:=ag
theorem xM:ee ay 340=some 1:=ag
theorem G7:ee ay 4=some 1:=ag
theorem Bl:ee ay 41=some 5:=ag
theorem jT:ee ay 47=some 3:=ag
theorem gd:ee ay 51=some 1:=ag
theorem Sc:ee ay 52=some 5:=ag
theorem G8:ee ay 53=some 1:=ag
theorem G9:ee ay 54=some 1:=ag
theorem Ha:ee ay 55=some 1:=ag
theorem Hc:ee ay 56=some 1:=ag
theorem Bn:ee ay 58=some 13:=ag
theorem Bo:ee ay 60=some 1:=ag
theorem Hd:ee ay 62=some 1:=ag
theorem s6:ee ay 70=some 1:=ag
theorem ku:ee ay 72=some 2:=ag
theorem Bp:ee ay 75=some 1:=ag
theorem pG:ee ay 77=some 7:=ag
theorem He:ee ay 87=some 1:=ag
theorem kN:ee ay 9=some 1:=ag
theorem lZ:gr ay 153=some 1:=ag
theorem S5:gr ay 177=some 1:=ag
theorem xX:gr ay 178=some 5:=ag
theorem nN:gr ay 179=some 8:=ag
theorem tc:gr ay 187=some 2:=ag
theorem HC:gr ay 217=some 1:=ag
theorem nO:gr ay 230=some 2:=ag
theorem HD:gr ay 268=some 4:=ag
theorem xY:gr ay 27=some 5:=ag
theorem HE:gr ay 30=some 2:=ag
theorem HF:gr ay 304=some 1:=ag
theorem S6:gr ay 34=some 5:=ag
theorem BA:gr ay 54=some 1:=ag
theorem S7:gr ay 55=some 5:=ag
theorem na:gr ay 56=some 7:=ag
theorem BB:gr ay 62=some 2:=ag
theorem bV:gr ay 70=some 1:=ag
theorem j9:gr ay 75=some 1:=ag
theorem cE:gr ay 87=some 1:=ag
theorem Tb:BI ay 58 8=some 12:=ag
theorem Ts:bU ay 111 0=some 0:=ag
theorem Tt:bU ay 111 1=some 1:=ag
theorem yc:bU ay 111 3=some 3:=ag
theorem yd:bU ay 111 4=some 4:=ag
theorem tg:bU ay 111 5=some 5:=ag
theorem th:bU ay 111 6=some 6:=ag
theorem BV:bU ay 111 7=some 7:=ag
theorem gC:bU ay 125 0=some 0:=ag
theorem Ie:bU ay 125 1=some 13:=ag
theorem BW:bU ay 131 0=some 0:=ag
theorem uZ:bU ay 131 1=some 1:=ag
theorem If:bU ay 131 2=some 2:=ag
theorem Ig:bU ay 131 3=some 3:=ag
theorem yf:bU ay 131 4=some 4:=ag
theorem BX:bU ay 155 0=some 0:=ag
theorem yg:bU ay 155 1=some 1:=ag
theorem Tu:bU ay 169 0=some 0:=ag
theorem Tv:bU ay 169 1=some 1:=ag
theorem u0:bU ay 174 0=some 0:=ag
theorem Ty:bU ay 174 1=some 1:=ag
theorem Tz:bU ay 174 2=some 2:=ag
theorem ti:bU ay 174 3=some 3:=ag
theorem BY:bU ay 174 4=some 4:=ag
theorem BZ:bU ay 174 5=some 5:=ag
theorem u6:bU ay 174 6=some 6:=ag
theorem Ih:bU ay 174 7=some 7:=ag
theorem tj:bU ay 181 0=some 0:=ag
theorem TA:bU ay 181 1=some 1:=ag
theorem TB:bU ay 181 2=some 2:=ag
theorem tk:bU ay 181 3=some 3:=ag
theorem TC:bU ay 181 4=some 8:=ag
theorem Ii:bU ay 181 5=some 9:=ag
theorem u7:bU ay 181 6=some 10:=ag
theorem pJ:bU ay 181 7=some 11:=ag
theorem jL:bU ay 181 8=some 12:=ag
theorem tp:bU ay 183 0=some 0:=ag
theorem vb:bU ay 183 1=some 1:=ag
theorem B3:bU ay 183 2=some 2:=ag
theorem B4:bU ay 183 3=some 3:=ag
theorem Ij:bU ay 183 4=some 4:=ag
theorem Ik:bU ay 183 5=some 5:=ag
theorem yh:bU ay 186 0=some 0:=ag
theorem Il:bU ay 186 1=some 1:=ag
theorem gY:bU ay 195 0=some 0:=ag
theorem vc:bU ay 195 1=some 1:=ag
theorem vd:bU ay 195 2=some 2:=ag
theorem TD:bU ay 195 3=some 3:=ag
theorem tq:bU ay 195 4=some 4:=ag
theorem B5:bU ay 195 5=some 5:=ag
theorem B6:bU ay 195 6=some 6:=ag
theorem Im:bU ay 202 0=some 0:=ag
theorem Io:bU ay 202 1=some 1:=ag
theorem yi:bU ay 209 0=some 0:=ag
theorem vf:bU ay 209 1=some 1:=ag
theorem lJ:bU ay 236 0=some 0:=ag
theorem B7:bU ay 236 1=some 1:=ag
theorem oI:bU ay 236 2=some 2:=ag
theorem TE:bU ay 236 3=some 3:=ag
theorem pK:bU ay 236 4=some 4:=ag
theorem pL:bU ay 236 5=some 5:=ag
theorem tt:bU ay 237 0=some 0:=ag
theorem vg:bU ay 237 1=some 1:=ag
theorem B8:bU ay 242 0=some 0:=ag
theorem yj:bU ay 242 1=some 1:=ag
theorem Ip:bU ay 242 2=some 2:=ag
theorem my:bU ay 270 0=some 0:=ag
theorem nb:bU ay 32 0=some 0:=ag
theorem vj:bU ay 32 1=some 1:=ag
theorem TG:bU ay 349 0=some 0:=ag
theorem ym:bU ay 41 0=some 0:=ag
theorem Iq:bU ay 41 1=some 1:=ag
theorem rI:bU ay 41 2=some 2:=ag
theorem qB:bU ay 41 3=some 3:=ag
theorem rJ:bU ay 41 4=some 4:=ag
theorem yo:bU ay 43 0=some 0:=ag
theorem Ir:bU ay 43 1=some 1:=ag
theorem yq:bU ay 43 2=some 2:=ag
theorem yr:bU ay 43 3=some 3:=ag
theorem rK:bU ay 43 4=some 4:=ag
theorem tu:bU ay 58 0=some 0:=ag
theorem TH:bU ay 58 1=some 1:=ag
theorem TI:bU ay 58 2=some 2:=ag
theorem yt:bU ay 58 3=some 3:=ag
theorem B9:bU ay 58 4=some 8:=ag
theorem yu:bU ay 58 5=some 9:=ag
theorem pM:bU ay 58 6=some 10:=ag
theorem tv:bU ay 58 7=some 11:=ag
theorem nP:bU ay 58 8=some 12:=ag
theorem Ca:bU ay 64 0=some 0:=ag
theorem TJ:bU ay 64 1=some 1:=ag
theorem vk:bU ay 64 2=some 2:=ag
theorem Cb:bU ay 64 3=some 15:=ag
theorem Cc:bU ay 72 0=some 0:=ag
theorem rL:bU ay 72 1=some 1:=ag
theorem Is:bU ay 77 0=some 0:=ag
theorem vl:bU ay 77 2=some 2:=ag
theorem tw:bU ay 77 3=some 3:=ag
theorem Cd:bU ay 77 4=some 4:=ag
theorem It:bU ay 77 5=some 5:=ag
theorem qC:bU ay 77 6=some 6:=ag
theorem UY:(ay.info? 155).isSome=true :=ag
theorem Vd:∀ (l:List UInt8) (c:UInt8) (w:World),(callFunc 292 #[str l,.int .u8 c.toNat]).run ay w= .ok (.value<|.int .i64<|eZ c l) w:=XP func292 ag ag ag ag
theorem rN:ow ay 51 (pO .u16):=Vo (q:= .u16) ag
theorem jb:ow ay 9 jl:=Vp ag
theorem CP:rS ay 47=true :=ag
theorem W0:ptrTo ay 227 5=true :=ag
theorem hZ:fV ay 153 5 1 1=true :=ag
theorem Lo:fV ay 176 369 2 32=true :=ag
theorem Lp:fV ay 177 75 1 24=true :=ag
theorem Lq:fV ay 178 242 5 40=true :=ag
theorem y5:fV ay 179 174 8 104=true :=ag
theorem Lr:fV ay 187 209 2 32=true :=ag
theorem y6:fV ay 230 237 2 32=true :=ag
theorem y7:fV ay 268 325 4 32=true :=ag
theorem y8:fV ay 27 41 5 48=true :=ag
theorem Ls:fV ay 30 169 2 40=true :=ag
theorem Lt:fV ay 304 349 1 16=true :=ag
theorem Lu:fV ay 34 43 5 48=true :=ag
theorem y9:fV ay 53 128 2 32=true :=ag
theorem zb:fV ay 54 70 1 24=true :=ag
theorem zd:fV ay 55 131 5 40=true :=ag
theorem ze:fV ay 56 77 7 88=true :=ag
theorem zf:fV ay 62 72 2 40=true :=ag
theorem zg:fV ay 70 51 1 2=true :=ag
theorem np:fV ay 75 3 1 8=true :=ag
theorem fH:fV ay 87 9 1 16=true :=ag
theorem DD:gN ay 106=some ([(0,1),(1,1),(2,1)],[.int .i64 0,.int .i64 0,.int .i64 0]):=ag
theorem Yp:gN ay 111=some ([(0,1),(1,1),(2,1),(3,1),(4,1),(5,1),(6,1),(7,1)],[.bool false,.bool false,.string ⟨⟨[]⟩⟩,.int .i64 0,.int .i64 0,.int .i64 0,.int .i64 0,.slice none 0 0]):=ag
theorem Yq:gN ay 125=some ([(0,13),(13,1)],[.int .i64 0,.string ⟨⟨[]⟩⟩,.string ⟨⟨[]⟩⟩,.int .u16 0,.int .u16 0,.int .u16 0,.int .u16 0,.int .u16 0,.int .i64 0,.slice none 0 0,.slice none 0 0,.slice none 0 0,.slice none 0 0,.map none]):=ag
theorem Yr:gN ay 128=some ([(0,1),(1,1)],[.string ⟨⟨[]⟩⟩,.string ⟨⟨[]⟩⟩]):=ag
theorem DE:gN ay 131=some ([(0,1),(1,1),(2,1),(3,1),(4,1)],[.int .u16 0,.int .i64 0,.bool false,.int .i64 0,.int .i64 0]):=ag
theorem pT:gN ay 169=some ([(0,1),(1,1)],[.string ⟨⟨[]⟩⟩,.slice none 0 0]):=ag
theorem LA:gN ay 174=some ([(0,1),(1,1),(2,1),(3,1),(4,1),(5,1),(6,1),(7,1)],[.int .i64 0,.int .i64 0,.bool false,.string ⟨⟨[]⟩⟩,.string ⟨⟨[]⟩⟩,.string ⟨⟨[]⟩⟩,.slice none 0 0,.int .i64 0]):=ag
theorem Ys:gN ay 181=some ([(0,1),(1,1),(2,1),(3,5),(8,1),(9,1),(10,1),(11,1),(12,1)],[.int .i64 0,.string ⟨⟨[]⟩⟩,.string ⟨⟨[]⟩⟩,.int .i64 0,.int .i64 0,.int .i64 0,.int .i64 0,.int .i64 0,.int .i64 0,.slice none 0 0,.slice none 0 0,.slice none 0 0,.slice none 0 0]):=ag
theorem Yt:gN ay 183=some ([(0,1),(1,1),(2,1),(3,1),(4,1),(5,1)],[.pointer none,.slice none 0 0,.int .i64 0,.string ⟨⟨[]⟩⟩,.slice none 0 0,.nilFunc]):=ag
theorem Yu:gN ay 186=some ([(0,1),(1,1)],[.slice none 0 0,.map none]):=ag
theorem Yv:gN ay 195=some ([(0,1),(1,1),(2,1),(3,1),(4,1),(5,1),(6,1)],[.pointer none,.slice none 0 0,.int .i64 0,.int .i64 0,.map none,.map none,.slice none 0 0]):=ag
theorem mM:gN ay 202=some ([(0,1),(1,1)],[.int .i64 0,.nilFunc]):=ag
theorem Yw:gN ay 209=some ([(0,1),(1,1)],[.int .i64 0,.slice none 0 0]):=ag
theorem Yx:gN ay 236=some ([(0,1),(1,1),(2,1),(3,1),(4,1),(5,1)],[.pointer none,.slice none 0 0,.int .i64 0,.int .i64 0,.slice none 0 0,.int .i64 0]):=ag
theorem LB:gN ay 237=some ([(0,1),(1,1)],[.int .i64 0,.slice none 0 0]):=ag
theorem LC:gN ay 242=some ([(0,1),(1,1),(2,1),(3,1),(4,1)],[.int .i64 0,.int .i64 0,.bool false,.int .i64 0,.int .i64 0]):=ag
theorem vT:gN ay 270=some ([(0,1)],[.slice none 0 0]):=ag
theorem Yy:gN ay 32=some ([(0,1),(1,1)],[.pointer none,.slice none 0 0]):=ag
theorem Yz:gN ay 349=some ([(0,1)],[.string ⟨⟨[]⟩⟩]):=ag
theorem YA:gN ay 369=some ([(0,1),(1,1)],[.string ⟨⟨[]⟩⟩,.string ⟨⟨[]⟩⟩]):=ag
theorem LD:gN ay 41=some ([(0,1),(1,1),(2,1),(3,1),(4,1)],[.string ⟨⟨[]⟩⟩,.int .i64 0,.int .i64 0,.int .i64 0,.int .i64 0]):=ag
theorem DF:gN ay 43=some ([(0,1),(1,1),(2,1),(3,1),(4,1)],[.string ⟨⟨[]⟩⟩,.int .i64 0,.int .i64 0,.int .i64 0,.int .i64 0]):=ag
theorem tH:gN ay 47=some ([(0,1),(1,1),(2,1)],[.int .i64 0,.int .i64 0,.int .i64 0]):=ag
theorem YB:gN ay 64=some ([(0,1),(1,1),(2,13),(15,1)],[.pointer none,.pointer none,.int .i64 0,.string ⟨⟨[]⟩⟩,.string ⟨⟨[]⟩⟩,.int .u16 0,.int .u16 0,.int .u16 0,.int .u16 0,.int .u16 0,.int .i64 0,.slice none 0 0,.slice none 0 0,.slice none 0 0,.slice none 0 0,.slice none 0 0]):=ag
theorem nZ:gN ay 72=some ([(0,1),(1,1)],[.string ⟨⟨[]⟩⟩,.slice none 0 0]):=ag
theorem DG:gN ay 77=some ([(0,1),(1,1),(2,1),(3,1),(4,1),(5,1),(6,1)],[.int .i64 0,.int .u16 0,.bool false,.string ⟨⟨[]⟩⟩,.string ⟨⟨[]⟩⟩,.string ⟨⟨[]⟩⟩,.slice none 0 0]):=ag
theorem r7:ay.underlying 123=some (.map 51 3):=ag
theorem LZ:ay.underlying 152=some (.pointer 155):=ag
theorem mQ:ay.underlying 153=some (.slice 5):=ag
theorem L1:ay.underlying 177=some (.slice 75):=ag
theorem DN:ay.underlying 178=some (.slice 242):=ag
theorem tM:ay.underlying 179=some (.slice 174):=ag
theorem L2:ay.underlying 184=some (.map 9 75):=ag
theorem zo:ay.underlying 187=some (.slice 209):=ag
theorem qU:ay.underlying 193=some (.map 9 3):=ag
theorem l9:ay.underlying 197=some (.map 9 202):=ag
theorem L4:ay.underlying 217=some (.slice 51):=ag
theorem vW:ay.underlying 22=some (.pointer 64):=ag
theorem L5:ay.underlying 226=some (.int .u64):=ag
theorem DO:ay.underlying 23=some (.pointer 32):=ag
theorem zp:ay.underlying 230=some (.slice 237):=ag
theorem qV:ay.underlying 268=some (.slice 325):=ag
theorem tN:ay.underlying 27=some (.slice 41):=ag
theorem u3:ay.underlying 3=some (.int .i64):=ag
theorem zq:ay.underlying 30=some (.slice 169):=ag
theorem r8:ay.underlying 304=some (.slice 349):=ag
theorem Y3:ay.underlying 34=some (.slice 43):=ag
theorem Y4:ay.underlying 340=some (.int .u64):=ag
theorem u4:ay.underlying 4=some (.bool):=ag
theorem u5:ay.underlying 5=some (.int .u8):=ag
theorem zr:ay.underlying 51=some (.int .u16):=ag
theorem Y5:ay.underlying 53=some (.slice 128):=ag
theorem zt:ay.underlying 54=some (.slice 70):=ag
theorem L7:ay.underlying 55=some (.slice 131):=ag
theorem vX:ay.underlying 56=some (.slice 77):=ag
theorem vY:ay.underlying 60=some (.pointer 125):=ag
theorem L8:ay.underlying 61=some (.pointer 186):=ag
theorem zu:ay.underlying 62=some (.slice 72):=ag
theorem oQ:ay.underlying 70=some (.slice 51):=ag
theorem nq:ay.underlying 75=some (.slice 3):=ag
theorem eQ:ay.underlying 87=some (.slice 9):=ag
theorem u9:ay.underlying 9=some (.string):=ag
theorem Mb:vZ ay 152 279 155 2=true :=ag
theorem Ze:(ay.underlying 158).isSome=true :=ag
theorem Zf:(ay.underlying 226).isSome=true :=ag
theorem qW:(ay.underlying 3).isSome=true :=ag
theorem pW:(ay.underlying 5).isSome=true :=ag
theorem wide:ay.follows .mixedOrders=true :=ag
theorem MA:zeroOf ay 106=some (some [.int .i64 0,.int .i64 0,.int .i64 0]):=ag
theorem tV:zeroOf ay 131=some (some [.int .u16 0,.int .i64 0,.bool false,.int .i64 0,.int .i64 0]):=ag
theorem MB:zeroOf ay 155=some (some [.pointer none,.slice none 0 0]):=ag
theorem MC:zeroOf ay 169=some (some [.string ⟨⟨[]⟩⟩,.slice none 0 0]):=ag
theorem D2:zeroOf ay 174=some (some [.int .i64 0,.int .i64 0,.bool false,.string ⟨⟨[]⟩⟩,.string ⟨⟨[]⟩⟩,.string ⟨⟨[]⟩⟩,.slice none 0 0,.int .i64 0]):=ag
theorem ZJ:zeroOf ay 187=some (some [.slice none 0 0]):=ag
theorem ZK:zeroOf ay 202=some (some [.int .i64 0,.nilFunc]):=ag
theorem MD:zeroOf ay 209=some (some [.int .i64 0,.slice none 0 0]):=ag
theorem sc:zeroOf ay 242=some (some [.int .i64 0,.int .i64 0,.bool false,.int .i64 0,.int .i64 0]):=ag
theorem ME:zeroOf ay 27=some (some [.slice none 0 0]):=ag
theorem zD:zeroOf ay 270=some (some [.slice none 0 0]):=ag
theorem ZL:zeroOf ay 3=some (some [.int .i64 0]):=ag
theorem sd:zeroOf ay 325=some (some [.int .u64 0,.int .u64 0,.int .u64 0,.int .u64 0]):=ag
theorem ZM:zeroOf ay 340=some (some [.int .u64 0]):=ag
theorem D3:zeroOf ay 41=some (some [.string ⟨⟨[]⟩⟩,.int .i64 0,.int .i64 0,.int .i64 0,.int .i64 0]):=ag
theorem p5:zeroOf ay 47=some (some [.int .i64 0,.int .i64 0,.int .i64 0]):=ag
theorem ZN:zeroOf ay 52=some (some [.int .u16 0,.int .u16 0,.int .u16 0,.int .u16 0,.int .u16 0]):=ag
theorem MF:zeroOf ay 58=some (some [.int .i64 0,.string ⟨⟨[]⟩⟩,.string ⟨⟨[]⟩⟩,.int .u16 0,.int .u16 0,.int .u16 0,.int .u16 0,.int .u16 0,.int .i64 0,.slice none 0 0,.slice none 0 0,.slice none 0 0,.slice none 0 0]):=ag
theorem ZO:zeroOf ay 60=some (some [.pointer none]):=ag
theorem qX:zeroOf ay 72=some (some [.string ⟨⟨[]⟩⟩,.slice none 0 0]):=ag
theorem se:zeroOf ay 77=some (some [.int .i64 0,.int .u16 0,.bool false,.string ⟨⟨[]⟩⟩,.string ⟨⟨[]⟩⟩,.string ⟨⟨[]⟩⟩,.slice none 0 0]):=ag
theorem ZP:zeroOf ay 87=some (some [.slice none 0 0]):=ag
theorem ZQ:zeroOf ay 9=some (some [.string ⟨⟨[]⟩⟩]):=ag
theorem ZR:zeroOf ay 351=some (some<|List.replicate 256<|.bool false):=ag
theorem ZS:zeroV ay 202=some (.agg #[.int .i64 0,.nilFunc]):=ag
theorem oV:zeroV ay 3=some (.int .i64 0):=ag
theorem ZT:zeroV ay 47=some (.agg #[.int .i64 0,.int .i64 0,.int .i64 0]):=ag
theorem ZU:zeroV ay 5=some (.int .u8 0):=ag
theorem ZV:zeroV ay 51=some (.int .u16 0):=ag
theorem ZW:zeroV ay 75=some (.slice none 0 0):=ag
end Go.Hb.dT
end
section
set_option maxRecDepth 20000
set_option maxHeartbeats 1000000
namespace Go.Hb.Builder
open Go.Hb.dT
open Go.Proofs
theorem RJ (b:Nat) (i:Option Addr) (q:Value) (w:World) (a:w.heap[b]? =some (.cells [zQ i,q].toArray 155 (0,0))) (hp:i=none∨i=some ⟨b,0,none⟩):
 bh ay 109 (ba [aQ b]) w (fun v w'=>v= .tuple #[]∧w'.heap[b]? =some (.cells [zQ (some ⟨b,0,none⟩),q].toArray 155 (0,0))∧Md (fun k=>k=b) w w'):=by
 refine enter func109 aa ntmps109 aa<|aj fun _ A=>ak (aQ b)<|p (nc aa)<|p (fa BX aa)<|p (ld Fa aa<|(a6 a).trans aa)<|p (lY LZ aa aa)<|nl<|tn<|A _ _<|cb aa (fun j=> ?_) fun j=> ?_
 obtain rfl :i=none:=by simpa using j
 exact rg aa<|ak (aQ b)<|ak (aQ b)<|p (YV Mb aa a aa)<|p (Rz RY aa)<|p (TM Mb aa a aa)<|p (nc aa)<|p (fa BX aa)<|e<|cV RZ aa aa aa a (by simp) fun I G E=>nl<|f0 aa<|⟨aa,E,G⟩
 obtain rfl :i=some ⟨b,0,none⟩:=hp.resolve_left<|by rintro rfl; simp at j
 exact aj fun _ C=>ak (aQ b)<|p (nc aa)<|p (fa BX aa)<|p (ld Fa aa<|(a6 a).trans aa)<|ak (aQ b)<|p (Wa LZ UY aa aa)<|aE<|C _ _<|cf aa<|aM<|f0 aa<|⟨aa,a,Md.refl _ _⟩
theorem Mu (b:Nat) (i:Value) (l:List UInt8) (c:UInt8) (w:World) (ai:Bd 155 5 w b i l) (ax:l.length≤70368744177664):
 bh ay 203 (ba [aQ b,.int .u8 c.toNat]) w (fun v w'=>v= .nilIface∧∃ C,Bd 155 5 w' b C (l++ [c])∧Md (BF b i) w w'∧∀ k,BF b C k→BF b i k∨w.heap.size≤k):=by
 obtain ⟨⟨ar,J,ao⟩,hown,hnil⟩:=ai
 have az:b < w.heap.size:=(Array.getElem?_eq_some_iff.1 J).1
 have M:∀ k,i.ownBlock=some k→k≠b∧k < w.heap.size:=fun k hk=>by have :=hown.lt k hk; exact ⟨ab,this.2⟩
 refine enter func203 aa ntmps203 aa<|aj fun _ U=>aw<|U _ _<|aj fun _ V=>ak (aQ b)<|e<|cl O3 (RJ b ar i w J ao) aa fun v6 aG ah=> ?_
 obtain ⟨_,I,q⟩:=ah
 have an:=db hown q fun k hk=>(M k hk).1
 have aA:=q.size
 refine aE<|V _ _<|aj fun _ Y=>ak (aQ b)<|ak (aQ b)<|p (nc aa)<|p (fa yg aa)<|p (ld Ak aa<|(a6 I).trans aa)<|ak (.int .u8 c.toNat)<|e<|fR hZ aa aa fun au aC av j ae=>e<|ap hZ (aU an j.md) aa (by have :=j.size; omega) aa (aI.dS ae) (aa) (aa) ab ab fun O aD A E aq am=> ?_
 have al:=E.aJ (Wk.aJ j.md I) fun h=>(M b h).1 rfl
 refine p (nc aa)<|p (fa yg aa)<|e<|cV R5 aa aa (by obtain ⟨a,c,h,_⟩:=tD A; exact congrArg Value.oneCell' h) al (by simp) fun aF G ag=>aE<|Y _ _<|aj fun _ Z=>p aB<|aE<|Z _ _<|rt<|f1 aa aa ?_
 have ac:∀ k,O.ownBlock=some k→k≠b:=fun k hk=>by have :=A.lt k hk; omega
 refine ⟨aa,O,⟨⟨_,ag,.inr aa⟩,?_,?_⟩,?_,?_⟩
 rw [bI,xo]; exact db A G fun k hk=>ac k hk
 rw [aq]; simp
 refine Md.trans' (Md.trans' (Md.trans' (q.mono fun k _ h=> .inl h) j.md fun _ _ h=>h.elim) E fun k _ h=> .inr h) G fun k _ h=> .inl h
 rintro k (rfl | hk)
 exact .inl<|.inl aa
 by_cases h:i.ownBlock=some k
 exact .inl<|.inr h
 have :=am k hk; have h1:=q.size; have h2:=j.md.size; exact .inr<|by rcases this with h3 | h3; exact absurd h3 h; omega
theorem DI (b:Nat) (A:Value) (l:List UInt8) (w:World) (J:Bd 155 5 w b A l) (V:l.length≤70368744177664):
 bh ay 70 (ba [aQ b]) w (fun v w'=>v=str l∧Md (fun k=>A.ownBlock=some k) w w'):=by
 obtain ⟨⟨ac,C,Y⟩,hown,hnil⟩:=J
 obtain ⟨a,c,rfl,O,hle,hk,U⟩:=tD hown
 refine enter func70 aa ntmps70 aa<|aj fun _ E=>aw<|E _ _<|sq fun _ G=> ?_
 have i:(fun w'=>Md (fun k=>(bO a l.length c).ownBlock=some k) w w') w.drew:=(Md.refl _ _).drew
 refine bJ (fun w'=>Md (fun k=>(bO a l.length c).ownBlock=some k) w w') aa wide i<|bC 0 aa (aQ b) i<|aH 1 aa (fun _ _=>nc aa) i<|aH 2 aa (fun _ _=>fa yg aa) i<|aH 3 aa (fun w' j=>ld Ak aa<|j.aO ((a6 C).trans aa) fun h=>by have :=hown.lt _ h; omega) i<|bC 5 aa (aQ b) i<|aH 6 aa (fun _ _=>nc aa) i<|aH 7 aa (fun _ _=>fa yg aa) i<|aH 8 aa (fun w' j=>ld Ak aa<|j.aO ((a6 C).trans aa) fun h=>by have :=hown.lt _ h; omega) i<|aH 9 aa (fun _ _=>bF mQ aa aa) i ?_
 refine aH 4 aa (fun _ _=>Zg (v:= .nilFunc) aa (by
  by_cases h:l= []
  have :=hnil.2 h; simp only [Value.slice.injEq] at this; exact .inl this.1
  right; have :0 < l.length:=lx.2 h; omega)) i ?_
 refine he 10 aa ag<|Zh W0 aa aa hown aa ab fun M I Z=> ?_
 have q:(fun w'=>Md (fun k=>(bO a l.length c).ownBlock=some k) w w') M:=i.trans' I fun _ _ h=>h
 refine ⟨q,?_⟩
 exact aH 11 aa (fun _ _=>aB) q<|hn ag<|tn<|G _ _<|rt<|f1 aa aa<|⟨aa,q⟩
end Go.Hb.Builder
end
section
set_option maxRecDepth 20000
set_option maxHeartbeats 1000000
namespace Go.Hb.oy
open Go.Hb.dT
open Go.Proofs
open Go.Hb.Builder
theorem k8 (b:UInt8):rG b=decide ((b.toNat:Int)=92∨(b.toNat:Int)=47∨(b.toNat:Int)=35):=by
 unfold rG; exact decide_eq_decide.2 ab
theorem BM (b:UInt8):iN b=decide (32 < (b.toNat:Int)∧(b.toNat:Int)≠127):=by
 unfold iN; exact decide_eq_decide.2 ab
theorem Tl {b:UInt8} (h:32 < (b.toNat:Int)) (h1:(b.toNat:Int)≠127):iN b=true :=by rw [BM]; exact decide_eq_true ⟨h,h1⟩
theorem BL {b:UInt8} (h:¬(32 < (b.toNat:Int)∧(b.toNat:Int)≠127)):iN b=false :=by rw [BM]; exact decide_eq_false h
theorem HU (b:UInt8) (w:World):
 bh ay 204 (ba [.int .u8 b.toNat]) w (fun v w'=>v= .bool (iN b)∧Wk w w'):=by
 refine enter func204 aa ntmps204 aa<|aj fun _ i=>aw<|i _ _<|aj fun _ a=>ak (.int .u8 b.toNat)<|p (gt aa aa)<|p mv<|gs (t:=5) aa (fun j=> ?_) fun j=> ?_
 exact pg aa aa aa (aT (.int .u8 b.toNat) aa)<|pg aa aa aa (cX aa aa)<|p (bw aa)<|aw<|a _ _<|rt<|f1 aa aa<|⟨by show bQ (decide _)=_; rw [BM]; exact bv (by constructor <;> intro h <;> first | exact ⟨ab,h⟩ | exact h.2),Md.refl _ _⟩
 exact sk aa aa aa aa<|sk aa aa aa aa<|p (bm aa)<|aw<|a _ _<|rt<|f1 aa aa<|⟨by show bQ false =_; rw [BL ab],Md.refl _ _⟩
theorem VU (b:UInt8) (w:World):
 bh ay 202 (ba [.int .u8 b.toNat]) w (fun v w'=>v= .bool (rG b)∧Wk w w'):=by
 refine enter func202 aa ntmps202 aa<|aj fun _ C=>aw<|C _ _<|sq fun _ q=>aj fun _ E=>ak (.int .u8 b.toNat)<|aE<|E _ _<|aJ<|sq fun _ A=>aj fun _ G=>p (bH aa aa)<|aw<|G _ _<|cd aa (fun a=> ?_) fun a=> ?_
 refine aM<|tn<|A _ _<|cd aa (fun a=> ?_) fun a=> ?_
 refine aj fun _ j=>aw<|j _ _<|rt<|br<|tr<|f1 aa aa ?_
 first | exact ⟨by show bQ true =_; rw [k8,decide_eq_true ab],Md.refl _ _⟩ | exact ⟨by show bQ false =_; rw [k8,decide_eq_false ab],Md.refl _ _⟩
 refine aM<|bn<|tn<|q _ _<|aj fun _ j=>aw<|j _ _<|rt<|f1 aa aa ?_
 first | exact ⟨by show bQ true =_; rw [k8,decide_eq_true ab],Md.refl _ _⟩ | exact ⟨by show bQ false =_; rw [k8,decide_eq_false ab],Md.refl _ _⟩
 refine aj fun _ j=>p (bH aa aa)<|aw<|j _ _<|cd aa (fun a=> ?_) fun a=> ?_
 refine aM<|tn<|A _ _<|cd aa (fun a=> ?_) fun a=> ?_
 refine aj fun _ i=>aw<|i _ _<|rt<|br<|tr<|f1 aa aa ?_
 first | exact ⟨by show bQ true =_; rw [k8,decide_eq_true ab],Md.refl _ _⟩ | exact ⟨by show bQ false =_; rw [k8,decide_eq_false ab],Md.refl _ _⟩
 refine aM<|bn<|tn<|q _ _<|aj fun _ i=>aw<|i _ _<|rt<|f1 aa aa ?_
 first | exact ⟨by show bQ true =_; rw [k8,decide_eq_true ab],Md.refl _ _⟩ | exact ⟨by show bQ false =_; rw [k8,decide_eq_false ab],Md.refl _ _⟩
 refine rg aa<|p (bH aa aa)<|aw<|A _ _<|cd aa (fun a=> ?_) fun a=> ?_
 refine aj fun _ i=>aw<|i _ _<|rt<|br<|tr<|f1 aa aa ?_
 first | exact ⟨by show bQ true =_; rw [k8,decide_eq_true ab],Md.refl _ _⟩ | exact ⟨by show bQ false =_; rw [k8,decide_eq_false ab],Md.refl _ _⟩
 refine aM<|bn<|tn<|q _ _<|aj fun _ i=>aw<|i _ _<|rt<|f1 aa aa ?_
 first | exact ⟨by show bQ true =_; rw [k8,decide_eq_true ab],Md.refl _ _⟩ | exact ⟨by show bQ false =_; rw [k8,decide_eq_false ab],Md.refl _ _⟩
theorem Mh (s:List UInt8) (w:World) (hs:s.length≤1048576):
 bh ay 140 (ba [str s]) w (fun v w'=>v= .bool (pX s)∧Wk w w'):=by
 refine enter func140 aa ntmps140 aa<|aj fun _ Y=>aw<|Y _ _<|sq fun _ ae=>aj fun _ J=>ak (str s)<|p (dR aa aa)<|p mv<|gs (t:=6) aa (fun G=> ?_) fun G=> ?_
 exact sk aa aa aa aa<|sk aa aa aa aa<|sk aa aa aa aa<|p (bw aa)<|aE<|J _ _<|ct aa<|sq fun _ a=>rg aa<|aw<|a _ _<|rt<|tr<|f1 aa aa<|⟨by show bQ false =_; unfold pX; rw [decide_eq_false (by rw [G]; simp)],Md.refl _ _⟩
 refine pg aa aa aa (aT (str s) aa)<|pg aa aa aa (cg u9 aa aa)<|pg aa aa aa (gt aa aa)<|p (bm aa)<|aE<|J _ _<|cd aa (fun an=> ?_) fun an=> ?_
 exact aj fun _ a=>aw<|a _ _<|rt<|tr<|f1 aa aa<|⟨by show bQ false =_; unfold pX; rw [decide_eq_false ab],Md.refl _ _⟩
 refine aM<|tn<|ae _ _<|sq fun _ a=>aj fun _ ag=>ak (str s)<|p (cg u9 aa aa)<|p mv<|aE<|ag _ _<|aJ<|lp (fun M q V=> ∃ (i:Nat),(i≤s.length∧1≤s.length∧s.length≤64)∧(∀ j,j < i→iN (s.getD j 0)=true)∧(Wk w V)∧(q 0=str s)∧(q 12= .int .i64 s.length)∧(q 13= .int .i64 i)∧(s.length - i=M)) _ ⟨0,(⟨ab,by rcases Nat.eq_zero_or_pos s.length with h | h <;> first | exact absurd (wW.1 h) G | exact h,ab⟩),(fun j U=>by omega),(Md.refl _ _),aa,aa,aa,aa⟩ ?_
 rintro M q V ⟨i,hi,hp,C,ap,aq,ar,rfl⟩
 refine fx 0 ap<|fx 12 aq<|fx 13 ar<|aj fun _ ah=>p (lt aa aa)<|aE<|ah _ _<|sq fun _ ai=>cd aa (fun ao=> ?_) fun ao=> ?_
 refine aM<|tn<|ai _ _<|sq fun _ A=>aJ<|aj fun _ al=>ak (.int .i64 i)<|p (cH (.int .i64 i) aa)<|aE<|al _ _<|aj fun _ Z=>ak (str s)<|ak (.int .i64 i)<|p (eK u9 aa aa ab)<|e<|cl Gc (HU (s.getD i 0) _) aa fun au av am=> ?_
 obtain ⟨rfl,O⟩:=am
 refine p (no aa)<|aE<|Z _ _<|cb aa (fun E=> ?_) fun E=> ?_
 have I:iN (s.getD i 0)=false :=by simpa using E
 exact aj fun _ ac=>aw<|ac _ _<|rt<|br<|tr<|tr<|br<|tr<|f1 aa aa<|⟨by show bQ false =_; unfold pX; rw [sW (i:=i) ab I,decide_eq_false (by simp)],Md.trans C O⟩
 have I:iN (s.getD i 0)=true :=by simpa using E
 exact aM<|bn<|tn<|A _ _<|rg aa<|p (ad aa aa<|bT ab)<|p mv<|nl<|tn<|⟨_,ab,i+1,ab,(fun j U=>by rcases e8 j i with h | h <;> first | exact hp j h | (rw [show j=i by omega]; exact I)),(Md.trans C O),aa,aa,aa,aa⟩
 exact ext<|te _<|te _<|be<|tn<|a _ _<|aj fun _ A=>p aB<|aE<|A _ _<|rt<|f1 aa aa<|⟨by show bQ true =_; unfold pX; rw [uJ (fun j U=>hp j ab),decide_eq_true ⟨hi.2.1,hi.2.2,aa⟩],C⟩
theorem D1 (s:List UInt8) (w:World) (hs:s.length≤1048576):
 bh ay 139 (ba [str s]) w (fun v w'=>v=KI (bu s)∧Wk w w'):=by
 refine enter func139 aa ntmps139 aa<|aj fun _ an=>p aB<|p aB<|p aB<|aw<|an _ _<|aj fun _ au=>e<|ga MB fun a bl a9 aP aG=>aE<|au _ _<|sq fun _ av=>aj fun _ ax=>aw<|ax _ _<|aJ<|lp (fun al I G=> ∃ (i:Nat) (acc:List UInt8) (j:Value),(i≤s.length∧acc.length≤i)∧(Bd 155 5 G a j acc)∧(Wk w G)∧(jm acc (s.drop i)=bu s)∧(I 0=str s)∧(I 6=aQ a)∧(I 7= .int .i64 i)∧(s.length - i=al)) _ ⟨0,[],.slice none 0 0,(by simp),(Bd.new aG),aP.md,aa,aa,aa,aa,aa⟩ ?_
 rintro al I G ⟨i,acc,j,hi,q,A,hd,a2,a3,a4,rfl⟩
 refine fx 0 a2<|fx 6 a3<|fx 7 a4<|sq fun _ aA=>aj fun _ aC=>ak (.int .i64 i)<|ak (str s)<|p (cg u9 aa aa)<|p (lt aa aa)<|aE<|aC _ _<|cd aa (fun aX=> ?_) fun aX=> ?_
 refine aM<|tn<|aA _ _<|sq fun _ U=>aJ<|aj fun _ aD=>ak (str s)<|ak (.int .i64 i)<|p (eK u9 aa aa ab)<|aE<|aD _ _<|aJ ?_
 refine ec (fun J ae=> ∃ (k:Nat),(k < s.length∧i≤k∧k≤i+1)∧(Bd 155 5 ae a j acc)∧(Wk w ae)∧(jm (acc++ [s.getD k 0]) (s.drop<|k+1)=bu s)∧(J 0=str s)∧(J 6=aQ a)∧(J 7= .int .i64 k)) ?_ ?_
 refine aJ<|sq fun _ V=>aJ<|sq fun _ ao=>aJ<|sq fun _ ap=>sq fun _ aq=>sq fun _ ar=>rg aa<|p (bH aa aa)<|aw<|ar _ _<|cd aa (fun aY=> ?_) fun aY=> ?_
 have aW:(s.getD i 0).toNat=47:=ab
 refine ext<|te _<|te _<|be<|tn<|ao _ _<|sq fun _ ah=>sq fun _ M=> ?_
 have C:(fun w'=>True) G.drew:=trivial
 refine bJ (fun w'=>True) aa wide C<|bC 1 aa (str s) C<|bC 2 aa (.int .i64 i) C<|aH 3 aa (fun _ _=>bE ((i+1:Nat):Int) aa aa<|bj ab ab) C<|aH 4 aa (fun _ _=>l8 u9 aa aa ab) C<|he 0 aa ag<|cl A3 (DI a j acc _ (q.md (Md.refl (fun _=>False) _).drew fun _ _ h=>h) ab) aa fun v21 a8 aR=> ?_
 obtain ⟨rfl,aL⟩:=aR
 have E:(fun w'=>True) a8:=trivial
 refine ⟨E,?_⟩
 refine aH 5 aa (fun _ _=>aB) E<|aH 6 aa (fun _ _=>aB) E<|aH 7 aa (fun _ _=>aB) E<|aH 8 aa (fun _ _=>aB) E<|hn ag<|tn<|M _ _<|rt<|tr<|br<|tr<|br<|tr<|br<|br<|tr<|tr<|br<|tr<|f4 aa aa aa aa aa ?_
 skip
 exact ⟨by rw [← hd,drop_cons 0 (by omega :i < s.length),DZ aW]; rfl,q.DH A (Md.trans (Md.refl _ _).drew aL) ab⟩
 refine aM<|tn<|aq _ _<|aj fun _ ah=>p (bH aa aa)<|aw<|ah _ _<|cd aa (fun aZ=> ?_) fun aZ=> ?_
 have Z:(s.getD i 0).toNat=92:=ab
 refine ext<|te _<|m4 az<|te _<|be<|tn<|V _ _<|aj fun _ M=>ak (.int .i64 i)<|p (bE ((i+1:Nat):Int) aa aa<|bj ab ab)<|aw<|M _ _<|aj fun _ ai=>p mv<|ak (str s)<|p (cg u9 aa aa)<|p (bH aa aa)<|p mv<|gs (t:=32) aa (fun a1=> ?_) fun a1=> ?_
 exact sk aa aa aa aa<|sk aa aa aa aa<|sk aa aa aa aa<|sk aa aa aa aa<|sk aa aa aa aa<|p (bw aa)<|aE<|ai _ _<|ct aa<|aj fun _ O=>p aB<|p aB<|p aB<|p aB<|nl<|tn<|O _ _<|rt<|br<|tr<|br<|br<|tr<|tr<|br<|tr<|f4 aa aa aa aa aa<|⟨by rw [← hd,drop_cons 0 (by omega :i < s.length),gP ab,DW Z]; rfl,A⟩
 refine pg aa aa aa (aT (str s) aa)<|pg aa aa aa mv<|pg aa aa aa (eK u9 aa aa ab)<|eg aa aa aa<|cl PD (VU (s.getD (i+1) 0) _) aa fun bc bg aS=> ?_
 obtain ⟨rfl,Y⟩:=aS
 refine pg aa aa aa (no aa)<|p (bm aa)<|aE<|ai _ _<|cb aa (fun ac=> ?_) fun ac=> ?_
 exact aj fun _ O=>p aB<|p aB<|p aB<|aw<|O _ _<|rt<|br<|tr<|br<|br<|tr<|tr<|br<|tr<|f4 aa aa aa aa aa<|⟨by rw [← hd,drop_cons 0 (by omega :i < s.length),drop_cons 0 (by omega :i+1 < s.length),DX Z (by simpa using ac)]; rfl,Md.trans A Y⟩
 exact aM<|bn<|tn<|⟨i+1,ab,(q.md Y fun _ _ h=>h),(Md.trans A Y),(by rw [← hd,drop_cons 0 (by omega :i < s.length),drop_cons 0 (by omega :i+1 < s.length),wc Z (by simpa using ac)]),aa,aa,aa⟩
 exact aM<|tn<|ap _ _<|ext<|m4 az<|te _<|m4 az<|te _<|be<|tn<|⟨i,ab,q,A,(by rw [← hd,drop_cons 0 (by omega :i < s.length),DY ab ab]),aa,aa,aa⟩
 rintro J ae ⟨k,hk,am,aK,a0,a5,a6,a7⟩
 refine fx 0 a5<|fx 6 a6<|fx 7 a7<|aj fun _ V=>ak (str s)<|ak (.int .i64 k)<|p (eK u9 aa aa ab)<|e<|cl Gb (Mu a j (acc) (s.getD k 0) _ am ab) aa fun bd bi aU=> ?_
 obtain ⟨rfl,aF,aI,aN,bb⟩:=aU
 exact aE<|V _ _<|ext<|be<|bn<|tn<|U _ _<|rg aa<|ak (.int .i64 k)<|p (ad aa aa<|bT ab)<|aw<|⟨_,ab,k+1,acc++ [s.getD k 0],aF,(by rw [bI,eW]; omega),aI,(am.step aK aN ab),a0,aa,aa,aa,aa⟩
 refine ext<|te _<|te _<|be<|tn<|av _ _<|aj fun _ U=>e<|cl A3 (DI a j acc _ q ab) aa fun bf bk aV=> ?_
 obtain ⟨rfl,aO⟩:=aV
 exact p aB<|p aB<|p aB<|aw<|U _ _<|rt<|f4 aa aa aa aa aa<|⟨by rw [← hd,gP ab,zB]; rfl,q.DH A aO ab⟩
theorem VA (s:List UInt8) (w:World) (hs:s.length≤1048576):
 bh ay 194 (ba [str s]) w (fun v w'=>v= .tuple #[str (letE s).1,.int .i64 (letE s).2]∧Wk w w'):=by
 refine enter func194 aa ntmps194 aa<|aj fun _ az=>p aB<|aw<|az _ _<|aj fun _ aG=>e<|al ZR fun V a9 bc I ap=> ?_
 have aS:bL a9.heap V (marksOf []):=by rw [VW]; exact ap
 refine aE<|aG _ _<|sq fun _ aH=>aj fun _ aI=>ak (str s)<|p (dR aa aa)<|nl<|tn<|aI _ _<|cd aa (fun am=> ?_) fun am=> ?_
 exact aj fun _ U=>p aB<|aw<|U _ _<|rt<|tr<|f2 aa aa aa<|⟨by show gx #[str [],.int .i64 21]=_; unfold letE; rw [if_pos (.inl am)]; rfl,I.md⟩
 refine aM<|tn<|aH _ _<|aj fun _ U=>e<|ga MB fun G bq bf ax aT=>aE<|U _ _<|sq fun _ aK=>aj fun _ aL=>ak (str s)<|p (cg u9 aa aa)<|p mv<|aE<|aL _ _<|aJ ?_
 have bd:=ap.lt
 refine lp (fun ao a M=> ∃ (i:Nat) (q:Value),(i≤s.length)∧(∀ j,j < i→iN (s.getD j 0)=true)∧(bL M.heap V<|marksOf<|lets<|s.take i)∧(Bd 155 5 M G q<|lets<|s.take i)∧(Wk w M)∧(a 0=str s)∧(a 4=aQ V)∧(a 5=aQ G)∧(a 10= .int .i64 s.length)∧(a 11= .int .i64 i)∧(s.length - i=ao)) _ ⟨0,.slice none 0 0,ab,(fun j an=>by omega),(ax.md.B aS),(Bd.new aT),(Md.trans I.md ax.md),aa,aa,aa,aa,aa,aa⟩ ?_
 rintro ao a M ⟨i,q,hi,hp,av,Z,ag,a3,a6,a7,a4,a5,rfl⟩
 refine fx 0 a3<|fx 4 a6<|fx 5 a7<|fx 10 a4<|fx 11 a5 ?_
 have a2:=CH<|s.take i
 rw [dO] at a2
 have bg:=av.lt
 refine aj fun _ aN=>p (lt aa aa)<|aE<|aN _ _<|sq fun _ aO=>cd aa (fun a1=> ?_) fun a1=> ?_
 refine aM<|tn<|aO _ _<|sq fun _ E=>aJ<|aj fun _ aA=>ak (.int .i64 i)<|p (cH (.int .i64 i) aa)<|aE<|aA _ _<|sq fun _ aC=>aj fun _ aD=>ak (str s)<|ak (.int .i64 i)<|p (eK u9 aa aa ab)<|e<|cl Gc (HU (s.getD i 0) _) aa fun bk a8 aY=> ?_
 obtain ⟨rfl,A⟩:=aY
 refine p (no aa)<|aE<|aD _ _<|cb aa (fun ah=> ?_) fun ah=> ?_
 have J:iN (s.getD i 0)=false :=by simpa using ah
 exact aj fun _ O=>p aB<|aw<|O _ _<|rt<|tr<|br<|tr<|tr<|br<|tr<|f2 aa aa aa<|⟨by show gx #[str [],.int .i64 21]=_; unfold letE; rw [if_pos (.inr<|sW ab J)]; rfl,Md.trans ag A⟩
 have J:iN (s.getD i 0)=true :=by simpa using ah
 have aq:Wk w a8:=Md.trans ag A
 have Y:=A.B av
 have ae:=Z.md A fun _ _ h=>h
 have bj:=A.size
 refine aM<|tn<|aC _ _<|aj fun _ O=>ak (str s)<|ak (.int .i64 i)<|p (eK u9 aa aa ab)<|p (ka Ft aa aa<|by have :=iS (s.getD i 0); omega)<|p (ld mY aa<|VY Y _)<|p (no aa)<|aE<|O _ _<|cb aa (fun ai=> ?_) fun ai=> ?_
 have C:¬s.getD i 0∈lets (s.take i):=of_decide_eq_false<|by simpa using ai
 refine aj fun _ aF=>ak (str s)<|ak (.int .i64 i)<|p (eK u9 aa aa ab)<|p (ka Ft aa aa<|by have :=iS (s.getD i 0); omega)<|e<|st G7 aa aa (aa) (Y) (by rw [JJ]; have :=iS (s.getD i 0); omega) fun bb ar aR=> ?_
 have aX:=VZ aR
 have aV:Wk w bb:=Md.trans' aq ar fun k hk h=>by omega
 have ac:=ae.md ar fun k hk h=>by have :=ae.jk hk; omega
 refine aE<|aF _ _<|rg aa<|ak (str s)<|ak (.int .i64 i)<|p (eK u9 aa aa ab)<|e<|cl Gb (Mu G q (lets<|s.take i) (s.getD i 0) _ ac ab) aa fun bl bo aZ=> ?_
 obtain ⟨rfl,aP,aU,au,bi⟩:=aZ
 exact nl<|bn<|tn<|E _ _<|rg aa<|p (ad aa aa<|bT ab)<|p mv<|nl<|tn<|⟨_,ab,i+1,aP,ab,(fun j an=>by rcases e8 j i with h | h <;> first | exact hp j h | (rw [show j=i by omega]; exact J)),(by rw [qK ab,if_neg C]; exact au.B aX fun h=>by have :=ac.jk h; omega),(by rw [qK ab,if_neg C]; exact aU),(ac.step aV au<|by have :=I.md.size; omega),aa,aa,aa,aa,aa,aa⟩
 have C:s.getD i 0∈lets (s.take i):=by simpa using ai
 exact aM<|bn<|tn<|E _ _<|rg aa<|p (ad aa aa<|bT ab)<|p mv<|nl<|tn<|⟨_,ab,i+1,q,ab,(fun j an=>by rcases e8 j i with h | h <;> first | exact hp j h | (rw [show j=i by omega]; exact J)),(by rw [qK ab,if_pos C]; exact Y),(by rw [qK ab,if_pos C]; exact ae),aq,aa,aa,aa,aa,aa,aa⟩
 refine ext<|te _<|te _<|be<|tn<|aK _ _<|aj fun _ E=>e<|cl A3 (DI G q (lets<|s.take i) _ Z<|by have :=CH (s.take i); rw [dO] at this; omega) aa fun bm bp a0=> ?_
 obtain ⟨rfl,aW⟩:=a0
 exact p aB<|aw<|E _ _<|rt<|f2 aa aa aa<|⟨by show gx #[str (lets<|s.take i),.int .i64 0]=_; unfold letE; rw [if_neg (by rw [uJ (fun j an=>hp j ab)]; exact fun h=>h.elim am eb),show s.take i=s from eI ab]; rfl,Z.DH ag aW<|by have :=I.md.size; omega⟩
end Go.Hb.oy
end
section
set_option maxRecDepth 20000
set_option maxHeartbeats 1000000
namespace Go.Hb.kn
open Go.Hb.dT
open Go.Proofs
theorem yD {s:List UInt8} (h:¬s= []) (h1:¬(1 < s.length∧(s.getD 0 0).toNat=48)):¬qH s:=fun a=>a.elim h h1
theorem KC {s:List UInt8} (h:¬qH s):0 < s.length:=lx.2 fun e=>h<|.inl e
theorem yQ (s:List UInt8) (most:Int) (w:World) (hs:s.length≤1048576) (hm: -9223372036854775808≤most∧most≤9223372036854775807):
 bh ay 138 (ba [str s,.int .i64 most]) w (fun v w'=>v= .tuple #[.int .i64 (dY s most).1,.int .i64 (dY s most).2]∧Wk w w'):=by
 refine enter func138 aa ntmps138 aa<|aj fun _ ac=>p aB<|aw<|ac _ _ ?_
 refine ec (fun O M=>(¬qH s)∧(M=w)∧(O 0=str s)∧(O 1= .int .i64 most)) ?_ ?_
 refine aj fun _ A=>ak (str s)<|p (dR aa aa)<|p mv<|gs (t:=11) aa (fun G=> ?_) fun G=> ?_
 exact sk aa aa aa aa<|sk aa aa aa aa<|sk aa aa aa aa<|sk aa aa aa aa<|dV aa aa aa<|dV aa aa aa<|dV aa aa aa<|sk aa aa aa aa<|p (bw aa)<|aE<|A _ _<|ct aa<|aj fun _ C=>p aB<|p aB<|aE<|C _ _<|rt<|tr<|f2 aa aa aa<|⟨by show gx #[.int .i64 0,.int .i64 13]=_; rw [yP (.inl G)]; rfl,Md.refl _ _⟩
 refine pg aa aa aa (aT (str s) aa)<|pg aa aa aa (cg u9 aa aa)<|pg aa aa aa (gt aa aa)<|pg aa aa aa mv<|gs (t:=15) aa (fun ax=> ?_) fun ax=> ?_
 refine pg aa aa aa (aT (str s) aa)<|pg aa aa aa (ja 0 u9 aa aa ab)<|pg aa aa aa (bH aa aa)<|pg aa aa aa (bw aa)<|p (bm aa)<|aE<|A _ _<|cd aa (fun ap=> ?_) fun ap=> ?_
 exact aj fun _ C=>p aB<|aw<|C _ _<|rt<|tr<|f2 aa aa aa<|⟨by show gx #[.int .i64 0,.int .i64 13]=_; rw [yP (.inr ⟨ab,ab⟩)]; rfl,Md.refl _ _⟩
 have I:=yD (s:=s) G ab
 exact aM<|tn<|⟨I,aa,aa,aa⟩
 exact sk aa aa aa aa<|sk aa aa aa aa<|sk aa aa aa aa<|pg aa aa aa (bm aa)<|p (bm aa)<|aE<|A _ _<|cf aa<|aM<|tn<|⟨(yD (s:=s) G ab),aa,aa,aa⟩
 rintro O M ⟨I,an,aD,aF⟩
 refine fx 0 aD<|fx 1 aF ?_
 subst an
 have hp:=KC I
 refine aj fun _ A=>aw<|A _ _<|sq fun _ C=>aj fun _ ag=>ak (str s)<|p (cg u9 aa aa)<|p mv<|aE<|ag _ _<|aJ<|lp (fun U q Z=> ∃ (i:Nat),(i≤s.length)∧(Z=M)∧((eJ (s.take i):Int)≤max 0 most∧(0 < i→(eJ (s.take i):Int)≤most))∧(∀ j,j < i→qw (s.getD j 0)=true)∧(q 0=str s)∧(q 1= .int .i64 most)∧(q 6=au (eJ<|s.take i))∧(q 22= .int .i64 s.length)∧(q 23= .int .i64 i)∧(s.length - i=U)) _ ⟨0,ab,aa,(by rw [oq]; show (0:Int)≤_∧_; omega),(fun j Y=>by omega),aa,aa,(iv<|by first | rfl | (rw [m9 ab])),aa,aa,aa⟩ ?_
 rintro U q Z ⟨i,hi,ao,hn,V,aG,aH,aL,aI,aK,rfl⟩
 refine fx 0 aG<|fx 1 aH<|fx 6 aL<|fx 22 aI<|fx 23 aK ?_
 subst ao
 have aN:=iS<|s.getD i 0
 refine aj fun _ ah=>p (lt aa aa)<|aE<|ah _ _<|sq fun _ ai=>cd aa (fun aq=> ?_) fun aq=> ?_
 refine aM<|tn<|ai _ _<|sq fun _ J=>aJ<|aj fun _ al=>ak (.int .i64 i)<|p (cH (.int .i64 i) aa)<|aE<|al _ _<|aj fun _ am=>ak (str s)<|ak (.int .i64 i)<|p (eK u9 aa aa ab)<|p (xK u3 pW aa<|bT ab)<|p (sb aa aa<|bT ab)<|aw<|am _ _<|sq fun _ ae=>aj fun _ E=>p mv<|p (lt aa aa)<|p mv<|gs (t:=33) aa (fun az=> ?_) fun az=> ?_
 exact sk aa aa aa aa<|sk aa aa aa aa<|p (bw aa)<|p mv<|sk aa aa aa aa<|sk aa aa aa aa<|sk aa aa aa aa<|p (bw aa)<|p mv<|sk aa aa aa aa<|sk aa aa aa aa<|sk aa aa aa aa<|sk aa aa aa aa<|sk aa aa aa aa<|sk aa aa aa aa<|p (bw aa)<|aE<|E _ _<|ct aa<|aj fun _ a=>p aB<|p aB<|nl<|tn<|a _ _<|rt<|tr<|br<|tr<|tr<|br<|tr<|f2 aa aa aa<|⟨by show gx #[.int .i64 0,.int .i64 13]=_; rw [yO (i:=i) ab (xP ab)]; rfl,Md.refl _ _⟩
 refine pg aa aa aa mv<|pg aa aa aa (gt aa aa)<|p (bm aa)<|p mv<|gs (t:=37) aa (fun aA=> ?_) fun aA=> ?_
 exact sk aa aa aa aa<|sk aa aa aa aa<|sk aa aa aa aa<|p (bw aa)<|p mv<|sk aa aa aa aa<|sk aa aa aa aa<|sk aa aa aa aa<|sk aa aa aa aa<|sk aa aa aa aa<|sk aa aa aa aa<|p (bw aa)<|aE<|E _ _<|ct aa<|sq fun _ a=>rg aa<|p aB<|aw<|a _ _<|rt<|tr<|br<|tr<|tr<|br<|tr<|f2 aa aa aa<|⟨by show gx #[.int .i64 0,.int .i64 13]=_; rw [yO (i:=i) ab (xP ab)]; rfl,Md.refl _ _⟩
 refine pg aa aa aa (aT (.int .i64 most) aa)<|pg aa aa aa mv<|pg aa aa aa (lt aa aa)<|p (bm aa)<|p mv<|gs (t:=42) aa (fun aC=> ?_) fun aC=> ?_
 exact sk aa aa aa aa<|sk aa aa aa aa<|sk aa aa aa aa<|sk aa aa aa aa<|sk aa aa aa aa<|sk aa aa aa aa<|p (bw aa)<|nl<|tn<|E _ _<|ct aa<|aj fun _ a=>p aB<|aw<|a _ _<|rt<|tr<|br<|tr<|tr<|br<|tr<|f2 aa aa aa<|⟨by show gx #[.int .i64 0,.int .i64 13]=_; rw [vB (i+1) (by rw [m9 ab]; omega)]; rfl,Md.refl _ _⟩
 have aO:((s.getD i 0).toNat:Int) - 48≤most:=ab
 refine pg aa aa aa (aT (au<|eJ<|s.take i) aa)<|pg aa aa aa (aT (.int .i64 most) aa)<|pg aa aa aa mv<|pg aa aa aa (sb aa aa<|bT ab)<|pg aa aa aa (qQ (((most - (((s.getD i 0).toNat:Int) - 48)).toNat / 10:Nat):Int) aa aa ab<|bj ab ab)<|pg aa aa aa (gt aa aa)<|p (bm aa)<|nl<|tn<|E _ _<|cd aa (fun ar=> ?_) fun ar=> ?_
 exact aj fun _ a=>p aB<|aw<|a _ _<|rt<|tr<|br<|tr<|tr<|br<|tr<|f2 aa aa aa<|⟨by show gx #[.int .i64 0,.int .i64 13]=_; rw [vB (i+1) (by rw [m9 ab]; omega)]; rfl,Md.refl _ _⟩
 have av:qw (s.getD i 0)=true :=decide_eq_true ab
 exact aM<|tn<|ae _ _<|rg aa<|ak (au<|eJ<|s.take i)<|p (oL ((eJ (s.take i)*10:Nat):Int) aa aa<|bj ab ab)<|p mv<|p (bE ((eJ (s.take i)*10 +((s.getD i 0).toNat - 48):Nat):Int) aa aa<|bj ab ab)<|p aB<|nl<|bn<|tn<|J _ _<|rg aa<|p (ad aa aa<|bT ab)<|p mv<|nl<|tn<|⟨_,ab,i+1,ab,aa,(by rw [m9 ab]; omega),(fun j Y=>by rcases e8 j i with h | h <;> first | exact V j h | (rw [show j=i by omega]; exact av)),aa,aa,(iv<|by first | rfl | (rw [m9 ab])),aa,aa,aa⟩
 exact ext<|te _<|te _<|be<|tn<|C _ _<|aj fun _ J=>ak (au<|eJ<|s.take i)<|p (cH (au<|eJ<|s.take i) aa)<|aw<|J _ _<|rt<|f2 aa aa aa<|⟨by show gx #[au (eJ<|s.take i),.int .i64 0]=_; rw [show s.take i=s from eI ab,CS I (fun j Y=>V j ab) (by rw [show s.take i=s from eI ab] at hn; omega)],Md.refl _ _⟩
theorem rX (s:List UInt8) (most:Int) (w:World) (hs:s.length≤1048576) (hm: -9223372036854775808≤most∧most≤9223372036854775807):
 bh ay 118 (ba [str s,.int .i64 most]) w (fun v w'=>v= .tuple #[.int .i64 (dY s most).1,.int .i64 (dY s most).2]∧Wk w w'):=by
 refine enter func118 aa ntmps118 aa<|aj fun _ ao=>p aB<|aw<|ao _ _ ?_
 refine ec (fun ai ag=>(¬qH s)∧(ag=w)∧(ai 0=str s)∧(ai 1= .int .i64 most)) ?_ ?_
 refine aj fun _ A=>ak (str s)<|p (cg u9 aa aa)<|p (bH aa aa)<|p mv<|gs (t:=13) aa (fun ae=> ?_) fun ae=> ?_
 exact sk aa aa aa aa<|sk aa aa aa aa<|sk aa aa aa aa<|sk aa aa aa aa<|dV aa aa aa<|dV aa aa aa<|dV aa aa aa<|sk aa aa aa aa<|p (bw aa)<|aE<|A _ _<|ct aa<|aj fun _ C=>p aB<|p aB<|aE<|C _ _<|rt<|tr<|f2 aa aa aa<|⟨by show gx #[.int .i64 0,.int .i64 13]=_; rw [yP (.inl<|wW.1 ab)]; rfl,Md.refl _ _⟩
 refine pg aa aa aa (aT (str s) aa)<|pg aa aa aa (cg u9 aa aa)<|pg aa aa aa (gt aa aa)<|pg aa aa aa mv<|gs (t:=17) aa (fun aL=> ?_) fun aL=> ?_
 refine pg aa aa aa (aT (str s) aa)<|pg aa aa aa (ja 0 u9 aa aa ab)<|pg aa aa aa (bH aa aa)<|pg aa aa aa (bw aa)<|p (bm aa)<|aE<|A _ _<|cd aa (fun aC=> ?_) fun aC=> ?_
 exact aj fun _ C=>p aB<|aw<|C _ _<|rt<|tr<|f2 aa aa aa<|⟨by show gx #[.int .i64 0,.int .i64 13]=_; rw [yP (.inr ⟨ab,ab⟩)]; rfl,Md.refl _ _⟩
 exact aM<|tn<|⟨(yD (s:=s) (fun e=>by subst e; exact ae aa) ab),aa,aa,aa⟩
 exact sk aa aa aa aa<|sk aa aa aa aa<|sk aa aa aa aa<|pg aa aa aa (bm aa)<|p (bm aa)<|aE<|A _ _<|cf aa<|aM<|tn<|⟨(yD (s:=s) (fun e=>by subst e; exact ae aa) ab),aa,aa,aa⟩
 rintro ai ag ⟨al,ax,aQ,aR⟩
 refine fx 0 aQ<|fx 1 aR ?_
 subst ax
 have hp:=KC al
 refine aj fun _ A=>aw<|A _ _<|sq fun _ C=>aj fun _ aq=>aw<|aq _ _<|aJ<|lp (fun G J ah=> ∃ (i:Nat),(i≤s.length)∧(ah=ag)∧(∀ j,j < i→qw (s.getD j 0)=true)∧(J 0=str s)∧(J 1= .int .i64 most)∧(J 6= .int .i64 0)∧(J 7= .int .i64 i)∧(s.length - i=G)) _ ⟨0,ab,aa,(fun j am=>by omega),aa,aa,aa,aa,aa⟩ ?_
 rintro G J ah ⟨i,hi,az,I,aS,aU,aV,aW,rfl⟩
 refine fx 0 aS<|fx 1 aU<|fx 6 aV<|fx 7 aW ?_
 subst az
 refine sq fun _ ar=>aj fun _ av=>ak (.int .i64 i)<|ak (str s)<|p (cg u9 aa aa)<|p (lt aa aa)<|nl<|tn<|av _ _<|cd aa (fun aD=> ?_) fun aD=> ?_
 refine aM<|tn<|ar _ _<|sq fun _ ac=>aJ<|aj fun _ U=>ak (str s)<|ak (.int .i64 i)<|p (eK u9 aa aa ab)<|p (lt aa aa)<|p mv<|gs (t:=33) aa (fun aN=> ?_) fun aN=> ?_
 exact sk aa aa aa aa<|sk aa aa aa aa<|sk aa aa aa aa<|sk aa aa aa aa<|p (bw aa)<|aE<|U _ _<|ct aa<|aj fun _ E=>p aB<|aw<|E _ _<|rt<|br<|tr<|tr<|br<|tr<|f2 aa aa aa<|⟨by show gx #[.int .i64 0,.int .i64 13]=_; rw [yO (i:=i) ab (xP ab)]; rfl,Md.refl _ _⟩
 refine pg aa aa aa (aT (str s) aa)<|pg aa aa aa (aT (.int .i64 i) aa)<|pg aa aa aa (eK u9 aa aa ab)<|pg aa aa aa (gt aa aa)<|p (bm aa)<|aE<|U _ _<|cd aa (fun aF=> ?_) fun aF=> ?_
 exact aj fun _ E=>p aB<|aw<|E _ _<|rt<|br<|tr<|tr<|br<|tr<|f2 aa aa aa<|⟨by show gx #[.int .i64 0,.int .i64 13]=_; rw [yO (i:=i) ab (xP ab)]; rfl,Md.refl _ _⟩
 have aK:qw (s.getD i 0)=true :=decide_eq_true ab
 exact aM<|bn<|tn<|ac _ _<|rg aa<|ak (.int .i64 i)<|p (ad aa aa<|bT ab)<|p aB<|nl<|tn<|⟨_,ab,i+1,ab,aa,(fun j am=>by rcases e8 j i with h | h <;> first | exact I j h | (rw [show j=i by omega]; exact aK)),aa,aa,aa,aa,aa⟩
 refine ext<|te _<|te _<|be<|tn<|C _ _<|sq fun _ ac=>aj fun _ U=>aw<|U _ _<|aJ<|lp (fun G M an=> ∃ (j:Nat),(j≤s.length)∧(an=ah)∧(eJ (s.take j)≤9223372036854775807)∧(M 0=str s)∧(M 1= .int .i64 most)∧(M 6=au (eJ<|s.take j))∧(M 8= .int .i64 j)∧(s.length - j=G)) _ ⟨0,ab,aa,(by rw [oq]; exact Nat.zero_le _),aa,aa,(iv<|by first | rfl | (rw [m9 ab])),aa,aa⟩ ?_
 rintro G M an ⟨j,am,aA,hn,aX,aY,aZ,a0,rfl⟩
 refine fx 0 aX<|fx 1 aY<|fx 6 aZ<|fx 8 a0 ?_
 subst aA
 refine sq fun _ E=>aj fun _ ap=>ak (.int .i64 j)<|ak (str s)<|p (cg u9 aa aa)<|p (lt aa aa)<|nl<|tn<|ap _ _<|cd aa (fun aG=> ?_) fun aG=> ?_
 refine aM<|tn<|E _ _<|sq fun _ O=>aJ<|sq fun _ V=> ?_
 have a1:=Bt<|I j ab
 refine rg aa<|ak (str s)<|ak (.int .i64 j)<|p (eK u9 aa aa ab)<|p (sb aa aa<|tU ab)<|p (xK u3 pW aa<|bT ab)<|p aB<|nl<|tn<|V _ _<|sq fun _ a=>aj fun _ Y=>ak (au<|eJ<|s.take j)<|p (gt aa aa)<|p mv<|gs (t:=52) aa (fun aO=> ?_) fun aO=> ?_
 exact sk aa aa aa aa<|sk aa aa aa aa<|sk aa aa aa aa<|dV aa aa aa<|dV aa aa aa<|sk aa aa aa aa<|p (bw aa)<|nl<|tn<|Y _ _<|ct aa<|aj fun _ Z=>p aB<|aw<|Z _ _<|rt<|tr<|br<|tr<|tr<|br<|tr<|f2 aa aa aa<|⟨by show gx #[.int .i64 0,.int .i64 13]=_; rw [vB (j+1) (by rw [m9 ab]; omega)]; rfl,Md.refl _ _⟩
 refine pg aa aa aa (aT (au<|eJ<|s.take j) aa)<|pg aa aa aa (bH aa aa)<|pg aa aa aa mv<|gs (t:=55) aa (fun aP=> ?_) fun aP=> ?_
 refine pg aa aa aa mv<|pg aa aa aa (gt aa aa)<|pg aa aa aa (bw aa)<|p (bm aa)<|aE<|Y _ _<|cd aa (fun aH=> ?_) fun aH=> ?_
 exact aj fun _ Z=>p aB<|aw<|Z _ _<|rt<|tr<|br<|tr<|tr<|br<|tr<|f2 aa aa aa<|⟨by show gx #[.int .i64 0,.int .i64 13]=_; rw [vB (j+1) (by rw [m9 ab]; omega)]; rfl,Md.refl _ _⟩
 exact aM<|tn<|a _ _<|rg aa<|ak (au<|eJ<|s.take j)<|p (oL ((eJ (s.take j)*10:Nat):Int) aa aa<|bj ab ab)<|p mv<|p (bE ((eJ (s.take j)*10 +((s.getD j 0).toNat - 48):Nat):Int) aa aa<|bj ab ab)<|p aB<|nl<|bn<|tn<|O _ _<|rg aa<|ak (.int .i64 j)<|p (ad aa aa<|bT ab)<|p aB<|nl<|tn<|⟨_,ab,j+1,ab,aa,(by have :=Bt (I j ab); rw [m9 ab]; omega),aa,aa,(iv<|by first | rfl | (rw [m9 ab])),aa,aa⟩
 exact sk aa aa aa aa<|sk aa aa aa aa<|pg aa aa aa (bm aa)<|p (bm aa)<|aE<|Y _ _<|cf aa<|aM<|tn<|a _ _<|rg aa<|ak (au<|eJ<|s.take j)<|p (oL ((eJ (s.take j)*10:Nat):Int) aa aa<|bj ab ab)<|p mv<|p (bE ((eJ (s.take j)*10 +((s.getD j 0).toNat - 48):Nat):Int) aa aa<|bj ab ab)<|p aB<|nl<|bn<|tn<|O _ _<|rg aa<|ak (.int .i64 j)<|p (ad aa aa<|bT ab)<|p aB<|nl<|tn<|⟨_,ab,j+1,ab,aa,(by have :=Bt (I j ab); rw [m9 ab]; omega),aa,aa,(iv<|by first | rfl | (rw [m9 ab])),aa,aa⟩
 refine ext<|te _<|te _<|be<|tn<|ac _ _<|sq fun _ O=>aj fun _ V=>ak (au<|eJ<|s.take j)<|ak (.int .i64 most)<|p (gt aa aa)<|aE<|V _ _<|cd aa (fun aI=> ?_) fun aI=> ?_
 exact aj fun _ a=>p aB<|aw<|a _ _<|rt<|tr<|f2 aa aa aa<|⟨by show gx #[.int .i64 0,.int .i64 13]=_; rw [vB j ab]; rfl,Md.refl _ _⟩
 exact aM<|tn<|O _ _<|aj fun _ a=>ak (au<|eJ<|s.take j)<|p (cH (au<|eJ<|s.take j) aa)<|p aB<|nl<|tn<|a _ _<|rt<|f2 aa aa aa<|⟨by show gx #[au (eJ<|s.take j),.int .i64 0]=_; rw [show s.take j=s from eI ab,CS al (fun q a2=>I q ab) (by rw [show s.take j=s from eI ab] at*; omega)],Md.refl _ _⟩
end Go.Hb.kn
end
section
set_option maxRecDepth 20000
set_option maxHeartbeats 1000000
namespace Go.Hb.ji
open Go.Hb.dT
open Go.Proofs
theorem De {s pr:List UInt8} (h:s.take pr.length=pr):pr.length≤s.length:=by
 have :=congrArg List.length h
 rw [dO] at this; omega
theorem YE {s:List UInt8} (h:decide (1≤s.length∧s.drop (s.length - 1)= [13])=true):jK s=s.take (s.length - 1):=by
 have h1:=of_decide_eq_true h
 rw [Js ab] at h1
 exact Hr ab<|by simpa using h1.2
theorem YF {s:List UInt8} (h:decide (1≤s.length∧s.drop (s.length - 1)= [13])=false):jK s=s:=by
 have h1:=of_decide_eq_false h
 refine By fun h2=>h1 ⟨ab,?_⟩
 rw [Js ab,h2.2]
theorem Vc (c:UInt8):eZ c [c]=0:=by unfold eZ; simp
theorem Cu (s pr:List UInt8) (w:World) (hs:s.length≤1099511627776) (hp:pr.length≤1099511627776):
 bh ay 211 (ba [str s,str pr]) w (fun v w'=>v= .bool (decide (s.take pr.length=pr))∧Wk w w'):=by
 refine enter func211 aa ntmps211 aa<|aj fun _ i=>aw<|i _ _<|aj fun _ a=>ak (str s)<|p (cg u9 aa aa)<|ak (str pr)<|p (cg u9 aa aa)<|p (ge aa aa)<|p mv<|gs (t:=10) aa (fun j=> ?_) fun j=> ?_
 exact pg aa aa aa (aT (str s) aa)<|pg aa aa aa (aT (str pr) aa)<|pg aa aa aa (cg u9 aa aa)<|pg aa aa aa (r5 u9 aa aa ab)<|pg aa aa aa (aT (str pr) aa)<|pg aa aa aa (dR aa aa)<|p (bw aa)<|p aB<|aE<|a _ _<|rt<|f1 aa aa<|⟨aa,Md.refl _ _⟩
 exact sk aa aa aa aa<|sk aa aa aa aa<|sk aa aa aa aa<|sk aa aa aa aa<|sk aa aa aa aa<|sk aa aa aa aa<|p (bm aa)<|p aB<|aE<|a _ _<|rt<|f1 aa aa<|⟨by show bQ false =_; rw [decide_eq_false (fun h=>by have :=De h; omega)],Md.refl _ _⟩
theorem YX (s pr:List UInt8) (w:World) (hs:s.length≤1099511627776) (hp:pr.length≤1099511627776):
 bh ay 150 (ba [str s,str pr]) w (fun v w'=>v=str (gv s pr)∧Wk w w'):=by
 refine enter func150 aa ntmps150 aa<|aj fun _ A=>aw<|A _ _<|sq fun _ C=>aj fun _ E=>ak (str s)<|ak (str pr)<|e<|cl AS (Cu s pr _ hs hp) aa fun J M G=> ?_
 obtain ⟨rfl,q⟩:=G
 refine aE<|E _ _<|cb aa (fun j=> ?_) fun j=> ?_
 have a:=of_decide_eq_true j
 have I:=De a
 exact aj fun _ i=>ak (str s)<|ak (str pr)<|p (cg u9 aa aa)<|p (l8 u9 aa aa ab)<|p aB<|nl<|tn<|i _ _<|rt<|tr<|f1 aa aa<|⟨by show str (s.drop (pr.length:Int).toNat)=_; unfold gv; rw [if_pos a]; rfl,q⟩
 have a:=of_decide_eq_false j
 exact aM<|tn<|C _ _<|aj fun _ i=>ak (str s)<|p (cH (str s) aa)<|aE<|i _ _<|rt<|f1 aa aa<|⟨by show str s=_; unfold gv; rw [if_neg a],q⟩
theorem LV (s pr:List UInt8) (w:World) (hs:s.length≤1099511627776) (hp:pr.length≤1099511627776):
 bh ay 96 (ba [str s,str pr]) w (fun v w'=>v=str (gv s pr)∧Wk w w'):=by
 refine enter func96 aa ntmps96 aa<|aj fun _ a=>aw<|a _ _<|aj fun _ i=>ak (str s)<|ak (str pr)<|e<|cl Pm (YX s pr _ hs hp) aa fun A C q=> ?_
 obtain ⟨rfl,j⟩:=q
 exact aw<|i _ _<|rt<|f1 aa aa<|⟨aa,j⟩
theorem Cv (s pr:List UInt8) (w:World) (hs:s.length≤1099511627776) (hp:pr.length≤1099511627776):
 bh ay 210 (ba [str s,str pr]) w (fun v w'=>v= .bool (decide (pr.length≤s.length∧s.drop (s.length - pr.length)=pr))∧Wk w w'):=by
 refine enter func210 aa ntmps210 aa<|aj fun _ i=>aw<|i _ _<|aj fun _ a=>ak (str s)<|p (cg u9 aa aa)<|ak (str pr)<|p (cg u9 aa aa)<|p (ge aa aa)<|p mv<|gs (t:=10) aa (fun j=> ?_) fun j=> ?_
 exact pg aa aa aa (aT (str s) aa)<|pg aa aa aa (aT (str s) aa)<|pg aa aa aa (cg u9 aa aa)<|pg aa aa aa (aT (str pr) aa)<|pg aa aa aa (cg u9 aa aa)<|pg aa aa aa (sb aa aa<|bT ab)<|pg aa aa aa (l8 u9 aa aa ab)<|pg aa aa aa (aT (str pr) aa)<|pg aa aa aa (dR aa aa)<|p (bw aa)<|aw<|a _ _<|rt<|f1 aa aa<|⟨by show bQ (decide (s.drop ((s.length:Int) - (pr.length:Int)).toNat=pr))=_; rw [show ((s.length:Int) - (pr.length:Int)).toNat=s.length - pr.length from by omega]; exact bv (by constructor <;> intro h <;> first | exact ⟨ab,h⟩ | exact h.2),Md.refl _ _⟩
 exact sk aa aa aa aa<|sk aa aa aa aa<|sk aa aa aa aa<|sk aa aa aa aa<|sk aa aa aa aa<|sk aa aa aa aa<|sk aa aa aa aa<|sk aa aa aa aa<|sk aa aa aa aa<|p (bm aa)<|aw<|a _ _<|rt<|f1 aa aa<|⟨by show bQ false =_; rw [decide_eq_false ab],Md.refl _ _⟩
theorem Y0 (s:List UInt8) (w:World) (hs:s.length≤1099511627776):
 bh ay 149 (ba [str s,str [13]]) w (fun v w'=>v=str (jK s)∧Wk w w'):=by
 refine enter func149 aa ntmps149 aa<|aj fun _ q=>aw<|q _ _<|sq fun _ A=>aj fun _ C=>ak (str s)<|ak (str [13])<|e<|cl AR (Cv s [13] _ hs az) aa fun J M E=> ?_
 obtain ⟨rfl,j⟩:=E
 refine aE<|C _ _<|cb aa (fun a=> ?_) fun a=> ?_
 have I:=(of_decide_eq_true a).1
 have G:([13]:List UInt8).length=1:=rfl
 exact aj fun _ i=>ak (str s)<|ak (str s)<|p (cg u9 aa aa)<|ak (str [13])<|p (cg u9 aa aa)<|p (sb aa aa<|bT ab)<|p (r5 u9 aa aa ab)<|aw<|i _ _<|rt<|tr<|f1 aa aa<|⟨by show str (s.take ((s.length:Int) - (([13]:List UInt8).length:Int)).toNat)=_; rw [YE a,show ((s.length:Int) - (([13]:List UInt8).length:Int)).toNat=s.length - 1 from by simp only [eW]; omega],j⟩
 exact aM<|tn<|A _ _<|aj fun _ i=>ak (str s)<|p (cH (str s) aa)<|aE<|i _ _<|rt<|f1 aa aa<|⟨by show str s=_; rw [YF a],j⟩
theorem Y1 (s:List UInt8) (w:World) (hs:s.length≤1099511627776):
 bh ay 95 (ba [str s,str [13]]) w (fun v w'=>v=str (jK s)∧Wk w w'):=by
 refine enter func95 aa ntmps95 aa<|aj fun _ a=>aw<|a _ _<|aj fun _ i=>ak (str s)<|ak (str [13])<|e<|cl FW (Y0 s _ hs) aa fun A C q=> ?_
 obtain ⟨rfl,j⟩:=q
 exact aw<|i _ _<|rt<|f1 aa aa<|⟨aa,j⟩
theorem Je (s:List UInt8) (c:UInt8) (w:World):
 bh ay 269 (ba [str s,.int .u8 c.toNat]) w (fun v w'=>v= .int .i64 (eZ c s)∧Wk w w'):=by
 exact enter func269 aa ntmps269 aa<|aj fun _ a=>aw<|a _ _<|aj fun _ i=>ak (str s)<|ak (.int .u8 c.toNat)<|p (GN (Vd s c _) aa)<|aw<|i _ _<|rt<|f1 aa aa<|⟨aa,Md.refl _ _⟩
theorem Jd (s:List UInt8) (c:UInt8) (w:World):
 bh ay 264 (ba [str s,str [c]]) w (fun v w'=>v= .int .i64 (eZ c s)∧Wk w w'):=by
 refine enter func264 aa ntmps264 aa<|aj fun _ j=>aw<|j _ _<|aj fun _ q=>ak (str [c])<|p (cg u9 aa aa)<|aw<|q _ _<|sq fun _ I=>aJ<|aj fun _ A=>p mv<|p (bH aa aa)<|p mv<|gs (t:=19) aa (fun h=>absurd h<|by simp) fun M=>pg aa aa aa (aT (str [c]) aa)<|pg aa aa aa (aT (str s) aa)<|pg aa aa aa (dR aa aa)<|p (bm aa)<|aw<|A _ _<|cd aa (fun i=> ?_) fun i=> ?_
 exact aj fun _ a=>aw<|a _ _<|rt<|br<|tr<|f1 aa aa<|⟨by show Value.int .i64 0=_; rw [← i,Vc],Md.refl _ _⟩
 refine aj fun _ a=>p mv<|p (bH aa aa)<|aw<|a _ _<|cd aa (fun J=> ?_) fun h=>absurd aa h
 refine aj fun _ C=>ak (str s)<|ak (str [c])<|p (ja 0 u9 aa aa<|by simp)<|e<|cl Gp (Je s c _) aa fun v30 O G=> ?_
 obtain ⟨rfl,E⟩:=G
 exact aw<|C _ _<|rt<|br<|tr<|f1 aa aa<|⟨aa,E⟩
theorem UX (s:List UInt8) (c:UInt8) (w:World):
 bh ay 298 (ba [str s,str [c]]) w (fun v w'=>v= .int .i64 (eZ c s)∧Wk w w'):=by
 refine enter func298 aa ntmps298 aa<|aj fun _ a=>aw<|a _ _<|aj fun _ i=>ak (str s)<|ak (str [c])<|e<|cl Gn (Jd s c _) aa fun A C q=> ?_
 obtain ⟨rfl,j⟩:=q
 exact aw<|i _ _<|rt<|f1 aa aa<|⟨aa,j⟩
theorem RS (s:List UInt8) (c:UInt8) (w:World) (hs:s.length≤1099511627776):
 bh ay 238 (ba [str s,str [c]]) w (fun v w'=>v= .tuple #[str (mx c s),str (nL c s),.bool (!decide (eZ c s < 0))]∧Wk w w'):=by
 refine enter func238 aa ntmps238 aa<|aj fun _ A=>p aB<|p aB<|aw<|A _ _<|sq fun _ C=>aj fun _ E=>ak (str s)<|ak (str [c])<|e<|cl Gn (Jd s c _) aa fun v10 j I=> ?_
 obtain ⟨rfl,q⟩:=I
 refine aw<|E _ _<|aj fun _ G=>p mv<|p (ge aa aa)<|nl<|tn<|G _ _<|cd aa (fun J=> ?_) fun J=> ?_
 have M:=rM (c:=c) (l:=s) ab
 have O:[c].length=1:=rfl
 refine sq fun _ i=> ?_
 have a:(fun w'=>Wk j w') j.drew:=(Md.refl _ _).drew
 exact bJ (fun w'=>Wk j w') aa wide a<|bC 0 aa (str s) a<|aH 1 aa (fun _ _=>mv) a<|aH 2 aa (fun _ _=>r5 u9 aa aa ab) a<|bC 3 aa (str s) a<|aH 4 aa (fun _ _=>mv) a<|bC 5 aa (str [c]) a<|aH 6 aa (fun _ _=>cg u9 aa aa) a<|aH 7 aa (fun _ _=>bE ((s.idxOf c+1:Nat):Int) aa aa<|bj ab ab) a<|aH 8 aa (fun _ _=>l8 u9 aa aa ab) a<|aH 9 aa (fun _ _=>aB) a<|aH 10 aa (fun _ _=>aB) a<|aH 11 aa (fun _ _=>aB) a<|hn ag<|tn<|i _ _<|rt<|tr<|f3 aa aa aa aa<|⟨by show gx #[str (s.take (eZ c s).toNat),str (s.drop<|s.idxOf c+1),.bool true]=_; unfold mx nL; rw [if_neg ab,if_neg ab,M.1,decide_eq_false ab]; rfl,Md.trans q (Md.refl _ _).drew⟩
 exact aM<|tn<|C _ _<|aj fun _ i=>ak (str s)<|p (cH (str s) aa)<|p aB<|p aB<|aE<|i _ _<|rt<|f3 aa aa aa aa<|⟨by show gx #[str s,str [],.bool false]=_; unfold mx nL; rw [if_pos ab,if_pos ab,decide_eq_true ab]; rfl,q⟩
theorem RW (s:List UInt8) (c:UInt8) (w:World) (hs:s.length≤1099511627776):
 bh ay 190 (ba [str s,str [c]]) w (fun v w'=>v= .tuple #[str (mx c s),str (nL c s),.bool (!decide (eZ c s < 0))]∧Wk w w'):=by
 refine enter func190 aa ntmps190 aa<|aj fun _ a=>p aB<|p aB<|aw<|a _ _<|sq fun _ i=>rg aa<|ak (str s)<|ak (str [c])<|e<|cl PO (RS s c _ hs) aa fun v9 A q=> ?_
 obtain ⟨rfl,j⟩:=q
 exact p (xt aa aa)<|p (xt aa aa)<|p (xt aa aa)<|p aB<|p aB<|aw<|i _ _<|rt<|f3 aa aa aa aa<|⟨aa,j⟩
end Go.Hb.ji
end
section
set_option maxRecDepth 20000
set_option maxHeartbeats 1000000
namespace Go.Hb.rq
open Go.Hb.dT
open Go.Proofs
theorem U9 (x:Nat) (w:World):
 bh ay 302 (ba [bc x]) w (fun v w'=>v= .bool false∧Wk w w'):=by
 exact enter func302 aa ntmps302 aa<|aj fun _ a=>aw<|a _ _<|aj fun _ i=>ak (bc x)<|ak (bc x)<|p (cX aa aa)<|aw<|i _ _<|rt<|f1 aa aa<|⟨congrArg bQ (decide_eq_false fun h=>h aa),Md.refl _ _⟩
theorem l3 (x y:Nat) (w:World):
 bh ay 289 (ba [bc x,bc y]) w (fun v w'=>v= .bool (bW x y)∧Wk w w'):=by
 refine enter func289 aa ntmps289 aa<|aj fun _ a=>aw<|a _ _<|aj fun _ i=>ak (bc x)<|e<|cl Qj (U9 x _) aa fun v6 A q=> ?_
 obtain ⟨rfl,j⟩:=q
 exact p mv<|sk aa aa aa aa<|sk aa aa aa aa<|sk aa aa aa aa<|p (bm aa)<|p mv<|pg aa aa aa (aT (bc x) aa)<|pg aa aa aa (aT (bc y) aa)<|pg aa aa aa (lt aa aa)<|p (bm aa)<|aw<|i _ _<|rt<|f1 aa aa<|⟨by show bQ (decide ((x:Int) < (y:Int)))=_; unfold bW; exact congrArg bQ (decide_eq_decide.2 ab),j⟩
theorem U5 (d:Array Nat) (a b:Nat) (B n cp:Nat) (C:Option Addr) (w:World) (ar:w.ownsRow B 51 1 (.slice C n cp) n (LE bc d)) (a8:a≤b∧b≤n) (bg:n≤1099511627776):
 bh ay 283 (ba [.slice C n cp,au a,au b]) w (fun v w'=>v= .tuple #[]∧w'.ownsRow B 51 1 (.slice C n cp) n (LE bc<|Ng bW d a b)∧Md (fun q=>(bO C n cp).ownBlock=some q) w w'):=by
 have bb:=fG ar
 refine enter func283 aa ntmps283 aa<|aj fun _ az=>ak (au a)<|p (bE ((a+1:Nat):Int) aa aa<|bj ab ab)<|aw<|az _ _<|aJ<|lp (fun Z ae an=> ∃ (i:Nat) (Y:Array Nat),(a+1≤i∧i≤n+1)∧(Go.Sort.insOuter bW a b i Y=Ng bW d a b)∧(an.ownsRow B 51 1 (.slice C n cp) n<|LE bc Y)∧(Md (fun q=>(bO C n cp).ownBlock=some q) w an)∧(ae 0= .slice C n cp)∧(ae 1=au a)∧(ae 2=au b)∧(ae 6=au i)∧(b - i=Z)) _ ⟨a+1,d,ab,aa,ar,(Md.refl _ _),aa,aa,aa,aa,aa⟩ ?_
 rintro Z ae an ⟨i,Y,hi,al,av,aq,aY,aZ,a0,a1,rfl⟩
 refine fx 0 aY<|fx 1 aZ<|fx 2 a0<|fx 6 a1<|sq fun _ aA=>aj fun _ aC=>ak (au i)<|ak (au b)<|p (lt aa aa)<|nl<|tn<|aC _ _<|cd aa (fun aR=> ?_) fun aR=> ?_
 refine aM<|tn<|aA _ _<|sq fun _ ao=>aJ<|aj fun _ aD=>ak (au i)<|p (cH (au i) aa)<|aE<|aD _ _<|aJ<|lp (fun Z V O=> ∃ (j:Nat) (G:Array Nat),(a≤j∧j≤i)∧(Nf bW a j G=Nf bW a i Y)∧(O.ownsRow B 51 1 (.slice C n cp) n<|LE bc G)∧(Md (fun q=>(bO C n cp).ownBlock=some q) w O)∧(V 0= .slice C n cp)∧(V 1=au a)∧(V 2=au b)∧(V 6=au i)∧(V 7=au j)∧(j=Z)) _ ⟨i,Y,ab,aa,av,aq,aa,aa,aa,aa,aa,aa⟩ ?_
 rintro Z V O ⟨j,G,bd,am,J,ah,a2,a3,a4,a5,a6,rfl⟩
 refine fx 0 a2<|fx 1 a3<|fx 2 a4<|fx 6 a5<|fx 7 a6<|sq fun _ aF=>sq fun _ ap=> ?_
 have a9:=fG J
 have A:(fun w'=>Wk O w') O.drew:=(Md.refl _ _).drew
 refine bJ (fun w'=>Wk O w') aa wide A<|bC 0 aa (au j) A<|bC 1 aa (au a) A<|aH 2 aa (fun _ _=>gt aa aa) A<|aH 3 aa (fun _ _=>mv) A<|iO (t:=19) aa (fun aQ=> ?_) fun aQ=> ?_
 refine bf 4 aa ag aa aa aa (fun _ _=>aT (.slice C n cp) aa) A<|bf 5 aa ag aa aa aa (fun _ _=>aT (au j) aa) A<|bf 6 aa ag aa aa aa (fun _ _=>a7 bV aa aa ab<|aI.ok ((aX J).2)<|ca ab) A<|bf 7 aa ag aa aa aa (fun w' I=>ld cU aa<|dF (i:=j) ((aX J).2.wk I) ab) A<|bf 8 aa ag aa aa aa (fun _ _=>aT (.slice C n cp) aa) A<|bf 9 aa ag aa aa aa (fun _ _=>aT (au j) aa) A<|bf 10 aa ag aa aa aa (fun _ _=>dJ ((j - 1:Nat):Int) aa aa<|bj ab ab) A<|bf 11 aa ag aa aa aa (fun _ _=>a7 bV aa aa ab<|aI.ok ((aX J).2)<|ca ab) A<|bf 12 aa ag aa aa aa (fun w' I=>ld cU aa<|dF (i:=j - 1) ((aX J).2.wk I) ab) A<|mA 13 aa ag aa aa aa<|cl lW (l3 G[j]! G[j - 1]! _) aa fun bi ac aP=> ?_
 obtain ⟨rfl,aK⟩:=aP
 have U:(fun w'=>Wk O w') ac:=Md.trans A aK
 refine ⟨U,?_⟩
 refine aH 14 aa (fun _ _=>bw aa) U<|hn ag<|tn<|ap _ _<|cb aa (fun ai=> ?_) fun ai=> ?_
 refine aM<|tn<|aF _ _<|sq fun _ aG=>aJ ?_
 have M:=aU J U
 have E:(fun w'=>Wk ac w') ac.drew:=(Md.refl _ _).drew
 refine eM (fun w'=>Wk ac w') 15 aa wide E<|bz 0 aa (.slice C n cp) E<|bz 1 aa (au j) E<|bz 2 aa (.slice C n cp) E<|bz 3 aa (au j) E<|bq 4 aa (fun _=>dJ ((j - 1:Nat):Int) aa aa<|bj ab ab) (fun _=>E)<|bz 5 aa (.slice C n cp) E<|bz 6 aa (au j) E<|bq 7 aa (fun _=>dJ ((j - 1:Nat):Int) aa aa<|bj ab ab) (fun _=>E)<|bq 8 aa (fun _=>a7 bV aa aa ab<|aI.ok ((aX M).2)<|ca ab) (fun _=>E)<|dH 9 aa (fun w' I=>ld cU aa<|dF (i:=j - 1) ((aX M).2.wk I) ab) E<|bz 10 aa (.slice C n cp) E<|bz 11 aa (au j) E<|bq 12 aa (fun _=>a7 bV aa aa ab<|aI.ok ((aX M).2)<|ca ab) (fun _=>E)<|dH 13 aa (fun w' I=>ld cU aa<|dF (i:=j) ((aX M).2.wk I) ab) E<|bq 14 aa (fun _=>a7 bV aa aa ab<|aI.ok ((aX M).2)<|ca ab) (fun _=>E) ?_
 refine dG 15 aa ag ag<|gu (u:=G[j - 1]!) (j) (aU M E) gd aa aa aa ab fun bk aN aS=>bq 16 aa (fun _=>a7 bV aa aa ab<|aI.ok ((aX M).2)<|ca ab) (fun h=>eb<|(show true =_ from by kernel_rfl).trans h)<|dG 17 aa ag ag<|gu (u:=G[j]!) (j - 1) aS gd aa aa aa ab fun ax aO aV=> ?_
 have I:ax.ownsRow B 51 1 (.slice C n cp) n (LE bc<|cJ G (j)<|j - 1):=aV
 have aL:Md (fun q=>(bO C n cp).ownBlock=some q) ac ax:=Md.trans (E.mono fun _ _ h=>h.elim)<|Md.trans aN aO
 exact eL ag<|bn<|tn<|aG _ _<|rg aa<|ak (au j)<|p (dJ ((j - 1:Nat):Int) aa aa<|bj ab ab)<|p aB<|nl<|tn<|⟨_,ab,j - 1,cJ G j (j - 1),ab,(by rw [← am,U2 (show a < j by omega) ai]),I,(Md.trans ah<|Md.trans (U.mono fun _ _ h=>h.elim) aL),aa,aa,aa,aa,aa,aa⟩
 exact ext<|te _<|te _<|be<|bn<|tn<|ao _ _<|rg aa<|ak (au i)<|p (bE ((i+1:Nat):Int) aa aa<|bj ab ab)<|aw<|⟨_,ab,i+1,G,ab,(by rw [← al,Jh (show i < b by omega),← am,U3 (by simpa using ai)]),(aU J U),(Md.trans ah<|U.mono fun _ _ h=>h.elim),aa,aa,aa,aa,aa⟩
 exact aW 4 aa ag aa aa aa aa A<|aW 5 aa ag aa aa aa aa A<|aW 6 aa ag aa aa aa aa A<|aW 7 aa ag aa aa aa aa A<|aW 8 aa ag aa aa aa aa A<|aW 9 aa ag aa aa aa aa A<|aW 10 aa ag aa aa aa aa A<|aW 11 aa ag aa aa aa aa A<|aW 12 aa ag aa aa aa aa A<|aW 13 aa ag aa aa aa aa A<|aH 14 aa (fun _ _=>bm aa) A<|hn ag<|tn<|ap _ _<|cf aa<|ext<|te _<|te _<|be<|bn<|tn<|ao _ _<|rg aa<|ak (au i)<|p (bE ((i+1:Nat):Int) aa aa<|bj ab ab)<|p aB<|nl<|tn<|⟨_,ab,i+1,G,ab,(by rw [← al,Jh (show i < b by omega),← am,U4 ab]),(aU J (Md.refl _ _).drew),ah.drew,aa,aa,aa,aa,aa⟩
 exact ext<|te _<|te _<|be<|f0 aa<|⟨aa,by rw [← al,U1 ab]; exact av,aq⟩
theorem Ya (d:Array Nat) (lo hi first :Nat) (B n cp:Nat) (A:Option Addr) (w:World) (aP:w.ownsRow B 51 1 (.slice A n cp) n (LE bc d)) (bg:lo≤hi∧first+hi≤n) (bk:n≤1099511627776):
 bh ay 299 (ba [.slice A n cp,au lo,au hi,au first]) w (fun v w'=>v= .tuple #[]∧w'.ownsRow B 51 1 (.slice A n cp) n (LE bc<|q8 bW hi first lo d)∧Md (fun q=>(bO A n cp).ownBlock=some q) w w'):=by
 refine enter func299 aa ntmps299 aa<|aj fun _ av=>ak (au lo)<|p (cH (au lo) aa)<|aE<|av _ _<|aJ<|lp (fun ao ae U=> ∃ (r:Nat) (C:Array Nat),(r≤hi)∧(q8 bW hi first r C=q8 bW hi first lo d)∧(U.ownsRow B 51 1 (.slice A n cp) n<|LE bc C)∧(Md (fun q=>(bO A n cp).ownBlock=some q) w U)∧(ae 0= .slice A n cp)∧(ae 2=au hi)∧(ae 3=au first)∧(ae 8=au r)∧(hi - r=ao)) _ ⟨lo,d,ab,aa,aP,(Md.refl _ _),aa,aa,aa,aa,aa⟩ ?_
 rintro ao ae U ⟨r,C,bl,an,I,ai,a1,a2,a3,a4,rfl⟩
 refine fx 0 a1<|fx 2 a2<|fx 3 a3<|fx 8 a4<|aJ<|aj fun _ ax=>ak (au r)<|p (oL ((2 *r:Nat):Int) aa aa<|bj ab ab)<|p (bE ((2 *r+1:Nat):Int) aa aa<|bj ab ab)<|p aB<|aE<|ax _ _<|sq fun _ aA=>aj fun _ aC=>p mv<|ak (au hi)<|p (ge aa aa)<|aE<|aC _ _<|cd aa (fun aS=> ?_) fun aS=> ?_
 exact ext<|te _<|m4 az<|te _<|be<|f0 aa<|⟨aa,by rw [← an,X8 ab]; exact I,ai⟩
 refine aM<|tn<|aA _ _ ?_
 refine ec (fun Z O=> ∃ (c:Nat),(r < c∧c < hi)∧(q8 bW hi first r C=if (!bW C[first+r]! C[first+c]!)=true then C else q8 bW hi first c (cJ C (first+r)<|first+c))∧(O.ownsRow B 51 1 (.slice A n cp) n<|LE bc C)∧(Md (fun q=>(bO A n cp).ownBlock=some q) w O)∧(Z 0= .slice A n cp)∧(Z 2=au hi)∧(Z 3=au first)∧(Z 8=au r)∧(Z 9=au c)) ?_ ?_
 refine sq fun _ ah=> ?_
 have aV:=fG I
 have a:(fun w'=>Wk U w') U.drew:=(Md.refl _ _).drew
 refine bJ (fun w'=>Wk U w') aa wide a<|aH 0 aa (fun _ _=>mv) a<|aH 1 aa (fun _ _=>bE ((2 *r+1 +1:Nat):Int) aa aa<|bj ab ab) a<|bC 2 aa (au hi) a<|aH 3 aa (fun _ _=>lt aa aa) a<|aH 4 aa (fun _ _=>mv) a<|iO (t:=21) aa (fun aY=> ?_) fun aY=> ?_
 refine bf 5 aa ag aa aa aa (fun _ _=>aT (.slice A n cp) aa) a<|bf 6 aa ag aa aa aa (fun _ _=>aT (au first) aa) a<|bf 7 aa ag aa aa aa (fun _ _=>mv) a<|bf 8 aa ag aa aa aa (fun _ _=>bE ((first+(2 *r+1):Nat):Int) aa aa<|bj ab ab) a<|bf 9 aa ag aa aa aa (fun _ _=>a7 bV aa aa ab<|aI.ok ((aX I).2)<|ca ab) a<|bf 10 aa ag aa aa aa (fun w' G=>ld cU aa<|dF (i:=first+(2 *r+1)) ((aX I).2.wk G) ab) a<|bf 11 aa ag aa aa aa (fun _ _=>aT (.slice A n cp) aa) a<|bf 12 aa ag aa aa aa (fun _ _=>aT (au first) aa) a<|bf 13 aa ag aa aa aa (fun _ _=>mv) a<|bf 14 aa ag aa aa aa (fun _ _=>bE ((first+(2 *r+1):Nat):Int) aa aa<|bj ab ab) a<|bf 15 aa ag aa aa aa (fun _ _=>bE ((first+(2 *r+1)+1:Nat):Int) aa aa<|bj ab ab) a<|bf 16 aa ag aa aa aa (fun _ _=>a7 bV aa aa ab<|aI.ok ((aX I).2)<|ca ab) a<|bf 17 aa ag aa aa aa (fun w' G=>ld cU aa<|dF (i:=first+(2 *r+1)+1) ((aX I).2.wk G) ab) a<|mA 18 aa ag aa aa aa<|cl lW (l3 C[first+(2 *r+1)]! C[first+(2 *r+1)+1]! _) aa fun bo bd aQ=> ?_
 obtain ⟨rfl,aG⟩:=aQ
 have V:(fun w'=>Wk U w') bd:=Md.trans a aG
 refine ⟨V,?_⟩
 refine aH 19 aa (fun _ _=>bw aa) V<|hn ag<|tn<|ah _ _<|cb aa (fun al=> ?_) fun al=> ?_
 exact rg aa<|p mv<|p (bE ((2 *r+2:Nat):Int) aa aa<|bj ab ab)<|aw<|⟨2 *r+2,ab,(X9 ab al),(aU I V),(Md.trans ai<|V.mono fun _ _ h=>h.elim),aa,aa,aa,aa,aa⟩
 exact aM<|tn<|⟨2 *r+1,ab,(Ll ab<|.inr al),(aU I V),(Md.trans ai<|V.mono fun _ _ h=>h.elim),aa,aa,aa,aa,aa⟩
 exact aW 5 aa ag aa aa aa aa a<|aW 6 aa ag aa aa aa aa a<|aW 7 aa ag aa aa aa aa a<|aW 8 aa ag aa aa aa aa a<|aW 9 aa ag aa aa aa aa a<|aW 10 aa ag aa aa aa aa a<|aW 11 aa ag aa aa aa aa a<|aW 12 aa ag aa aa aa aa a<|aW 13 aa ag aa aa aa aa a<|aW 14 aa ag aa aa aa aa a<|aW 15 aa ag aa aa aa aa a<|aW 16 aa ag aa aa aa aa a<|aW 17 aa ag aa aa aa aa a<|aW 18 aa ag aa aa aa aa a<|aH 19 aa (fun _ _=>bm aa) a<|hn ag<|tn<|ah _ _<|cf aa<|aM<|tn<|⟨2 *r+1,ab,(Ll ab<|.inl ab),(aU I (Md.refl _ _).drew),ai.drew,aa,aa,aa,aa,aa⟩
 rintro Z O ⟨c,bi,aq,M,ap,a5,a6,a8,a9,bb⟩
 refine fx 0 a5<|fx 2 a6<|fx 3 a8<|fx 8 a9<|fx 9 bb<|sq fun _ ah=>sq fun _ aD=> ?_
 have aV:=fG M
 have E:(fun w'=>Wk O w') O.drew:=(Md.refl _ _).drew
 refine bJ (fun w'=>Wk O w') aa wide E<|bC 0 aa (.slice A n cp) E<|bC 1 aa (au first) E<|bC 2 aa (au r) E<|aH 3 aa (fun _ _=>bE ((first+r:Nat):Int) aa aa<|bj ab ab) E<|aH 4 aa (fun _ _=>a7 bV aa aa ab<|aI.ok ((aX M).2)<|ca ab) E<|aH 5 aa (fun w' G=>ld cU aa<|dF (i:=first+r) ((aX M).2.wk G) ab) E<|bC 6 aa (.slice A n cp) E<|bC 7 aa (au first) E<|bC 8 aa (au c) E<|aH 9 aa (fun _ _=>bE ((first+c:Nat):Int) aa aa<|bj ab ab) E<|aH 10 aa (fun _ _=>a7 bV aa aa ab<|aI.ok ((aX M).2)<|ca ab) E<|aH 11 aa (fun w' G=>ld cU aa<|dF (i:=first+c) ((aX M).2.wk G) ab) E<|he 12 aa ag<|cl lW (l3 C[first+r]! C[first+c]! _) aa fun v51 ac aR=> ?_
 obtain ⟨rfl,aK⟩:=aR
 have Y:(fun w'=>Wk O w') ac:=Md.trans E aK
 refine ⟨Y,?_⟩
 refine aH 13 aa (fun _ _=>no aa) Y<|hn ag<|tn<|aD _ _<|cb aa (fun am=> ?_) fun am=> ?_
 exact rt<|tr<|br<|tr<|br<|rH aa<|⟨aa,by rw [← an,aq,if_pos am]; exact aU M Y,Md.trans ap<|Y.mono fun _ _ h=>h.elim⟩
 refine aM<|tn<|ah _ _<|sq fun _ aF=> ?_
 have J:=aU M Y
 have j:(fun w'=>Wk ac w') ac.drew:=(Md.refl _ _).drew
 refine eM (fun w'=>Wk ac w') 21 aa wide j<|bz 0 aa (.slice A n cp) j<|bz 1 aa (au first) j<|bz 2 aa (au r) j<|bq 3 aa (fun _=>bE ((first+r:Nat):Int) aa aa<|bj ab ab) (fun _=>j)<|bz 4 aa (.slice A n cp) j<|bz 5 aa (au first) j<|bz 6 aa (au c) j<|bq 7 aa (fun _=>bE ((first+c:Nat):Int) aa aa<|bj ab ab) (fun _=>j)<|bz 8 aa (.slice A n cp) j<|bz 9 aa (au first) j<|bz 10 aa (au c) j<|bq 11 aa (fun _=>bE ((first+c:Nat):Int) aa aa<|bj ab ab) (fun _=>j)<|bq 12 aa (fun _=>a7 bV aa aa ab<|aI.ok ((aX J).2)<|ca ab) (fun _=>j)<|dH 13 aa (fun w' G=>ld cU aa<|dF (i:=first+c) ((aX J).2.wk G) ab) j<|bz 14 aa (.slice A n cp) j<|bz 15 aa (au first) j<|bz 16 aa (au r) j<|bq 17 aa (fun _=>bE ((first+r:Nat):Int) aa aa<|bj ab ab) (fun _=>j)<|bq 18 aa (fun _=>a7 bV aa aa ab<|aI.ok ((aX J).2)<|ca ab) (fun _=>j)<|dH 19 aa (fun w' G=>ld cU aa<|dF (i:=first+r) ((aX J).2.wk G) ab) j<|bq 20 aa (fun _=>a7 bV aa aa ab<|aI.ok ((aX J).2)<|ca ab) (fun _=>j)<|dG 21 aa ag ag<|gu (u:=C[first+c]!) (first+r) (aU J j) gd aa aa aa ab fun bp aN aZ=> ?_
 refine bq 22 aa (fun _=>a7 bV aa aa ab<|aI.ok ((aX J).2)<|ca ab) (fun h=>eb<|(show true =_ from by kernel_rfl).trans h)<|dG 23 aa ag ag<|gu (u:=C[first+r]!) (first+c) aZ gd aa aa aa ab fun ar aO a0=> ?_
 have G:ar.ownsRow B 51 1 (.slice A n cp) n (LE bc<|cJ C (first+r)<|first+c):=a0
 have aL:Md (fun q=>(bO A n cp).ownBlock=some q) ac ar:=Md.trans (j.mono fun _ _ h=>h.elim)<|Md.trans aN aO
 exact eL ag<|tn<|aF _ _<|rg aa<|ak (au c)<|p (cH (au c) aa)<|nl<|bn<|tn<|⟨_,ab,c,cJ C (first+r) (first+c),ab,(by rw [← an,aq,if_neg (by rw [am]; exact eb)]),G,(Md.trans ap<|Md.trans (Y.mono fun _ _ h=>h.elim) aL),aa,aa,aa,aa,aa⟩
theorem Lm (d:Array Nat) (lo hi first :Nat) (j i:Int) (B n cp:Nat) (a:Option Addr) (w:World) (A:w.ownsRow B 51 1 (.slice a n cp) n (LE bc d)) (C:lo≤hi∧first+hi≤n) (G:j=(lo:Nat)) (E:i=(hi:Nat)) (I:n≤1099511627776):
 bh ay 299 (ba [.slice a n cp,.int .i64 j,.int .i64 i,.int .i64 (first :Nat)]) w (fun v w'=>v= .tuple #[]∧w'.ownsRow B 51 1 (.slice a n cp) n (LE bc<|q8 bW hi first lo d)∧Md (fun q=>(bO a n cp).ownBlock=some q) w w'):=by
 subst G E; exact Ya d lo hi first B n cp a w A C I
theorem UK (d:Array Nat) (a b:Nat) (B n cp:Nat) (j:Option Addr) (w:World) (aH:w.ownsRow B 51 1 (.slice j n cp) n (LE bc d)) (a5:a < b∧b≤n) (ac:n≤1099511627776):
 bh ay 284 (ba [.slice j n cp,au a,au b]) w (fun v w'=>v= .tuple #[]∧w'.ownsRow B 51 1 (.slice j n cp) n (LE bc<|Nd bW d a b)∧Md (fun q=>(bO j n cp).ownBlock=some q) w w'):=by
 refine enter func284 aa ntmps284 aa<|aj fun _ ai=>ak (au a)<|p (cH (au a) aa)<|aE<|ai _ _<|aj fun _ ao=>aw<|ao _ _<|aj fun _ ap=>ak (au b)<|ak (au a)<|p (dJ ((b - a:Nat):Int) aa aa<|bj ab ab)<|aw<|ap _ _<|sq fun _ aq=>aj fun _ ar=>p mv<|p (dJ ((b - a - 1:Nat):Int) aa aa<|bj ab ab)<|p (qQ (((b - a - 1) / 2:Nat):Int) aa aa ab<|bj ab ab)<|aw<|ar _ _<|aJ<|lp (fun M I Z=> ∃ (k:Nat) (C:Array Nat),(k≤b - a)∧(Nc bW (b - a) a k C=Nc bW (b - a) a ((b - a - 1) / 2 +1) d)∧(Z.ownsRow B 51 1 (.slice j n cp) n<|LE bc C)∧(Md (fun q=>(bO j n cp).ownBlock=some q) w Z)∧(I 0= .slice j n cp)∧(I 6=au a)∧(I 7= .int .i64 0)∧(I 8=au (b - a))∧(I 9= .int .i64 ((k:Nat) - 1:Int))∧(k=M)) _ ⟨(b - a - 1) / 2 +1,d,ab,aa,aH,(Md.refl _ _),aa,aa,aa,aa,(iv ab),aa⟩ ?_
 rintro M I Z ⟨k,C,hk,Y,E,O,aT,aV,aW,aY,aZ,rfl⟩
 refine fx 0 aT<|fx 6 aV<|fx 7 aW<|fx 8 aY<|fx 9 aZ<|sq fun _ av=>aj fun _ ax=>ak (.int .i64 ((k:Nat) - 1:Int))<|p (ge aa aa)<|aE<|ax _ _<|cd aa (fun aP=> ?_) fun aP=> ?_
 refine aM<|tn<|av _ _<|sq fun _ V=>aJ<|rg aa<|ak (.slice j n cp)<|ak (.int .i64 ((k:Nat) - 1:Int))<|ak (au<|b - a)<|ak (au a)<|e<|cl Gr (Lm C (k - 1) (b - a) a _ _ B n cp j _ E ab ab aa ac) aa fun a9 bd aN=> ?_
 obtain ⟨rfl,aK,aA⟩:=aN
 exact nl<|bn<|tn<|V _ _<|rg aa<|ak (.int .i64 ((k:Nat) - 1:Int))<|p (sb aa aa<|bT ab)<|p aB<|nl<|tn<|⟨_,ab,k - 1,q8 bW (b - a) a (k - 1) C,ab,(by rw [← Y,Un (show 0 < k by omega)]),aK,(Md.trans O aA),aa,aa,aa,aa,(iv ab),aa⟩
 refine ext<|te _<|te _<|be<|tn<|aq _ _<|aj fun _ V=>ak (au<|b - a)<|p (dJ ((b - a - 1:Nat):Int) aa aa<|bj ab ab)<|aw<|V _ _<|aJ<|lp (fun M J G=> ∃ (k:Nat) (C:Array Nat),(k≤b - a)∧(Go.Sort.heapPop bW a k C=Nd bW d a b)∧(G.ownsRow B 51 1 (.slice j n cp) n<|LE bc C)∧(Md (fun q=>(bO j n cp).ownBlock=some q) w G)∧(J 0= .slice j n cp)∧(J 6=au a)∧(J 7= .int .i64 0)∧(J 8=au (b - a))∧(J 10= .int .i64 ((k:Nat) - 1:Int))∧(k=M)) _ ⟨b - a,C,ab,(by rw [show k=0 by omega,Uo] at Y; rw [Y]; rfl),E,O,aa,aa,aa,aa,(iv ab),aa⟩ ?_
 rintro M J G ⟨k,C,a8,ae,E,O,a0,a2,a3,a4,a1,rfl⟩
 refine fx 0 a0<|fx 6 a2<|fx 7 a3<|fx 8 a4<|fx 10 a1<|sq fun _ az=>aj fun _ al=>ak (.int .i64 ((k:Nat) - 1:Int))<|p (ge aa aa)<|aE<|al _ _<|cd aa (fun aQ=> ?_) fun aQ=> ?_
 refine aM<|tn<|az _ _<|sq fun _ am=>aJ<|sq fun _ an=> ?_
 have a6:=fG E
 have A:(fun w'=>Wk G w') G.drew:=(Md.refl _ _).drew
 refine eM (fun w'=>Wk G w') 17 aa wide A<|bz 0 aa (.slice j n cp) A<|bz 1 aa (au a) A<|bz 2 aa (.slice j n cp) A<|bz 3 aa (au a) A<|bz 4 aa (.int .i64 ((k:Nat) - 1:Int)) A<|bq 5 aa (fun _=>bE ((a+(k - 1):Nat):Int) aa aa<|bj ab ab) (fun _=>A)<|bz 6 aa (.slice j n cp) A<|bz 7 aa (au a) A<|bz 8 aa (.int .i64 ((k:Nat) - 1:Int)) A<|bq 9 aa (fun _=>bE ((a+(k - 1):Nat):Int) aa aa<|bj ab ab) (fun _=>A)<|bq 10 aa (fun _=>a7 bV aa aa ab<|aI.ok ((aX E).2)<|ca ab) (fun _=>A)<|dH 11 aa (fun w' U=>ld cU aa<|dF (i:=a+(k - 1)) ((aX E).2.wk U) ab) A<|bz 12 aa (.slice j n cp) A<|bz 13 aa (au a) A<|bq 14 aa (fun _=>a7 bV aa aa ab<|aI.ok ((aX E).2)<|ca ab) (fun _=>A) ?_
 refine dH 15 aa (fun w' U=>ld cU aa<|dF (i:=a) ((aX E).2.wk U) ab) A<|bq 16 aa (fun _=>a7 bV aa aa ab<|aI.ok ((aX E).2)<|ca ab) (fun _=>A)<|dG 17 aa ag ag<|gu (u:=C[a+(k - 1)]!) (a) (aU E A) gd aa aa aa ab fun bg aF aR=>bq 18 aa (fun _=>a7 bV aa aa ab<|aI.ok ((aX E).2)<|ca ab) (fun h=>eb<|(show true =_ from by kernel_rfl).trans h)<|dG 19 aa ag ag<|gu (u:=C[a]!) (a+(k - 1)) aR gd aa aa aa ab fun ah aG aS=> ?_
 have U:ah.ownsRow B 51 1 (.slice j n cp) n (LE bc<|cJ C (a)<|a+(k - 1)):=aS
 have aD:Md (fun q=>(bO j n cp).ownBlock=some q) G ah:=Md.trans (A.mono fun _ _ h=>h.elim)<|Md.trans aF aG
 refine eL ag<|tn<|an _ _<|rg aa<|ak (.slice j n cp)<|ak (.int .i64 0)<|ak (.int .i64 ((k:Nat) - 1:Int))<|ak (au a)<|e<|cl Gr (Lm (cJ C a<|a+(k - 1)) 0 (k - 1) a _ _ B n cp j _ U ab aa ab ac) aa fun bb bf aO=> ?_
 obtain ⟨rfl,aL,aC⟩:=aO
 exact nl<|bn<|tn<|am _ _<|rg aa<|ak (.int .i64 ((k:Nat) - 1:Int))<|p (sb aa aa<|bT ab)<|p aB<|nl<|tn<|⟨_,ab,k - 1,q8 bW (k - 1) a 0 (cJ C a<|a+(k - 1)),ab,(by rw [← ae,UM (show 0 < k by omega)]),aL,(Md.trans O<|Md.trans aD aC),aa,aa,aa,aa,(iv ab),aa⟩
 exact ext<|te _<|te _<|be<|f0 aa<|⟨aa,by rw [← ae,show k=0 by omega]; exact E,O⟩
theorem Xn (d:Array Nat) (a b:Nat) (B n cp:Nat) (C:Option Addr) (w:World) (ap:w.ownsRow B 51 1 (.slice C n cp) n (LE bc d)) (aC:a < b∧b≤n) (aF:n≤1099511627776):
 bh ay 287 (ba [.slice C n cp,au a,au b]) w (fun v w'=>v= .tuple #[]∧w'.ownsRow B 51 1 (.slice C n cp) n (LE bc<|Ex d a b)∧Md (fun q=>(bO C n cp).ownBlock=some q) w w'):=by
 refine enter func287 aa ntmps287 aa<|aj fun _ Z=>ak (au a)<|p (cH (au a) aa)<|aE<|Z _ _<|aj fun _ ac=>ak (au b)<|p (dJ ((b - 1:Nat):Int) aa aa<|bj ab ab)<|aw<|ac _ _<|aJ<|lp (fun O M I=> ∃ (i j:Nat) (G:Array Nat),(i≤n∧j < n)∧(Go.Sort.reverseLoop i j G=Ex d a b)∧(I.ownsRow B 51 1 (.slice C n cp) n<|LE bc G)∧(Md (fun q=>(bO C n cp).ownBlock=some q) w I)∧(M 0= .slice C n cp)∧(M 6=au i)∧(M 7=au j)∧(j - i=O)) _ ⟨a,b - 1,d,ab,aa,ap,(Md.refl _ _),aa,aa,aa,aa⟩ ?_
 rintro O M I ⟨i,j,G,hi,V,E,U,ax,az,aA,rfl⟩
 refine fx 0 ax<|fx 6 az<|fx 7 aA<|sq fun _ ae=>aj fun _ ah=>ak (au i)<|ak (au j)<|p (lt aa aa)<|nl<|tn<|ah _ _<|cd aa (fun aq=> ?_) fun aq=> ?_
 refine aM<|tn<|ae _ _<|aJ<|sq fun _ ai=> ?_
 have aD:=fG E
 have A:(fun w'=>Wk I w') I.drew:=(Md.refl _ _).drew
 refine eM (fun w'=>Wk I w') 13 aa wide A<|bz 0 aa (.slice C n cp) A<|bz 1 aa (au i) A<|bz 2 aa (.slice C n cp) A<|bz 3 aa (au j) A<|bz 4 aa (.slice C n cp) A<|bz 5 aa (au j) A<|bq 6 aa (fun _=>a7 bV aa aa ab<|aI.ok ((aX E).2)<|ca ab) (fun _=>A)<|dH 7 aa (fun w' J=>ld cU aa<|dF (i:=j) ((aX E).2.wk J) ab) A<|bz 8 aa (.slice C n cp) A<|bz 9 aa (au i) A<|bq 10 aa (fun _=>a7 bV aa aa ab<|aI.ok ((aX E).2)<|ca ab) (fun _=>A)<|dH 11 aa (fun w' J=>ld cU aa<|dF (i:=i) ((aX E).2.wk J) ab) A<|bq 12 aa (fun _=>a7 bV aa aa ab<|aI.ok ((aX E).2)<|ca ab) (fun _=>A)<|dG 13 aa ag ag<|gu (u:=G[j]!) (i) (aU E A) gd aa aa aa ab fun aG an ar=> ?_
 refine bq 14 aa (fun _=>a7 bV aa aa ab<|aI.ok ((aX E).2)<|ca ab) (fun h=>eb<|(show true =_ from by kernel_rfl).trans h)<|dG 15 aa ag ag<|gu (u:=G[i]!) (j) ar gd aa aa aa ab fun Y ao av=> ?_
 have J:Y.ownsRow B 51 1 (.slice C n cp) n (LE bc<|cJ G (i)<|j):=av
 have am:Md (fun q=>(bO C n cp).ownBlock=some q) I Y:=Md.trans (A.mono fun _ _ h=>h.elim)<|Md.trans an ao
 exact eL ag<|tn<|ai _ _<|aj fun _ al=>ak (au i)<|p (bE ((i+1:Nat):Int) aa aa<|bj ab ab)<|aw<|al _ _<|rg aa<|ak (au j)<|p (dJ ((j - 1:Nat):Int) aa aa<|bj ab ab)<|p aB<|nl<|bn<|tn<|⟨_,ab,i+1,j - 1,cJ G i j,ab,(by rw [← V,Xl (show i < j by omega)]),J,(Md.trans U am),aa,aa,aa,aa⟩
 exact ext<|te _<|te _<|be<|f0 aa<|⟨aa,by rw [← V,Xm ab]; exact E,U⟩
end Go.Hb.rq
end
section
set_option maxRecDepth 20000
set_option maxHeartbeats 1000000
namespace Go.Hb.xm
open Go.Hb.dT
open Go.Proofs
open Go.Hb.rq
theorem Y8 {n:Nat} {l:List UInt8} (h:n < 256) (a:∀ k:Fin 256,(l.getD k.val 0).toNat=kR k.val):IntKind.i64.wrap ((l.getD n 0).toNat:Int)=(kR n:Int):=by
 rw [a ⟨n,h⟩]; have :=yJ h; exact bT<|by simp only; omega
theorem XZ {k:Nat} (h:k≤8):eF.wrap ((1:Int)*2 ^ min ((k:Nat):Int).toNat eF.bits)=((2 ^ k:Nat):Int):=by
 have h2:(eF.bits:Nat)=64:=rfl
 rw [Int.toNat_natCast,h2,Nat.min_eq_left ab,Int.one_mul]
 have h3:(2:Nat) ^ k≤2 ^ 8:=Nat.pow_le_pow_right az h
 have h4:((2:Int) ^ k)=((2 ^ k:Nat):Int):=by simp
 rw [h4]
 obtain ⟨m,hm⟩:∃ m:Nat,2 ^ k=m:=⟨_,rfl⟩
 rw [hm] at h3 ⊢; exact oU ab
theorem WR {d d1 d2:Array Nat} {a b i j:Nat} (h:od a b d d1) (hi:a≤i∧i < b) (q:a≤j∧j < b) (A:b≤d1.size) (h2:d2=cJ d1 i j):od a b d d2:=by
 subst h2; exact sr _ _ _ a b h<|Go.Sort.swp_permIn d1 a b i j hi.1 hi.2 q.1 q.2 A
theorem C3 (d:Array Nat) (i j s lo hi G:Nat) (B n cp:Nat) (E:Option Addr) (w:World) (A:w.ownsRow B 51 1 (.slice E n cp) n (LE bc d)) (U:bL w.heap G [au s]) (ao:(bO E n cp).ownBlock≠some G) (ax:lo≤i∧i < hi∧lo≤j∧j < hi∧hi≤n) (hs:s≤1000) (av:n≤1099511627776):
 bh ay 308 (ba [.slice E n cp,au i,au j,aQ G]) w (fun v w'=> ∃ M O s1:Nat,v= .tuple #[au M,au O]∧(lo≤M∧M < hi)∧(lo≤O∧O < hi)∧s1≤s+1∧bL w'.heap G [au s1]∧w'.ownsRow B 51 1 (.slice E n cp) n (LE bc d)∧Md (fun q=>q=G) w w'):=by
 refine enter func308 aa ntmps308 aa<|aj fun _ Z=>p aB<|aw<|Z _ _<|sq fun _ ac=>sq fun _ ae=> ?_
 have ar:=fG A
 have a:(fun w'=>Wk w w') w.drew:=(Md.refl _ _).drew
 refine bJ (fun w'=>Wk w w') aa wide a<|bC 0 aa (.slice E n cp) a<|bC 1 aa (au j) a<|aH 2 aa (fun _ _=>a7 bV aa aa ab<|aI.ok ((aX A).2)<|ca ab) a<|aH 3 aa (fun w' J=>ld cU aa<|dF (i:=j) ((aX A).2.wk J) ab) a<|bC 4 aa (.slice E n cp) a<|bC 5 aa (au i) a<|aH 6 aa (fun _ _=>a7 bV aa aa ab<|aI.ok ((aX A).2)<|ca ab) a<|aH 7 aa (fun w' J=>ld cU aa<|dF (i:=i) ((aX A).2.wk J) ab) a<|he 8 aa ag<|cl lW (l3 d[j]! d[i]! _) aa fun az aq an=> ?_
 obtain ⟨rfl,al⟩:=an
 have C:(fun w'=>Wk w w') aq:=Md.trans a al
 refine ⟨C,?_⟩
 refine hn ag<|tn<|ae _ _<|cb aa (fun ap=> ?_) fun ap=> ?_
 have V:=C.B U
 have am:=aU A C
 exact aj fun _ I=>ak (aQ G)<|p (nc aa)<|p (ld bA aa<|V.aO 0)<|p (bE ((s+1:Nat):Int) aa aa<|bj ab ab)<|p (nc aa)<|e<|st gX aa aa (aa) (V) (by simp) fun aA Y ai=>aE<|I _ _<|aj fun _ ah=>ak (au j)<|ak (au i)<|p (cH (au j) aa)<|p (cH (au i) aa)<|aE<|ah _ _<|rt<|tr<|f2 aa aa aa<|⟨j,i,s+1,aa,ab,ab,ab,ai,db am Y (fun k hk h=>ao<|h ▸ hk),Md.trans (C.mono fun _ _ h=>h.elim) Y⟩
 exact aM<|tn<|ac _ _<|aj fun _ I=>ak (au i)<|ak (au j)<|p (cH (au i) aa)<|p (cH (au j) aa)<|aE<|I _ _<|rt<|f2 aa aa aa<|⟨i,j,s,aa,ab,ab,ab,C.B U,aU A C,C.mono fun _ _ h=>h.elim⟩
theorem JN (d:Array Nat) (i j k s lo hi a:Nat) (B n cp:Nat) (A:Option Addr) (w:World) (ai:w.ownsRow B 51 1 (.slice A n cp) n (LE bc d)) (V:bL w.heap a [au s]) (C:(bO A n cp).ownBlock≠some a) (aH:(lo≤i∧i < hi)∧(lo≤j∧j < hi)∧(lo≤k∧k < hi)∧hi≤n) (hs:s≤900) (E:n≤1099511627776):
 bh ay 301 (ba [.slice A n cp,au i,au j,au k,aQ a]) w (fun v w'=> ∃ G s1:Nat,v=au G∧(lo≤G∧G < hi)∧s1≤s+3∧bL w'.heap a [au s1]∧w'.ownsRow B 51 1 (.slice A n cp) n (LE bc d)∧Md (fun q=>q=a) w w'):=by
 refine enter func301 aa ntmps301 aa<|aj fun _ I=>aw<|I _ _<|aj fun _ J=>ak (.slice A n cp)<|ak (au i)<|ak (au j)<|ak (aQ a)<|e<|cl A1 (C3 d i j s lo hi a B n cp A _ ai V C ab ab E) aa fun aM aO ao=> ?_
 obtain ⟨i1,av,s1,rfl,aC,aE,aI,Y,al,ae⟩:=ao
 refine p mv<|p (xt aa aa)<|p (xt aa aa)<|p aB<|aw<|J _ _<|sq fun _ M=>rg aa<|ak (.slice A n cp)<|p mv<|ak (au k)<|ak (aQ a)<|e<|cl A1 (C3 d av k s1 lo hi a B n cp A _ al Y C ab ab E) aa fun v24 aP ap=> ?_
 obtain ⟨ax,aL,s2,rfl,aF,aG,aJ,Z,am,ag⟩:=ap
 refine p mv<|p (xt aa aa)<|p (xt aa aa)<|p aB<|aw<|M _ _<|sq fun _ O=>rg aa<|ak (.slice A n cp)<|p mv<|p mv<|ak (aQ a)<|e<|cl A1 (C3 d i1 ax s2 lo hi a B n cp A _ am Z C ab ab E) aa fun aN aR aq=> ?_
 obtain ⟨i3,az,aA,rfl,aD,ar,aK,ac,an,ah⟩:=aq
 exact p mv<|p (xt aa aa)<|p (xt aa aa)<|p aB<|aw<|O _ _<|sq fun _ U=>rg aa<|p mv<|aw<|U _ _<|rt<|f1 aa aa<|⟨az,aA,aa,ar,ab,ac,an,Md.trans ae<|Md.trans ag ah⟩
theorem CO (d:Array Nat) (i s lo hi a:Nat) (B n cp:Nat) (j:Option Addr) (w:World) (I:w.ownsRow B 51 1 (.slice j n cp) n (LE bc d)) (G:bL w.heap a [au s]) (M:(bO j n cp).ownBlock≠some a) (U:lo+1≤i∧i+1 < hi∧hi≤n) (hs:s≤900) (O:n≤1099511627776):
 bh ay 300 (ba [.slice j n cp,au i,aQ a]) w (fun v w'=> ∃ A s1:Nat,v=au A∧(lo≤A∧A < hi)∧s1≤s+3∧bL w'.heap a [au s1]∧w'.ownsRow B 51 1 (.slice j n cp) n (LE bc d)∧Md (fun q=>q=a) w w'):=by
 exact enter func300 aa ntmps300 aa<|aj fun _ C=>aw<|C _ _<|aj fun _ E=>ak (.slice j n cp)<|ak (au i)<|p (dJ ((i - 1:Nat):Int) aa aa<|bj ab ab)<|ak (au i)<|ak (au i)<|p (bE ((i+1:Nat):Int) aa aa<|bj ab ab)<|ak (aQ a)<|e<|cl Gs (JN d (i - 1) i (i+1) s lo hi a B n cp j _ I G M ab ab O) aa fun V Y J=>p aB<|aE<|E _ _<|rt<|f1 aa aa<|J
theorem QX (d:Array Nat) (a b:Nat) (B n cp:Nat) (i:Option Addr) (w:World) (an:w.ownsRow B 51 1 (.slice i n cp) n (LE bc d)) (bp:a+12 < b∧b≤n) (J:n≤1099511627776):
 bh ay 286 (ba [.slice i n cp,au a,au b]) w (fun v w'=> ∃ (ai:Nat) (bk:Int),v= .tuple #[au ai,.int .i64 bk]∧(a≤ai∧ai < b)∧w'.ownsRow B 51 1 (.slice i n cp) n (LE bc d)∧Wk w w'):=by
 refine enter func286 aa ntmps286 aa<|aj fun _ ap=>p aB<|aw<|ap _ _<|aj fun _ aq=>ak (au b)<|ak (au a)<|p (dJ ((b - a:Nat):Int) aa aa<|bj ab ab)<|aw<|aq _ _<|aj fun _ ar=>e<|al ZL fun q bM bq ac am=> ?_
 have ao:=aU an ac.md
 have I:(bO i n cp).ownBlock≠some q:=fun h=>by have :=dI an h; omega
 refine aE<|ar _ _<|aj fun _ av=>ak (au a)<|p mv<|p (qQ (((b - a) / 4:Nat):Int) aa aa ab<|bj ab ab)<|p (oL (((b - a) / 4:Nat):Int) aa aa<|bj ab ab)<|p (bE ((a+(b - a) / 4:Nat):Int) aa aa<|bj ab ab)<|aw<|av _ _<|aj fun _ ax=>ak (au a)<|p mv<|p (qQ (((b - a) / 4:Nat):Int) aa aa ab<|bj ab ab)<|p (oL (((b - a) / 4 *2:Nat):Int) aa aa<|bj ab ab)<|p (bE ((a+(b - a) / 4 *2:Nat):Int) aa aa<|bj ab ab)<|aw<|ax _ _<|aj fun _ az=>ak (au a)<|p mv<|p (qQ (((b - a) / 4:Nat):Int) aa aa ab<|bj ab ab)<|p (oL (((b - a) / 4 *3:Nat):Int) aa aa<|bj ab ab)<|p (bE ((a+(b - a) / 4 *3:Nat):Int) aa aa<|bj ab ab)<|aw<|az _ _ ?_
 refine sq fun _ aA=>aj fun _ aC=>p mv<|p (ge aa aa)<|aE<|aC _ _<|cd aa (fun bs=> ?_) fun h=>absurd ab h
 refine ec (fun j O=> ∃ (A C E M:Nat),(a≤A∧A < b)∧(a≤C∧C < b)∧(a≤E∧E < b)∧(M≤9)∧(bL O.heap q [au M])∧(O.ownsRow B 51 1 (.slice i n cp) n<|LE bc d)∧(Wk w O)∧(j 0= .slice i n cp)∧(j 1=au a)∧(j 2=au b)∧(j 8=au (b - a))∧(j 9=aQ q)∧(j 10=au A)∧(j 11=au C)∧(j 12=au E)) ?_ ?_
 refine aj fun _ Y=>p mv<|p (ge aa aa)<|aE<|Y _ _<|cd aa (fun a1=> ?_) fun a1=> ?_
 refine aj fun _ U=>ak (.slice i n cp)<|p mv<|e<|cl A0 (CO d (a+(b - a) / 4) 0 a b q B n cp i _ ao am I ab ab J) aa fun v37 bI aX=> ?_
 obtain ⟨i1,s1,rfl,a4,bw,aD,aS,aL⟩:=aX
 refine aw<|U _ _<|aj fun _ G=>ak (.slice i n cp)<|p mv<|e<|cl A0 (CO d (a+(b - a) / 4 *2) s1 a b q B n cp i _ aS aD I ab ab J) aa fun v40 bJ aY=> ?_
 obtain ⟨bl,s2,rfl,a5,bx,aF,aT,aN⟩:=aY
 refine aw<|G _ _<|rg aa<|ak (.slice i n cp)<|p mv<|e<|cl A0 (CO d (a+(b - a) / 4 *3) s2 a b q B n cp i _ aT aF I ab ab J) aa fun bF bK aZ=> ?_
 obtain ⟨bm,bn,rfl,a6,bz,aG,aV,aP⟩:=aZ
 exact aw<|⟨i1,bl,bm,bn,a4,a5,a6,ab,aG,aV,(Md.trans' ac.md (Md.trans aL<|Md.trans aN aP) fun k hk h=>by omega),aa,aa,aa,aa,aa,aa,aa,aa⟩
 exact aM<|tn<|⟨a+(b - a) / 4,a+(b - a) / 4 *2,a+(b - a) / 4 *3,0,ab,ab,ab,ab,am,ao,ac.md,aa,aa,aa,aa,aa,aa,aa,aa⟩
 rintro j O ⟨A,C,E,M,bt,bu,bv,bC,aI,aW,aK,a7,a8,bf,bg,bi,a9,bb,bd⟩
 refine fx 0 a7<|fx 1 a8<|fx 2 bf<|fx 8 bg<|fx 9 bi<|fx 10 a9<|fx 11 bb<|fx 12 bd<|rg aa<|ak (.slice i n cp)<|ak (au A)<|ak (au C)<|ak (au E)<|e<|cl Gs (JN d A C E M a b q B n cp i _ aW aI I ab ab J) aa fun bG bo a0=> ?_
 obtain ⟨ah,bD,rfl,ag,bB,aH,ae,aR⟩:=a0
 have Z:Wk w bo:=Md.trans' aK aR fun k hk h=>by omega
 refine aw<|aA _ _<|aj fun _ Y=>p (ld bA aa<|aH.aO 0)<|aE<|Y _ _<|aJ<|aj fun _ U=>p (bH aa aa)<|aw<|U _ _<|cd aa (fun a2=> ?_) fun a2=> ?_
 exact aj fun _ G=>p mv<|p aB<|aw<|G _ _<|rt<|br<|f2 aa aa aa<|⟨ah,_,aa,ag,ae,Z⟩
 refine aj fun _ G=>p (bH aa aa)<|aw<|G _ _<|cd aa (fun a3=> ?_) fun a3=> ?_
 exact aj fun _ V=>p mv<|p aB<|aw<|V _ _<|rt<|br<|f2 aa aa aa<|⟨ah,_,aa,ag,ae,Z⟩
 exact aj fun _ V=>p mv<|p aB<|aw<|V _ _<|rt<|br<|f2 aa aa aa<|⟨ah,_,aa,ag,ae,Z⟩
theorem Wc (a:Nat) (r:Int) (w:World) (G:bL w.heap a [.int .u64 r]):
 bh ay 228 (ba [aQ a]) w (fun v w'=> ∃ E:Int,v= .int .u64 E∧0≤E∧E < 18446744073709551616∧bL w'.heap a [.int .u64 E]∧Md (fun q=>q=a) w w'):=by
 refine enter func228 aa ntmps228 aa<|aj fun _ V=>aw<|V _ _<|sq fun _ Y=> ?_
 have j:(fun w'=>Wk w w') w.drew:=(Md.refl _ _).drew
 refine eM (fun w'=>Wk w w') 9 aa wide j<|lq 0 aa ag (fun _ _=>aT (aQ a) aa) j<|lq 1 aa ag (fun _ _=>nc aa) j<|lq 2 aa ag (fun w' i=>ld ry aa<|Wk.aO i<|G.aO 0) j<|lq 3 aa ag (fun _ _=>aT (aQ a) aa) j<|lq 4 aa ag (fun _ _=>nc aa) j<|lq 5 aa ag (fun w' i=>ld ry aa<|Wk.aO i<|G.aO 0) j<|lq 6 aa ag (fun _ _=>shl aa aa az aa) j<|lq 7 aa ag (fun _ _=>Ax aa aa aa) j<|lq 8 aa ag (fun _ _=>nc aa) j<|dG 9 aa ag ag<|st xM aa aa (aa) (j.B G) (by simp) fun M ae I=>eL ag<|tn<|Y _ _<|sq fun _ Z=> ?_
 have A:(fun w'=>Wk M w') M.drew:=(Md.refl _ _).drew
 refine eM (fun w'=>Wk M w') 9 aa wide A<|lq 0 aa ag (fun _ _=>aT (aQ a) aa) A<|lq 1 aa ag (fun _ _=>nc aa) A<|lq 2 aa ag (fun w' i=>ld ry aa<|Wk.aO i<|I.aO 0) A<|lq 3 aa ag (fun _ _=>aT (aQ a) aa) A<|lq 4 aa ag (fun _ _=>nc aa) A<|lq 5 aa ag (fun w' i=>ld ry aa<|Wk.aO i<|I.aO 0) A<|lq 6 aa ag (fun _ _=>shr aa aa az aa) A<|lq 7 aa ag (fun _ _=>Ax aa aa aa) A<|lq 8 aa ag (fun _ _=>nc aa) A<|dG 9 aa ag ag<|st xM aa aa (aa) (A.B I) (by simp) fun O ah J=>eL ag<|tn<|Z _ _<|sq fun _ ab=> ?_
 have C:(fun w'=>Wk O w') O.drew:=(Md.refl _ _).drew
 refine eM (fun w'=>Wk O w') 9 aa wide C<|lq 0 aa ag (fun _ _=>aT (aQ a) aa) C<|lq 1 aa ag (fun _ _=>nc aa) C<|lq 2 aa ag (fun w' i=>ld ry aa<|Wk.aO i<|J.aO 0) C<|lq 3 aa ag (fun _ _=>aT (aQ a) aa) C<|lq 4 aa ag (fun _ _=>nc aa) C<|lq 5 aa ag (fun w' i=>ld ry aa<|Wk.aO i<|J.aO 0) C<|lq 6 aa ag (fun _ _=>shl aa aa az aa) C<|lq 7 aa ag (fun _ _=>Ax aa aa aa) C<|lq 8 aa ag (fun _ _=>nc aa) C<|dG 9 aa ag ag<|st xM aa aa (aa) (C.B J) (by simp) fun al ai U=>eL ag<|tn<|ab _ _<|aj fun _ ac=>ak (aQ a)<|p (nc aa)<|p (ld ry aa<|U.aO 0)<|p aB<|nl<|tn<|ac _ _<|rt<|f1 aa aa ?_
 refine ⟨_,aa,(L9 _).1,(L9 _).2,U,?_⟩
 exact Md.trans (Md.refl _ _).drew<|Md.trans ae<|Md.trans (Md.refl _ _).drew<|Md.trans ah<|Md.trans (Md.refl _ _).drew ai
theorem Vx (n:Nat) (w:World) (hn:n < 256):
 bh ay 169 (ba [.int .u64 (n:Nat)]) w (fun v w'=>v=au (kR n)∧Wk w w'):=by
 have O:=yJ hn
 exact enter func169 aa ntmps169 aa<|aj fun _ a=>aw<|a _ _<|sq fun _ i=>aj fun _ j=>ak (.int .u64 (n:Nat))<|p (ge aa aa)<|aE<|j _ _<|cd aa (fun h=>absurd h ab) fun J=>aM<|tn<|i _ _<|sq fun _ q=>aj fun _ A=>ak (.int .u64 (n:Nat))<|p (ge aa aa)<|nl<|tn<|A _ _<|cd aa (fun h=>absurd h ab) fun M=>aM<|tn<|q _ _<|sq fun _ C=>aj fun _ E=>ak (.int .u64 (n:Nat))<|p (ge aa aa)<|nl<|tn<|E _ _<|cd aa (fun h=>absurd h ab) fun I=>aM<|tn<|C _ _<|aj fun _ G=>ak (.int .i64 0)<|ak (.int .u64 (n:Nat))<|p (xK u5 Ze aa<|tU ab)<|p (eK u9 aa aa (by have :n < 256:=hn; simpa using this))<|p (lH u3 pW aa<|Y8 hn<|by decide+kernel)<|p (bE ((kR n:Nat):Int) aa aa<|bj ab ab)<|aw<|G _ _<|rt<|f1 aa aa<|⟨aa,Md.refl _ _⟩
theorem Jz (n:Nat) (w:World) (hn:n < 256):
 bh ay 111 (ba [.int .u64 (n:Nat)]) w (fun v w'=>v=au (kR n)∧Wk w w'):=by
 exact enter func111 aa ntmps111 aa<|aj fun _ a=>aw<|a _ _<|sq fun _ i=>cf aa<|aM<|tn<|i _ _<|aj fun _ j=>ak (.int .u64 (n:Nat))<|e<|cl Pp (Vx n _ hn) aa fun A C q=>aw<|j _ _<|rt<|f1 aa aa<|q
theorem Wd (n:Nat) (w:World) (hn:n < 256):
 bh ay 227 (ba [au n]) w (fun v w'=>v= .int .u64 (2 ^ kR n:Nat)∧Wk w w'):=by
 refine enter func227 aa ntmps227 aa<|aj fun _ a=>aw<|a _ _<|aj fun _ i=>ak (au n)<|p (lH L5 qW aa<|oU ab)<|e<|cl FL (Jz n _ hn) aa fun v5 C q=> ?_
 obtain ⟨rfl,j⟩:=q
 have A:=yJ hn
 exact p (shl aa aa ab<|XZ A)<|aw<|i _ _<|rt<|f1 aa aa<|⟨aa,j⟩
theorem OS (d:Array Nat) (a b:Nat) (B n cp:Nat) (A:Option Addr) (w:World) (ar:w.ownsRow B 51 1 (.slice A n cp) n (LE bc d)) (bt:a+12 < b∧b≤n) (bB:n≤255):
 bh ay 285 (ba [.slice A n cp,au a,au b]) w (fun v w'=> ∃ d1,v= .tuple #[]∧od a b d d1∧w'.ownsRow B 51 1 (.slice A n cp) n (LE bc d1)∧Md (fun q=>(bO A n cp).ownBlock=some q) w w'):=by
 refine enter func285 aa ntmps285 aa<|aj fun _ ax=>ak (au b)<|ak (au a)<|p (dJ ((b - a:Nat):Int) aa aa<|bj ab ab)<|aw<|ax _ _<|aj fun _ aA=>p mv<|p (ge aa aa)<|aE<|aA _ _<|cd aa (fun bv=> ?_) fun h=>absurd ab h
 refine aj fun _ aC=>p mv<|p (lH Y4 qW aa<|oU ab)<|e<|al ZM fun U bN bu aZ aP=>e<|st xM aa aa (aa) (aP) (by simp) fun bs aT aO=> ?_
 have ap:Wk w bs:=Md.trans' aZ.md aT fun k hk h=>by omega
 refine aE<|aC _ _<|aj fun _ aD=>p mv<|e<|cl PI (Wd (b - a) _ ab) aa fun bI bK a0=> ?_
 obtain ⟨rfl,ae⟩:=a0
 have bA:=Vy (n:=b - a) ab ab
 refine aw<|aD _ _<|aj fun _ aF=>ak (au a)<|p mv<|p (qQ (((b - a) / 4:Nat):Int) aa aa ab<|bj ab ab)<|p (oL (((b - a) / 4 *2:Nat):Int) aa aa<|bj ab ab)<|p (bE ((a+(b - a) / 4 *2:Nat):Int) aa aa<|bj ab ab)<|p (dJ ((a+(b - a) / 4 *2 - 1:Nat):Int) aa aa<|bj ab ab)<|aw<|aF _ _<|aJ ?_
 have Y:(bO A n cp).ownBlock≠some U:=fun h=>by have :=dI ar h; omega
 refine lp (fun an O ac=> ∃ (C:Nat) (r:Int) (G:Array Nat),(a+(b - a) / 4 *2 - 1≤C∧C≤a+(b - a) / 4 *2 +2)∧(od a b d G)∧(bL ac.heap U [.int .u64 r])∧(ac.ownsRow B 51 1 (.slice A n cp) n<|LE bc G)∧(Md (fun q=>(bO A n cp).ownBlock=some q) w ac)∧(O 0= .slice A n cp)∧(O 1=au a)∧(O 6=au (b - a))∧(O 7=aQ U)∧(O 8= .int .u64 (2 ^ kR (b - a):Nat))∧(O 9=au C)∧(a+(b - a) / 4 *2 +3 - C=an)) _ ⟨a+(b - a) / 4 *2 - 1,(b - a:Nat),d,ab,(Nh d a b),(ae.B aO),(aU (aU ar ap) ae),((Md.trans ap ae).mono fun _ _ h=>h.elim),aa,aa,aa,aa,aa,aa,aa⟩ ?_
 rintro an O ac ⟨C,r,G,bx,aH,aS,ai,ah,a8,a9,bb,bd,bf,bg,rfl⟩
 refine fx 0 a8<|fx 1 a9<|fx 6 bb<|fx 7 bd<|fx 8 bf<|fx 9 bg<|sq fun _ aG=>aj fun _ aK=>ak (au C)<|ak (au a)<|ak (au<|b - a)<|p (qQ (((b - a) / 4:Nat):Int) aa aa ab<|bj ab ab)<|p (oL (((b - a) / 4 *2:Nat):Int) aa aa<|bj ab ab)<|p (bE ((a+(b - a) / 4 *2:Nat):Int) aa aa<|bj ab ab)<|p (bE ((a+(b - a) / 4 *2 +1:Nat):Int) aa aa<|bj ab ab)<|p (le aa aa)<|aE<|aK _ _<|cd aa (fun a2=> ?_) fun a2=> ?_
 refine aM<|tn<|aG _ _<|sq fun _ aL=>aJ<|aj fun _ aN=>e<|cl PJ (Wc U r _ aS) aa fun bJ bM a1=> ?_
 obtain ⟨am,rfl,bG,bH,ao,Z⟩:=a1
 obtain ⟨o,bD,a6⟩:=OA am (2 ^ kR (b - a)) ab
 have bC:=Y
 refine ak (.int .u64 (2 ^ kR (b - a):Nat))<|p (sb aa aa<|oU ab)<|p (fy aa aa a6)<|p (xK u3 Zf aa<|bT ab)<|aw<|aN _ _ ?_
 refine ec (fun M J=> ∃ (E:Nat),(E < b - a)∧(bL J.heap U [.int .u64 am])∧(J.ownsRow B 51 1 (.slice A n cp) n<|LE bc G)∧(Md (fun q=>(bO A n cp).ownBlock=some q) w J)∧(M 0= .slice A n cp)∧(M 1=au a)∧(M 6=au (b - a))∧(M 7=aQ U)∧(M 8= .int .u64 (2 ^ kR (b - a):Nat))∧(M 9=au C)∧(M 10=au E)) ?_ ?_
 refine aj fun _ az=>p mv<|ak (au<|b - a)<|p (ge aa aa)<|aE<|az _ _<|cd aa (fun a3=> ?_) fun a3=> ?_
 exact rg aa<|p mv<|ak (au<|b - a)<|p (dJ ((o - (b - a):Nat):Int) aa aa<|bj ab ab)<|aw<|⟨o - (b - a),ab,ao,(db ai Z fun k hk h=>Y<|h ▸ hk),(Md.trans' ah Z fun k hk h=>by omega),aa,aa,aa,aa,aa,aa,aa⟩
 exact aM<|tn<|⟨o,ab,ao,(db ai Z fun k hk h=>Y<|h ▸ hk),(Md.trans' ah Z fun k hk h=>by omega),aa,aa,aa,aa,aa,aa,aa⟩
 rintro M J ⟨E,bF,aR,I,aY,bi,bk,bm,bo,bp,br,bl⟩
 refine fx 0 bi<|fx 1 bk<|fx 6 bm<|fx 7 bo<|fx 8 bp<|fx 9 br<|fx 10 bl ?_
 have bw:=fG I
 have j:(fun w'=>Wk J w') J.drew:=(Md.refl _ _).drew
 refine eM (fun w'=>Wk J w') 17 aa wide j<|bz 0 aa (.slice A n cp) j<|bz 1 aa (au C) j<|bz 2 aa (.slice A n cp) j<|bz 3 aa (au a) j<|bz 4 aa (au E) j<|bq 5 aa (fun _=>bE ((a+E:Nat):Int) aa aa<|bj ab ab) (fun _=>j)<|bz 6 aa (.slice A n cp) j<|bz 7 aa (au a) j<|bz 8 aa (au E) j<|bq 9 aa (fun _=>bE ((a+E:Nat):Int) aa aa<|bj ab ab) (fun _=>j)<|bq 10 aa (fun _=>a7 bV aa aa ab<|aI.ok ((aX I).2)<|ca ab) (fun _=>j)<|dH 11 aa (fun w' V=>ld cU aa<|dF (i:=a+E) ((aX I).2.wk V) ab) j<|bz 12 aa (.slice A n cp) j<|bz 13 aa (au C) j<|bq 14 aa (fun _=>a7 bV aa aa ab<|aI.ok ((aX I).2)<|ca ab) (fun _=>j)<|dH 15 aa (fun w' V=>ld cU aa<|dF (i:=C) ((aX I).2.wk V) ab) j<|bq 16 aa (fun _=>a7 bV aa aa ab<|aI.ok ((aX I).2)<|ca ab) (fun _=>j)<|dG 17 aa ag ag<|gu (u:=G[a+E]!) (C) (aU I j) gd aa aa aa ab fun bP aV a4=> ?_
 refine bq 18 aa (fun _=>a7 bV aa aa ab<|aI.ok ((aX I).2)<|ca ab) (fun h=>eb<|(show true =_ from by kernel_rfl).trans h)<|dG 19 aa ag ag<|gu (u:=G[C]!) (a+E) a4 gd aa aa aa ab fun av aW a5=> ?_
 have V:av.ownsRow B 51 1 (.slice A n cp) n (LE bc<|cJ G (C)<|a+E):=a5
 have aq:Md (fun q=>(bO A n cp).ownBlock=some q) J av:=Md.trans (j.mono fun _ _ h=>h.elim)<|Md.trans aV aW
 exact eL ag<|bn<|tn<|aL _ _<|rg aa<|ak (au C)<|p (bE ((C+1:Nat):Int) aa aa<|bj ab ab)<|p aB<|nl<|tn<|⟨_,ab,C+1,am,cJ G C (a+E),ab,(WR aH ab ab ab aa),(aq.B aR fun h=>Y h),V,(Md.trans aY aq),aa,aa,aa,aa,aa,aa,aa⟩
 exact ext<|te _<|te _<|be<|f0 aa<|⟨G,aa,aH,ai,ah⟩
end Go.Hb.xm
end
section
set_option maxRecDepth 20000
set_option maxHeartbeats 1000000
namespace Go.Hb.ET
open Go.Hb.dT
open Go.Proofs
open Go.Hb.rq
theorem WI {d:Array Nat} {a b q i j:Nat} (h1:oh (fun x=>bW x (cJ d a q)[a]!) (cJ d a q) (b - 1) (a+1)=i) (h2:og (fun x=> !bW x (cJ d a q)[a]!) (cJ d a q) i (b - 1)=j) (h:i > j):
 q7 bW d a b q=(j,true,cJ (cJ d a q) j a):=by
 unfold q7; simp only [h1,h2,if_pos h]
theorem part_go {d:Array Nat} {a b q i j A:Nat} {C:Array Nat} (h1:oh (fun x=>bW x (cJ d a q)[a]!) (cJ d a q) (b - 1) (a+1)=i) (h2:og (fun x=> !bW x (cJ d a q)[a]!) (cJ d a q) i (b - 1)=j) (h:¬i > j)
 (h3:Ew bW a (i+1) (j - 1) (cJ (cJ d a q) i j)=(A,C)):
 q7 bW d a b q=(A,false,cJ C A a):=by
 unfold q7; simp only [h1,h2,if_neg h,h3]
theorem WJ (d:Array Nat) (a b C:Nat) (B n cp:Nat) (A:Option Addr) (w:World) (aA:w.ownsRow B 51 1 (.slice A n cp) n (LE bc d)) (dt:a≤C∧C < b∧b≤n) (dx:n≤1099511627776):
 bh ay 291 (ba [.slice A n cp,au a,au b,au C]) w (fun v w'=>v= .tuple #[au ((q7 bW d a b C).1),.bool (q7 bW d a b C).2.1]∧w'.ownsRow B 51 1 (.slice A n cp) n (LE bc (q7 bW d a b C).2.2)∧Md (fun q=>(bO A n cp).ownBlock=some q) w w'):=by
 refine enter func291 aa ntmps291 aa<|aj fun _ bN=>p aB<|aw<|bN _ _<|sq fun _ bP=> ?_
 have du:=fG aA
 have ah:(fun w'=>Wk w w') w.drew:=(Md.refl _ _).drew
 refine eM (fun w'=>Wk w w') 13 aa wide ah<|bz 0 aa (.slice A n cp) ah<|bz 1 aa (au a) ah<|bz 2 aa (.slice A n cp) ah<|bz 3 aa (au C) ah<|bz 4 aa (.slice A n cp) ah<|bz 5 aa (au C) ah<|bq 6 aa (fun _=>a7 bV aa aa ab<|aI.ok ((aX aA).2)<|ca ab) (fun _=>ah)<|dH 7 aa (fun w' G=>ld cU aa<|dF (i:=C) ((aX aA).2.wk G) ab) ah<|bz 8 aa (.slice A n cp) ah<|bz 9 aa (au a) ah<|bq 10 aa (fun _=>a7 bV aa aa ab<|aI.ok ((aX aA).2)<|ca ab) (fun _=>ah)<|dH 11 aa (fun w' G=>ld cU aa<|dF (i:=a) ((aX aA).2.wk G) ab) ah<|bq 12 aa (fun _=>a7 bV aa aa ab<|aI.ok ((aX aA).2)<|ca ab) (fun _=>ah)<|dG 13 aa ag ag<|gu (u:=d[C]!) (a) (aU aA ah) gd aa aa aa ab fun dB b1 cB=> ?_
 refine bq 14 aa (fun _=>a7 bV aa aa ab<|aI.ok ((aX aA).2)<|ca ab) (fun h=>eb<|(show true =_ from by kernel_rfl).trans h)<|dG 15 aa ag ag<|gu (u:=d[a]!) (C) cB gd aa aa aa ab fun bH b2 cC=> ?_
 have ck:bH.ownsRow B 51 1 (.slice A n cp) n (LE bc<|cJ d (a)<|C):=cC
 have b0:Md (fun q=>(bO A n cp).ownBlock=some q) w bH:=Md.trans (ah.mono fun _ _ h=>h.elim)<|Md.trans b1 b2
 refine eL ag<|tn<|bP _ _<|aj fun _ bQ=>ak (au a)<|p (bE ((a+1:Nat):Int) aa aa<|bj ab ab)<|ak (au b)<|p (dJ ((b - 1:Nat):Int) aa aa<|bj ab ab)<|p aB<|aw<|bQ _ _ ?_
 refine ec (fun aZ bt=> ∃ (M:Nat),(a+1≤M∧(M=a+1∨M≤b - 1 +1))∧(oh (fun x=>bW x (cJ d a C)[a]!) (cJ d a C) (b - 1) (a+1)=M)∧(bt.ownsRow B 51 1 (.slice A n cp) n<|LE bc<|cJ d a C)∧(Md (fun q=>(bO A n cp).ownBlock=some q) w bt)∧(aZ 0= .slice A n cp)∧(aZ 1=au a)∧(aZ 10=au M)∧(aZ 11=au (b - 1))) ?_ ?_
 refine aJ<|lp (fun aq a0 aK=> ∃ (q:Nat),(a+1≤q∧(q=a+1∨q≤b - 1 +1))∧(oh (fun x=>bW x (cJ d a C)[a]!) (cJ d a C) (b - 1) (q)=oh (fun x=>bW x (cJ d a C)[a]!) (cJ d a C) (b - 1) (a+1))∧(aK.ownsRow B 51 1 (.slice A n cp) n<|LE bc<|cJ d a C)∧(Md (fun q=>(bO A n cp).ownBlock=some q) w aK)∧(a0 0= .slice A n cp)∧(a0 1=au a)∧(a0 10=au q)∧(a0 11=au (b - 1))∧(b - 1 +1 - q=aq)) _ ⟨a+1,ab,aa,ck,b0,aa,aa,aa,aa,aa⟩ ?_
 rintro aq a0 aK ⟨q,ar,ap,E,ao,cR,cS,cT,cV,rfl⟩
 refine fx 0 cR<|fx 1 cS<|fx 10 cT<|fx 11 cV<|sq fun _ aS=>sq fun _ aD=> ?_
 have aG:=fG E
 have Z:(fun w'=>Wk aK w') aK.drew:=(Md.refl _ _).drew
 refine bJ (fun w'=>Wk aK w') aa wide Z<|bC 0 aa (au q) Z<|bC 1 aa (au<|b - 1) Z<|aH 2 aa (fun _ _=>le aa aa) Z<|aH 3 aa (fun _ _=>mv) Z<|iO (t:=33) aa (fun cz=> ?_) fun cz=> ?_
 refine bf 4 aa ag aa aa aa (fun _ _=>aT (.slice A n cp) aa) Z<|bf 5 aa ag aa aa aa (fun _ _=>aT (au q) aa) Z<|bf 6 aa ag aa aa aa (fun _ _=>a7 bV aa aa ab<|aI.ok ((aX E).2)<|ca ab) Z<|bf 7 aa ag aa aa aa (fun w' G=>ld cU aa<|dF (i:=q) ((aX E).2.wk G) ab) Z<|bf 8 aa ag aa aa aa (fun _ _=>aT (.slice A n cp) aa) Z<|bf 9 aa ag aa aa aa (fun _ _=>aT (au a) aa) Z<|bf 10 aa ag aa aa aa (fun _ _=>a7 bV aa aa ab<|aI.ok ((aX E).2)<|ca ab) Z<|bf 11 aa ag aa aa aa (fun w' G=>ld cU aa<|dF (i:=a) ((aX E).2.wk G) ab) Z<|mA 12 aa ag aa aa aa<|cl lW (l3 (cJ d a C)[q]! (cJ d a C)[a]! _) aa fun dz dr ct=> ?_
 obtain ⟨rfl,bX⟩:=ct
 have aQ:(fun w'=>Wk aK w') dr:=Md.trans Z bX
 refine ⟨aQ,?_⟩
 refine aH 13 aa (fun _ _=>bw aa) aQ<|hn ag<|tn<|aD _ _<|cb aa (fun bp=> ?_) fun bp=> ?_
 exact aM<|tn<|aS _ _<|aJ<|rg aa<|ak (au q)<|p (bE ((q+1:Nat):Int) aa aa<|bj ab ab)<|p aB<|nl<|bn<|tn<|⟨_,ab,q+1,ab,(by rw [← ap,DQ (show q≤b - 1 by omega) (by simpa using bp)]),(aU E aQ),(Md.trans ao<|aQ.mono fun _ _ h=>h.elim),aa,aa,aa,aa,aa⟩
 exact ext<|te _<|te _<|be<|tn<|⟨q,ar,(by rw [← ap,tO (.inr<|by simpa using bp)]),(aU E aQ),(Md.trans ao<|aQ.mono fun _ _ h=>h.elim),aa,aa,aa,aa⟩
 exact aW 4 aa ag aa aa aa aa Z<|aW 5 aa ag aa aa aa aa Z<|aW 6 aa ag aa aa aa aa Z<|aW 7 aa ag aa aa aa aa Z<|aW 8 aa ag aa aa aa aa Z<|aW 9 aa ag aa aa aa aa Z<|aW 10 aa ag aa aa aa aa Z<|aW 11 aa ag aa aa aa aa Z<|aW 12 aa ag aa aa aa aa Z<|aH 13 aa (fun _ _=>bm aa) Z<|hn ag<|tn<|aD _ _<|cf aa<|ext<|te _<|te _<|be<|tn<|⟨q,ar,(by rw [← ap,tO (.inl ab)]),(aU E (Md.refl _ _).drew),ao.drew,aa,aa,aa,aa⟩
 rintro aZ bt ⟨M,dv,bF,bk,bi,cN,cO,cP,cQ⟩
 refine fx 0 cN<|fx 1 cO<|fx 10 cP<|fx 11 cQ ?_
 refine ec (fun a1 av=> ∃ (O:Nat),(a≤O∧O≤b - 1)∧(og (fun x=> !bW x (cJ d a C)[a]!) (cJ d a C) (M) (b - 1)=O)∧(av.ownsRow B 51 1 (.slice A n cp) n<|LE bc<|cJ d a C)∧(Md (fun q=>(bO A n cp).ownBlock=some q) w av)∧(a1 0= .slice A n cp)∧(a1 1=au a)∧(a1 10=au M)∧(a1 11=au O)) ?_ ?_
 refine aJ<|lp (fun aq a2 aN=> ∃ (q:Nat),(a≤q∧q≤b - 1)∧(og (fun x=> !bW x (cJ d a C)[a]!) (cJ d a C) (M) (q)=og (fun x=> !bW x (cJ d a C)[a]!) (cJ d a C) (M) (b - 1))∧(aN.ownsRow B 51 1 (.slice A n cp) n<|LE bc<|cJ d a C)∧(Md (fun q=>(bO A n cp).ownBlock=some q) w aN)∧(a2 0= .slice A n cp)∧(a2 1=au a)∧(a2 10=au M)∧(a2 11=au q)∧(q=aq)) _ ⟨b - 1,ab,aa,bk,bi,aa,aa,aa,aa,aa⟩ ?_
 rintro aq a2 aN ⟨q,ar,ap,E,ao,c0,c1,c2,c3,rfl⟩
 refine fx 0 c0<|fx 1 c1<|fx 10 c2<|fx 11 c3<|sq fun _ aS=>sq fun _ aD=> ?_
 have aG:=fG E
 have V:(fun w'=>Wk aN w') aN.drew:=(Md.refl _ _).drew
 refine bJ (fun w'=>Wk aN w') aa wide V<|bC 0 aa (au M) V<|bC 1 aa (au q) V<|aH 2 aa (fun _ _=>le aa aa) V<|aH 3 aa (fun _ _=>mv) V<|iO (t:=49) aa (fun cA=> ?_) fun cA=> ?_
 refine bf 4 aa ag aa aa aa (fun _ _=>aT (.slice A n cp) aa) V<|bf 5 aa ag aa aa aa (fun _ _=>aT (au q) aa) V<|bf 6 aa ag aa aa aa (fun _ _=>a7 bV aa aa ab<|aI.ok ((aX E).2)<|ca ab) V<|bf 7 aa ag aa aa aa (fun w' G=>ld cU aa<|dF (i:=q) ((aX E).2.wk G) ab) V<|bf 8 aa ag aa aa aa (fun _ _=>aT (.slice A n cp) aa) V<|bf 9 aa ag aa aa aa (fun _ _=>aT (au a) aa) V<|bf 10 aa ag aa aa aa (fun _ _=>a7 bV aa aa ab<|aI.ok ((aX E).2)<|ca ab) V<|bf 11 aa ag aa aa aa (fun w' G=>ld cU aa<|dF (i:=a) ((aX E).2.wk G) ab) V<|mA 12 aa ag aa aa aa<|cl lW (l3 (cJ d a C)[q]! (cJ d a C)[a]! _) aa fun dA ds cu=> ?_
 obtain ⟨rfl,bY⟩:=cu
 have aF:(fun w'=>Wk aN w') ds:=Md.trans V bY
 refine ⟨aF,?_⟩
 refine bf 13 aa ag aa aa aa (fun _ _=>no aa) aF<|aH 14 aa (fun _ _=>bw aa) aF<|hn ag<|tn<|aD _ _<|cb aa (fun br=> ?_) fun br=> ?_
 exact aM<|tn<|aS _ _<|aJ<|rg aa<|ak (au q)<|p (dJ ((q - 1:Nat):Int) aa aa<|bj ab ab)<|p aB<|nl<|bn<|tn<|⟨_,ab,q - 1,ab,(by rw [← ap,Bv (show 0 < q by omega) (show M≤q by omega) (by simpa using br)]),(aU E aF),(Md.trans ao<|aF.mono fun _ _ h=>h.elim),aa,aa,aa,aa,aa⟩
 exact ext<|te _<|te _<|be<|tn<|⟨q,ar,(by rw [← ap,s8 (.inr<|by simpa using br)]),(aU E aF),(Md.trans ao<|aF.mono fun _ _ h=>h.elim),aa,aa,aa,aa⟩
 exact aW 4 aa ag aa aa aa aa V<|aW 5 aa ag aa aa aa aa V<|aW 6 aa ag aa aa aa aa V<|aW 7 aa ag aa aa aa aa V<|aW 8 aa ag aa aa aa aa V<|aW 9 aa ag aa aa aa aa V<|aW 10 aa ag aa aa aa aa V<|aW 11 aa ag aa aa aa aa V<|aW 12 aa ag aa aa aa aa V<|aW 13 aa ag aa aa aa aa V<|aH 14 aa (fun _ _=>bm aa) V<|hn ag<|tn<|aD _ _<|cf aa<|ext<|te _<|te _<|be<|tn<|⟨q,ar,(by rw [← ap,s8 (.inl ab)]),(aU E (Md.refl _ _).drew),ao.drew,aa,aa,aa,aa⟩
 rintro a1 av ⟨O,dw,bv,I,aV,cW,cX,cY,cZ⟩
 refine fx 0 cW<|fx 1 cX<|fx 10 cY<|fx 11 cZ<|sq fun _ aS=>aj fun _ aD=>ak (au M)<|ak (au O)<|p (gt aa aa)<|nl<|tn<|aD _ _<|cd aa (fun cw=> ?_) fun cw=> ?_
 refine sq fun _ bd=> ?_
 have aG:=fG I
 have an:(fun w'=>Wk av w') av.drew:=(Md.refl _ _).drew
 refine eM (fun w'=>Wk av w') 13 aa wide an<|bz 0 aa (.slice A n cp) an<|bz 1 aa (au O) an<|bz 2 aa (.slice A n cp) an<|bz 3 aa (au a) an<|bz 4 aa (.slice A n cp) an<|bz 5 aa (au a) an<|bq 6 aa (fun _=>a7 bV aa aa ab<|aI.ok ((aX I).2)<|ca ab) (fun _=>an)<|dH 7 aa (fun w' G=>ld cU aa<|dF (i:=a) ((aX I).2.wk G) ab) an<|bz 8 aa (.slice A n cp) an<|bz 9 aa (au O) an<|bq 10 aa (fun _=>a7 bV aa aa ab<|aI.ok ((aX I).2)<|ca ab) (fun _=>an)<|dH 11 aa (fun w' G=>ld cU aa<|dF (i:=O) ((aX I).2.wk G) ab) an<|bq 12 aa (fun _=>a7 bV aa aa ab<|aI.ok ((aX I).2)<|ca ab) (fun _=>an)<|dG 13 aa ag ag<|gu (u:=(cJ d a C)[a]!) (O) (aU I an) gd aa aa aa ab fun dC b4 cD=> ?_
 refine bq 14 aa (fun _=>a7 bV aa aa ab<|aI.ok ((aX I).2)<|ca ab) (fun h=>eb<|(show true =_ from by kernel_rfl).trans h)<|dG 15 aa ag ag<|gu (u:=(cJ d a C)[O]!) (a) cD gd aa aa aa ab fun bI b5 cE=> ?_
 have cm:bI.ownsRow B 51 1 (.slice A n cp) n (LE bc<|cJ (cJ d a C) (O)<|a):=cE
 have b3:Md (fun q=>(bO A n cp).ownBlock=some q) av bI:=Md.trans (an.mono fun _ _ h=>h.elim)<|Md.trans b4 b5
 refine eL ag<|tn<|bd _ _<|aj fun _ bg=>ak (au O)<|p (cH (au O) aa)<|aw<|bg _ _<|rt<|tr<|f2 aa aa aa ?_
 have aY:=WI bF bv ab
 exact ⟨by rw [aY]; rfl,by rw [aY]; exact cm,Md.trans aV b3⟩
 refine aM<|tn<|aS _ _<|sq fun _ bd=> ?_
 have aG:=fG I
 have ai:(fun w'=>Wk av w') av.drew:=(Md.refl _ _).drew
 refine eM (fun w'=>Wk av w') 13 aa wide ai<|bz 0 aa (.slice A n cp) ai<|bz 1 aa (au M) ai<|bz 2 aa (.slice A n cp) ai<|bz 3 aa (au O) ai<|bz 4 aa (.slice A n cp) ai<|bz 5 aa (au O) ai<|bq 6 aa (fun _=>a7 bV aa aa ab<|aI.ok ((aX I).2)<|ca ab) (fun _=>ai)<|dH 7 aa (fun w' G=>ld cU aa<|dF (i:=O) ((aX I).2.wk G) ab) ai<|bz 8 aa (.slice A n cp) ai<|bz 9 aa (au M) ai<|bq 10 aa (fun _=>a7 bV aa aa ab<|aI.ok ((aX I).2)<|ca ab) (fun _=>ai)<|dH 11 aa (fun w' G=>ld cU aa<|dF (i:=M) ((aX I).2.wk G) ab) ai<|bq 12 aa (fun _=>a7 bV aa aa ab<|aI.ok ((aX I).2)<|ca ab) (fun _=>ai)<|dG 13 aa ag ag<|gu (u:=(cJ d a C)[O]!) (M) (aU I ai) gd aa aa aa ab fun dD b7 cF=> ?_
 refine bq 14 aa (fun _=>a7 bV aa aa ab<|aI.ok ((aX I).2)<|ca ab) (fun h=>eb<|(show true =_ from by kernel_rfl).trans h)<|dG 15 aa ag ag<|gu (u:=(cJ d a C)[M]!) (O) cF gd aa aa aa ab fun bK b8 cG=> ?_
 have cn:bK.ownsRow B 51 1 (.slice A n cp) n (LE bc<|cJ (cJ d a C) (M)<|O):=cG
 have b6:Md (fun q=>(bO A n cp).ownBlock=some q) av bK:=Md.trans (ai.mono fun _ _ h=>h.elim)<|Md.trans b7 b8
 refine eL ag<|tn<|bd _ _<|aj fun _ bg=>ak (au M)<|p (bE ((M+1:Nat):Int) aa aa<|bj ab ab)<|aw<|bg _ _<|aj fun _ bR=>ak (au O)<|p (dJ ((O - 1:Nat):Int) aa aa<|bj ab ab)<|aw<|bR _ _<|sq fun _ bS=>aJ<|lp (fun aq a3 bs=> ∃ (i j:Nat) (J:Array Nat),(a+2≤i∧i≤b∧a≤j∧j < b∧i≤j+2)∧(Ew bW a i j J=Ew bW a (M+1) (O - 1) (cJ (cJ d a C) M O))∧(bs.ownsRow B 51 1 (.slice A n cp) n<|LE bc J)∧(Md (fun q=>(bO A n cp).ownBlock=some q) w bs)∧(a3 0= .slice A n cp)∧(a3 1=au a)∧(a3 10=au i)∧(a3 11=au j)∧(j+1 - i=aq)) _ ⟨M+1,O - 1,cJ (cJ d a C) M O,ab,aa,cn,(Md.trans aV b6),aa,aa,aa,aa,aa⟩ ?_
 rintro aq a3 bs ⟨i,j,J,hi,bD,cj,bZ,c4,c5,c6,c7,rfl⟩
 refine fx 0 c4<|fx 1 c5<|fx 10 c6<|fx 11 c7<|aJ ?_
 refine ec (fun a4 bu=> ∃ (ac:Nat),(i≤ac∧(ac=i∨ac≤j+1))∧(oh (fun x=>bW x J[a]!) J (j) (i)=ac)∧(bu.ownsRow B 51 1 (.slice A n cp) n<|LE bc J)∧(Md (fun q=>(bO A n cp).ownBlock=some q) w bu)∧(a4 0= .slice A n cp)∧(a4 1=au a)∧(a4 10=au ac)∧(a4 11=au j)) ?_ ?_
 refine aJ<|lp (fun aq a5 aL=> ∃ (q:Nat),(i≤q∧(q=i∨q≤j+1))∧(oh (fun x=>bW x J[a]!) J (j) (q)=oh (fun x=>bW x J[a]!) J (j) (i))∧(aL.ownsRow B 51 1 (.slice A n cp) n<|LE bc J)∧(Md (fun q=>(bO A n cp).ownBlock=some q) w aL)∧(a5 0= .slice A n cp)∧(a5 1=au a)∧(a5 10=au q)∧(a5 11=au j)∧(j+1 - q=aq)) _ ⟨i,ab,aa,cj,bZ,aa,aa,aa,aa,aa⟩ ?_
 rintro aq a5 aL ⟨q,ar,ap,E,ao,dc,dd,de,df,rfl⟩
 refine fx 0 dc<|fx 1 dd<|fx 10 de<|fx 11 df<|sq fun _ aR=>sq fun _ aC=> ?_
 have aG:=fG E
 have Y:(fun w'=>Wk aL w') aL.drew:=(Md.refl _ _).drew
 refine bJ (fun w'=>Wk aL w') aa wide Y<|bC 0 aa (au q) Y<|bC 1 aa (au j) Y<|aH 2 aa (fun _ _=>le aa aa) Y<|aH 3 aa (fun _ _=>mv) Y<|iO (t:=102) aa (fun cx=> ?_) fun cx=> ?_
 refine bf 4 aa ag aa aa aa (fun _ _=>aT (.slice A n cp) aa) Y<|bf 5 aa ag aa aa aa (fun _ _=>aT (au q) aa) Y<|bf 6 aa ag aa aa aa (fun _ _=>a7 bV aa aa ab<|aI.ok ((aX E).2)<|ca ab) Y<|bf 7 aa ag aa aa aa (fun w' G=>ld cU aa<|dF (i:=q) ((aX E).2.wk G) ab) Y<|bf 8 aa ag aa aa aa (fun _ _=>aT (.slice A n cp) aa) Y<|bf 9 aa ag aa aa aa (fun _ _=>aT (au a) aa) Y<|bf 10 aa ag aa aa aa (fun _ _=>a7 bV aa aa ab<|aI.ok ((aX E).2)<|ca ab) Y<|bf 11 aa ag aa aa aa (fun w' G=>ld cU aa<|dF (i:=a) ((aX E).2.wk G) ab) Y<|mA 12 aa ag aa aa aa<|cl lW (l3 J[q]! J[a]! _) aa fun dy dp cr=> ?_
 obtain ⟨rfl,bT⟩:=cr
 have aP:(fun w'=>Wk aL w') dp:=Md.trans Y bT
 refine ⟨aP,?_⟩
 refine aH 13 aa (fun _ _=>bw aa) aP<|hn ag<|tn<|aC _ _<|cb aa (fun bl=> ?_) fun bl=> ?_
 exact aM<|tn<|aR _ _<|aJ<|rg aa<|ak (au q)<|p (bE ((q+1:Nat):Int) aa aa<|bj ab ab)<|p aB<|nl<|bn<|tn<|⟨_,ab,q+1,ab,(by rw [← ap,DQ (show q≤j by omega) (by simpa using bl)]),(aU E aP),(Md.trans ao<|aP.mono fun _ _ h=>h.elim),aa,aa,aa,aa,aa⟩
 exact ext<|te _<|te _<|be<|tn<|⟨q,ar,(by rw [← ap,tO (.inr<|by simpa using bl)]),(aU E aP),(Md.trans ao<|aP.mono fun _ _ h=>h.elim),aa,aa,aa,aa⟩
 exact aW 4 aa ag aa aa aa aa Y<|aW 5 aa ag aa aa aa aa Y<|aW 6 aa ag aa aa aa aa Y<|aW 7 aa ag aa aa aa aa Y<|aW 8 aa ag aa aa aa aa Y<|aW 9 aa ag aa aa aa aa Y<|aW 10 aa ag aa aa aa aa Y<|aW 11 aa ag aa aa aa aa Y<|aW 12 aa ag aa aa aa aa Y<|aH 13 aa (fun _ _=>bm aa) Y<|hn ag<|tn<|aC _ _<|cf aa<|ext<|te _<|te _<|be<|tn<|⟨q,ar,(by rw [← ap,tO (.inl ab)]),(aU E (Md.refl _ _).drew),ao.drew,aa,aa,aa,aa⟩
 rintro a4 bu ⟨ac,bA,bG,bk,bi,c8,c9,da,db⟩
 refine fx 0 c8<|fx 1 c9<|fx 10 da<|fx 11 db ?_
 refine ec (fun a6 ax=> ∃ (ae:Nat),(a≤ae∧ae≤j)∧(og (fun x=> !bW x J[a]!) J (ac) (j)=ae)∧(ax.ownsRow B 51 1 (.slice A n cp) n<|LE bc J)∧(Md (fun q=>(bO A n cp).ownBlock=some q) w ax)∧(a6 0= .slice A n cp)∧(a6 1=au a)∧(a6 10=au ac)∧(a6 11=au ae)) ?_ ?_
 refine aJ<|lp (fun aq a8 aO=> ∃ (q:Nat),(a≤q∧q≤j)∧(og (fun x=> !bW x J[a]!) J (ac) (q)=og (fun x=> !bW x J[a]!) J (ac) (j))∧(aO.ownsRow B 51 1 (.slice A n cp) n<|LE bc J)∧(Md (fun q=>(bO A n cp).ownBlock=some q) w aO)∧(a8 0= .slice A n cp)∧(a8 1=au a)∧(a8 10=au ac)∧(a8 11=au q)∧(q=aq)) _ ⟨j,ab,aa,bk,bi,aa,aa,aa,aa,aa⟩ ?_
 rintro aq a8 aO ⟨q,ar,ap,E,ao,dk,dl,dm,dn,rfl⟩
 refine fx 0 dk<|fx 1 dl<|fx 10 dm<|fx 11 dn<|sq fun _ aR=>sq fun _ aC=> ?_
 have aG:=fG E
 have U:(fun w'=>Wk aO w') aO.drew:=(Md.refl _ _).drew
 refine bJ (fun w'=>Wk aO w') aa wide U<|bC 0 aa (au ac) U<|bC 1 aa (au q) U<|aH 2 aa (fun _ _=>le aa aa) U<|aH 3 aa (fun _ _=>mv) U<|iO (t:=118) aa (fun cy=> ?_) fun cy=> ?_
 refine bf 4 aa ag aa aa aa (fun _ _=>aT (.slice A n cp) aa) U<|bf 5 aa ag aa aa aa (fun _ _=>aT (au q) aa) U<|bf 6 aa ag aa aa aa (fun _ _=>a7 bV aa aa ab<|aI.ok ((aX E).2)<|ca ab) U<|bf 7 aa ag aa aa aa (fun w' G=>ld cU aa<|dF (i:=q) ((aX E).2.wk G) ab) U<|bf 8 aa ag aa aa aa (fun _ _=>aT (.slice A n cp) aa) U<|bf 9 aa ag aa aa aa (fun _ _=>aT (au a) aa) U<|bf 10 aa ag aa aa aa (fun _ _=>a7 bV aa aa ab<|aI.ok ((aX E).2)<|ca ab) U<|bf 11 aa ag aa aa aa (fun w' G=>ld cU aa<|dF (i:=a) ((aX E).2.wk G) ab) U<|mA 12 aa ag aa aa aa<|cl lW (l3 J[q]! J[a]! _) aa fun v127 dq cs=> ?_
 obtain ⟨rfl,bU⟩:=cs
 have aE:(fun w'=>Wk aO w') dq:=Md.trans U bU
 refine ⟨aE,?_⟩
 refine bf 13 aa ag aa aa aa (fun _ _=>no aa) aE<|aH 14 aa (fun _ _=>bw aa) aE<|hn ag<|tn<|aC _ _<|cb aa (fun bo=> ?_) fun bo=> ?_
 exact aM<|tn<|aR _ _<|aJ<|rg aa<|ak (au q)<|p (dJ ((q - 1:Nat):Int) aa aa<|bj ab ab)<|p aB<|nl<|bn<|tn<|⟨_,ab,q - 1,ab,(by rw [← ap,Bv (show 0 < q by omega) (show ac≤q by omega) (by simpa using bo)]),(aU E aE),(Md.trans ao<|aE.mono fun _ _ h=>h.elim),aa,aa,aa,aa,aa⟩
 exact ext<|te _<|te _<|be<|tn<|⟨q,ar,(by rw [← ap,s8 (.inr<|by simpa using bo)]),(aU E aE),(Md.trans ao<|aE.mono fun _ _ h=>h.elim),aa,aa,aa,aa⟩
 exact aW 4 aa ag aa aa aa aa U<|aW 5 aa ag aa aa aa aa U<|aW 6 aa ag aa aa aa aa U<|aW 7 aa ag aa aa aa aa U<|aW 8 aa ag aa aa aa aa U<|aW 9 aa ag aa aa aa aa U<|aW 10 aa ag aa aa aa aa U<|aW 11 aa ag aa aa aa aa U<|aW 12 aa ag aa aa aa aa U<|aW 13 aa ag aa aa aa aa U<|aH 14 aa (fun _ _=>bm aa) U<|hn ag<|tn<|aC _ _<|cf aa<|ext<|te _<|te _<|be<|tn<|⟨q,ar,(by rw [← ap,s8 (.inl ab)]),(aU E (Md.refl _ _).drew),ao.drew,aa,aa,aa,aa⟩
 rintro a6 ax ⟨ae,bB,bx,I,aV,dg,dh,di,dj⟩
 refine fx 0 dg<|fx 1 dh<|fx 10 di<|fx 11 dj<|sq fun _ aR=>aj fun _ aC=>ak (au ac)<|ak (au ae)<|p (gt aa aa)<|nl<|tn<|aC _ _<|cd aa (fun cv=> ?_) fun cv=> ?_
 refine ext<|te _<|m4 az<|te _<|be<|tn<|bS _ _<|sq fun _ a9=> ?_
 have aG:=fG I
 have am:(fun w'=>Wk ax w') ax.drew:=(Md.refl _ _).drew
 refine eM (fun w'=>Wk ax w') 13 aa wide am<|bz 0 aa (.slice A n cp) am<|bz 1 aa (au ae) am<|bz 2 aa (.slice A n cp) am<|bz 3 aa (au a) am<|bz 4 aa (.slice A n cp) am<|bz 5 aa (au a) am<|bq 6 aa (fun _=>a7 bV aa aa ab<|aI.ok ((aX I).2)<|ca ab) (fun _=>am)<|dH 7 aa (fun w' G=>ld cU aa<|dF (i:=a) ((aX I).2.wk G) ab) am<|bz 8 aa (.slice A n cp) am<|bz 9 aa (au ae) am<|bq 10 aa (fun _=>a7 bV aa aa ab<|aI.ok ((aX I).2)<|ca ab) (fun _=>am)<|dH 11 aa (fun w' G=>ld cU aa<|dF (i:=ae) ((aX I).2.wk G) ab) am<|bq 12 aa (fun _=>a7 bV aa aa ab<|aI.ok ((aX I).2)<|ca ab) (fun _=>am)<|dG 13 aa ag ag<|gu (u:=J[a]!) (ae) (aU I am) gd aa aa aa ab fun dI ch cL=> ?_
 refine bq 14 aa (fun _=>a7 bV aa aa ab<|aI.ok ((aX I).2)<|ca ab) (fun h=>eb<|(show true =_ from by kernel_rfl).trans h)<|dG 15 aa ag ag<|gu (u:=J[ae]!) (a) cL gd aa aa aa ab fun bM ci cM=> ?_
 have cq:bM.ownsRow B 51 1 (.slice A n cp) n (LE bc<|cJ J (ae)<|a):=cM
 have cg:Md (fun q=>(bO A n cp).ownBlock=some q) ax bM:=Md.trans (am.mono fun _ _ h=>h.elim)<|Md.trans ch ci
 refine eL ag<|tn<|a9 _ _<|aj fun _ bb=>ak (au ae)<|p (cH (au ae) aa)<|aw<|bb _ _<|rt<|f2 aa aa aa ?_
 have aY:=part_go bF bv ab<|bD.symm.trans<|by rw [KB bG bx bA.1 bB.2,if_pos ab]
 exact ⟨by rw [aY]; rfl,by rw [aY]; exact cq,Md.trans aV cg⟩
 refine aM<|tn<|aR _ _<|sq fun _ a9=> ?_
 have aG:=fG I
 have al:(fun w'=>Wk ax w') ax.drew:=(Md.refl _ _).drew
 refine eM (fun w'=>Wk ax w') 13 aa wide al<|bz 0 aa (.slice A n cp) al<|bz 1 aa (au ac) al<|bz 2 aa (.slice A n cp) al<|bz 3 aa (au ae) al<|bz 4 aa (.slice A n cp) al<|bz 5 aa (au ae) al<|bq 6 aa (fun _=>a7 bV aa aa ab<|aI.ok ((aX I).2)<|ca ab) (fun _=>al)<|dH 7 aa (fun w' G=>ld cU aa<|dF (i:=ae) ((aX I).2.wk G) ab) al<|bz 8 aa (.slice A n cp) al<|bz 9 aa (au ac) al<|bq 10 aa (fun _=>a7 bV aa aa ab<|aI.ok ((aX I).2)<|ca ab) (fun _=>al)<|dH 11 aa (fun w' G=>ld cU aa<|dF (i:=ac) ((aX I).2.wk G) ab) al<|bq 12 aa (fun _=>a7 bV aa aa ab<|aI.ok ((aX I).2)<|ca ab) (fun _=>al)<|dG 13 aa ag ag<|gu (u:=J[ae]!) (ac) (aU I al) gd aa aa aa ab fun dE cc cI=> ?_
 refine bq 14 aa (fun _=>a7 bV aa aa ab<|aI.ok ((aX I).2)<|ca ab) (fun h=>eb<|(show true =_ from by kernel_rfl).trans h)<|dG 15 aa ag ag<|gu (u:=J[ac]!) (ae) cI gd aa aa aa ab fun bL ce cK=> ?_
 have co:bL.ownsRow B 51 1 (.slice A n cp) n (LE bc<|cJ J (ac)<|ae):=cK
 have b9:Md (fun q=>(bO A n cp).ownBlock=some q) ax bL:=Md.trans (al.mono fun _ _ h=>h.elim)<|Md.trans cc ce
 exact eL ag<|tn<|a9 _ _<|aj fun _ bb=>ak (au ac)<|p (bE ((ac+1:Nat):Int) aa aa<|bj ab ab)<|aw<|bb _ _<|rg aa<|ak (au ae)<|p (dJ ((ae - 1:Nat):Int) aa aa<|bj ab ab)<|p aB<|nl<|bn<|tn<|⟨_,ab,ac+1,ae - 1,cJ J ac ae,ab,(by rw [← bD,KB bG bx bA.1 bB.2,if_neg ab,if_pos ab]),co,(Md.trans aV b9),aa,aa,aa,aa,aa⟩
theorem WL (d:Array Nat) (a b Y:Nat) (B n cp:Nat) (A:Option Addr) (w:World) (ae:w.ownsRow B 51 1 (.slice A n cp) n (LE bc d)) (b8:a≤Y∧Y < b∧b≤n) (cg:n≤1099511627776):
 bh ay 290 (ba [.slice A n cp,au a,au b,au Y]) w (fun v w'=>v=au ((wH bW d a b Y).1)∧w'.ownsRow B 51 1 (.slice A n cp) n (LE bc (wH bW d a b Y).2)∧Md (fun q=>(bO A n cp).ownBlock=some q) w w'):=by
 refine enter func290 aa ntmps290 aa<|aj fun _ a1=>aw<|a1 _ _<|sq fun _ a2=> ?_
 have b9:=fG ae
 have M:(fun w'=>Wk w w') w.drew:=(Md.refl _ _).drew
 refine eM (fun w'=>Wk w w') 13 aa wide M<|bz 0 aa (.slice A n cp) M<|bz 1 aa (au a) M<|bz 2 aa (.slice A n cp) M<|bz 3 aa (au Y) M<|bz 4 aa (.slice A n cp) M<|bz 5 aa (au Y) M<|bq 6 aa (fun _=>a7 bV aa aa ab<|aI.ok ((aX ae).2)<|ca ab) (fun _=>M)<|dH 7 aa (fun w' V=>ld cU aa<|dF (i:=Y) ((aX ae).2.wk V) ab) M<|bz 8 aa (.slice A n cp) M<|bz 9 aa (au a) M<|bq 10 aa (fun _=>a7 bV aa aa ab<|aI.ok ((aX ae).2)<|ca ab) (fun _=>M)<|dH 11 aa (fun w' V=>ld cU aa<|dF (i:=a) ((aX ae).2.wk V) ab) M<|bq 12 aa (fun _=>a7 bV aa aa ab<|aI.ok ((aX ae).2)<|ca ab) (fun _=>M)<|dG 13 aa ag ag<|gu (u:=d[Y]!) (a) (aU ae M) gd aa aa aa ab fun cj bd bD=> ?_
 refine bq 14 aa (fun _=>a7 bV aa aa ab<|aI.ok ((aX ae).2)<|ca ab) (fun h=>eb<|(show true =_ from by kernel_rfl).trans h)<|dG 15 aa ag ag<|gu (u:=d[a]!) (Y) bD gd aa aa aa ab fun aZ bg bF=> ?_
 have bs:aZ.ownsRow B 51 1 (.slice A n cp) n (LE bc<|cJ d (a)<|Y):=bF
 have bb:Md (fun q=>(bO A n cp).ownBlock=some q) w aZ:=Md.trans (M.mono fun _ _ h=>h.elim)<|Md.trans bd bg
 refine eL ag<|tn<|a2 _ _<|aj fun _ a3=>ak (au a)<|p (bE ((a+1:Nat):Int) aa aa<|bj ab ab)<|ak (au b)<|p (dJ ((b - 1:Nat):Int) aa aa<|bj ab ab)<|p aB<|aw<|a3 _ _<|sq fun _ a4=>aJ<|lp (fun ac ax aN=> ∃ (i j:Nat) (C:Array Nat),(a+1≤i∧i≤b∧a≤j∧j < b∧i≤j+2)∧(Go.Sort.partEqLoop bW a i j C=wH bW d a b Y)∧(aN.ownsRow B 51 1 (.slice A n cp) n<|LE bc C)∧(Md (fun q=>(bO A n cp).ownBlock=some q) w aN)∧(ax 0= .slice A n cp)∧(ax 1=au a)∧(ax 9=au i)∧(ax 10=au j)∧(j+1 - i=ac)) _ ⟨a+1,b - 1,(cJ d a Y),ab,aa,bs,bb,aa,aa,aa,aa,aa⟩ ?_
 rintro ac ax aN ⟨i,j,C,hi,aS,bp,a9,bI,bK,bM,bL,rfl⟩
 refine fx 0 bI<|fx 1 bK<|fx 9 bM<|fx 10 bL<|aJ ?_
 refine ec (fun aA aO=> ∃ (E:Nat),(i≤E∧(E=i∨E≤j+1))∧(oh (fun x=> !bW C[a]! x) C (j) (i)=E)∧(aO.ownsRow B 51 1 (.slice A n cp) n<|LE bc C)∧(Md (fun q=>(bO A n cp).ownBlock=some q) w aO)∧(aA 0= .slice A n cp)∧(aA 1=au a)∧(aA 9=au E)∧(aA 10=au j)) ?_ ?_
 refine aJ<|lp (fun ac aC an=> ∃ (q:Nat),(i≤q∧(q=i∨q≤j+1))∧(oh (fun x=> !bW C[a]! x) C (j) (q)=oh (fun x=> !bW C[a]! x) C (j) (i))∧(an.ownsRow B 51 1 (.slice A n cp) n<|LE bc C)∧(Md (fun q=>(bO A n cp).ownBlock=some q) w an)∧(aC 0= .slice A n cp)∧(aC 1=au a)∧(aC 9=au q)∧(aC 10=au j)∧(j+1 - q=ac)) _ ⟨i,ab,aa,bp,a9,aa,aa,aa,aa,aa⟩ ?_
 rintro ac aC an ⟨q,av,am,J,ai,bS,bT,bX,bU,rfl⟩
 refine fx 0 bS<|fx 1 bT<|fx 9 bX<|fx 10 bU<|sq fun _ ar=>sq fun _ ah=> ?_
 have aQ:=fG J
 have G:(fun w'=>Wk an w') an.drew:=(Md.refl _ _).drew
 refine bJ (fun w'=>Wk an w') aa wide G<|bC 0 aa (au q) G<|bC 1 aa (au j) G<|aH 2 aa (fun _ _=>le aa aa) G<|aH 3 aa (fun _ _=>mv) G<|iO (t:=32) aa (fun bA=> ?_) fun bA=> ?_
 refine bf 4 aa ag aa aa aa (fun _ _=>aT (.slice A n cp) aa) G<|bf 5 aa ag aa aa aa (fun _ _=>aT (au a) aa) G<|bf 6 aa ag aa aa aa (fun _ _=>a7 bV aa aa ab<|aI.ok ((aX J).2)<|ca ab) G<|bf 7 aa ag aa aa aa (fun w' V=>ld cU aa<|dF (i:=a) ((aX J).2.wk V) ab) G<|bf 8 aa ag aa aa aa (fun _ _=>aT (.slice A n cp) aa) G<|bf 9 aa ag aa aa aa (fun _ _=>aT (au q) aa) G<|bf 10 aa ag aa aa aa (fun _ _=>a7 bV aa aa ab<|aI.ok ((aX J).2)<|ca ab) G<|bf 11 aa ag aa aa aa (fun w' V=>ld cU aa<|dF (i:=q) ((aX J).2.wk V) ab) G<|mA 12 aa ag aa aa aa<|cl lW (l3 C[a]! C[q]! _) aa fun ch b6 bu=> ?_
 obtain ⟨rfl,a6⟩:=bu
 have al:(fun w'=>Wk an w') b6:=Md.trans G a6
 refine ⟨al,?_⟩
 refine bf 13 aa ag aa aa aa (fun _ _=>no aa) al<|aH 14 aa (fun _ _=>bw aa) al<|hn ag<|tn<|ah _ _<|cb aa (fun aK=> ?_) fun aK=> ?_
 exact aM<|tn<|ar _ _<|aJ<|rg aa<|ak (au q)<|p (bE ((q+1:Nat):Int) aa aa<|bj ab ab)<|p aB<|nl<|bn<|tn<|⟨_,ab,q+1,ab,(by rw [← am,DQ (show q≤j by omega) (by simpa using aK)]),(aU J al),(Md.trans ai<|al.mono fun _ _ h=>h.elim),aa,aa,aa,aa,aa⟩
 exact ext<|te _<|te _<|be<|tn<|⟨q,av,(by rw [← am,tO (.inr<|by simpa using aK)]),(aU J al),(Md.trans ai<|al.mono fun _ _ h=>h.elim),aa,aa,aa,aa⟩
 exact aW 4 aa ag aa aa aa aa G<|aW 5 aa ag aa aa aa aa G<|aW 6 aa ag aa aa aa aa G<|aW 7 aa ag aa aa aa aa G<|aW 8 aa ag aa aa aa aa G<|aW 9 aa ag aa aa aa aa G<|aW 10 aa ag aa aa aa aa G<|aW 11 aa ag aa aa aa aa G<|aW 12 aa ag aa aa aa aa G<|aW 13 aa ag aa aa aa aa G<|aH 14 aa (fun _ _=>bm aa) G<|hn ag<|tn<|ah _ _<|cf aa<|ext<|te _<|te _<|be<|tn<|⟨q,av,(by rw [← am,tO (.inl ab)]),(aU J (Md.refl _ _).drew),ai.drew,aa,aa,aa,aa⟩
 rintro aA aO ⟨E,cc,aV,br,bo,bN,bP,bR,bQ⟩
 refine fx 0 bN<|fx 1 bP<|fx 9 bR<|fx 10 bQ ?_
 refine ec (fun aD ap=> ∃ (U:Nat),(a≤U∧U≤j)∧(og (fun x=>bW C[a]! x) C (E) (j)=U)∧(ap.ownsRow B 51 1 (.slice A n cp) n<|LE bc C)∧(Md (fun q=>(bO A n cp).ownBlock=some q) w ap)∧(aD 0= .slice A n cp)∧(aD 1=au a)∧(aD 9=au E)∧(aD 10=au U)) ?_ ?_
 refine aJ<|lp (fun ac aF ao=> ∃ (q:Nat),(a≤q∧q≤j)∧(og (fun x=>bW C[a]! x) C (E) (q)=og (fun x=>bW C[a]! x) C (E) (j))∧(ao.ownsRow B 51 1 (.slice A n cp) n<|LE bc C)∧(Md (fun q=>(bO A n cp).ownBlock=some q) w ao)∧(aF 0= .slice A n cp)∧(aF 1=au a)∧(aF 9=au E)∧(aF 10=au q)∧(q=ac)) _ ⟨j,ab,aa,br,bo,aa,aa,aa,aa,aa⟩ ?_
 rintro ac aF ao ⟨q,av,am,J,ai,b2,b3,b5,b4,rfl⟩
 refine fx 0 b2<|fx 1 b3<|fx 9 b5<|fx 10 b4<|sq fun _ ar=>sq fun _ ah=> ?_
 have aQ:=fG J
 have I:(fun w'=>Wk ao w') ao.drew:=(Md.refl _ _).drew
 refine bJ (fun w'=>Wk ao w') aa wide I<|bC 0 aa (au E) I<|bC 1 aa (au q) I<|aH 2 aa (fun _ _=>le aa aa) I<|aH 3 aa (fun _ _=>mv) I<|iO (t:=49) aa (fun bB=> ?_) fun bB=> ?_
 refine bf 4 aa ag aa aa aa (fun _ _=>aT (.slice A n cp) aa) I<|bf 5 aa ag aa aa aa (fun _ _=>aT (au a) aa) I<|bf 6 aa ag aa aa aa (fun _ _=>a7 bV aa aa ab<|aI.ok ((aX J).2)<|ca ab) I<|bf 7 aa ag aa aa aa (fun w' V=>ld cU aa<|dF (i:=a) ((aX J).2.wk V) ab) I<|bf 8 aa ag aa aa aa (fun _ _=>aT (.slice A n cp) aa) I<|bf 9 aa ag aa aa aa (fun _ _=>aT (au q) aa) I<|bf 10 aa ag aa aa aa (fun _ _=>a7 bV aa aa ab<|aI.ok ((aX J).2)<|ca ab) I<|bf 11 aa ag aa aa aa (fun w' V=>ld cU aa<|dF (i:=q) ((aX J).2.wk V) ab) I<|mA 12 aa ag aa aa aa<|cl lW (l3 C[a]! C[q]! _) aa fun ci b7 bv=> ?_
 obtain ⟨rfl,a8⟩:=bv
 have aq:(fun w'=>Wk ao w') b7:=Md.trans I a8
 refine ⟨aq,?_⟩
 refine aH 13 aa (fun _ _=>bw aa) aq<|hn ag<|tn<|ah _ _<|cb aa (fun aL=> ?_) fun aL=> ?_
 exact aM<|tn<|ar _ _<|aJ<|rg aa<|ak (au q)<|p (dJ ((q - 1:Nat):Int) aa aa<|bj ab ab)<|p aB<|nl<|bn<|tn<|⟨_,ab,q - 1,ab,(by rw [← am,Bv (show 0 < q by omega) (show E≤q by omega) (by simpa using aL)]),(aU J aq),(Md.trans ai<|aq.mono fun _ _ h=>h.elim),aa,aa,aa,aa,aa⟩
 exact ext<|te _<|te _<|be<|tn<|⟨q,av,(by rw [← am,s8 (.inr<|by simpa using aL)]),(aU J aq),(Md.trans ai<|aq.mono fun _ _ h=>h.elim),aa,aa,aa,aa⟩
 exact aW 4 aa ag aa aa aa aa I<|aW 5 aa ag aa aa aa aa I<|aW 6 aa ag aa aa aa aa I<|aW 7 aa ag aa aa aa aa I<|aW 8 aa ag aa aa aa aa I<|aW 9 aa ag aa aa aa aa I<|aW 10 aa ag aa aa aa aa I<|aW 11 aa ag aa aa aa aa I<|aW 12 aa ag aa aa aa aa I<|aH 13 aa (fun _ _=>bm aa) I<|hn ag<|tn<|ah _ _<|cf aa<|ext<|te _<|te _<|be<|tn<|⟨q,av,(by rw [← am,s8 (.inl ab)]),(aU J (Md.refl _ _).drew),ai.drew,aa,aa,aa,aa⟩
 rintro aD ap ⟨U,ce,aR,Z,aP,bY,bZ,b1,b0⟩
 refine fx 0 bY<|fx 1 bZ<|fx 9 b1<|fx 10 b0<|sq fun _ ar=>aj fun _ ah=>ak (au E)<|ak (au U)<|p (gt aa aa)<|nl<|tn<|ah _ _<|cd aa (fun bx=> ?_) fun bx=> ?_
 refine ext<|te _<|m4 az<|te _<|be<|tn<|a4 _ _<|aj fun _ aG=>ak (au E)<|p (cH (au E) aa)<|aE<|aG _ _<|rt<|f1 aa aa ?_
 have aY:wH bW d a b Y=(E,C):=by rw [← aS,Ku aV aR,if_pos ab]
 exact ⟨by rw [aY]; rfl,by rw [aY]; exact Z,aP⟩
 refine aM<|tn<|ar _ _<|sq fun _ aG=> ?_
 have aQ:=fG Z
 have O:(fun w'=>Wk ap w') ap.drew:=(Md.refl _ _).drew
 refine eM (fun w'=>Wk ap w') 13 aa wide O<|bz 0 aa (.slice A n cp) O<|bz 1 aa (au E) O<|bz 2 aa (.slice A n cp) O<|bz 3 aa (au U) O<|bz 4 aa (.slice A n cp) O<|bz 5 aa (au U) O<|bq 6 aa (fun _=>a7 bV aa aa ab<|aI.ok ((aX Z).2)<|ca ab) (fun _=>O)<|dH 7 aa (fun w' V=>ld cU aa<|dF (i:=U) ((aX Z).2.wk V) ab) O<|bz 8 aa (.slice A n cp) O<|bz 9 aa (au E) O<|bq 10 aa (fun _=>a7 bV aa aa ab<|aI.ok ((aX Z).2)<|ca ab) (fun _=>O)<|dH 11 aa (fun w' V=>ld cU aa<|dF (i:=E) ((aX Z).2.wk V) ab) O<|bq 12 aa (fun _=>a7 bV aa aa ab<|aI.ok ((aX Z).2)<|ca ab) (fun _=>O)<|dG 13 aa ag ag<|gu (u:=C[U]!) (E) (aU Z O) gd aa aa aa ab fun ck bk bG=> ?_
 refine bq 14 aa (fun _=>a7 bV aa aa ab<|aI.ok ((aX Z).2)<|ca ab) (fun h=>eb<|(show true =_ from by kernel_rfl).trans h)<|dG 15 aa ag ag<|gu (u:=C[E]!) (U) bG gd aa aa aa ab fun a0 bl bH=> ?_
 have bt:a0.ownsRow B 51 1 (.slice A n cp) n (LE bc<|cJ C (E)<|U):=bH
 have bi:Md (fun q=>(bO A n cp).ownBlock=some q) ap a0:=Md.trans (O.mono fun _ _ h=>h.elim)<|Md.trans bk bl
 exact eL ag<|tn<|aG _ _<|aj fun _ a5=>ak (au E)<|p (bE ((E+1:Nat):Int) aa aa<|bj ab ab)<|aw<|a5 _ _<|rg aa<|ak (au U)<|p (dJ ((U - 1:Nat):Int) aa aa<|bj ab ab)<|p aB<|nl<|bn<|tn<|⟨_,ab,E+1,U - 1,cJ C E U,ab,(by rw [← aS,Ku aV aR,if_neg ab,if_pos ab]),bt,(Md.trans aP bi),aa,aa,aa,aa,aa⟩
end Go.Hb.ET
end
section
set_option maxRecDepth 20000
set_option maxHeartbeats 1000000
namespace Go.Hb.EU
open Go.Hb.dT
open Go.Proofs
open Go.Hb.rq
theorem WT {d:Array Nat} {a b s i i2:Nat} (j:0 < s) (h:uf bW d b i=i2) (h1:i2=b):q6 bW a b s i d=(d,true):=by
 cases s with
 | zero=>omega
 | succ s=>rw [q6]; simp only [h,if_pos h1]
theorem pi_short {d:Array Nat} {a b s i i2:Nat} (j:0 < s) (h:uf bW d b i=i2) (h1:¬i2=b) (h2:b - a < 50):q6 bW a b s i d=(d,false):=by
 cases s with
 | zero=>omega
 | succ s=>rw [q6]; simp only [h,if_neg h1,if_pos h2]
theorem pi_go {d j q:Array Nat} {a b s i i2:Nat} (E:0 < s) (h:uf bW d b i=i2) (h1:¬i2=b) (h2:¬b - a < 50)
 (A:j=if i2 - a≥2 then zP bW (i2 - 1) (cJ d i2<|i2 - 1) else cJ d i2 (i2 - 1)) (C:q=if b - i2≥2 then Ey bW b (i2+1) j else j):
 q6 bW a b s i d=q6 bW a b (s - 1) i2 q:=by
 cases s with
 | zero=>omega
 | succ s=>rw [q6]; simp only [h,if_neg h1,if_neg h2]; rw [← A,← C]; rfl
theorem WW (d:Array Nat) (a b:Nat) (B n cp:Nat) (j:Option Addr) (w:World) (b8:w.ownsRow B 51 1 (.slice j n cp) n (LE bc d)) (c8:a < b∧b≤n) (dc:n≤1099511627776):
 bh ay 288 (ba [.slice j n cp,au a,au b]) w (fun v w'=>v= .bool (ue bW d a b).2∧w'.ownsRow B 51 1 (.slice j n cp) n (LE bc (ue bW d a b).1)∧Md (fun q=>(bO j n cp).ownBlock=some q) w w'):=by
 refine enter func288 aa ntmps288 aa<|aj fun _ bN=>aw<|bN _ _<|aj fun _ bQ=>ak (au a)<|p (bE ((a+1:Nat):Int) aa aa<|bj ab ab)<|aw<|bQ _ _<|sq fun _ bR=>aj fun _ bS=>p aB<|aE<|bS _ _<|aJ<|lp (fun U aG bv=> ∃ (s i:Nat) (E:Array Nat),(a+1≤i∧i≤b∧s≤5)∧(q6 bW a b (5 - s) i E=(ue bW d a b))∧(bv.ownsRow B 51 1 (.slice j n cp) n<|LE bc E)∧(Md (fun q=>(bO j n cp).ownBlock=some q) w bv)∧(aG 0= .slice j n cp)∧(aG 1=au a)∧(aG 2=au b)∧(aG 7=au i)∧(aG 8=au s)∧(5 - s=U)) _ ⟨0,a+1,d,ab,aa,b8,(Md.refl _ _),aa,aa,aa,aa,aa,aa⟩ ?_
 rintro U aG bv ⟨s,i,E,hi,aF,bD,bx,cz,cA,cB,cC,cD,rfl⟩
 refine fx 0 cz<|fx 1 cA<|fx 2 cB<|fx 7 cC<|fx 8 cD<|sq fun _ bT=>aj fun _ bU=>ak (au s)<|p (lt aa aa)<|aE<|bU _ _<|cd aa (fun cj=> ?_) fun cj=> ?_
 refine aM<|tn<|bT _ _<|sq fun _ aO=>aJ ?_
 refine ec (fun aK ap=> ∃ (i2:Nat),(i≤i2∧i2≤b)∧(uf bW E b i=i2)∧(ap.ownsRow B 51 1 (.slice j n cp) n<|LE bc E)∧(Md (fun q=>(bO j n cp).ownBlock=some q) w ap)∧(aK 0= .slice j n cp)∧(aK 1=au a)∧(aK 2=au b)∧(aK 7=au i2)∧(aK 8=au s)) ?_ ?_
 refine aJ<|lp (fun U aL av=> ∃ (q:Nat),(i≤q∧q≤b)∧(uf bW E b q=uf bW E b i)∧(av.ownsRow B 51 1 (.slice j n cp) n<|LE bc E)∧(Md (fun q=>(bO j n cp).ownBlock=some q) w av)∧(aL 0= .slice j n cp)∧(aL 1=au a)∧(aL 2=au b)∧(aL 7=au q)∧(aL 8=au s)∧(b - q=U)) _ ⟨i,ab,aa,bD,bx,aa,aa,aa,aa,aa,aa⟩ ?_
 rintro U aL av ⟨q,bI,bp,ac,bb,cK,cL,cM,cN,cO,rfl⟩
 refine fx 0 cK<|fx 1 cL<|fx 2 cM<|fx 7 cN<|fx 8 cO<|sq fun _ a8=>sq fun _ aS=> ?_
 have cr:=fG ac
 have A:(fun w'=>Wk av w') av.drew:=(Md.refl _ _).drew
 refine bJ (fun w'=>Wk av w') aa wide A<|bC 0 aa (au q) A<|bC 1 aa (au b) A<|aH 2 aa (fun _ _=>lt aa aa) A<|aH 3 aa (fun _ _=>mv) A<|iO (t:=20) aa (fun cs=> ?_) fun cs=> ?_
 refine bf 4 aa ag aa aa aa (fun _ _=>aT (.slice j n cp) aa) A<|bf 5 aa ag aa aa aa (fun _ _=>aT (au q) aa) A<|bf 6 aa ag aa aa aa (fun _ _=>a7 bV aa aa ab<|aI.ok ((aX ac).2)<|ca ab) A<|bf 7 aa ag aa aa aa (fun w' C=>ld cU aa<|dF (i:=q) ((aX ac).2.wk C) ab) A<|bf 8 aa ag aa aa aa (fun _ _=>aT (.slice j n cp) aa) A<|bf 9 aa ag aa aa aa (fun _ _=>aT (au q) aa) A<|bf 10 aa ag aa aa aa (fun _ _=>dJ ((q - 1:Nat):Int) aa aa<|bj ab ab) A<|bf 11 aa ag aa aa aa (fun _ _=>a7 bV aa aa ab<|aI.ok ((aX ac).2)<|ca ab) A<|bf 12 aa ag aa aa aa (fun w' C=>ld cU aa<|dF (i:=q - 1) ((aX ac).2.wk C) ab) A<|mA 13 aa ag aa aa aa<|cl lW (l3 E[q]! E[q - 1]! _) aa fun v30 c7 cg=> ?_
 obtain ⟨rfl,bY⟩:=cg
 have ao:(fun w'=>Wk av w') c7:=Md.trans A bY
 refine ⟨ao,?_⟩
 refine bf 14 aa ag aa aa aa (fun _ _=>no aa) ao<|aH 15 aa (fun _ _=>bw aa) ao<|hn ag<|tn<|aS _ _<|cb aa (fun bk=> ?_) fun bk=> ?_
 exact aM<|tn<|a8 _ _<|aJ<|rg aa<|ak (au q)<|p (bE ((q+1:Nat):Int) aa aa<|bj ab ab)<|p aB<|nl<|bn<|tn<|⟨_,ab,q+1,ab,(by rw [← bp,Yo (show q < b by omega) (by simpa using bk)]),(aU ac ao),(Md.trans bb<|ao.mono fun _ _ h=>h.elim),aa,aa,aa,aa,aa,aa⟩
 exact ext<|te _<|te _<|be<|tn<|⟨q,ab,(by rw [← bp,Lz (.inr<|by simpa using bk)]),(aU ac ao),(Md.trans bb<|ao.mono fun _ _ h=>h.elim),aa,aa,aa,aa,aa⟩
 exact aW 4 aa ag aa aa aa aa A<|aW 5 aa ag aa aa aa aa A<|aW 6 aa ag aa aa aa aa A<|aW 7 aa ag aa aa aa aa A<|aW 8 aa ag aa aa aa aa A<|aW 9 aa ag aa aa aa aa A<|aW 10 aa ag aa aa aa aa A<|aW 11 aa ag aa aa aa aa A<|aW 12 aa ag aa aa aa aa A<|aW 13 aa ag aa aa aa aa A<|aW 14 aa ag aa aa aa aa A<|aH 15 aa (fun _ _=>bm aa) A<|hn ag<|tn<|aS _ _<|cf aa<|ext<|te _<|te _<|be<|tn<|⟨q,ab,(by rw [← bp,Lz (.inl ab)]),(aU ac (Md.refl _ _).drew),bb.drew,aa,aa,aa,aa,aa⟩
 rintro aK ap ⟨i2,db,aP,Z,aV,cE,cF,cG,cH,cI⟩
 refine fx 0 cE<|fx 1 cF<|fx 2 cG<|fx 7 cH<|fx 8 cI<|sq fun _ a8=>aj fun _ aS=>ak (au i2)<|ak (au b)<|p (bH aa aa)<|nl<|tn<|aS _ _<|cd aa (fun ck=> ?_) fun ck=> ?_
 refine aj fun _ aY=>aw<|aY _ _<|rt<|tr<|br<|tr<|tr<|br<|tr<|f1 aa aa ?_
 have ai:(ue bW d a b)=(E,true):=by rw [← aF,WT (show 0 < 5 - s by omega) aP ab]
 exact ⟨by rw [ai]; rfl,by rw [ai]; exact Z,aV⟩
 have a9:¬i2=b:=ab
 refine aM<|tn<|a8 _ _<|sq fun _ aY=>aj fun _ bP=>ak (au b)<|ak (au a)<|p (dJ ((b - a:Nat):Int) aa aa<|bj ab ab)<|p (lt aa aa)<|aE<|bP _ _<|cd aa (fun cm=> ?_) fun cm=> ?_
 refine aj fun _ aZ=>aw<|aZ _ _<|rt<|tr<|br<|tr<|tr<|br<|tr<|f1 aa aa ?_
 have ai:(ue bW d a b)=(E,false):=by rw [← aF,pi_short (show 0 < 5 - s by omega) aP ab ab]
 exact ⟨by rw [ai]; rfl,by rw [ai]; exact Z,aV⟩
 refine aM<|tn<|aY _ _<|sq fun _ aZ=> ?_
 have cr:=fG Z
 have G:(fun w'=>Wk ap w') ap.drew:=(Md.refl _ _).drew
 refine eM (fun w'=>Wk ap w') 15 aa wide G<|bz 0 aa (.slice j n cp) G<|bz 1 aa (au i2) G<|bz 2 aa (.slice j n cp) G<|bz 3 aa (au i2) G<|bq 4 aa (fun _=>dJ ((i2 - 1:Nat):Int) aa aa<|bj ab ab) (fun _=>G)<|bz 5 aa (.slice j n cp) G<|bz 6 aa (au i2) G<|bq 7 aa (fun _=>dJ ((i2 - 1:Nat):Int) aa aa<|bj ab ab) (fun _=>G)<|bq 8 aa (fun _=>a7 bV aa aa ab<|aI.ok ((aX Z).2)<|ca ab) (fun _=>G)<|dH 9 aa (fun w' C=>ld cU aa<|dF (i:=i2 - 1) ((aX Z).2.wk C) ab) G<|bz 10 aa (.slice j n cp) G<|bz 11 aa (au i2) G<|bq 12 aa (fun _=>a7 bV aa aa ab<|aI.ok ((aX Z).2)<|ca ab) (fun _=>G)<|dH 13 aa (fun w' C=>ld cU aa<|dF (i:=i2) ((aX Z).2.wk C) ab) G<|bq 14 aa (fun _=>a7 bV aa aa ab<|aI.ok ((aX Z).2)<|ca ab) (fun _=>G) ?_
 refine dG 15 aa ag ag<|gu (u:=E[i2 - 1]!) (i2) (aU Z G) gd aa aa aa ab fun df b0 ct=>bq 16 aa (fun _=>a7 bV aa aa ab<|aI.ok ((aX Z).2)<|ca ab) (fun h=>eb<|(show true =_ from by kernel_rfl).trans h)<|dG 17 aa ag ag<|gu (u:=E[i2]!) (i2 - 1) ct gd aa aa aa ab fun bK b1 cu=> ?_
 have bG:bK.ownsRow B 51 1 (.slice j n cp) n (LE bc<|cJ E (i2)<|i2 - 1):=cu
 have bA:Md (fun q=>(bO j n cp).ownBlock=some q) ap bK:=Md.trans (G.mono fun _ _ h=>h.elim)<|Md.trans b0 b1
 refine eL ag<|tn<|aZ _ _ ?_
 refine ec (fun aN bu=> ∃ (al:Array Nat),(al=if i2 - a≥2 then zP bW (i2 - 1) (cJ E i2<|i2 - 1) else (cJ E i2<|i2 - 1))∧(bu.ownsRow B 51 1 (.slice j n cp) n<|LE bc al)∧(Md (fun q=>(bO j n cp).ownBlock=some q) w bu)∧(aN 0= .slice j n cp)∧(aN 1=au a)∧(aN 2=au b)∧(aN 7=au i2)∧(aN 8=au s)) ?_ ?_
 refine aj fun _ a0=>ak (au i2)<|ak (au a)<|p (dJ ((i2 - a:Nat):Int) aa aa<|bj ab ab)<|p (ge aa aa)<|aE<|a0 _ _<|cd aa (fun cn=> ?_) fun cn=> ?_
 refine aj fun _ a1=>ak (au i2)<|p (dJ ((i2 - 1:Nat):Int) aa aa<|bj ab ab)<|aw<|a1 _ _<|aJ<|lp (fun U ax aq=> ∃ (q:Nat) (O:Array Nat),(q≤i2 - 1)∧(zP bW q O=zP bW (i2 - 1) (cJ E i2<|i2 - 1))∧(aq.ownsRow B 51 1 (.slice j n cp) n<|LE bc O)∧(Md (fun q=>(bO j n cp).ownBlock=some q) w aq)∧(ax 0= .slice j n cp)∧(ax 1=au a)∧(ax 2=au b)∧(ax 7=au i2)∧(ax 8=au s)∧(ax 9=au q)∧(q=U)) _ ⟨i2 - 1,(cJ E i2<|i2 - 1),ab,aa,bG,(Md.trans aV bA),aa,aa,aa,aa,aa,aa,aa⟩ ?_
 rintro U ax aq ⟨q,O,bI,bs,ae,bd,cV,cW,cX,cY,cZ,c0,rfl⟩
 refine fx 0 cV<|fx 1 cW<|fx 2 cX<|fx 7 cY<|fx 8 cZ<|fx 9 c0<|sq fun _ a2=>aj fun _ a3=>ak (au q)<|p (ge aa aa)<|aE<|a3 _ _<|cd aa (fun co=> ?_) fun co=> ?_
 refine aM<|tn<|a2 _ _<|sq fun _ a4=>aJ<|sq fun _ a5=>sq fun _ a6=> ?_
 have c9:=fG ae
 have V:(fun w'=>Wk aq w') aq.drew:=(Md.refl _ _).drew
 refine bJ (fun w'=>Wk aq w') aa wide V<|bC 0 aa (.slice j n cp) V<|bC 1 aa (au q) V<|aH 2 aa (fun _ _=>a7 bV aa aa ab<|aI.ok ((aX ae).2)<|ca ab) V<|aH 3 aa (fun w' C=>ld cU aa<|dF (i:=q) ((aX ae).2.wk C) ab) V<|bC 4 aa (.slice j n cp) V<|bC 5 aa (au q) V<|aH 6 aa (fun _ _=>dJ ((q - 1:Nat):Int) aa aa<|bj ab ab) V<|aH 7 aa (fun _ _=>a7 bV aa aa ab<|aI.ok ((aX ae).2)<|ca ab) V<|aH 8 aa (fun w' C=>ld cU aa<|dF (i:=q - 1) ((aX ae).2.wk C) ab) V<|he 9 aa ag<|cl lW (l3 O[q]! O[q - 1]! _) aa fun de aR ch=> ?_
 obtain ⟨rfl,bZ⟩:=ch
 have aC:(fun w'=>Wk aq w') aR:=Md.trans V bZ
 refine ⟨aC,?_⟩
 refine aH 10 aa (fun _ _=>no aa) aC<|hn ag<|tn<|a6 _ _<|cb aa (fun bl=> ?_) fun bl=> ?_
 exact ext<|te _<|m4 az<|te _<|te _<|be<|tn<|⟨O,(by rw [if_pos ab,← bs,Ld (.inr<|by simpa using bl)]),(aU ae aC),(Md.trans bd<|aC.mono fun _ _ h=>h.elim),aa,aa,aa,aa,aa⟩
 refine aM<|tn<|a5 _ _ ?_
 have am:=aU ae aC
 have I:(fun w'=>Wk aR w') aR.drew:=(Md.refl _ _).drew
 refine eM (fun w'=>Wk aR w') 15 aa wide I<|bz 0 aa (.slice j n cp) I<|bz 1 aa (au q) I<|bz 2 aa (.slice j n cp) I<|bz 3 aa (au q) I<|bq 4 aa (fun _=>dJ ((q - 1:Nat):Int) aa aa<|bj ab ab) (fun _=>I)<|bz 5 aa (.slice j n cp) I<|bz 6 aa (au q) I<|bq 7 aa (fun _=>dJ ((q - 1:Nat):Int) aa aa<|bj ab ab) (fun _=>I)<|bq 8 aa (fun _=>a7 bV aa aa ab<|aI.ok ((aX am).2)<|ca ab) (fun _=>I)<|dH 9 aa (fun w' C=>ld cU aa<|dF (i:=q - 1) ((aX am).2.wk C) ab) I<|bz 10 aa (.slice j n cp) I<|bz 11 aa (au q) I<|bq 12 aa (fun _=>a7 bV aa aa ab<|aI.ok ((aX am).2)<|ca ab) (fun _=>I)<|dH 13 aa (fun w' C=>ld cU aa<|dF (i:=q) ((aX am).2.wk C) ab) I<|bq 14 aa (fun _=>a7 bV aa aa ab<|aI.ok ((aX am).2)<|ca ab) (fun _=>I) ?_
 refine dG 15 aa ag ag<|gu (u:=O[q - 1]!) (q) (aU am I) gd aa aa aa ab fun dg b3 cv=>bq 16 aa (fun _=>a7 bV aa aa ab<|aI.ok ((aX am).2)<|ca ab) (fun h=>eb<|(show true =_ from by kernel_rfl).trans h)<|dG 17 aa ag ag<|gu (u:=O[q]!) (q - 1) cv gd aa aa aa ab fun bL b4 cw=> ?_
 have b9:bL.ownsRow B 51 1 (.slice j n cp) n (LE bc<|cJ O (q)<|q - 1):=cw
 have b2:Md (fun q=>(bO j n cp).ownBlock=some q) aR bL:=Md.trans (I.mono fun _ _ h=>h.elim)<|Md.trans b3 b4
 exact eL ag<|bn<|tn<|a4 _ _<|rg aa<|ak (au q)<|p (dJ ((q - 1:Nat):Int) aa aa<|bj ab ab)<|p aB<|nl<|tn<|⟨_,ab,q - 1,cJ O q (q - 1),ab,(by rw [← bs,XT (show 0 < q by omega) (by simpa using bl)]),b9,(Md.trans bd<|Md.trans (aC.mono fun _ _ h=>h.elim) b2),aa,aa,aa,aa,aa,aa,aa⟩
 exact ext<|te _<|te _<|be<|tn<|⟨O,(by rw [if_pos ab,← bs,Ld (.inl ab)]),ae,bd,aa,aa,aa,aa,aa⟩
 exact aM<|tn<|⟨(cJ E i2<|i2 - 1),(by rw [if_neg ab]),bG,(Md.trans aV bA),aa,aa,aa,aa,aa⟩
 rintro aN bu ⟨al,bo,bF,bB,cP,cQ,cR,cS,cT⟩
 refine fx 0 cP<|fx 1 cQ<|fx 2 cR<|fx 7 cS<|fx 8 cT<|aj fun _ a0=>ak (au b)<|ak (au i2)<|p (dJ ((b - i2:Nat):Int) aa aa<|bj ab ab)<|p (ge aa aa)<|nl<|tn<|a0 _ _<|cd aa (fun cq=> ?_) fun cq=> ?_
 refine aj fun _ a1=>ak (au i2)<|p (bE ((i2+1:Nat):Int) aa aa<|bj ab ab)<|aw<|a1 _ _<|aJ<|lp (fun U aA ar=> ∃ (q:Nat) (M:Array Nat),(i2+1≤q∧q≤b)∧(Ey bW b q M=Ey bW b (i2+1) al)∧(ar.ownsRow B 51 1 (.slice j n cp) n<|LE bc M)∧(Md (fun q=>(bO j n cp).ownBlock=some q) w ar)∧(aA 0= .slice j n cp)∧(aA 1=au a)∧(aA 2=au b)∧(aA 7=au i2)∧(aA 8=au s)∧(aA 10=au q)∧(b - q=U)) _ ⟨i2+1,al,ab,aa,bF,bB,aa,aa,aa,aa,aa,aa,aa⟩ ?_
 rintro U aA ar ⟨q,M,bI,bt,ah,bg,c1,c2,c4,c5,c6,c3,rfl⟩
 refine fx 0 c1<|fx 1 c2<|fx 2 c4<|fx 7 c5<|fx 8 c6<|fx 10 c3<|sq fun _ a2=>aj fun _ a3=>ak (au q)<|ak (au b)<|p (lt aa aa)<|nl<|tn<|a3 _ _<|cd aa (fun ci=> ?_) fun ci=> ?_
 refine aM<|tn<|a2 _ _<|sq fun _ a4=>aJ<|sq fun _ a5=>sq fun _ a6=> ?_
 have da:=fG ah
 have Y:(fun w'=>Wk ar w') ar.drew:=(Md.refl _ _).drew
 refine bJ (fun w'=>Wk ar w') aa wide Y<|bC 0 aa (.slice j n cp) Y<|bC 1 aa (au q) Y<|aH 2 aa (fun _ _=>a7 bV aa aa ab<|aI.ok ((aX ah).2)<|ca ab) Y<|aH 3 aa (fun w' C=>ld cU aa<|dF (i:=q) ((aX ah).2.wk C) ab) Y<|bC 4 aa (.slice j n cp) Y<|bC 5 aa (au q) Y<|aH 6 aa (fun _ _=>dJ ((q - 1:Nat):Int) aa aa<|bj ab ab) Y<|aH 7 aa (fun _ _=>a7 bV aa aa ab<|aI.ok ((aX ah).2)<|ca ab) Y<|aH 8 aa (fun w' C=>ld cU aa<|dF (i:=q - 1) ((aX ah).2.wk C) ab) Y<|he 9 aa ag<|cl lW (l3 M[q]! M[q - 1]! _) aa fun dd aQ ce=> ?_
 obtain ⟨rfl,bX⟩:=ce
 have aD:(fun w'=>Wk ar w') aQ:=Md.trans Y bX
 refine ⟨aD,?_⟩
 refine aH 10 aa (fun _ _=>no aa) aD<|hn ag<|tn<|a6 _ _<|cb aa (fun bi=> ?_) fun bi=> ?_
 exact ext<|te _<|m4 az<|te _<|te _<|be<|bn<|tn<|aO _ _<|rg aa<|ak (au s)<|p (bE ((s+1:Nat):Int) aa aa<|bj ab ab)<|aw<|⟨_,ab,s+1,i2,M,ab,(by rw [← aF,pi_go (show 0 < 5 - s by omega) aP a9 ab bo (show M=_ by rw [if_pos ab,← bt,LK (.inr<|by simpa using bi)])]; rfl),(aU ah aD),(Md.trans bg<|aD.mono fun _ _ h=>h.elim),aa,aa,aa,aa,aa,aa⟩
 refine aM<|tn<|a5 _ _ ?_
 have an:=aU ah aD
 have J:(fun w'=>Wk aQ w') aQ.drew:=(Md.refl _ _).drew
 refine eM (fun w'=>Wk aQ w') 15 aa wide J<|bz 0 aa (.slice j n cp) J<|bz 1 aa (au q) J<|bz 2 aa (.slice j n cp) J<|bz 3 aa (au q) J<|bq 4 aa (fun _=>dJ ((q - 1:Nat):Int) aa aa<|bj ab ab) (fun _=>J)<|bz 5 aa (.slice j n cp) J<|bz 6 aa (au q) J<|bq 7 aa (fun _=>dJ ((q - 1:Nat):Int) aa aa<|bj ab ab) (fun _=>J)<|bq 8 aa (fun _=>a7 bV aa aa ab<|aI.ok ((aX an).2)<|ca ab) (fun _=>J)<|dH 9 aa (fun w' C=>ld cU aa<|dF (i:=q - 1) ((aX an).2.wk C) ab) J<|bz 10 aa (.slice j n cp) J<|bz 11 aa (au q) J<|bq 12 aa (fun _=>a7 bV aa aa ab<|aI.ok ((aX an).2)<|ca ab) (fun _=>J)<|dH 13 aa (fun w' C=>ld cU aa<|dF (i:=q) ((aX an).2.wk C) ab) J<|bq 14 aa (fun _=>a7 bV aa aa ab<|aI.ok ((aX an).2)<|ca ab) (fun _=>J) ?_
 refine dG 15 aa ag ag<|gu (u:=M[q - 1]!) (q) (aU an J) gd aa aa aa ab fun dh b6 cx=>bq 16 aa (fun _=>a7 bV aa aa ab<|aI.ok ((aX an).2)<|ca ab) (fun h=>eb<|(show true =_ from by kernel_rfl).trans h)<|dG 17 aa ag ag<|gu (u:=M[q]!) (q - 1) cx gd aa aa aa ab fun bM b7 cy=> ?_
 have cc:bM.ownsRow B 51 1 (.slice j n cp) n (LE bc<|cJ M (q)<|q - 1):=cy
 have b5:Md (fun q=>(bO j n cp).ownBlock=some q) aQ bM:=Md.trans (J.mono fun _ _ h=>h.elim)<|Md.trans b6 b7
 exact eL ag<|bn<|tn<|a4 _ _<|rg aa<|ak (au q)<|p (bE ((q+1:Nat):Int) aa aa<|bj ab ab)<|p aB<|nl<|tn<|⟨_,ab,q+1,cJ M q (q - 1),ab,(by rw [← bt,YD (show q < b by omega) (by simpa using bi)]),cc,(Md.trans bg<|Md.trans (aD.mono fun _ _ h=>h.elim) b5),aa,aa,aa,aa,aa,aa,aa⟩
 exact ext<|te _<|te _<|be<|bn<|tn<|aO _ _<|rg aa<|ak (au s)<|p (bE ((s+1:Nat):Int) aa aa<|bj ab ab)<|aw<|⟨_,ab,s+1,i2,M,ab,(by rw [← aF,pi_go (show 0 < 5 - s by omega) aP a9 ab bo (show M=_ by rw [if_pos ab,← bt,LK (.inl ab)])]; rfl),ah,bg,aa,aa,aa,aa,aa,aa⟩
 exact aM<|bn<|tn<|aO _ _<|rg aa<|ak (au s)<|p (bE ((s+1:Nat):Int) aa aa<|bj ab ab)<|p aB<|nl<|tn<|⟨_,ab,s+1,i2,al,ab,(by rw [← aF,pi_go (show 0 < 5 - s by omega) aP a9 ab bo (show al=_ by rw [if_neg ab])]; rfl),bF,bB,aa,aa,aa,aa,aa,aa⟩
 refine ext<|te _<|te _<|be<|tn<|bR _ _<|aj fun _ aO=>p aB<|aE<|aO _ _<|rt<|f1 aa aa ?_
 have ai:(ue bW d a b)=(E,false):=by rw [← aF,show 5 - s=0 by omega]; rfl
 exact ⟨by rw [ai]; rfl,by rw [ai]; exact bD,bx⟩
end Go.Hb.EU
end
section
set_option maxRecDepth 20000
set_option maxHeartbeats 1000000
namespace Go.Hb.Ac
open Go.Hb.dT
open Go.Proofs
open Go.Hb.rq Go.Hb.ET Go.Hb.EU Go.Hb.xm
theorem WK (d:Array Nat) (a b j:Nat) (B n cp:Nat) (i:Option Addr) (w:World) (C:w.ownsRow B 51 1 (.slice i n cp) n (LE bc d)) (E:a≤j∧j < b∧b≤n) (G:n≤1099511627776):bh ay 291 (ba [.slice i n cp,.int .i64 (a:Nat),.int .i64 (b:Nat),.int .i64 (j:Nat)]) w
 (fun v w'=> ∃ A ap d4,q7 bW d a b j=(A,ap,d4)∧v= .tuple #[.int .i64 (A:Nat),.bool ap]∧w'.ownsRow B 51 1 (.slice i n cp) n (LE bc d4)∧Md (fun q=>(bO i n cp).ownBlock=some q) w w'):=
 (WJ d a b j B n cp i w C E G).mono fun _ _ h=>⟨_,_,_,rfl,h⟩
theorem WM (d:Array Nat) (a b j:Nat) (B n cp:Nat) (i:Option Addr) (w:World) (C:w.ownsRow B 51 1 (.slice i n cp) n (LE bc d)) (E:a≤j∧j < b∧b≤n) (G:n≤1099511627776):bh ay 290 (ba [.slice i n cp,.int .i64 (a:Nat),.int .i64 (b:Nat),.int .i64 (j:Nat)]) w
 (fun v w'=> ∃ A d4,wH bW d a b j=(A,d4)∧v= .int .i64 (A:Nat)∧w'.ownsRow B 51 1 (.slice i n cp) n (LE bc d4)∧Md (fun q=>(bO i n cp).ownBlock=some q) w w'):=
 (WL d a b j B n cp i w C E G).mono fun _ _ h=>⟨_,_,rfl,h⟩
theorem WO (m:Nat) (d:Array Nat) (a b lim:Nat) (B n cp:Nat) (C:Option Addr) (w:World) (bs:w.ownsRow B 51 1 (.slice C n cp) n (LE bc d)) (hm:b - a < m) (dm:a≤b∧b≤n) (cE:n≤255) (dt:lim≤64) (bR:Eu bW a b d):
 bh ay 268 (ba [.slice C n cp,au a,au b,au lim]) w (fun v w'=> ∃ d1,v= .tuple #[]∧od a b d d1∧ud bW a b d1∧w'.ownsRow B 51 1 (.slice C n cp) n (LE bc d1)∧Md (fun q=>(bO C n cp).ownBlock=some q) w w'):=by
 have bD:True:=trivial
 induction m generalizing d a b lim w with
 | zero=>omega
 | succ m bD=>
   have bB:∀ (d:Array Nat) (a b lim:Nat) (w:World),w.ownsRow B 51 1 (.slice C n cp) n (LE bc d)→b - a < m→(a≤b∧b≤n)→lim≤64→Eu bW a b d→_:=fun d a b lim w h1 h2 h3 h4 h5=>bD d a b lim w h1 h2 h3 h4 h5
   have ds:=fG bs
   refine enter func268 aa ntmps268 aa<|aj fun _ bG=>aw<|bG _ _<|aj fun _ bL=>p aB<|aE<|bL _ _<|aJ<|lp (fun bk am bi=> ∃ (j A ac:Nat) (wb wp:Bool) (G:Array Nat),(a≤j∧j≤A∧A≤b∧ac≤64)∧(Eu bW j A G)∧(∀ R,od j A G R→ud bW j A R→od a b d R∧ud bW a b R)∧(bi.ownsRow B 51 1 (.slice C n cp) n<|LE bc G)∧(Md (fun q=>(bO C n cp).ownBlock=some q) w bi)∧(am 0= .slice C n cp)∧(am 1=au j)∧(am 2=au A)∧(am 3=au ac)∧(am 8= .bool wb)∧(am 9= .bool wp)∧(A - j=bk)) _ ⟨a,b,lim,true,true,d,ab,bR,(fun R h1 h2=>⟨h1,h2⟩),bs,(Md.refl _ _),aa,aa,aa,aa,aa,aa,aa⟩ ?_
   rintro bk am bi ⟨j,A,ac,wb,wp,G,dw,aQ,an,az,aG,cG,cH,cI,cJ,cK,cL,rfl⟩
   refine fx 0 cG<|fx 1 cH<|fx 2 cI<|fx 3 cJ<|fx 8 cK<|fx 9 cL ?_
   have dr:=fG az
   refine aJ<|aj fun _ bM=>ak (au A)<|ak (au j)<|p (dJ ((A - j:Nat):Int) aa aa<|bj ab ab)<|p aB<|nl<|tn<|bM _ _<|sq fun _ bN=>aj fun _ bP=>p mv<|p (le aa aa)<|aE<|bP _ _<|cd aa (fun cq=> ?_) fun cq=> ?_
   refine aj fun _ aP=>ak (.slice C n cp)<|ak (au j)<|ak (au A)<|e<|cl P8 (U5 G j A B n cp C _ az ab ab) aa fun dz dI cc=> ?_
   obtain ⟨rfl,b2,bU⟩:=cc
   refine aE<|aP _ _<|rt<|tr<|br<|tr<|br<|rH aa ?_
   obtain ⟨h1,h2⟩:=Go.Sort.insertionSort_holds vv G j A ab ab
   obtain ⟨aD,aF⟩:=an _ (h1)<|h2
   exact ⟨_,aa,aD,aF,b2,Md.trans aG bU⟩
   refine aM<|tn<|bN _ _<|sq fun _ aP=>aj fun _ bQ=>ak (au ac)<|p (bH aa aa)<|nl<|tn<|bQ _ _<|cd aa (fun cr=> ?_) fun cr=> ?_
   refine aj fun _ ar=>ak (.slice C n cp)<|ak (au j)<|ak (au A)<|e<|cl P9 (UK G j A B n cp C _ az ab ab) aa fun dA dK ce=> ?_
   obtain ⟨rfl,b3,bX⟩:=ce
   refine aE<|ar _ _<|rt<|tr<|br<|tr<|br<|rH aa ?_
   obtain ⟨h1,h2⟩:=Go.Sort.heapSort_holds vv G j A ab ab
   obtain ⟨aD,aF⟩:=an _ (h1)<|h2
   exact ⟨_,aa,aD,aF,b3,Md.trans aG bX⟩
   refine aM<|tn<|aP _ _ ?_
   refine ec (fun ae bb=> ∃ (I:Nat) (d1:Array Nat),(I≤64)∧(od j A G d1)∧(bb.ownsRow B 51 1 (.slice C n cp) n<|LE bc d1)∧(Md (fun q=>(bO C n cp).ownBlock=some q) w bb)∧(ae 0= .slice C n cp)∧(ae 1=au j)∧(ae 2=au A)∧(ae 3=au I)∧(ae 8= .bool wb)∧(ae 9= .bool wp)∧(ae 10=au (A - j))) ?_ ?_
   refine aj fun _ ar=>ak (.bool wb)<|p (no aa)<|aE<|ar _ _<|cb aa (fun cs=> ?_) fun cs=> ?_
   refine aj fun _ M=>ak (.slice C n cp)<|ak (au j)<|ak (au A)<|e<|cl Qa (OS G j A B n cp C _ az ab cE) aa fun dB dL cg=> ?_
   obtain ⟨d1,rfl,cF,b4,bY⟩:=cg
   exact aE<|M _ _<|rg aa<|ak (au ac)<|p (dJ ((ac - 1:Nat):Int) aa aa<|bj ab ab)<|p aB<|nl<|tn<|⟨ac - 1,d1,ab,cF,b4,(Md.trans aG bY),aa,aa,aa,aa,aa,aa,aa⟩
   exact aM<|tn<|⟨ac,G,ab,(Nh G j A),az,aG,aa,aa,aa,aa,aa,aa,aa⟩
   rintro ae bb ⟨I,d1,du,bA,b7,b1,cM,cN,cP,cQ,cR,cS,cO⟩
   refine fx 0 cM<|fx 1 cN<|fx 2 cP<|fx 3 cQ<|fx 8 cR<|fx 9 cS<|fx 10 cO<|aj fun _ ar=>ak (.slice C n cp)<|ak (au j)<|ak (au A)<|e<|cl Qb (QX d1 j A B n cp C _ b7 ab ab) aa fun v46 dM ch=> ?_
   obtain ⟨aL,dk,rfl,dv,aV,bS⟩:=ch
   have bl:=Md.trans b1<|bS.mono fun _ _ h=>h.elim
   refine p mv<|p (xt aa aa)<|p (xt aa aa)<|p aB<|aw<|ar _ _ ?_
   refine ec (fun U bd=> ∃ (J:Nat) (a8:Int) (d2:Array Nat),(j≤J∧J < A)∧(od j A G d2)∧(bd.ownsRow B 51 1 (.slice C n cp) n<|LE bc d2)∧(Md (fun q=>(bO C n cp).ownBlock=some q) w bd)∧(U 0= .slice C n cp)∧(U 1=au j)∧(U 2=au A)∧(U 3=au I)∧(U 8= .bool wb)∧(U 9= .bool wp)∧(U 10=au (A - j))∧(U 11=au J)∧(U 12= .int .i64 a8)) ?_ ?_
   refine aj fun _ M=>p mv<|p (bH aa aa)<|aE<|M _ _<|cd aa (fun ct=> ?_) fun ct=> ?_
   refine aj fun _ ah=>ak (.slice C n cp)<|ak (au j)<|ak (au A)<|e<|cl Qc (Xn d1 j A B n cp C _ aV ab ab) aa fun dC dN ci=> ?_
   obtain ⟨rfl,b5,bZ⟩:=ci
   have dn:=fG aV
   exact aE<|ah _ _<|aj fun _ aq=>ak (au A)<|p (dJ ((A - 1:Nat):Int) aa aa<|bj ab ab)<|p mv<|ak (au j)<|p (dJ ((aL - j:Nat):Int) aa aa<|bj ab ab)<|p (dJ ((A - 1 - (aL - j):Nat):Int) aa aa<|bj ab ab)<|aw<|aq _ _<|rg aa<|p aB<|nl<|tn<|⟨A - 1 - (aL - j),1,Ex d1 j A,ab,(sr _ _ _ j A bA<|Go.Sort.reverseRange_holds d1 j A ab ab),b5,(Md.trans bl bZ),aa,aa,aa,aa,aa,aa,aa,aa,aa⟩
   exact aM<|tn<|⟨aL,dk,d1,ab,bA,aV,bl,aa,aa,aa,aa,aa,aa,aa,aa,aa⟩
   rintro U bd ⟨J,a8,d2,aK,ao,aA,ax,cT,cV,cZ,c0,c1,c2,cW,cX,cY⟩
   refine fx 0 cT<|fx 1 cV<|fx 2 cZ<|fx 3 c0<|fx 8 c1<|fx 9 c2<|fx 10 cW<|fx 11 cX<|fx 12 cY ?_
   refine ec (fun V al=> ∃ (d3:Array Nat),(od j A G d3)∧(al.ownsRow B 51 1 (.slice C n cp) n<|LE bc d3)∧(Md (fun q=>(bO C n cp).ownBlock=some q) w al)∧(V 0= .slice C n cp)∧(V 1=au j)∧(V 2=au A)∧(V 3=au I)∧(V 8= .bool wb)∧(V 9= .bool wp)∧(V 10=au (A - j))∧(V 11=au J)) ?_ ?_
   refine aj fun _ M=>ak (.bool wb)<|ak (.bool wb)<|gb (t:=62) aa (fun cw=> ?_) fun cw=> ?_
   refine pg aa aa aa (aT (.bool wp) aa)<|p (bw aa)<|p mv<|gb (t:=65) aa (fun cx=> ?_) fun cx=> ?_
   refine pg aa aa aa (aT (.int .i64 a8) aa)<|pg aa aa aa (bH aa aa)<|p (bw aa)<|aE<|M _ _<|cd aa (fun cu=> ?_) fun cu=> ?_
   refine aj fun _ ah=>ak (.slice C n cp)<|ak (au j)<|ak (au A)<|e<|cl Qd (WW d2 j A B n cp C _ aA ab ab) aa fun v72 dO cj=> ?_
   obtain ⟨rfl,bt,bo⟩:=cj
   have dp:=fG aA
   obtain ⟨bz,cz⟩:=Go.Sort.partialInsertionSort_holds vv d2 j A ab ab<|Ev aQ ab ao
   refine aE<|ah _ _<|cb aa (fun bv=> ?_) fun bv=> ?_
   have dj:=cz bv
   refine rt<|tr<|br<|tr<|br<|rH aa ?_
   obtain ⟨aD,aF⟩:=an _ (sr _ _ _ j A ao bz)<|dj
   exact ⟨_,aa,aD,aF,bt,Md.trans ax bo⟩
   exact aM<|tn<|⟨_,(sr _ _ _ j A ao bz),bt,(Md.trans ax bo),aa,aa,aa,aa,aa,aa,aa,aa⟩
   exact aM<|tn<|⟨d2,ao,aA,ax,aa,aa,aa,aa,aa,aa,aa,aa⟩
   exact sk aa aa aa aa<|sk aa aa aa aa<|p (bm aa)<|aE<|M _ _<|cf aa<|aM<|tn<|⟨d2,ao,aA,ax,aa,aa,aa,aa,aa,aa,aa,aa⟩
   exact sk aa aa aa aa<|p (bm aa)<|p mv<|sk aa aa aa aa<|sk aa aa aa aa<|p (bm aa)<|aE<|M _ _<|cf aa<|aM<|tn<|⟨d2,ao,aA,ax,aa,aa,aa,aa,aa,aa,aa,aa⟩
   rintro V al ⟨d3,aC,Z,aR,c3,c4,c7,c8,c9,da,c5,c6⟩
   refine fx 0 c3<|fx 1 c4<|fx 2 c7<|fx 3 c8<|fx 8 c9<|fx 9 da<|fx 10 c5<|fx 11 c6 ?_
   refine ec (fun Y bg=>(bg.ownsRow B 51 1 (.slice C n cp) n<|LE bc d3)∧(Md (fun q=>(bO C n cp).ownBlock=some q) w bg)∧(Y 0= .slice C n cp)∧(Y 1=au j)∧(Y 2=au A)∧(Y 3=au I)∧(Y 8= .bool wb)∧(Y 9= .bool wp)∧(Y 10=au (A - j))∧(Y 11=au J)) ?_ ?_
   refine sq fun _ M=> ?_
   have cv:=fG Z
   have E:(fun w'=>Wk al w') al.drew:=(Md.refl _ _).drew
   refine bJ (fun w'=>Wk al w') aa wide E<|bC 0 aa (au j) E<|aH 1 aa (fun _ _=>gt aa aa) E<|aH 2 aa (fun _ _=>mv) E<|iO (t:=75) aa (fun cy=> ?_) fun cy=> ?_
   refine bf 3 aa ag aa aa aa (fun _ _=>aT (.slice C n cp) aa) E<|bf 4 aa ag aa aa aa (fun _ _=>aT (au j) aa) E<|bf 5 aa ag aa aa aa (fun _ _=>dJ ((j - 1:Nat):Int) aa aa<|bj ab ab) E<|bf 6 aa ag aa aa aa (fun _ _=>a7 bV aa aa ab<|aI.ok ((aX Z).2)<|ca ab) E<|bf 7 aa ag aa aa aa (fun w' a0=>ld cU aa<|dF (i:=j - 1) ((aX Z).2.wk a0) ab) E<|bf 8 aa ag aa aa aa (fun _ _=>aT (.slice C n cp) aa) E<|bf 9 aa ag aa aa aa (fun _ _=>aT (au J) aa) E<|bf 10 aa ag aa aa aa (fun _ _=>a7 bV aa aa ab<|aI.ok ((aX Z).2)<|ca ab) E<|bf 11 aa ag aa aa aa (fun w' a0=>ld cU aa<|dF (i:=J) ((aX Z).2.wk a0) ab) E<|mA 12 aa ag aa aa aa<|cl lW (l3 d3[j - 1]! d3[J]! _) aa fun v85 dl ck=> ?_
   obtain ⟨rfl,bT⟩:=ck
   have ai:(fun w'=>Wk al w') dl:=Md.trans E bT
   refine ⟨ai,?_⟩
   refine bf 13 aa ag aa aa aa (fun _ _=>no aa) ai<|aH 14 aa (fun _ _=>bw aa) ai<|hn ag<|tn<|M _ _<|cb aa (fun bx=> ?_) fun bx=> ?_
   refine aj fun _ ah=>ak (.slice C n cp)<|ak (au j)<|ak (au A)<|ak (au J)<|e<|cl Qe (WM d3 j A J B n cp C _ (aU Z ai) ab ab) aa fun dD dP cm=> ?_
   obtain ⟨O,d4,a9,rfl,b6,b0⟩:=cm
   obtain ⟨bC,cA,cB,a3,a4⟩:=Go.Sort.round_eq vv (Go.Sort.partitionEqual_holds bW) (show 0 < j by omega) aK.1 aK.2 ab (Ev aQ ab aC) (by simpa using bx) a9
   exact aw<|ah _ _<|aj fun _ aq=>p mv<|p aB<|nl<|tn<|aq _ _<|ext<|te _<|be<|tn<|⟨_,ab,O,A,I,wb,wp,d4,ab,a3,(fun R h1 h2=>by obtain ⟨h3,h4⟩:=a4 R h1 h2; exact an R (sr _ _ _ j A aC h3) h4),b6,(Md.trans aR<|Md.trans (ai.mono fun _ _ h=>h.elim) b0),aa,aa,aa,aa,aa,aa,aa⟩
   exact aM<|tn<|⟨(aU Z ai),(Md.trans aR<|ai.mono fun _ _ h=>h.elim),aa,aa,aa,aa,aa,aa,aa,aa⟩
   exact aW 3 aa ag aa aa aa aa E<|aW 4 aa ag aa aa aa aa E<|aW 5 aa ag aa aa aa aa E<|aW 6 aa ag aa aa aa aa E<|aW 7 aa ag aa aa aa aa E<|aW 8 aa ag aa aa aa aa E<|aW 9 aa ag aa aa aa aa E<|aW 10 aa ag aa aa aa aa E<|aW 11 aa ag aa aa aa aa E<|aW 12 aa ag aa aa aa aa E<|aW 13 aa ag aa aa aa aa E<|aH 14 aa (fun _ _=>bm aa) E<|hn ag<|tn<|M _ _<|cf aa<|aM<|tn<|⟨(aU Z (Md.refl _ _).drew),aR.drew,aa,aa,aa,aa,aa,aa,aa,aa⟩
   rintro Y bg ⟨bu,bq,db,dc,df,dg,dh,di,dd,de⟩
   refine fx 0 db<|fx 1 dc<|fx 2 df<|fx 3 dg<|fx 8 dh<|fx 9 di<|fx 10 dd<|fx 11 de<|aj fun _ M=>ak (.slice C n cp)<|ak (au j)<|ak (au A)<|ak (au J)<|e<|cl Qf (WK d3 j A J B n cp C _ bu ab ab) aa fun dE bF cn=> ?_
   obtain ⟨O,ap,d4,a9,rfl,aY,bp⟩:=cn
   have cv:=fG bu
   have dq:=fG aY
   obtain ⟨bC,cA,cB,a3,a4,cC,cD⟩:=Go.Sort.round_part vv (Go.Sort.partition_holds bW) aK.1 aK.2 ab (Ev aQ ab aC) a9
   refine p mv<|p (xt aa aa)<|p (xt aa aa)<|p aB<|aw<|M _ _<|sq fun _ ah=>rg aa<|p mv<|aw<|ah _ _<|aj fun _ aq=>p mv<|ak (au j)<|p (dJ ((O - j:Nat):Int) aa aa<|bj ab ab)<|ak (au A)<|p mv<|p (dJ ((A - O:Nat):Int) aa aa<|bj ab ab)<|p aB<|p aB<|nl<|tn<|aq _ _<|aj fun _ bI=>ak (au<|A - j)<|p (qQ (((A - j) / 8:Nat):Int) aa aa ab<|bj ab ab)<|aw<|bI _ _<|aj fun _ bK=>p mv<|p mv<|p (lt aa aa)<|aE<|bK _ _<|cd aa (fun co=> ?_) fun co=> ?_
   refine aj fun _ aN=>p mv<|p mv<|p (ge aa aa)<|aw<|aN _ _<|aj fun _ aO=>ak (.slice C n cp)<|ak (au j)<|p mv<|ak (au I)<|e<|cl AX (bB d4 j O I bF aY ab ab ab a3) aa fun dx dG b8=> ?_
   obtain ⟨av,rfl,a5,a6,aZ,aS⟩:=b8
   obtain ⟨a1,a2⟩:=cC av a5 a6
   exact aE<|aO _ _<|rg aa<|p mv<|p (bE ((O+1:Nat):Int) aa aa<|bj ab ab)<|p aB<|nl<|bn<|tn<|⟨_,ab,O+1,A,I,decide (((O - j:Nat):Int)≥(((A - j) / 8:Nat):Int)),ap,av,ab,a1,(fun R h1 h2=>by obtain ⟨h3,h4⟩:=a2 R h1 h2; exact an R (sr _ _ _ j A aC h3) h4),aZ,(Md.trans bq<|Md.trans bp aS),aa,aa,aa,aa,aa,aa,aa⟩
   refine aj fun _ aN=>p mv<|p mv<|p (ge aa aa)<|aw<|aN _ _<|aj fun _ aO=>ak (.slice C n cp)<|p mv<|p (bE ((O+1:Nat):Int) aa aa<|bj ab ab)<|ak (au A)<|ak (au I)<|e<|cl AX (bB d4 (O+1) A I bF aY ab ab ab a4) aa fun dy dH b9=> ?_
   obtain ⟨av,rfl,a5,a6,aZ,aS⟩:=b9
   obtain ⟨a1,a2⟩:=cD av a5 a6
   exact aE<|aO _ _<|rg aa<|p mv<|p aB<|nl<|bn<|tn<|⟨_,ab,j,O,I,decide (((A - O:Nat):Int)≥(((A - j) / 8:Nat):Int)),ap,av,ab,a1,(fun R h1 h2=>by obtain ⟨h3,h4⟩:=a2 R h1 h2; exact an R (sr _ _ _ j A aC h3) h4),aZ,(Md.trans bq<|Md.trans bp aS),aa,aa,aa,aa,aa,aa,aa⟩
theorem Yh (d:Array Nat) (B n cp:Nat) (a:Option Addr) (w:World) (A:w.ownsRow B 51 1 (.slice a n cp) n (LE bc d)) (G:n≤255):
 bh ay 246 (ba [.slice a n cp]) w (fun v w'=> ∃ d1,v= .tuple #[]∧od 0 n d d1∧ud bW 0 n d1∧w'.ownsRow B 51 1 (.slice a n cp) n (LE bc d1)∧Md (fun q=>(bO a n cp).ownBlock=some q) w w'):=by
 refine enter func246 aa ntmps246 aa<|aj fun _ j=>ak (.slice a n cp)<|p (bF oQ aa aa)<|aw<|j _ _<|rg aa<|ak (.slice a n cp)<|p mv<|p mv<|p (lH L5 qW aa<|oU ab)<|e<|cl FL (Jz n _ ab) aa fun v9 M E=> ?_
 obtain ⟨rfl,i⟩:=E
 have I:=yJ (n:=n) ab
 refine e<|cl AX (WO (n+1) d 0 n (kR n) B n cp a _ (aU A i) ab ab G ab<|.inl aa) aa fun v10 J C=> ?_
 obtain ⟨d1,rfl,h1,h2,h3,h4⟩:=C
 exact nl<|f0 aa<|⟨d1,aa,h1,h2,h3,Md.trans (i.mono fun _ _ h=>h.elim) h4⟩
end Go.Hb.Ac
end
