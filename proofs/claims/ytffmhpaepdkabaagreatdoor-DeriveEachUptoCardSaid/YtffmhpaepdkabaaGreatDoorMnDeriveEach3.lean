/-
  Walks and plain laws that the law rests on, laid together. No conditions but those that each theorem names.
-/
import Derived.Test.YtffmhpaepdkabaaGreatDoorMnDeriveEach2
set_option linter.unusedVariables false
set_option maxRecDepth 20000
set_option maxHeartbeats 1000000
open Bool renaming noConfusion→ei
open Go.IntKind renaming u64→eK
open Go.Proofs.Tryz renaming prog→aw
open Go.Sort renaming Below→D8,PermIn→nX,SortedIn→tO,heapBuild→ML,heapSort→MM,insInner→MN,insertionSort→MO,partLoop→Ea,partialIns→qQ,partialInsertionSort→tP,partition→qR,partitionEqual→vV,permIn_refl→MP,permIn_trans→rZ,reverseRange→Eb,scanDown→nY,scanSorted→tQ,scanUp→nZ,shiftDown→zr,shiftUp→Ec,siftDown→qS,swp→cR
open Go.Sort.Below renaming perm→D9
open Go.Value renaming bool→bT,pointer→zt,slice→bR,tuple→gz
open List renaming drop_eq_nil_of_le→gV,length_append→bL,length_eq_zero_iff→wg,length_pos_iff→lx,length_singleton→e5,length_take→dT,take_of_length_le→eN,take_zero→oc,toArray→bh
open Nat renaming blt→gD,lt_or_ge→fg
open Prod renaming fst→mO
open UInt8 renaming toNat_lt→iV
open Go.Proofs.Tryz
open Go.Proofs

section
namespace Go.Hb
abbrev ak (n:Nat):Value:= .int .i64 (n:Nat)
abbrev aR (b:Nat):Value:= .pointer<|some ⟨b,0,none⟩
variable {P:Program} {N:Fm} {ops:Array Oper} {Q:Exit→(Nat→Value)→World→Prop} {σ:Nat→Value} {w:World} {S:World→Prop} {r fuel:Nat} {bc:Array Bool} {d:Nat} {op:Op} {ty:TypeId} {pos :String} {af:Array Edge} {v:Value}
theorem aE (i:Nat) (hi:ops[i]? =some ⟨some d,op,ty,pos,af,none⟩) (A:∀ w,S w→(execOp (ev N σ) ⟨some d,op,ty,pos,af,none⟩).run P w= .ok (.value v) w) (a:S w) (k:fI P N ops Q S fuel (bc.setIfInBounds i true) (dB σ d v) w) (q:ja N.F ops bc i=true :=by kernel_rfl):fI P N ops Q S (fuel+1) bc σ w:=hp i hi q A a k
theorem dM (i:Nat) (hi:ops[i]? =some ⟨some d,op,ty,pos,af,none⟩) (A:∀ w,S w→(execOp (ev N σ) ⟨some d,op,ty,pos,af,none⟩).run P w= .ok (.value v) w) (a:S w) (k:iO P N ops Q S r fuel (bc.setIfInBounds i true) (dB σ d v) w) (q:BR N.F ops bc r i=true :=by kernel_rfl):iO P N ops Q S r (fuel+1) bc σ w:=kD i hi q A a k
theorem bz (i:Nat) (hi:ops[i]? =some ⟨some d,op,ty,pos,af,none⟩) (A:∀ w,(execOp (ev N σ) ⟨some d,op,ty,pos,af,none⟩).run P w= .ok (.value v) w) (a:bc.getD r false =false→S w) (k:iO P N ops Q S r fuel (bc.setIfInBounds i true) (dB σ d v) w) (q:x8 N.F ops bc r i=true :=by kernel_rfl):iO P N ops Q S r (fuel+1) bc σ w:=dA i hi q A a k
theorem bH {x:Operand} (i:Nat) (hi:ops[i]? =some ⟨some d,.move x,ty,pos,af,none⟩) (v:Value) (a:S w) (k:fI P N ops Q S fuel (bc.setIfInBounds i true) (dB σ d v) w) (A:ev N σ x=v:=by exact aa) (q:ja N.F ops bc i=true :=by kernel_rfl):fI P N ops Q S (fuel+1) bc σ w:=hp i hi q (fun _ _=>aU v A) a k
theorem bD {x:Operand} (i:Nat) (hi:ops[i]? =some ⟨some d,.move x,ty,pos,af,none⟩) (v:Value) (a:S w) (k:iO P N ops Q S r fuel (bc.setIfInBounds i true) (dB σ d v) w) (A:ev N σ x=v:=by exact aa) (q:x8 N.F ops bc r i=true :=by kernel_rfl):iO P N ops Q S r (fuel+1) bc σ w:=dA i hi q (fun _=>aU v A) (fun _=>a) k
theorem bp {P:Program} {f:FuncId} {fn:Func} (i:P.funcs[f]? =some fn) (hn:(fn.name== "runtime.NumGoroutine")=false :=by kernel_rfl) (a:fn.body.isNone=false :=by kernel_rfl):bm P f:=Qm i hn a
section
variable {rest:List Oper} {x:Operand} {K:(Nat→Value)→World→Prop} {l:List Oper} {id:Nat} {y z:Code} {j t:Nat} {want b:Bool} {fn:Func} {R:Value→World→Prop}
theorem aC (h:∀ {K:(Nat→Value)→World→Prop},(∀ {σ w},dQ P N y Q σ w→lM K Q .normal σ w)→dQ P N z (lM K Q) σ w):dQ P N (.seq z y) Q σ w:=sq fun K a=>h fun hw=>a _ _ hw
theorem ag (h:∀ {K:(Nat→Value)→World→Prop},(∀ {σ w},dQ P N y Q σ w→lM K Q .normal σ w)→eM P N l.toArray (lM K Q) l σ w) (i:th N.r l=true :=by exact aa):dQ P N (.seq (.region id l.toArray false) y) Q σ w:=sq fun K a=>rg i<|h fun hw=>a _ _ hw
theorem ay (h:Q .normal (dB σ d<|ev N σ x) w):eM P N ops Q [⟨some d,.assign x,ty,pos,af,none⟩] σ w:=p aB<|nl h
theorem bf {id:Nat} (h:Q (.exit id) σ w):lM K Q (.exit id) σ w:=h
theorem aH (h:(jW ops j,gD t N.n,σ t,b==want)=(some t,true,.bool b,false)) (k:eM P N ops Q rest (dB σ d undef) w):eM P N ops Q (⟨some d,op,ty,pos,af,some (j,want)⟩::rest) σ w:=sk (congrArg mO h) (congrArg (·.2.1) h) (congrArg (·.2.2.1) h) (congrArg (·.2.2.2) h) k
theorem eh (h:(jW ops j,gD t N.n,σ t)=(some t,true,undef)) (k:eM P N ops Q rest (dB σ d undef) w):eM P N ops Q (⟨some d,op,ty,pos,af,some (j,want)⟩::rest) σ w:=yN (congrArg mO h) (congrArg (·.2.1) h) (congrArg (·.2.2) h) k
theorem aI (h:(jW ops j,gD t N.n,σ t)=(some t,true,.bool want)) (a:(execOp (ev N σ) ⟨some d,op,ty,pos,af,some (j,want)⟩).run P w= .ok (.value v) w) (k:eM P N ops Q rest (dB σ d v) w):eM P N ops Q (⟨some d,op,ty,pos,af,some (j,want)⟩::rest) σ w:=pg (congrArg mO h) (congrArg (·.2.1) h) (congrArg (·.2.2) h) a k
theorem a6 (i:Nat) (h:(ops[i]?,jW ops j,gD t N.n,σ t,b==want)=(some ⟨some d,op,ty,pos,af,some (j,want)⟩,some t,true,.bool b,false)) (a:S w) (k:fI P N ops Q S fuel (bc.setIfInBounds i true) (dB σ d undef) w) (q:ja N.F ops bc i=true :=by kernel_rfl):fI P N ops Q S (fuel+1) bc σ w:=oB i (congrArg mO h) q (congrArg (·.2.1) h) (congrArg (·.2.2.1) h) (congrArg (·.2.2.2.1) h) (congrArg (·.2.2.2.2) h) a k
theorem bj (i:Nat) (h:(ops[i]?,jW ops j,gD t N.n,σ t)=(some ⟨some d,op,ty,pos,af,some (j,want)⟩,some t,true,.bool want)) (A:∀ w,S w→(execOp (ev N σ) ⟨some d,op,ty,pos,af,some (j,want)⟩).run P w= .ok (.value v) w) (a:S w) (k:fI P N ops Q S fuel (bc.setIfInBounds i true) (dB σ d v) w) (q:ja N.F ops bc i=true :=by kernel_rfl):fI P N ops Q S (fuel+1) bc σ w:=la i (congrArg mO h) q (congrArg (·.2.1) h) (congrArg (·.2.2.1) h) (congrArg (·.2.2.2) h) A a k
theorem aX (h:(fn.results,ev N σ (.tmp t))=(#[.tmp t],v)) (a:R v w):fin P fn N R .ret σ w:=f1 (congrArg mO h) (congrArg Prod.snd h) a
theorem au (v:Value) (h:eM P N ops Q rest (dB σ d v) w) (a:ev N σ x=v:=by exact aa):eM P N ops Q (⟨some d,.move x,ty,pos,af,none⟩::rest) σ w:=p (aU v a) h
end
end Go.Hb
end
namespace Go.Hb.dX
theorem zR:dz aw 106=some (some 3):=aj
theorem EG:dz aw 113=some none:=aj
theorem ue:dz aw 123=some none:=aj
theorem uf:dz aw 131=some (some 5):=aj
theorem EH:dz aw 152=some none:=aj
theorem zS:dz aw 153=some none:=aj
theorem sr:dz aw 158=some none:=aj
theorem oo:dz aw 169=some (some 2):=aj
theorem qZ:dz aw 174=some (some 8):=aj
theorem NU:dz aw 176=some none:=aj
theorem wP:dz aw 177=some none:=aj
theorem p7:dz aw 178=some none:=aj
theorem j8:dz aw 179=some none:=aj
theorem EI:dz aw 184=some none:=aj
theorem ss:dz aw 187=some none:=aj
theorem su:dz aw 193=some none:=aj
theorem EJ:dz aw 200=some none:=aj
theorem wS:dz aw 209=some (some 2):=aj
theorem o7:dz aw 22=some none:=aj
theorem zT:dz aw 230=some none:=aj
theorem sv:dz aw 242=some (some 5):=aj
theorem nw:dz aw 268=some none:=aj
theorem wT:dz aw 27=some none:=aj
theorem mS:dz aw 270=some (some 1):=aj
theorem ib:dz aw 29=some none:=aj
theorem bC:dz aw 3=some none:=aj
theorem wU:dz aw 30=some none:=aj
theorem kJ:dz aw 325=some (some 4):=aj
theorem p8:dz aw 34=some none:=aj
theorem q4:dz aw 340=some none:=aj
theorem sw:dz aw 349=some (some 1):=aj
theorem k4:dz aw 4=some none:=aj
theorem q5:dz aw 41=some (some 5):=aj
theorem sx:dz aw 43=some (some 5):=aj
theorem k5:dz aw 47=some (some 3):=aj
theorem o8:dz aw 5=some none:=aj
theorem c7:dz aw 51=some none:=aj
theorem EK:dz aw 52=some (some 5):=aj
theorem EL:dz aw 53=some none:=aj
theorem q6:dz aw 54=some none:=aj
theorem wV:dz aw 55=some none:=aj
theorem lT:dz aw 56=some none:=aj
theorem zU:dz aw 58=some (some 13):=aj
theorem gl:dz aw 60=some none:=aj
theorem NV:dz aw 61=some none:=aj
theorem ug:dz aw 62=some none:=aj
theorem mT:dz aw 70=some none:=aj
theorem lD:dz aw 72=some (some 2):=aj
theorem pc:dz aw 75=some none:=aj
theorem mU:dz aw 77=some (some 7):=aj
theorem jS:dz aw 87=some none:=aj
theorem bU:dz aw 9=some none:=aj
theorem sA:qc aw 175=some (5,1):=aj
theorem q7:qc aw 325=some (4,1):=aj
theorem EW:qc aw 351=some (256,1):=aj
theorem ui:qc aw 52=some (5,1):=aj
theorem EX:z6 aw 325=some ([.int .u64 0,.int .u64 0,.int .u64 0,.int .u64 0]):=aj
theorem mX:xd aw 153 5 9=true :=aj
theorem Fb:bm aw 100:=bp func100
theorem OB:bm aw 109:=bp func109
theorem kr:bm aw 11:=bp func11
theorem Fc:bm aw 111:=bp func111
theorem Fe:bm aw 112:=bp func112
theorem Ad:bm aw 113:=bp func113
theorem OC:bm aw 114:=bp func114
theorem Ae:bm aw 115:=bp func115
theorem OD:bm aw 116:=bp func116
theorem Af:bm aw 117:=bp func117
theorem q8:bm aw 118:=bp func118
theorem OE:bm aw 119:=bp func119
theorem ks:bm aw 12:=bp func12
theorem Ag:bm aw 120:=bp func120
theorem Ff:bm aw 121:=bp func121
theorem Fg:bm aw 122:=bp func122
theorem OF:bm aw 123:=bp func123
theorem OG:bm aw 124:=bp func124
theorem Ah:bm aw 125:=bp func125
theorem Fh:bm aw 126:=bp func126
theorem OH:bm aw 127:=bp func127
theorem OI:bm aw 128:=bp func128
theorem OJ:bm aw 129:=bp func129
theorem OK:bm aw 13:=bp func13
theorem OL:bm aw 130:=bp func130
theorem um:bm aw 131:=bp func131
theorem OM:bm aw 132:=bp func132
theorem ON:bm aw 133:=bp func133
theorem OO:bm aw 134:=bp func134
theorem Fi:bm aw 135:=bp func135
theorem ou:bm aw 136:=bp func136
theorem Ai:bm aw 137:=bp func137
theorem xe:bm aw 138:=bp func138
theorem Aj:bm aw 139:=bp func139
theorem Fj:bm aw 140:=bp func140
theorem Fk:bm aw 141:=bp func141
theorem OP:bm aw 142:=bp func142
theorem Fl:bm aw 144:=bp func144
theorem OQ:bm aw 145:=bp func145
theorem OR:bm aw 146:=bp func146
theorem OS:bm aw 147:=bp func147
theorem Fo:bm aw 148:=bp func148
theorem Fp:bm aw 149:=bp func149
theorem uo:bm aw 15:=bp func15
theorem OT:bm aw 150:=bp func150
theorem OU:bm aw 151:=bp func151
theorem Ak:bm aw 16:=bp func16
theorem OV:bm aw 169:=bp func169
theorem OW:bm aw 17:=bp func17
theorem OX:bm aw 170:=bp func170
theorem OY:bm aw 171:=bp func171
theorem Fq:bm aw 172:=bp func172
theorem Al:bm aw 173:=bp func173
theorem Fs:bm aw 174:=bp func174
theorem OZ:bm aw 175:=bp func175
theorem uq:bm aw 176:=bp func176
theorem O0:bm aw 177:=bp func177
theorem Am:bm aw 178:=bp func178
theorem O1:bm aw 179:=bp func179
theorem xf:bm aw 180:=bp func180
theorem Ft:bm aw 181:=bp func181
theorem O2:bm aw 182:=bp func182
theorem O3:bm aw 183:=bp func183
theorem An:bm aw 184:=bp func184
theorem O4:bm aw 185:=bp func185
theorem Fu:bm aw 186:=bp func186
theorem O5:bm aw 187:=bp func187
theorem Fv:bm aw 188:=bp func188
theorem Fw:bm aw 189:=bp func189
theorem Fy:bm aw 19:=bp func19
theorem O6:bm aw 190:=bp func190
theorem Ao:bm aw 191:=bp func191
theorem Fz:bm aw 192:=bp func192
theorem Ap:bm aw 193:=bp func193
theorem O7:bm aw 194:=bp func194
theorem Aq:bm aw 195:=bp func195
theorem xg:bm aw 196:=bp func196
theorem Ar:bm aw 197:=bp func197
theorem FA:bm aw 198:=bp func198
theorem FB:bm aw 199:=bp func199
theorem As:bm aw 20:=bp func20
theorem FC:bm aw 200:=bp func200
theorem O8:bm aw 201:=bp func201
theorem O9:bm aw 202:=bp func202
theorem FD:bm aw 203:=bp func203
theorem FE:bm aw 204:=bp func204
theorem FF:bm aw 205:=bp func205
theorem Pa:bm aw 206:=bp func206
theorem Pb:bm aw 207:=bp func207
theorem Au:bm aw 208:=bp func208
theorem FG:bm aw 209:=bp func209
theorem Av:bm aw 210:=bp func210
theorem Aw:bm aw 211:=bp func211
theorem Pc:bm aw 212:=bp func212
theorem Pd:bm aw 213:=bp func213
theorem Pe:bm aw 227:=bp func227
theorem Pf:bm aw 228:=bp func228
theorem Pg:bm aw 232:=bp func232
theorem Ph:bm aw 233:=bp func233
theorem Pj:bm aw 234:=bp func234
theorem FH:bm aw 235:=bp func235
theorem Pk:bm aw 236:=bp func236
theorem Ax:bm aw 237:=bp func237
theorem Pl:bm aw 238:=bp func238
theorem Pm:bm aw 239:=bp func239
theorem qh:bm aw 24:=bp func24
theorem Po:bm aw 240:=bp func240
theorem FI:bm aw 241:=bp func241
theorem FJ:bm aw 242:=bp func242
theorem Pp:bm aw 243:=bp func243
theorem FK:bm aw 244:=bp func244
theorem Pq:bm aw 245:=bp func245
theorem Pr:bm aw 246:=bp func246
theorem Ps:bm aw 247:=bp func247
theorem Pt:bm aw 248:=bp func248
theorem Pu:bm aw 249:=bp func249
theorem FL:bm aw 25:=bp func25
theorem Pv:bm aw 250:=bp func250
theorem Ay:bm aw 251:=bp func251
theorem FM:bm aw 258:=bp func258
theorem Az:bm aw 259:=bp func259
theorem FN:bm aw 260:=bp func260
theorem Pw:bm aw 261:=bp func261
theorem Px:bm aw 262:=bp func262
theorem FO:bm aw 263:=bp func263
theorem FP:bm aw 264:=bp func264
theorem Py:bm aw 265:=bp func265
theorem AA:bm aw 266:=bp func266
theorem Pz:bm aw 267:=bp func267
theorem AB:bm aw 268:=bp func268
theorem FQ:bm aw 269:=bp func269
theorem PA:bm aw 270:=bp func270
theorem AD:bm aw 273:=bp func273
theorem AE:bm aw 274:=bp func274
theorem PB:bm aw 275:=bp func275
theorem PC:bm aw 279:=bp func279
theorem FR:bm aw 280:=bp func280
theorem PD:bm aw 281:=bp func281
theorem PE:bm aw 282:=bp func282
theorem PF:bm aw 283:=bp func283
theorem PG:bm aw 284:=bp func284
theorem PH:bm aw 285:=bp func285
theorem PI:bm aw 286:=bp func286
theorem PJ:bm aw 287:=bp func287
theorem PK:bm aw 288:=bp func288
theorem lV:bm aw 289:=bp func289
theorem PL:bm aw 290:=bp func290
theorem PM:bm aw 291:=bp func291
theorem PN:bm aw 294:=bp func294
theorem PO:bm aw 297:=bp func297
theorem PQ:bm aw 298:=bp func298
theorem FT:bm aw 299:=bp func299
theorem AF:bm aw 300:=bp func300
theorem FU:bm aw 301:=bp func301
theorem PR:bm aw 302:=bp func302
theorem FV:bm aw 304:=bp func304
theorem AG:bm aw 308:=bp func308
theorem PS:bm aw 38:=bp func38
theorem PT:bm aw 39:=bp func39
theorem AH:bm aw 40:=bp func40
theorem PU:bm aw 41:=bp func41
theorem PV:bm aw 42:=bp func42
theorem PW:bm aw 45:=bp func45
theorem PX:bm aw 46:=bp func46
theorem PY:bm aw 47:=bp func47
theorem PZ:bm aw 48:=bp func48
theorem P0:bm aw 49:=bp func49
theorem P1:bm aw 50:=bp func50
theorem q9:bm aw 51:=bp func51
theorem P2:bm aw 52:=bp func52
theorem P3:bm aw 53:=bp func53
theorem P4:bm aw 54:=bp func54
theorem P5:bm aw 55:=bp func55
theorem FW:bm aw 57:=bp func57
theorem AI:bm aw 59:=bp func59
theorem P6:bm aw 61:=bp func61
theorem P7:bm aw 64:=bp func64
theorem AJ:bm aw 70:=bp func70
theorem P8:bm aw 71:=bp func71
theorem P9:bm aw 72:=bp func72
theorem Qa:bm aw 73:=bp func73
theorem Qb:bm aw 74:=bp func74
theorem AK:bm aw 75:=bp func75
theorem Qc:bm aw 76:=bp func76
theorem AL:bm aw 77:=bp func77
theorem Qd:bm aw 78:=bp func78
theorem Qe:bm aw 79:=bp func79
theorem FX:bm aw 80:=bp func80
theorem FY:bm aw 81:=bp func81
theorem Qf:bm aw 82:=bp func82
theorem Qg:bm aw 83:=bp func83
theorem FZ:bm aw 84:=bp func84
theorem iy:bm aw 85:=bp func85
theorem Qh:bm aw 86:=bp func86
theorem sH:bm aw 87:=bp func87
theorem Qi:bm aw 88:=bp func88
theorem Qj:bm aw 89:=bp func89
theorem Qk:bm aw 90:=bp func90
theorem AM:bm aw 91:=bp func91
theorem xh:bm aw 93:=bp func93
theorem Ql:bm aw 94:=bp func94
theorem F1:bm aw 95:=bp func95
theorem F3:bm aw 96:=bp func96
theorem F4:bm aw 97:=bp func97
theorem AN:bm aw 99:=bp func99
theorem Q6:∀ (l:List UInt8) (c:UInt8) (w:World),(callFunc 307 #[str l,.int .u8 c.toNat]).run aw w= .ok (.value<|.int .i64 (l.count c:Nat)) w:=Xm func307 aj aj aj aj
theorem Rv:∀ v w,(callFunc 158 #[v]).run aw w= .ok (.value v) w:=fun v w=>aj
theorem xq:eo aw 106=some 3:=aj
theorem ri:eo aw 131=some 5:=aj
theorem Rx:eo aw 152=some 1:=aj
theorem Ry:eo aw 153=some 1:=aj
theorem Rz:eo aw 158=some 1:=aj
theorem ow:eo aw 169=some 2:=aj
theorem AY:eo aw 174=some 8:=aj
theorem RA:eo aw 176=some 1:=aj
theorem RB:eo aw 177=some 1:=aj
theorem RC:eo aw 178=some 1:=aj
theorem Gs:eo aw 179=some 1:=aj
theorem Gt:eo aw 187=some 1:=aj
theorem RD:eo aw 202=some 2:=aj
theorem Gu:eo aw 209=some 2:=aj
theorem qi:eo aw 242=some 5:=aj
theorem Gv:eo aw 268=some 1:=aj
theorem RE:eo aw 27=some 1:=aj
theorem qj:eo aw 270=some 1:=aj
theorem gB:eo aw 3=some 1:=aj
theorem pj:eo aw 325=some 4:=aj
theorem Gx:eo aw 34=some 1:=aj
theorem xr:eo aw 340=some 1:=aj
theorem sL:eo aw 4=some 1:=aj
theorem xu:eo aw 41=some 5:=aj
theorem jU:eo aw 47=some 3:=aj
theorem gn:eo aw 51=some 1:=aj
theorem RF:eo aw 52=some 5:=aj
theorem Gy:eo aw 53=some 1:=aj
theorem Gz:eo aw 54=some 1:=aj
theorem GA:eo aw 55=some 1:=aj
theorem GB:eo aw 56=some 1:=aj
theorem AZ:eo aw 58=some 13:=aj
theorem A0:eo aw 60=some 1:=aj
theorem GC:eo aw 62=some 1:=aj
theorem sM:eo aw 70=some 1:=aj
theorem ku:eo aw 72=some 2:=aj
theorem A1:eo aw 75=some 1:=aj
theorem pk:eo aw 77=some 7:=aj
theorem GD:eo aw 87=some 1:=aj
theorem kM:eo aw 9=some 1:=aj
theorem lX:gv aw 153=some 1:=aj
theorem SE:gv aw 177=some 1:=aj
theorem xE:gv aw 178=some 5:=aj
theorem nE:gv aw 179=some 8:=aj
theorem sS:gv aw 187=some 2:=aj
theorem G4:gv aw 217=some 1:=aj
theorem nG:gv aw 230=some 2:=aj
theorem G5:gv aw 268=some 4:=aj
theorem Bb:gv aw 27=some 5:=aj
theorem G6:gv aw 30=some 2:=aj
theorem G7:gv aw 304=some 1:=aj
theorem SF:gv aw 34=some 5:=aj
theorem Bc:gv aw 54=some 1:=aj
theorem SG:gv aw 55=some 5:=aj
theorem m5:gv aw 56=some 7:=aj
theorem Be:gv aw 62=some 2:=aj
theorem bY:gv aw 70=some 1:=aj
theorem kb:gv aw 75=some 1:=aj
theorem cI:gv aw 87=some 1:=aj
theorem SL:Bl aw 58 8=some 12:=aj
theorem S3:bW aw 111 0=some 0:=aj
theorem S4:bW aw 111 1=some 1:=aj
theorem xP:bW aw 111 3=some 3:=aj
theorem xQ:bW aw 111 4=some 4:=aj
theorem sU:bW aw 111 5=some 5:=aj
theorem sV:bW aw 111 6=some 6:=aj
theorem Bz:bW aw 111 7=some 7:=aj
theorem gG:bW aw 125 0=some 0:=aj
theorem HF:bW aw 125 1=some 13:=aj
theorem BA:bW aw 131 0=some 0:=aj
theorem uF:bW aw 131 1=some 1:=aj
theorem HG:bW aw 131 2=some 2:=aj
theorem HH:bW aw 131 3=some 3:=aj
theorem xR:bW aw 131 4=some 4:=aj
theorem BB:bW aw 155 0=some 0:=aj
theorem xS:bW aw 155 1=some 1:=aj
theorem S5:bW aw 169 0=some 0:=aj
theorem S6:bW aw 169 1=some 1:=aj
theorem uG:bW aw 174 0=some 0:=aj
theorem S7:bW aw 174 1=some 1:=aj
theorem S8:bW aw 174 2=some 2:=aj
theorem sW:bW aw 174 3=some 3:=aj
theorem BC:bW aw 174 4=some 4:=aj
theorem BD:bW aw 174 5=some 5:=aj
theorem uH:bW aw 174 6=some 6:=aj
theorem HI:bW aw 174 7=some 7:=aj
theorem sX:bW aw 181 0=some 0:=aj
theorem S9:bW aw 181 1=some 1:=aj
theorem Ta:bW aw 181 2=some 2:=aj
theorem sY:bW aw 181 3=some 3:=aj
theorem Tb:bW aw 181 4=some 8:=aj
theorem HJ:bW aw 181 5=some 9:=aj
theorem uI:bW aw 181 6=some 10:=aj
theorem pz:bW aw 181 7=some 11:=aj
theorem jL:bW aw 181 8=some 12:=aj
theorem sZ:bW aw 183 0=some 0:=aj
theorem uJ:bW aw 183 1=some 1:=aj
theorem BE:bW aw 183 2=some 2:=aj
theorem BG:bW aw 183 3=some 3:=aj
theorem HK:bW aw 183 4=some 4:=aj
theorem HL:bW aw 183 5=some 5:=aj
theorem xT:bW aw 186 0=some 0:=aj
theorem HM:bW aw 186 1=some 1:=aj
theorem ic:bW aw 195 0=some 0:=aj
theorem uK:bW aw 195 1=some 1:=aj
theorem uL:bW aw 195 2=some 2:=aj
theorem Tc:bW aw 195 3=some 3:=aj
theorem s5:bW aw 195 4=some 4:=aj
theorem BH:bW aw 195 5=some 5:=aj
theorem BI:bW aw 195 6=some 6:=aj
theorem HN:bW aw 202 0=some 0:=aj
theorem HO:bW aw 202 1=some 1:=aj
theorem xU:bW aw 209 0=some 0:=aj
theorem uM:bW aw 209 1=some 1:=aj
theorem lI:bW aw 236 0=some 0:=aj
theorem BJ:bW aw 236 1=some 1:=aj
theorem oA:bW aw 236 2=some 2:=aj
theorem Td:bW aw 236 3=some 3:=aj
theorem pA:bW aw 236 4=some 4:=aj
theorem pB:bW aw 236 5=some 5:=aj
theorem s6:bW aw 237 0=some 0:=aj
theorem uN:bW aw 237 1=some 1:=aj
theorem BK:bW aw 242 0=some 0:=aj
theorem xV:bW aw 242 1=some 1:=aj
theorem HP:bW aw 242 2=some 2:=aj
theorem mq:bW aw 270 0=some 0:=aj
theorem m6:bW aw 32 0=some 0:=aj
theorem xW:bW aw 32 1=some 1:=aj
theorem Te:bW aw 349 0=some 0:=aj
theorem xX:bW aw 41 0=some 0:=aj
theorem HQ:bW aw 41 1=some 1:=aj
theorem rl:bW aw 41 2=some 2:=aj
theorem qn:bW aw 41 3=some 3:=aj
theorem rm:bW aw 41 4=some 4:=aj
theorem xY:bW aw 43 0=some 0:=aj
theorem HR:bW aw 43 1=some 1:=aj
theorem xZ:bW aw 43 2=some 2:=aj
theorem x3:bW aw 43 3=some 3:=aj
theorem rp:bW aw 43 4=some 4:=aj
theorem s7:bW aw 58 0=some 0:=aj
theorem Tf:bW aw 58 1=some 1:=aj
theorem Th:bW aw 58 2=some 2:=aj
theorem x4:bW aw 58 3=some 3:=aj
theorem BL:bW aw 58 4=some 8:=aj
theorem x5:bW aw 58 5=some 9:=aj
theorem pC:bW aw 58 6=some 10:=aj
theorem s8:bW aw 58 7=some 11:=aj
theorem nH:bW aw 58 8=some 12:=aj
theorem BM:bW aw 64 0=some 0:=aj
theorem Ti:bW aw 64 1=some 1:=aj
theorem uO:bW aw 64 2=some 2:=aj
theorem BN:bW aw 64 3=some 15:=aj
theorem BO:bW aw 72 0=some 0:=aj
theorem rq:bW aw 72 1=some 1:=aj
theorem HS:bW aw 77 0=some 0:=aj
theorem uP:bW aw 77 2=some 2:=aj
theorem s9:bW aw 77 3=some 3:=aj
theorem BQ:bW aw 77 4=some 4:=aj
theorem HT:bW aw 77 5=some 5:=aj
theorem qo:bW aw 77 6=some 6:=aj
theorem Uz:(aw.info? 155).isSome=true :=aj
theorem UN:∀ (l:List UInt8) (c:UInt8) (w:World),(callFunc 292 #[str l,.int .u8 c.toNat]).run aw w= .ok (.value<|.int .i64<|e8 c l) w:=Xn func292 aj aj aj aj
theorem rv:oh aw 51 (pE .u16):=UZ (q:= .u16) aj
theorem je:oh aw 9 jn:=U0 aj
theorem Cv:rD aw 47=true :=aj
theorem Wx:ptrTo aw 227 5=true :=aj
theorem ik:fY aw 153 5 1 1=true :=aj
theorem KF:fY aw 176 369 2 32=true :=aj
theorem KG:fY aw 177 75 1 24=true :=aj
theorem KH:fY aw 178 242 5 40=true :=aj
theorem yO:fY aw 179 174 8 104=true :=aj
theorem KI:fY aw 187 209 2 32=true :=aj
theorem yP:fY aw 230 237 2 32=true :=aj
theorem yQ:fY aw 268 325 4 32=true :=aj
theorem KJ:fY aw 27 41 5 48=true :=aj
theorem KK:fY aw 30 169 2 40=true :=aj
theorem KL:fY aw 304 349 1 16=true :=aj
theorem KM:fY aw 34 43 5 48=true :=aj
theorem yR:fY aw 53 128 2 32=true :=aj
theorem yS:fY aw 54 70 1 24=true :=aj
theorem yT:fY aw 55 131 5 40=true :=aj
theorem yU:fY aw 56 77 7 88=true :=aj
theorem yV:fY aw 62 72 2 40=true :=aj
theorem yW:fY aw 70 51 1 2=true :=aj
theorem nd:fY aw 75 3 1 8=true :=aj
theorem fN:fY aw 87 9 1 16=true :=aj
theorem Di:gS aw 106=some ([(0,1),(1,1),(2,1)],[.int .i64 0,.int .i64 0,.int .i64 0]):=aj
theorem XU:gS aw 111=some ([(0,1),(1,1),(2,1),(3,1),(4,1),(5,1),(6,1),(7,1)],[.bool false,.bool false,.string ⟨⟨[]⟩⟩,.int .i64 0,.int .i64 0,.int .i64 0,.int .i64 0,.slice none 0 0]):=aj
theorem XV:gS aw 125=some ([(0,13),(13,1)],[.int .i64 0,.string ⟨⟨[]⟩⟩,.string ⟨⟨[]⟩⟩,.int .u16 0,.int .u16 0,.int .u16 0,.int .u16 0,.int .u16 0,.int .i64 0,.slice none 0 0,.slice none 0 0,.slice none 0 0,.slice none 0 0,.map none]):=aj
theorem XW:gS aw 128=some ([(0,1),(1,1)],[.string ⟨⟨[]⟩⟩,.string ⟨⟨[]⟩⟩]):=aj
theorem Dj:gS aw 131=some ([(0,1),(1,1),(2,1),(3,1),(4,1)],[.int .u16 0,.int .i64 0,.bool false,.int .i64 0,.int .i64 0]):=aj
theorem pL:gS aw 169=some ([(0,1),(1,1)],[.string ⟨⟨[]⟩⟩,.slice none 0 0]):=aj
theorem KS:gS aw 174=some ([(0,1),(1,1),(2,1),(3,1),(4,1),(5,1),(6,1),(7,1)],[.int .i64 0,.int .i64 0,.bool false,.string ⟨⟨[]⟩⟩,.string ⟨⟨[]⟩⟩,.string ⟨⟨[]⟩⟩,.slice none 0 0,.int .i64 0]):=aj
theorem XX:gS aw 181=some ([(0,1),(1,1),(2,1),(3,5),(8,1),(9,1),(10,1),(11,1),(12,1)],[.int .i64 0,.string ⟨⟨[]⟩⟩,.string ⟨⟨[]⟩⟩,.int .i64 0,.int .i64 0,.int .i64 0,.int .i64 0,.int .i64 0,.int .i64 0,.slice none 0 0,.slice none 0 0,.slice none 0 0,.slice none 0 0]):=aj
theorem XY:gS aw 183=some ([(0,1),(1,1),(2,1),(3,1),(4,1),(5,1)],[.pointer none,.slice none 0 0,.int .i64 0,.string ⟨⟨[]⟩⟩,.slice none 0 0,.nilFunc]):=aj
theorem XZ:gS aw 186=some ([(0,1),(1,1)],[.slice none 0 0,.map none]):=aj
theorem X2:gS aw 195=some ([(0,1),(1,1),(2,1),(3,1),(4,1),(5,1),(6,1)],[.pointer none,.slice none 0 0,.int .i64 0,.int .i64 0,.map none,.map none,.slice none 0 0]):=aj
theorem mH:gS aw 202=some ([(0,1),(1,1)],[.int .i64 0,.nilFunc]):=aj
theorem X3:gS aw 209=some ([(0,1),(1,1)],[.int .i64 0,.slice none 0 0]):=aj
theorem X4:gS aw 236=some ([(0,1),(1,1),(2,1),(3,1),(4,1),(5,1)],[.pointer none,.slice none 0 0,.int .i64 0,.int .i64 0,.slice none 0 0,.int .i64 0]):=aj
theorem KU:gS aw 237=some ([(0,1),(1,1)],[.int .i64 0,.slice none 0 0]):=aj
theorem KV:gS aw 242=some ([(0,1),(1,1),(2,1),(3,1),(4,1)],[.int .i64 0,.int .i64 0,.bool false,.int .i64 0,.int .i64 0]):=aj
theorem vz:gS aw 270=some ([(0,1)],[.slice none 0 0]):=aj
theorem X5:gS aw 32=some ([(0,1),(1,1)],[.pointer none,.slice none 0 0]):=aj
theorem X6:gS aw 349=some ([(0,1)],[.string ⟨⟨[]⟩⟩]):=aj
theorem X7:gS aw 369=some ([(0,1),(1,1)],[.string ⟨⟨[]⟩⟩,.string ⟨⟨[]⟩⟩]):=aj
theorem KW:gS aw 41=some ([(0,1),(1,1),(2,1),(3,1),(4,1)],[.string ⟨⟨[]⟩⟩,.int .i64 0,.int .i64 0,.int .i64 0,.int .i64 0]):=aj
theorem Dk:gS aw 43=some ([(0,1),(1,1),(2,1),(3,1),(4,1)],[.string ⟨⟨[]⟩⟩,.int .i64 0,.int .i64 0,.int .i64 0,.int .i64 0]):=aj
theorem tq:gS aw 47=some ([(0,1),(1,1),(2,1)],[.int .i64 0,.int .i64 0,.int .i64 0]):=aj
theorem X8:gS aw 64=some ([(0,1),(1,1),(2,13),(15,1)],[.pointer none,.pointer none,.int .i64 0,.string ⟨⟨[]⟩⟩,.string ⟨⟨[]⟩⟩,.int .u16 0,.int .u16 0,.int .u16 0,.int .u16 0,.int .u16 0,.int .i64 0,.slice none 0 0,.slice none 0 0,.slice none 0 0,.slice none 0 0,.slice none 0 0]):=aj
theorem nR:gS aw 72=some ([(0,1),(1,1)],[.string ⟨⟨[]⟩⟩,.slice none 0 0]):=aj
theorem Dl:gS aw 77=some ([(0,1),(1,1),(2,1),(3,1),(4,1),(5,1),(6,1)],[.int .i64 0,.int .u16 0,.bool false,.string ⟨⟨[]⟩⟩,.string ⟨⟨[]⟩⟩,.string ⟨⟨[]⟩⟩,.slice none 0 0]):=aj
theorem rO:aw.underlying 123=some (.map 51 3):=aj
theorem Ls:aw.underlying 152=some (.pointer 155):=aj
theorem mK:aw.underlying 153=some (.slice 5):=aj
theorem Lu:aw.underlying 177=some (.slice 75):=aj
theorem Ds:aw.underlying 178=some (.slice 242):=aj
theorem tx:aw.underlying 179=some (.slice 174):=aj
theorem Lv:aw.underlying 184=some (.map 9 75):=aj
theorem y2:aw.underlying 187=some (.slice 209):=aj
theorem qI:aw.underlying 193=some (.map 9 3):=aj
theorem l8:aw.underlying 197=some (.map 9 202):=aj
theorem Lw:aw.underlying 217=some (.slice 51):=aj
theorem vC:aw.underlying 22=some (.pointer 64):=aj
theorem Lx:aw.underlying 226=some (.int .u64):=aj
theorem Dt:aw.underlying 23=some (.pointer 32):=aj
theorem y3:aw.underlying 230=some (.slice 237):=aj
theorem qJ:aw.underlying 268=some (.slice 325):=aj
theorem Ly:aw.underlying 27=some (.slice 41):=aj
theorem u3:aw.underlying 3=some (.int .i64):=aj
theorem Du:aw.underlying 30=some (.slice 169):=aj
theorem rP:aw.underlying 304=some (.slice 349):=aj
theorem vD:aw.underlying 34=some (.slice 43):=aj
theorem YA:aw.underlying 340=some (.int .u64):=aj
theorem u4:aw.underlying 4=some (.bool):=aj
theorem u5:aw.underlying 5=some (.int .u8):=aj
theorem y4:aw.underlying 51=some (.int .u16):=aj
theorem YB:aw.underlying 53=some (.slice 128):=aj
theorem y5:aw.underlying 54=some (.slice 70):=aj
theorem Lz:aw.underlying 55=some (.slice 131):=aj
theorem vE:aw.underlying 56=some (.slice 77):=aj
theorem vF:aw.underlying 60=some (.pointer 125):=aj
theorem LA:aw.underlying 61=some (.pointer 186):=aj
theorem y6:aw.underlying 62=some (.slice 72):=aj
theorem oJ:aw.underlying 70=some (.slice 51):=aj
theorem ng:aw.underlying 75=some (.slice 3):=aj
theorem eV:aw.underlying 87=some (.slice 9):=aj
theorem u9:aw.underlying 9=some (.string):=aj
theorem LD:vG aw 152 279 155 2=true :=aj
theorem YK:(aw.underlying 158).isSome=true :=aj
theorem YL:(aw.underlying 226).isSome=true :=aj
theorem qK:(aw.underlying 3).isSome=true :=aj
theorem pO:(aw.underlying 5).isSome=true :=aj
theorem wide:aw.follows .mixedOrders=true :=aj
theorem L4:zeroOf aw 106=some (some [.int .i64 0,.int .i64 0,.int .i64 0]):=aj
theorem tG:zeroOf aw 131=some (some [.int .u16 0,.int .i64 0,.bool false,.int .i64 0,.int .i64 0]):=aj
theorem L5:zeroOf aw 155=some (some [.pointer none,.slice none 0 0]):=aj
theorem L7:zeroOf aw 169=some (some [.string ⟨⟨[]⟩⟩,.slice none 0 0]):=aj
theorem DG:zeroOf aw 174=some (some [.int .i64 0,.int .i64 0,.bool false,.string ⟨⟨[]⟩⟩,.string ⟨⟨[]⟩⟩,.string ⟨⟨[]⟩⟩,.slice none 0 0,.int .i64 0]):=aj
theorem Zf:zeroOf aw 187=some (some [.slice none 0 0]):=aj
theorem Zg:zeroOf aw 202=some (some [.int .i64 0,.nilFunc]):=aj
theorem L8:zeroOf aw 209=some (some [.int .i64 0,.slice none 0 0]):=aj
theorem rR:zeroOf aw 242=some (some [.int .i64 0,.int .i64 0,.bool false,.int .i64 0,.int .i64 0]):=aj
theorem Zh:zeroOf aw 27=some (some [.slice none 0 0]):=aj
theorem zg:zeroOf aw 270=some (some [.slice none 0 0]):=aj
theorem DH:zeroOf aw 3=some (some [.int .i64 0]):=aj
theorem rS:zeroOf aw 325=some (some [.int .u64 0,.int .u64 0,.int .u64 0,.int .u64 0]):=aj
theorem L9:zeroOf aw 34=some (some [.slice none 0 0]):=aj
theorem Zi:zeroOf aw 340=some (some [.int .u64 0]):=aj
theorem Ma:zeroOf aw 4=some (some [.bool false]):=aj
theorem zh:zeroOf aw 41=some (some [.string ⟨⟨[]⟩⟩,.int .i64 0,.int .i64 0,.int .i64 0,.int .i64 0]):=aj
theorem pT:zeroOf aw 47=some (some [.int .i64 0,.int .i64 0,.int .i64 0]):=aj
theorem Zj:zeroOf aw 52=some (some [.int .u16 0,.int .u16 0,.int .u16 0,.int .u16 0,.int .u16 0]):=aj
theorem Mb:zeroOf aw 58=some (some [.int .i64 0,.string ⟨⟨[]⟩⟩,.string ⟨⟨[]⟩⟩,.int .u16 0,.int .u16 0,.int .u16 0,.int .u16 0,.int .u16 0,.int .i64 0,.slice none 0 0,.slice none 0 0,.slice none 0 0,.slice none 0 0]):=aj
theorem Zk:zeroOf aw 60=some (some [.pointer none]):=aj
theorem qL:zeroOf aw 72=some (some [.string ⟨⟨[]⟩⟩,.slice none 0 0]):=aj
theorem rT:zeroOf aw 77=some (some [.int .i64 0,.int .u16 0,.bool false,.string ⟨⟨[]⟩⟩,.string ⟨⟨[]⟩⟩,.string ⟨⟨[]⟩⟩,.slice none 0 0]):=aj
theorem Zl:zeroOf aw 87=some (some [.slice none 0 0]):=aj
theorem Zm:zeroOf aw 9=some (some [.string ⟨⟨[]⟩⟩]):=aj
theorem Zn:zeroOf aw 351=some (some<|List.replicate 256<|.bool false):=aj
theorem Zo:zeroV aw 202=some (.agg #[.int .i64 0,.nilFunc]):=aj
theorem oO:zeroV aw 3=some (.int .i64 0):=aj
theorem Zp:zeroV aw 47=some (.agg #[.int .i64 0,.int .i64 0,.int .i64 0]):=aj
theorem Zq:zeroV aw 5=some (.int .u8 0):=aj
theorem Zr:zeroV aw 51=some (.int .u16 0):=aj
theorem Zs:zeroV aw 75=some (.slice none 0 0):=aj
end Go.Hb.dX
section
namespace Go.Hb
open Go.Hb.dX
theorem Rf (b:Nat) (i:Option Addr) (A:Value) (w:World) (a:w.heap[b]? =some (.cells [zt i,A].toArray 155 (0,0))) (hp:i=none∨i=some ⟨b,0,none⟩):
 bo aw 109 (bh [aR b]) w (fun v w'=>v= .tuple #[]∧w'.heap[b]? =some (.cells [zt (some ⟨b,0,none⟩),A].toArray 155 (0,0))∧Md (fun k=>k=b) w w'):=by
 refine enter func109 aa ntmps109 aa<|ag fun C=>au (aR b)<|p (nc aa)<|p (fa BB aa)<|p (ld EH aa<|(a7 a).trans aa)<|p (m4 Ls aa aa)<|nl<|C<|cb aa (fun q=> ?_) fun q=> ?_
 obtain rfl :i=none:=by simpa using q
 exact rg aa<|au (aR b)<|au (aR b)<|p (Ys LD aa a aa)<|p (Q4 Rv aa)<|p (Tl LD aa a aa)<|p (nc aa)<|p (fa BB aa)<|e<|cJ Rx aa aa aa a (by simp) fun J I G=>nl<|f0 aa<|⟨aa,G,I⟩
 obtain rfl :i=some ⟨b,0,none⟩:=hp.resolve_left<|by rintro rfl; simp at q
 exact ag fun E=>au (aR b)<|p (nc aa)<|p (fa BB aa)<|p (ld EH aa<|(a7 a).trans aa)<|au (aR b)<|p (VG Ls Uz aa aa)<|nl<|E<|cf aa<|aO<|f0 aa<|⟨aa,a,Md.refl _ _⟩
theorem LY (b:Nat) (i:Value) (l:List UInt8) (c:UInt8) (w:World) (ak:Bd 155 5 w b i l) (az:l.length≤70368744177664):
 bo aw 203 (bh [aR b,.int .u8 c.toNat]) w (fun v w'=>v= .nilIface∧∃ E,Bd 155 5 w' b E (l++ [c])∧Md (BF b i) w w'∧∀ k,BF b E k→BF b i k∨w.heap.size≤k):=by
 obtain ⟨⟨ar,M,ao⟩,hown,hnil⟩:=ak
 have aA:b < w.heap.size:=(Array.getElem?_eq_some_iff.1 M).1
 have O:∀ k,i.ownBlock=some k→k≠b∧k < w.heap.size:=fun k hk=>by have :=hown.lt k hk; exact ⟨ab,this.2⟩
 refine enter func203 aa ntmps203 aa<|ag fun V=>ay<|V<|ag fun Y=>au (aR b)<|e<|cl OB (Rf b ar i w M ao) aa fun v6 aG aj=> ?_
 obtain ⟨_,J,A⟩:=aj
 have an:=cX hown A fun k hk=>(O k hk).1
 have aC:=A.size
 refine nl<|Y<|ag fun Z=>au (aR b)<|au (aR b)<|p (nc aa)<|p (fa xS aa)<|p (ld zS aa<|(a7 J).trans aa)<|au (.int .u8 c.toNat)<|e<|fU ik aa aa fun av aD ax q ah=>e<|ap ik (aW an q.md) aa (by have :=q.size; omega) aa (aJ.dZ ah) (aa) (aa) ab ab fun U aE C G aq am=> ?_
 have al:=G.aM (Wk.aM q.md J) fun h=>(O b h).1 rfl
 refine p (nc aa)<|p (fa xS aa)<|e<|cJ Ry aa aa (by obtain ⟨a,c,h,_⟩:=ti C; exact congrArg Value.oneCell' h) al (by simp) fun aF I ai=>nl<|Z<|ag fun ac=>p aB<|nl<|ac<|rt<|aX aa ?_
 have ae:∀ k,U.ownBlock=some k→k≠b:=fun k hk=>by have :=C.lt k hk; omega
 refine ⟨aa,U,⟨⟨_,ai,.inr aa⟩,?_,?_⟩,?_,?_⟩
 rw [bL,wz]; exact cX C I fun k hk=>ae k hk
 rw [aq]; simp
 refine Md.trans' (Md.trans' (Md.trans' (A.mono fun k _ h=> .inl h) q.md fun _ _ h=>h.elim) G fun k _ h=> .inr h) I fun k _ h=> .inl h
 rintro k (rfl | hk)
 exact .inl<|.inl aa
 by_cases h:i.ownBlock=some k
 exact .inl<|.inr h
 have :=am k hk; have h1:=A.size; have h2:=q.md.size; exact .inr<|by rcases this with h3 | h3; exact absurd h3 h; omega
theorem Dn (b:Nat) (C:Value) (l:List UInt8) (w:World) (M:Bd 155 5 w b C l) (Y:l.length≤70368744177664):
 bo aw 70 (bh [aR b]) w (fun v w'=>v=str l∧Md (fun k=>C.ownBlock=some k) w w'):=by
 obtain ⟨⟨ae,E,Z⟩,hown,hnil⟩:=M
 obtain ⟨a,c,rfl,U,hle,hk,V⟩:=ti hown
 refine enter func70 aa ntmps70 aa<|ag fun G=>ay<|G<|aC fun I=> ?_
 have i:(fun w'=>Md (fun k=>(bR a l.length c).ownBlock=some k) w w') w.drew:=(Md.refl _ _).drew
 refine bM (fun w'=>Md (fun k=>(bR a l.length c).ownBlock=some k) w w') aa wide i<|bH 0 aa (aR b) i<|aE 1 aa (fun _ _=>nc aa) i<|aE 2 aa (fun _ _=>fa xS aa) i<|aE 3 aa (fun w' q=>ld zS aa<|q.aQ ((a7 E).trans aa) fun h=>by have :=hown.lt _ h; omega) i<|bH 5 aa (aR b) i<|aE 6 aa (fun _ _=>nc aa) i<|aE 7 aa (fun _ _=>fa xS aa) i<|aE 8 aa (fun w' q=>ld zS aa<|q.aQ ((a7 E).trans aa) fun h=>by have :=hown.lt _ h; omega) i<|aE 9 aa (fun _ _=>bK mK aa aa) i ?_
 refine aE 4 aa (fun _ _=>YM (v:= .nilFunc) aa (by
  by_cases h:l= []
  have :=hnil.2 h; simp only [Value.slice.injEq] at this; exact .inl this.1
  right; have :0 < l.length:=lx.2 h; omega)) i ?_
 refine he 10 aa aj<|YN Wx aa aa hown aa ab fun O J ac=> ?_
 have A:(fun w'=>Md (fun k=>(bR a l.length c).ownBlock=some k) w w') O:=i.trans' J fun _ _ h=>h
 refine ⟨A,?_⟩
 exact aE 11 aa (fun _ _=>aB) A<|hn aj<|I<|rt<|aX aa<|⟨aa,A⟩
end Go.Hb
end
section
namespace Go.Hb
open Go.Hb.dX
theorem k8 (b:UInt8):rj b=decide ((b.toNat:Int)=92∨(b.toNat:Int)=47∨(b.toNat:Int)=35):=by
 unfold rj; exact decide_eq_decide.2 ab
theorem Bq (b:UInt8):iR b=decide (32 < (b.toNat:Int)∧(b.toNat:Int)≠127):=by
 unfold iR; exact decide_eq_decide.2 ab
theorem SV {b:UInt8} (h:32 < (b.toNat:Int)) (h1:(b.toNat:Int)≠127):iR b=true :=by rw [Bq]; exact decide_eq_true ⟨h,h1⟩
theorem Bp {b:UInt8} (h:¬(32 < (b.toNat:Int)∧(b.toNat:Int)≠127)):iR b=false :=by rw [Bq]; exact decide_eq_false h
theorem Hn (b:UInt8) (w:World):
 bo aw 204 (bh [.int .u8 b.toNat]) w (fun v w'=>v= .bool (iR b)∧Wk w w'):=by
 refine enter func204 aa ntmps204 aa<|ag fun i=>ay<|i<|ag fun a=>au (.int .u8 b.toNat)<|p (gt aa aa)<|p mv<|gs (t:=5) aa (fun q=> ?_) fun q=> ?_
 exact aI aa (aU (.int .u8 b.toNat) aa)<|aI aa (dj aa aa)<|p (bB aa)<|ay<|a<|rt<|aX aa<|⟨by show bT (decide _)=_; rw [Bq]; exact bv (by constructor <;> intro h <;> first | exact ⟨ab,h⟩ | exact h.2),Md.refl _ _⟩
 exact aH aa<|aH aa<|p (bq aa)<|ay<|a<|rt<|aX aa<|⟨by show bT false =_; rw [Bp ab],Md.refl _ _⟩
theorem Vt (b:UInt8) (w:World):
 bo aw 202 (bh [.int .u8 b.toNat]) w (fun v w'=>v= .bool (rj b)∧Wk w w'):=by
 refine enter func202 aa ntmps202 aa<|ag fun E=>ay<|E<|aC fun A=>ag fun G=>au (.int .u8 b.toNat)<|nl<|G<|aM<|aC fun C=>ag fun I=>p (bI aa aa)<|ay<|I<|cd aa (fun a=> ?_) fun a=> ?_
 refine aO<|C<|cd aa (fun a=> ?_) fun a=> ?_
 refine ag fun q=>ay<|q<|rt<|br<|tr<|aX aa ?_
 first | exact ⟨by show bT true =_; rw [k8,decide_eq_true ab],Md.refl _ _⟩ | exact ⟨by show bT false =_; rw [k8,decide_eq_false ab],Md.refl _ _⟩
 refine aO<|bn<|A<|ag fun q=>ay<|q<|rt<|aX aa ?_
 first | exact ⟨by show bT true =_; rw [k8,decide_eq_true ab],Md.refl _ _⟩ | exact ⟨by show bT false =_; rw [k8,decide_eq_false ab],Md.refl _ _⟩
 refine ag fun q=>p (bI aa aa)<|ay<|q<|cd aa (fun a=> ?_) fun a=> ?_
 refine aO<|C<|cd aa (fun a=> ?_) fun a=> ?_
 refine ag fun i=>ay<|i<|rt<|br<|tr<|aX aa ?_
 first | exact ⟨by show bT true =_; rw [k8,decide_eq_true ab],Md.refl _ _⟩ | exact ⟨by show bT false =_; rw [k8,decide_eq_false ab],Md.refl _ _⟩
 refine aO<|bn<|A<|ag fun i=>ay<|i<|rt<|aX aa ?_
 first | exact ⟨by show bT true =_; rw [k8,decide_eq_true ab],Md.refl _ _⟩ | exact ⟨by show bT false =_; rw [k8,decide_eq_false ab],Md.refl _ _⟩
 refine rg aa<|p (bI aa aa)<|ay<|C<|cd aa (fun a=> ?_) fun a=> ?_
 refine ag fun i=>ay<|i<|rt<|br<|tr<|aX aa ?_
 first | exact ⟨by show bT true =_; rw [k8,decide_eq_true ab],Md.refl _ _⟩ | exact ⟨by show bT false =_; rw [k8,decide_eq_false ab],Md.refl _ _⟩
 refine aO<|bn<|A<|ag fun i=>ay<|i<|rt<|aX aa ?_
 first | exact ⟨by show bT true =_; rw [k8,decide_eq_true ab],Md.refl _ _⟩ | exact ⟨by show bT false =_; rw [k8,decide_eq_false ab],Md.refl _ _⟩
theorem LJ (s:List UInt8) (w:World) (hs:s.length≤1048576):
 bo aw 140 (bh [str s]) w (fun v w'=>v= .bool (pP s)∧Wk w w'):=by
 refine enter func140 aa ntmps140 aa<|ag fun Y=>ay<|Y<|aC fun ae=>ag fun J=>au (str s)<|p (dW aa aa)<|p mv<|gs (t:=6) aa (fun G=> ?_) fun G=> ?_
 exact aH aa<|aH aa<|aH aa<|p (bB aa)<|nl<|J<|ct aa<|aC fun a=>rg aa<|ay<|a<|rt<|tr<|aX aa<|⟨by show bT false =_; unfold pP; rw [decide_eq_false (by rw [G]; simp)],Md.refl _ _⟩
 refine aI aa (aU (str s) aa)<|aI aa (cy u9 aa aa)<|aI aa (gt aa aa)<|p (bq aa)<|nl<|J<|cd aa (fun am=> ?_) fun am=> ?_
 exact ag fun a=>ay<|a<|rt<|tr<|aX aa<|⟨by show bT false =_; unfold pP; rw [decide_eq_false ab],Md.refl _ _⟩
 refine aO<|ae<|aC fun a=>ag fun ah=>au (str s)<|p (cy u9 aa aa)<|p mv<|nl<|ah<|aM<|lp (fun M q V=> ∃ (i:Nat),(i≤s.length∧1≤s.length∧s.length≤64)∧(∀ j,j < i→iR (s.getD j 0)=true)∧(Wk w V)∧(q 0=str s)∧(q 12= .int .i64 s.length)∧(q 13= .int .i64 i)∧(s.length - i=M)) _ ⟨0,(⟨ab,by rcases Nat.eq_zero_or_pos s.length with h | h <;> first | exact absurd (wg.1 h) G | exact h,ab⟩),(fun j U=>by omega),(Md.refl _ _),aa,aa,aa,aa⟩ ?_
 rintro M q V ⟨i,hi,hp,C,ao,ap,aq,rfl⟩
 refine fx 0 ao<|fx 12 ap<|fx 13 aq<|ag fun ai=>p (lt aa aa)<|nl<|ai<|aC fun aj=>cd aa (fun an=> ?_) fun an=> ?_
 refine aO<|aj<|aC fun A=>aM<|ag fun ak=>au (.int .i64 i)<|p (cO (.int .i64 i) aa)<|nl<|ak<|ag fun Z=>au (str s)<|au (.int .i64 i)<|p (eQ u9 aa aa ab)<|e<|cl FE (Hn (s.getD i 0) _) aa fun ar av al=> ?_
 obtain ⟨rfl,O⟩:=al
 refine p (no aa)<|nl<|Z<|cb aa (fun E=> ?_) fun E=> ?_
 have I:iR (s.getD i 0)=false :=by simpa using E
 exact ag fun ac=>ay<|ac<|rt<|br<|tr<|tr<|br<|tr<|aX aa<|⟨by show bT false =_; unfold pP; rw [sG (i:=i) ab I,decide_eq_false (by simp)],Md.trans C O⟩
 have I:iR (s.getD i 0)=true :=by simpa using E
 exact aO<|bn<|A<|rg aa<|p (ad aa aa<|bX ab)<|p mv<|nl<|tn<|⟨_,ab,i+1,ab,(fun j U=>by rcases fg j i with h | h <;> first | exact hp j h | (rw [show j=i by omega]; exact I)),(Md.trans C O),aa,aa,aa,aa⟩
 exact ext<|bf<|bf<|be<|a<|ag fun A=>p aB<|nl<|A<|rt<|aX aa<|⟨by show bT true =_; unfold pP; rw [uk (fun j U=>hp j ab),decide_eq_true ⟨hi.2.1,hi.2.2,aa⟩],C⟩
theorem DF (s:List UInt8) (w:World) (hs:s.length≤1048576):
 bo aw 139 (bh [str s]) w (fun v w'=>v=J0 (bA s)∧Wk w w'):=by
 refine enter func139 aa ntmps139 aa<|ag fun an=>p aB<|p aB<|p aB<|ay<|an<|ag fun av=>e<|fi L5 fun a bs bc aT aK=>nl<|av<|aC fun ax=>ag fun aA=>ay<|aA<|aM<|lp (fun al J I=> ∃ (i:Nat) (acc:List UInt8) (q:Value),(i≤s.length∧acc.length≤i)∧(Bd 155 5 I a q acc)∧(Wk w I)∧(jo acc (s.drop i)=bA s)∧(J 0=str s)∧(J 6=aR a)∧(J 7= .int .i64 i)∧(s.length - i=al)) _ ⟨0,[],.slice none 0 0,(by simp),(Bd.new aK),aT.md,aa,aa,aa,aa,aa⟩ ?_
 rintro al J I ⟨i,acc,q,hi,A,C,hd,a5,a6,a7,rfl⟩
 refine fx 0 a5<|fx 6 a6<|fx 7 a7<|aC fun aD=>ag fun aF=>au (.int .i64 i)<|au (str s)<|p (cy u9 aa aa)<|p (lt aa aa)<|nl<|aF<|cd aa (fun a0=> ?_) fun a0=> ?_
 refine aO<|aD<|aC fun V=>aM<|ag fun aG=>au (str s)<|au (.int .i64 i)<|p (eQ u9 aa aa ab)<|nl<|aG<|aM ?_
 refine ej (fun M ah=> ∃ (k:Nat),(k < s.length∧i≤k∧k≤i+1)∧(Bd 155 5 ah a q acc)∧(Wk w ah)∧(jo (acc++ [s.getD k 0]) (s.drop<|k+1)=bA s)∧(M 0=str s)∧(M 6=aR a)∧(M 7= .int .i64 k)) ?_ ?_
 refine aM<|aC fun Y=>aM<|aC fun ao=>aM<|aC fun ap=>aC fun aq=>aC fun ar=>rg aa<|p (bI aa aa)<|ay<|ar<|cd aa (fun a1=> ?_) fun a1=> ?_
 have aZ:(s.getD i 0).toNat=47:=ab
 refine ext<|bf<|bf<|be<|ao<|aC fun ai=>aC fun O=> ?_
 have E:(fun w'=>True) I.drew:=trivial
 refine bM (fun w'=>True) aa wide E<|bH 1 aa (str s) E<|bH 2 aa (.int .i64 i) E<|aE 3 aa (fun _ _=>bG ((i+1:Nat):Int) aa aa<|bl ab ab) E<|aE 4 aa (fun _ _=>l7 u9 aa aa ab) E<|he 0 aa aj<|cl AJ (Dn a q acc _ (A.md (Md.refl (fun _=>False) _).drew fun _ _ h=>h) ab) aa fun v21 bb aV=> ?_
 obtain ⟨rfl,aP⟩:=aV
 have G:(fun w'=>True) bb:=trivial
 refine ⟨G,?_⟩
 refine aE 5 aa (fun _ _=>aB) G<|aE 6 aa (fun _ _=>aB) G<|aE 7 aa (fun _ _=>aB) G<|aE 8 aa (fun _ _=>aB) G<|hn aj<|O<|rt<|tr<|br<|tr<|br<|tr<|br<|br<|tr<|tr<|br<|tr<|f4 aa aa aa aa aa ?_
 skip
 exact ⟨by rw [← hd,drop_cons 0 (by omega :i < s.length),DE aZ]; rfl,A.Dm C (Md.trans (Md.refl _ _).drew aP) ab⟩
 refine aO<|aq<|ag fun ai=>p (bI aa aa)<|ay<|ai<|cd aa (fun a2=> ?_) fun a2=> ?_
 have ac:(s.getD i 0).toNat=92:=ab
 refine ext<|bf<|mV az<|bf<|be<|Y<|ag fun O=>au (.int .i64 i)<|p (bG ((i+1:Nat):Int) aa aa<|bl ab ab)<|ay<|O<|ag fun ak=>p mv<|au (str s)<|p (cy u9 aa aa)<|p (bI aa aa)<|p mv<|gs (t:=32) aa (fun a4=> ?_) fun a4=> ?_
 refine aH aa<|aH aa<|aH aa<|aH aa<|aH aa<|p (bB aa)<|nl<|ak<|ct aa<|ag fun U=>p aB<|p aB<|p aB<|p aB<|nl<|U<|rt<|br<|tr<|br<|br<|tr<|tr ?_
 exact br<|tr<|f4 aa aa aa aa aa<|⟨by rw [← hd,drop_cons 0 (by omega :i < s.length),gV ab,DB ac]; rfl,C⟩
 refine aI aa (aU (str s) aa)<|aI aa mv<|aI aa (eQ u9 aa aa ab)<|eg aa aa aa<|cl O9 (Vt (s.getD (i+1) 0) _) aa fun bg bk aW=> ?_
 obtain ⟨rfl,Z⟩:=aW
 refine aI aa (no aa)<|p (bq aa)<|nl<|ak<|cb aa (fun ae=> ?_) fun ae=> ?_
 exact ag fun U=>p aB<|p aB<|p aB<|ay<|U<|rt<|br<|tr<|br<|br<|tr<|tr<|br<|tr<|f4 aa aa aa aa aa<|⟨by rw [← hd,drop_cons 0 (by omega :i < s.length),drop_cons 0 (by omega :i+1 < s.length),DC ac (by simpa using ae)]; rfl,Md.trans C Z⟩
 exact aO<|bn<|tn<|⟨i+1,ab,(A.md Z fun _ _ h=>h),(Md.trans C Z),(by rw [← hd,drop_cons 0 (by omega :i < s.length),drop_cons 0 (by omega :i+1 < s.length),vI ac (by simpa using ae)]),aa,aa,aa⟩
 exact aO<|ap<|ext<|mV az<|bf<|mV az<|bf<|be<|tn<|⟨i,ab,A,C,(by rw [← hd,drop_cons 0 (by omega :i < s.length),DD ab ab]),aa,aa,aa⟩
 rintro M ah ⟨k,hk,am,aN,a3,a8,a9,ba⟩
 refine fx 0 a8<|fx 6 a9<|fx 7 ba<|ag fun Y=>au (str s)<|au (.int .i64 k)<|p (eQ u9 aa aa ab)<|e<|cl FD (LY a q (acc) (s.getD k 0) _ am ab) aa fun bi bm aX=> ?_
 obtain ⟨rfl,aJ,aL,aQ,bd⟩:=aX
 exact nl<|Y<|ext<|be<|bn<|V<|rg aa<|au (.int .i64 k)<|p (ad aa aa<|bX ab)<|p aB<|nl<|tn<|⟨_,ab,k+1,acc++ [s.getD k 0],aJ,(by rw [bL,e5]; omega),aL,(am.step aN aQ ab),a3,aa,aa,aa,aa⟩
 refine ext<|bf<|bf<|be<|ax<|ag fun V=>e<|cl AJ (Dn a q acc _ A ab) aa fun bj bp aY=> ?_
 obtain ⟨rfl,aS⟩:=aY
 exact p aB<|p aB<|p aB<|ay<|V<|rt<|f4 aa aa aa aa aa<|⟨by rw [← hd,gV ab,ze]; rfl,A.Dm C aS ab⟩
theorem Vc (s:List UInt8) (w:World) (hs:s.length≤1048576):
 bo aw 194 (bh [str s]) w (fun v w'=>v= .tuple #[str (letE s).1,.int .i64 (letE s).2]∧Wk w w'):=by
 refine enter func194 aa ntmps194 aa<|ag fun az=>p aB<|ay<|az<|ag fun aG=>e<|al Zn fun V a9 bb I ao=> ?_
 have aS:bO a9.heap V (marksOf []):=by rw [Vv]; exact ao
 refine nl<|aG<|aC fun aH=>ag fun aI=>au (str s)<|p (dW aa aa)<|nl<|aI<|cd aa (fun ak=> ?_) fun ak=> ?_
 exact ag fun U=>p aB<|ay<|U<|rt<|tr<|f2 aa aa aa<|⟨by show gz #[str [],.int .i64 21]=_; unfold letE; rw [if_pos (.inl ak)]; rfl,I.md⟩
 refine aO<|aH<|ag fun U=>e<|fi L5 fun G bs bd ax aT=>nl<|U<|aC fun aJ=>ag fun aK=>au (str s)<|p (cy u9 aa aa)<|p mv<|nl<|aK<|aM ?_
 have bc:=ao.lt
 refine lp (fun an a M=> ∃ (i:Nat) (q:Value),(i≤s.length)∧(∀ j,j < i→iR (s.getD j 0)=true)∧(bO M.heap V<|marksOf<|lets<|s.take i)∧(Bd 155 5 M G q<|lets<|s.take i)∧(Wk w M)∧(a 0=str s)∧(a 4=aR V)∧(a 5=aR G)∧(a 10= .int .i64 s.length)∧(a 11= .int .i64 i)∧(s.length - i=an)) _ ⟨0,.slice none 0 0,ab,(fun j am=>by omega),(ax.md.B aS),(Bd.new aT),(Md.trans I.md ax.md),aa,aa,aa,aa,aa,aa⟩ ?_
 rintro an a M ⟨i,q,hi,hp,av,Z,ah,a3,a6,a7,a4,a5,rfl⟩
 refine fx 0 a3<|fx 4 a6<|fx 5 a7<|fx 10 a4<|fx 11 a5 ?_
 have a2:=Cn<|s.take i
 rw [dT] at a2
 have bg:=av.lt
 refine ag fun aL=>p (lt aa aa)<|nl<|aL<|aC fun aN=>cd aa (fun a1=> ?_) fun a1=> ?_
 refine aO<|aN<|aC fun E=>aM<|ag fun aA=>au (.int .i64 i)<|p (cO (.int .i64 i) aa)<|nl<|aA<|aC fun aD=>ag fun aE=>au (str s)<|au (.int .i64 i)<|p (eQ u9 aa aa ab)<|e<|cl FE (Hn (s.getD i 0) _) aa fun bk a8 aY=> ?_
 obtain ⟨rfl,A⟩:=aY
 refine p (no aa)<|nl<|aE<|cb aa (fun ai=> ?_) fun ai=> ?_
 have J:iR (s.getD i 0)=false :=by simpa using ai
 exact ag fun O=>p aB<|ay<|O<|rt<|tr<|br<|tr<|tr<|br<|tr<|f2 aa aa aa<|⟨by show gz #[str [],.int .i64 21]=_; unfold letE; rw [if_pos (.inr<|sG ab J)]; rfl,Md.trans ah A⟩
 have J:iR (s.getD i 0)=true :=by simpa using ai
 have ap:Wk w a8:=Md.trans ah A
 have Y:=A.B av
 have ae:=Z.md A fun _ _ h=>h
 have bj:=A.size
 refine aO<|aD<|ag fun O=>au (str s)<|au (.int .i64 i)<|p (eQ u9 aa aa ab)<|p (ke EW aa aa<|by have :=iV (s.getD i 0); omega)<|p (ld k4 aa<|Vx Y _)<|p (no aa)<|nl<|O<|cb aa (fun aj=> ?_) fun aj=> ?_
 have C:¬s.getD i 0∈lets (s.take i):=of_decide_eq_false<|by simpa using aj
 refine ag fun aF=>au (str s)<|au (.int .i64 i)<|p (eQ u9 aa aa ab)<|p (ke EW aa aa<|by have :=iV (s.getD i 0); omega)<|e<|st sL aa aa (aa) (Y) (by rw [Jb]; have :=iV (s.getD i 0); omega) fun ba aq aQ=> ?_
 have aX:=Vy aQ
 have aV:Wk w ba:=Md.trans' ap aq fun k hk h=>by omega
 have ac:=ae.md aq fun k hk h=>by have :=ae.jm hk; omega
 refine nl<|aF<|rg aa<|au (str s)<|au (.int .i64 i)<|p (eQ u9 aa aa ab)<|e<|cl FD (LY G q (lets<|s.take i) (s.getD i 0) _ ac ab) aa fun bl bp aZ=> ?_
 obtain ⟨rfl,aP,aU,ar,bi⟩:=aZ
 exact nl<|bn<|E<|rg aa<|p (ad aa aa<|bX ab)<|p mv<|nl<|tn<|⟨_,ab,i+1,aP,ab,(fun j am=>by rcases fg j i with h | h <;> first | exact hp j h | (rw [show j=i by omega]; exact J)),(by rw [qy ab,if_neg C]; exact ar.B aX fun h=>by have :=ac.jm h; omega),(by rw [qy ab,if_neg C]; exact aU),(ac.step aV ar<|by have :=I.md.size; omega),aa,aa,aa,aa,aa,aa⟩
 have C:s.getD i 0∈lets (s.take i):=by simpa using aj
 exact aO<|bn<|E<|rg aa<|p (ad aa aa<|bX ab)<|p mv<|nl<|tn<|⟨_,ab,i+1,q,ab,(fun j am=>by rcases fg j i with h | h <;> first | exact hp j h | (rw [show j=i by omega]; exact J)),(by rw [qy ab,if_pos C]; exact Y),(by rw [qy ab,if_pos C]; exact ae),ap,aa,aa,aa,aa,aa,aa⟩
 refine ext<|bf<|bf<|be<|aJ<|ag fun E=>e<|cl AJ (Dn G q (lets<|s.take i) _ Z<|by have :=Cn (s.take i); rw [dT] at this; omega) aa fun bm bq a0=> ?_
 obtain ⟨rfl,aW⟩:=a0
 exact p aB<|ay<|E<|rt<|f2 aa aa aa<|⟨by show gz #[str (lets<|s.take i),.int .i64 0]=_; unfold letE; rw [if_neg (by rw [uk (fun j am=>hp j ab)]; exact fun h=>h.elim ak ei),show s.take i=s from eN ab]; rfl,Z.Dm ah aW<|by have :=I.md.size; omega⟩
end Go.Hb
end
section
namespace Go.Hb
open Go.Hb.dX
theorem yf {s:List UInt8} (h:¬s= []) (h1:¬(1 < s.length∧(s.getD 0 0).toNat=48)):¬qu s:=fun a=>a.elim h h1
theorem JT {s:List UInt8} (h:¬qu s):0 < s.length:=lx.2 fun e=>h<|.inl e
theorem yy (s:List UInt8) (most:Int) (w:World) (hs:s.length≤1048576) (hm: -9223372036854775808≤most∧most≤9223372036854775807):
 bo aw 138 (bh [str s,.int .i64 most]) w (fun v w'=>v= .tuple #[.int .i64 (eb s most).1,.int .i64 (eb s most).2]∧Wk w w'):=by
 refine enter func138 aa ntmps138 aa<|ag fun ac=>p aB<|ay<|ac ?_
 refine ej (fun O M=>(¬qu s)∧(M=w)∧(O 0=str s)∧(O 1= .int .i64 most)) ?_ ?_
 refine ag fun A=>au (str s)<|p (dW aa aa)<|p mv<|gs (t:=11) aa (fun G=> ?_) fun G=> ?_
 exact aH aa<|aH aa<|aH aa<|aH aa<|eh aa<|eh aa<|eh aa<|aH aa<|p (bB aa)<|nl<|A<|ct aa<|ag fun C=>p aB<|p aB<|nl<|C<|rt<|tr<|f2 aa aa aa<|⟨by show gz #[.int .i64 0,.int .i64 13]=_; rw [yx (.inl G)]; rfl,Md.refl _ _⟩
 refine aI aa (aU (str s) aa)<|aI aa (cy u9 aa aa)<|aI aa (gt aa aa)<|aI aa mv<|gs (t:=15) aa (fun ax=> ?_) fun ax=> ?_
 refine aI aa (aU (str s) aa)<|aI aa (jd 0 u9 aa aa ab)<|aI aa (bI aa aa)<|aI aa (bB aa)<|p (bq aa)<|nl<|A<|cd aa (fun ap=> ?_) fun ap=> ?_
 exact ag fun C=>p aB<|ay<|C<|rt<|tr<|f2 aa aa aa<|⟨by show gz #[.int .i64 0,.int .i64 13]=_; rw [yx (.inr ⟨ab,ab⟩)]; rfl,Md.refl _ _⟩
 have I:=yf (s:=s) G ab
 exact aO<|tn<|⟨I,aa,aa,aa⟩
 exact aH aa<|aH aa<|aH aa<|aI aa (bq aa)<|p (bq aa)<|nl<|A<|cf aa<|aO<|tn<|⟨(yf (s:=s) G ab),aa,aa,aa⟩
 rintro O M ⟨I,an,aE,aF⟩
 refine fx 0 aE<|fx 1 aF ?_
 subst an
 have hp:=JT I
 refine ag fun A=>ay<|A<|aC fun C=>ag fun ah=>au (str s)<|p (cy u9 aa aa)<|p mv<|nl<|ah<|aM<|lp (fun U q Z=> ∃ (i:Nat),(i≤s.length)∧(Z=M)∧((eO (s.take i):Int)≤max 0 most∧(0 < i→(eO (s.take i):Int)≤most))∧(∀ j,j < i→qk (s.getD j 0)=true)∧(q 0=str s)∧(q 1= .int .i64 most)∧(q 6=ak (eO<|s.take i))∧(q 22= .int .i64 s.length)∧(q 23= .int .i64 i)∧(s.length - i=U)) _ ⟨0,ab,aa,(by rw [oc]; show (0:Int)≤_∧_; omega),(fun j Y=>by omega),aa,aa,(iv<|by first | rfl | (rw [m3 ab])),aa,aa,aa⟩ ?_
 rintro U q Z ⟨i,hi,ao,hn,V,aG,aJ,aN,aK,aL,rfl⟩
 refine fx 0 aG<|fx 1 aJ<|fx 6 aN<|fx 22 aK<|fx 23 aL ?_
 subst ao
 have aP:=iV<|s.getD i 0
 refine ag fun ai=>p (lt aa aa)<|nl<|ai<|aC fun aj=>cd aa (fun aq=> ?_) fun aq=> ?_
 refine aO<|aj<|aC fun J=>aM<|ag fun al=>au (.int .i64 i)<|p (cO (.int .i64 i) aa)<|nl<|al<|ag fun am=>au (str s)<|au (.int .i64 i)<|p (eQ u9 aa aa ab)<|p (xp u3 pO aa<|bX ab)<|p (sb aa aa<|bX ab)<|ay<|am<|aC fun ae=>ag fun E=>p mv<|p (lt aa aa)<|p mv<|gs (t:=33) aa (fun az=> ?_) fun az=> ?_
 refine aH aa<|aH aa<|p (bB aa)<|p mv<|aH aa<|aH aa<|aH aa<|p (bB aa)<|p mv<|aH aa<|aH aa<|aH aa<|aH aa<|aH aa<|aH aa<|p (bB aa)<|nl<|E<|ct aa<|ag fun a=>p aB<|p aB<|nl<|a<|rt<|tr<|br<|tr<|tr<|br<|tr ?_
 exact f2 aa aa aa<|⟨by show gz #[.int .i64 0,.int .i64 13]=_; rw [yw (i:=i) ab (xx ab)]; rfl,Md.refl _ _⟩
 refine aI aa mv<|aI aa (gt aa aa)<|p (bq aa)<|p mv<|gs (t:=37) aa (fun aA=> ?_) fun aA=> ?_
 exact aH aa<|aH aa<|aH aa<|p (bB aa)<|p mv<|aH aa<|aH aa<|aH aa<|aH aa<|aH aa<|aH aa<|p (bB aa)<|nl<|E<|ct aa<|aC fun a=>rg aa<|p aB<|ay<|a<|rt<|tr<|br<|tr<|tr<|br<|tr<|f2 aa aa aa<|⟨by show gz #[.int .i64 0,.int .i64 13]=_; rw [yw (i:=i) ab (xx ab)]; rfl,Md.refl _ _⟩
 refine aI aa (aU (.int .i64 most) aa)<|aI aa mv<|aI aa (lt aa aa)<|p (bq aa)<|p mv<|gs (t:=42) aa (fun aD=> ?_) fun aD=> ?_
 refine aH aa<|aH aa<|aH aa<|aH aa<|aH aa<|aH aa<|p (bB aa)<|nl<|E<|ct aa<|ag fun a=>p aB<|ay<|a ?_
 exact rt<|tr<|br<|tr<|tr<|br<|tr<|f2 aa aa aa<|⟨by show gz #[.int .i64 0,.int .i64 13]=_; rw [u7 (i+1) (by rw [m3 ab]; omega)]; rfl,Md.refl _ _⟩
 have aQ:((s.getD i 0).toNat:Int) - 48≤most:=ab
 refine aI aa (aU (ak<|eO<|s.take i) aa)<|aI aa (aU (.int .i64 most) aa)<|aI aa mv<|aI aa (sb aa aa<|bX ab)<|aI aa (qE (((most - (((s.getD i 0).toNat:Int) - 48)).toNat / 10:Nat):Int) aa aa ab<|bl ab ab)<|aI aa (gt aa aa)<|p (bq aa)<|nl<|E<|cd aa (fun ar=> ?_) fun ar=> ?_
 exact ag fun a=>p aB<|ay<|a<|rt<|tr<|br<|tr<|tr<|br<|tr<|f2 aa aa aa<|⟨by show gz #[.int .i64 0,.int .i64 13]=_; rw [u7 (i+1) (by rw [m3 ab]; omega)]; rfl,Md.refl _ _⟩
 have av:qk (s.getD i 0)=true :=decide_eq_true ab
 exact aO<|ae<|rg aa<|au (ak<|eO<|s.take i)<|p (oE ((eO (s.take i)*10:Nat):Int) aa aa<|bl ab ab)<|p mv<|p (bG ((eO (s.take i)*10 +((s.getD i 0).toNat - 48):Nat):Int) aa aa<|bl ab ab)<|p aB<|nl<|bn<|J<|rg aa<|p (ad aa aa<|bX ab)<|p mv<|nl<|tn<|⟨_,ab,i+1,ab,aa,(by rw [m3 ab]; omega),(fun j Y=>by rcases fg j i with h | h <;> first | exact V j h | (rw [show j=i by omega]; exact av)),aa,aa,(iv<|by first | rfl | (rw [m3 ab])),aa,aa,aa⟩
 exact ext<|bf<|bf<|be<|C<|ag fun J=>au (ak<|eO<|s.take i)<|p (cO (ak<|eO<|s.take i) aa)<|ay<|J<|rt<|f2 aa aa aa<|⟨by show gz #[ak (eO<|s.take i),.int .i64 0]=_; rw [show s.take i=s from eN ab,Cy I (fun j Y=>V j ab) (by rw [show s.take i=s from eN ab] at hn; omega)],Md.refl _ _⟩
theorem rI (s:List UInt8) (most:Int) (w:World) (hs:s.length≤1048576) (hm: -9223372036854775808≤most∧most≤9223372036854775807):
 bo aw 118 (bh [str s,.int .i64 most]) w (fun v w'=>v= .tuple #[.int .i64 (eb s most).1,.int .i64 (eb s most).2]∧Wk w w'):=by
 refine enter func118 aa ntmps118 aa<|ag fun ao=>p aB<|ay<|ao ?_
 refine ej (fun aj ah=>(¬qu s)∧(ah=w)∧(aj 0=str s)∧(aj 1= .int .i64 most)) ?_ ?_
 refine ag fun A=>au (str s)<|p (cy u9 aa aa)<|p (bI aa aa)<|p mv<|gs (t:=13) aa (fun ae=> ?_) fun ae=> ?_
 exact aH aa<|aH aa<|aH aa<|aH aa<|eh aa<|eh aa<|eh aa<|aH aa<|p (bB aa)<|nl<|A<|ct aa<|ag fun C=>p aB<|p aB<|nl<|C<|rt<|tr<|f2 aa aa aa<|⟨by show gz #[.int .i64 0,.int .i64 13]=_; rw [yx (.inl<|wg.1 ab)]; rfl,Md.refl _ _⟩
 refine aI aa (aU (str s) aa)<|aI aa (cy u9 aa aa)<|aI aa (gt aa aa)<|aI aa mv<|gs (t:=17) aa (fun aN=> ?_) fun aN=> ?_
 refine aI aa (aU (str s) aa)<|aI aa (jd 0 u9 aa aa ab)<|aI aa (bI aa aa)<|aI aa (bB aa)<|p (bq aa)<|nl<|A<|cd aa (fun aD=> ?_) fun aD=> ?_
 exact ag fun C=>p aB<|ay<|C<|rt<|tr<|f2 aa aa aa<|⟨by show gz #[.int .i64 0,.int .i64 13]=_; rw [yx (.inr ⟨ab,ab⟩)]; rfl,Md.refl _ _⟩
 exact aO<|tn<|⟨(yf (s:=s) (fun e=>by subst e; exact ae aa) ab),aa,aa,aa⟩
 exact aH aa<|aH aa<|aH aa<|aI aa (bq aa)<|p (bq aa)<|nl<|A<|cf aa<|aO<|tn<|⟨(yf (s:=s) (fun e=>by subst e; exact ae aa) ab),aa,aa,aa⟩
 rintro aj ah ⟨al,ax,aS,aT⟩
 refine fx 0 aS<|fx 1 aT ?_
 subst ax
 have hp:=JT al
 refine ag fun A=>ay<|A<|aC fun C=>ag fun aq=>ay<|aq<|aM<|lp (fun G J ai=> ∃ (i:Nat),(i≤s.length)∧(ai=ah)∧(∀ j,j < i→qk (s.getD j 0)=true)∧(J 0=str s)∧(J 1= .int .i64 most)∧(J 6= .int .i64 0)∧(J 7= .int .i64 i)∧(s.length - i=G)) _ ⟨0,ab,aa,(fun j am=>by omega),aa,aa,aa,aa,aa⟩ ?_
 rintro G J ai ⟨i,hi,az,I,aV,aW,aX,aY,rfl⟩
 refine fx 0 aV<|fx 1 aW<|fx 6 aX<|fx 7 aY ?_
 subst az
 refine aC fun ar=>ag fun av=>au (.int .i64 i)<|au (str s)<|p (cy u9 aa aa)<|p (lt aa aa)<|nl<|av<|cd aa (fun aE=> ?_) fun aE=> ?_
 refine aO<|ar<|aC fun ac=>aM<|ag fun U=>au (str s)<|au (.int .i64 i)<|p (eQ u9 aa aa ab)<|p (lt aa aa)<|p mv<|gs (t:=33) aa (fun aP=> ?_) fun aP=> ?_
 exact aH aa<|aH aa<|aH aa<|aH aa<|p (bB aa)<|nl<|U<|ct aa<|ag fun E=>p aB<|ay<|E<|rt<|br<|tr<|tr<|br<|tr<|f2 aa aa aa<|⟨by show gz #[.int .i64 0,.int .i64 13]=_; rw [yw (i:=i) ab (xx ab)]; rfl,Md.refl _ _⟩
 refine aI aa (aU (str s) aa)<|aI aa (aU (.int .i64 i) aa)<|aI aa (eQ u9 aa aa ab)<|aI aa (gt aa aa)<|p (bq aa)<|nl<|U<|cd aa (fun aF=> ?_) fun aF=> ?_
 exact ag fun E=>p aB<|ay<|E<|rt<|br<|tr<|tr<|br<|tr<|f2 aa aa aa<|⟨by show gz #[.int .i64 0,.int .i64 13]=_; rw [yw (i:=i) ab (xx ab)]; rfl,Md.refl _ _⟩
 have aL:qk (s.getD i 0)=true :=decide_eq_true ab
 exact aO<|bn<|ac<|rg aa<|au (.int .i64 i)<|p (ad aa aa<|bX ab)<|p aB<|nl<|tn<|⟨_,ab,i+1,ab,aa,(fun j am=>by rcases fg j i with h | h <;> first | exact I j h | (rw [show j=i by omega]; exact aL)),aa,aa,aa,aa,aa⟩
 refine ext<|bf<|bf<|be<|C<|aC fun ac=>ag fun U=>ay<|U<|aM<|lp (fun G M an=> ∃ (j:Nat),(j≤s.length)∧(an=ai)∧(eO (s.take j)≤9223372036854775807)∧(M 0=str s)∧(M 1= .int .i64 most)∧(M 6=ak (eO<|s.take j))∧(M 8= .int .i64 j)∧(s.length - j=G)) _ ⟨0,ab,aa,(by rw [oc]; exact Nat.zero_le _),aa,aa,(iv<|by first | rfl | (rw [m3 ab])),aa,aa⟩ ?_
 rintro G M an ⟨j,am,aA,hn,aZ,a0,a1,a2,rfl⟩
 refine fx 0 aZ<|fx 1 a0<|fx 6 a1<|fx 8 a2 ?_
 subst aA
 refine aC fun E=>ag fun ap=>au (.int .i64 j)<|au (str s)<|p (cy u9 aa aa)<|p (lt aa aa)<|nl<|ap<|cd aa (fun aG=> ?_) fun aG=> ?_
 refine aO<|E<|aC fun O=>aM<|aC fun V=> ?_
 have a3:=A4<|I j ab
 refine rg aa<|au (str s)<|au (.int .i64 j)<|p (eQ u9 aa aa ab)<|p (sb aa aa<|tF ab)<|p (xp u3 pO aa<|bX ab)<|p aB<|nl<|V<|aC fun a=>ag fun Y=>au (ak<|eO<|s.take j)<|p (gt aa aa)<|p mv<|gs (t:=52) aa (fun aQ=> ?_) fun aQ=> ?_
 refine aH aa<|aH aa<|aH aa<|eh aa<|eh aa<|aH aa<|p (bB aa)<|nl<|Y<|ct aa<|ag fun Z=>p aB<|ay<|Z ?_
 exact rt<|tr<|br<|tr<|tr<|br<|tr<|f2 aa aa aa<|⟨by show gz #[.int .i64 0,.int .i64 13]=_; rw [u7 (j+1) (by rw [m3 ab]; omega)]; rfl,Md.refl _ _⟩
 refine aI aa (aU (ak<|eO<|s.take j) aa)<|aI aa (bI aa aa)<|aI aa mv<|gs (t:=55) aa (fun aR=> ?_) fun aR=> ?_
 refine aI aa mv<|aI aa (gt aa aa)<|aI aa (bB aa)<|p (bq aa)<|nl<|Y<|cd aa (fun aJ=> ?_) fun aJ=> ?_
 exact ag fun Z=>p aB<|ay<|Z<|rt<|tr<|br<|tr<|tr<|br<|tr<|f2 aa aa aa<|⟨by show gz #[.int .i64 0,.int .i64 13]=_; rw [u7 (j+1) (by rw [m3 ab]; omega)]; rfl,Md.refl _ _⟩
 exact aO<|a<|rg aa<|au (ak<|eO<|s.take j)<|p (oE ((eO (s.take j)*10:Nat):Int) aa aa<|bl ab ab)<|p mv<|p (bG ((eO (s.take j)*10 +((s.getD j 0).toNat - 48):Nat):Int) aa aa<|bl ab ab)<|p aB<|nl<|bn<|O<|rg aa<|au (.int .i64 j)<|p (ad aa aa<|bX ab)<|p aB<|nl<|tn<|⟨_,ab,j+1,ab,aa,(by have :=A4 (I j ab); rw [m3 ab]; omega),aa,aa,(iv<|by first | rfl | (rw [m3 ab])),aa,aa⟩
 refine aH aa<|aH aa<|aI aa (bq aa)<|p (bq aa)<|nl<|Y<|cf aa<|aO<|a<|rg aa<|au (ak<|eO<|s.take j)<|p (oE ((eO (s.take j)*10:Nat):Int) aa aa<|bl ab ab)<|p mv<|p (bG ((eO (s.take j)*10 +((s.getD j 0).toNat - 48):Nat):Int) aa aa<|bl ab ab)<|p aB<|nl ?_
 exact bn<|O<|rg aa<|au (.int .i64 j)<|p (ad aa aa<|bX ab)<|p aB<|nl<|tn<|⟨_,ab,j+1,ab,aa,(by have :=A4 (I j ab); rw [m3 ab]; omega),aa,aa,(iv<|by first | rfl | (rw [m3 ab])),aa,aa⟩
 refine ext<|bf<|bf<|be<|ac<|aC fun O=>ag fun V=>au (ak<|eO<|s.take j)<|au (.int .i64 most)<|p (gt aa aa)<|nl<|V<|cd aa (fun aK=> ?_) fun aK=> ?_
 exact ag fun a=>p aB<|ay<|a<|rt<|tr<|f2 aa aa aa<|⟨by show gz #[.int .i64 0,.int .i64 13]=_; rw [u7 j ab]; rfl,Md.refl _ _⟩
 exact aO<|O<|ag fun a=>au (ak<|eO<|s.take j)<|p (cO (ak<|eO<|s.take j) aa)<|p aB<|nl<|a<|rt<|f2 aa aa aa<|⟨by show gz #[ak (eO<|s.take j),.int .i64 0]=_; rw [show s.take j=s from eN ab,Cy al (fun q a4=>I q ab) (by rw [show s.take j=s from eN ab] at*; omega)],Md.refl _ _⟩
end Go.Hb
end
section
namespace Go.Hb
open Go.Hb.dX
theorem CU {s pr:List UInt8} (h:s.take pr.length=pr):pr.length≤s.length:=by
 have :=congrArg List.length h
 rw [dT] at this; omega
theorem Yb {s:List UInt8} (h:decide (1≤s.length∧s.drop (s.length - 1)= [13])=true):jK s=s.take (s.length - 1):=by
 have h1:=of_decide_eq_true h
 rw [IV ab] at h1
 exact GR ab<|by simpa using h1.2
theorem Yd {s:List UInt8} (h:decide (1≤s.length∧s.drop (s.length - 1)= [13])=false):jK s=s:=by
 have h1:=of_decide_eq_false h
 refine A9 fun h2=>h1 ⟨ab,?_⟩
 rw [IV ab,h2.2]
theorem UM (c:UInt8):e8 c [c]=0:=by unfold e8; simp
theorem Ca (s pr:List UInt8) (w:World) (hs:s.length≤1099511627776) (hp:pr.length≤1099511627776):
 bo aw 211 (bh [str s,str pr]) w (fun v w'=>v= .bool (decide (s.take pr.length=pr))∧Wk w w'):=by
 refine enter func211 aa ntmps211 aa<|ag fun i=>ay<|i<|ag fun a=>au (str s)<|p (cy u9 aa aa)<|au (str pr)<|p (cy u9 aa aa)<|p (ge aa aa)<|p mv<|gs (t:=10) aa (fun q=> ?_) fun q=> ?_
 exact aI aa (aU (str s) aa)<|aI aa (aU (str pr) aa)<|aI aa (cy u9 aa aa)<|aI aa (rM u9 aa aa ab)<|aI aa (aU (str pr) aa)<|aI aa (dW aa aa)<|p (bB aa)<|p aB<|nl<|a<|rt<|aX aa<|⟨aa,Md.refl _ _⟩
 exact aH aa<|aH aa<|aH aa<|aH aa<|aH aa<|aH aa<|p (bq aa)<|p aB<|nl<|a<|rt<|aX aa<|⟨by show bT false =_; rw [decide_eq_false (fun h=>by have :=CU h; omega)],Md.refl _ _⟩
theorem Yu (s pr:List UInt8) (w:World) (hs:s.length≤1099511627776) (hp:pr.length≤1099511627776):
 bo aw 150 (bh [str s,str pr]) w (fun v w'=>v=str (gy s pr)∧Wk w w'):=by
 refine enter func150 aa ntmps150 aa<|ag fun C=>ay<|C<|aC fun E=>ag fun G=>au (str s)<|au (str pr)<|e<|cl Aw (Ca s pr _ hs hp) aa fun M O I=> ?_
 obtain ⟨rfl,A⟩:=I
 refine nl<|G<|cb aa (fun q=> ?_) fun q=> ?_
 have a:=of_decide_eq_true q
 have J:=CU a
 exact ag fun i=>au (str s)<|au (str pr)<|p (cy u9 aa aa)<|p (l7 u9 aa aa ab)<|p aB<|nl<|i<|rt<|tr<|aX aa<|⟨by show str (s.drop (pr.length:Int).toNat)=_; unfold gy; rw [if_pos a]; rfl,A⟩
 have a:=of_decide_eq_false q
 exact aO<|E<|ag fun i=>au (str s)<|p (cO (str s) aa)<|nl<|i<|rt<|aX aa<|⟨by show str s=_; unfold gy; rw [if_neg a],A⟩
theorem Lo (s pr:List UInt8) (w:World) (hs:s.length≤1099511627776) (hp:pr.length≤1099511627776):
 bo aw 96 (bh [str s,str pr]) w (fun v w'=>v=str (gy s pr)∧Wk w w'):=by
 refine enter func96 aa ntmps96 aa<|ag fun a=>ay<|a<|ag fun i=>au (str s)<|au (str pr)<|e<|cl OT (Yu s pr _ hs hp) aa fun C E A=> ?_
 obtain ⟨rfl,q⟩:=A
 exact ay<|i<|rt<|aX aa<|⟨aa,q⟩
theorem Cb (s pr:List UInt8) (w:World) (hs:s.length≤1099511627776) (hp:pr.length≤1099511627776):
 bo aw 210 (bh [str s,str pr]) w (fun v w'=>v= .bool (decide (pr.length≤s.length∧s.drop (s.length - pr.length)=pr))∧Wk w w'):=by
 refine enter func210 aa ntmps210 aa<|ag fun i=>ay<|i<|ag fun a=>au (str s)<|p (cy u9 aa aa)<|au (str pr)<|p (cy u9 aa aa)<|p (ge aa aa)<|p mv<|gs (t:=10) aa (fun q=> ?_) fun q=> ?_
 exact aI aa (aU (str s) aa)<|aI aa (aU (str s) aa)<|aI aa (cy u9 aa aa)<|aI aa (aU (str pr) aa)<|aI aa (cy u9 aa aa)<|aI aa (sb aa aa<|bX ab)<|aI aa (l7 u9 aa aa ab)<|aI aa (aU (str pr) aa)<|aI aa (dW aa aa)<|p (bB aa)<|ay<|a<|rt<|aX aa<|⟨by show bT (decide (s.drop ((s.length:Int) - (pr.length:Int)).toNat=pr))=_; rw [show ((s.length:Int) - (pr.length:Int)).toNat=s.length - pr.length from by omega]; exact bv (by constructor <;> intro h <;> first | exact ⟨ab,h⟩ | exact h.2),Md.refl _ _⟩
 exact aH aa<|aH aa<|aH aa<|aH aa<|aH aa<|aH aa<|aH aa<|aH aa<|aH aa<|p (bq aa)<|ay<|a<|rt<|aX aa<|⟨by show bT false =_; rw [decide_eq_false ab],Md.refl _ _⟩
theorem Yx (s:List UInt8) (w:World) (hs:s.length≤1099511627776):
 bo aw 149 (bh [str s,str [13]]) w (fun v w'=>v=str (jK s)∧Wk w w'):=by
 refine enter func149 aa ntmps149 aa<|ag fun A=>ay<|A<|aC fun C=>ag fun E=>au (str s)<|au (str [13])<|e<|cl Av (Cb s [13] _ hs az) aa fun M O G=> ?_
 obtain ⟨rfl,q⟩:=G
 refine nl<|E<|cb aa (fun a=> ?_) fun a=> ?_
 have J:=(of_decide_eq_true a).1
 have I:([13]:List UInt8).length=1:=rfl
 exact ag fun i=>au (str s)<|au (str s)<|p (cy u9 aa aa)<|au (str [13])<|p (cy u9 aa aa)<|p (sb aa aa<|bX ab)<|p (rM u9 aa aa ab)<|ay<|i<|rt<|tr<|aX aa<|⟨by show str (s.take ((s.length:Int) - (([13]:List UInt8).length:Int)).toNat)=_; rw [Yb a,show ((s.length:Int) - (([13]:List UInt8).length:Int)).toNat=s.length - 1 from by simp only [e5]; omega],q⟩
 exact aO<|C<|ag fun i=>au (str s)<|p (cO (str s) aa)<|nl<|i<|rt<|aX aa<|⟨by show str s=_; rw [Yd a],q⟩
theorem Yy (s:List UInt8) (w:World) (hs:s.length≤1099511627776):
 bo aw 95 (bh [str s,str [13]]) w (fun v w'=>v=str (jK s)∧Wk w w'):=by
 refine enter func95 aa ntmps95 aa<|ag fun a=>ay<|a<|ag fun i=>au (str s)<|au (str [13])<|e<|cl Fp (Yx s _ hs) aa fun C E A=> ?_
 obtain ⟨rfl,q⟩:=A
 exact ay<|i<|rt<|aX aa<|⟨aa,q⟩
theorem IF (s:List UInt8) (c:UInt8) (w:World):
 bo aw 269 (bh [str s,.int .u8 c.toNat]) w (fun v w'=>v= .int .i64 (e8 c s)∧Wk w w'):=by
 exact enter func269 aa ntmps269 aa<|ag fun a=>ay<|a<|ag fun i=>au (str s)<|au (.int .u8 c.toNat)<|p (Ge (UN s c _) aa)<|ay<|i<|rt<|aX aa<|⟨aa,Md.refl _ _⟩
theorem IE (s:List UInt8) (c:UInt8) (w:World):
 bo aw 264 (bh [str s,str [c]]) w (fun v w'=>v= .int .i64 (e8 c s)∧Wk w w'):=by
 refine enter func264 aa ntmps264 aa<|ag fun q=>ay<|q<|ag fun A=>au (str [c])<|p (cy u9 aa aa)<|ay<|A<|aC fun J=>aM<|ag fun C=>p mv<|p (bI aa aa)<|p mv<|gs (t:=19) aa (fun h=>absurd h<|by simp) fun O=>aI aa (aU (str [c]) aa)<|aI aa (aU (str s) aa)<|aI aa (dW aa aa)<|p (bq aa)<|ay<|C<|cd aa (fun i=> ?_) fun i=> ?_
 exact ag fun a=>ay<|a<|rt<|br<|tr<|aX aa<|⟨by show Value.int .i64 0=_; rw [← i,UM],Md.refl _ _⟩
 refine ag fun a=>p mv<|p (bI aa aa)<|ay<|a<|cd aa (fun M=> ?_) fun h=>absurd aa h
 refine ag fun E=>au (str s)<|au (str [c])<|p (jd 0 u9 aa aa<|by simp)<|e<|cl FQ (IF s c _) aa fun v30 U I=> ?_
 obtain ⟨rfl,G⟩:=I
 exact ay<|E<|rt<|br<|tr<|aX aa<|⟨aa,G⟩
theorem Uy (s:List UInt8) (c:UInt8) (w:World):
 bo aw 298 (bh [str s,str [c]]) w (fun v w'=>v= .int .i64 (e8 c s)∧Wk w w'):=by
 refine enter func298 aa ntmps298 aa<|ag fun a=>ay<|a<|ag fun i=>au (str s)<|au (str [c])<|e<|cl FP (IE s c _) aa fun C E A=> ?_
 obtain ⟨rfl,q⟩:=A
 exact ay<|i<|rt<|aX aa<|⟨aa,q⟩
theorem Rp (s:List UInt8) (c:UInt8) (w:World) (hs:s.length≤1099511627776):
 bo aw 238 (bh [str s,str [c]]) w (fun v w'=>v= .tuple #[str (mo c s),str (nC c s),.bool (!decide (e8 c s < 0))]∧Wk w w'):=by
 refine enter func238 aa ntmps238 aa<|ag fun C=>p aB<|p aB<|ay<|C<|aC fun E=>ag fun G=>au (str s)<|au (str [c])<|e<|cl FP (IE s c _) aa fun v10 q J=> ?_
 obtain ⟨rfl,A⟩:=J
 refine ay<|G<|ag fun I=>p mv<|p (ge aa aa)<|nl<|I<|cd aa (fun M=> ?_) fun M=> ?_
 have O:=rr (c:=c) (l:=s) ab
 have U:[c].length=1:=rfl
 refine aC fun i=> ?_
 have a:(fun w'=>Wk q w') q.drew:=(Md.refl _ _).drew
 exact bM (fun w'=>Wk q w') aa wide a<|bH 0 aa (str s) a<|aE 1 aa (fun _ _=>mv) a<|aE 2 aa (fun _ _=>rM u9 aa aa ab) a<|bH 3 aa (str s) a<|aE 4 aa (fun _ _=>mv) a<|bH 5 aa (str [c]) a<|aE 6 aa (fun _ _=>cy u9 aa aa) a<|aE 7 aa (fun _ _=>bG ((s.idxOf c+1:Nat):Int) aa aa<|bl ab ab) a<|aE 8 aa (fun _ _=>l7 u9 aa aa ab) a<|aE 9 aa (fun _ _=>aB) a<|aE 10 aa (fun _ _=>aB) a<|aE 11 aa (fun _ _=>aB) a<|hn aj<|i<|rt<|tr<|f3 aa aa aa aa<|⟨by show gz #[str (s.take (e8 c s).toNat),str (s.drop<|s.idxOf c+1),.bool true]=_; unfold mo nC; rw [if_neg ab,if_neg ab,O.1,decide_eq_false ab]; rfl,Md.trans A (Md.refl _ _).drew⟩
 exact aO<|E<|ag fun i=>au (str s)<|p (cO (str s) aa)<|p aB<|p aB<|nl<|i<|rt<|f3 aa aa aa aa<|⟨by show gz #[str s,str [],.bool false]=_; unfold mo nC; rw [if_pos ab,if_pos ab,decide_eq_true ab]; rfl,A⟩
theorem Rt (s:List UInt8) (c:UInt8) (w:World) (hs:s.length≤1099511627776):
 bo aw 190 (bh [str s,str [c]]) w (fun v w'=>v= .tuple #[str (mo c s),str (nC c s),.bool (!decide (e8 c s < 0))]∧Wk w w'):=by
 refine enter func190 aa ntmps190 aa<|ag fun a=>p aB<|p aB<|ay<|a<|aC fun i=>rg aa<|au (str s)<|au (str [c])<|e<|cl Pl (Rp s c _ hs) aa fun v9 C A=> ?_
 obtain ⟨rfl,q⟩:=A
 exact p (xt aa aa)<|p (xt aa aa)<|p (xt aa aa)<|p aB<|p aB<|ay<|i<|rt<|f3 aa aa aa aa<|⟨aa,q⟩
end Go.Hb
end
section
namespace Go.Hb
open Go.Hb.dX
theorem UJ (x:Nat) (w:World):
 bo aw 302 (bh [bg x]) w (fun v w'=>v= .bool false∧Wk w w'):=by
 exact enter func302 aa ntmps302 aa<|ag fun a=>ay<|a<|ag fun i=>au (bg x)<|au (bg x)<|p (dj aa aa)<|ay<|i<|rt<|aX aa<|⟨congrArg bT (decide_eq_false fun h=>h aa),Md.refl _ _⟩
theorem l0 (x y:Nat) (w:World):
 bo aw 289 (bh [bg x,bg y]) w (fun v w'=>v= .bool (ca x y)∧Wk w w'):=by
 refine enter func289 aa ntmps289 aa<|ag fun a=>ay<|a<|ag fun i=>au (bg x)<|e<|cl PR (UJ x _) aa fun v6 C A=> ?_
 obtain ⟨rfl,q⟩:=A
 exact p mv<|aH aa<|aH aa<|aH aa<|p (bq aa)<|p mv<|aI aa (aU (bg x) aa)<|aI aa (aU (bg y) aa)<|aI aa (lt aa aa)<|p (bq aa)<|ay<|i<|rt<|aX aa<|⟨by show bT (decide ((x:Int) < (y:Int)))=_; unfold ca; exact congrArg bT (decide_eq_decide.2 ab),q⟩
theorem UG (d:Array Nat) (a b:Nat) (B n cp:Nat) (C:Option Addr) (w:World) (ar:w.ownsRow B 51 1 (.slice C n cp) n (LE bg d)) (a5:a≤b∧b≤n) (bc:n≤1099511627776):
 bo aw 283 (bh [.slice C n cp,ak a,ak b]) w (fun v w'=>v= .tuple #[]∧w'.ownsRow B 51 1 (.slice C n cp) n (LE bg<|MO ca d a b)∧Md (fun q=>(bR C n cp).ownBlock=some q) w w'):=by
 have a9:=fM ar
 refine enter func283 aa ntmps283 aa<|ag fun az=>au (ak a)<|p (bG ((a+1:Nat):Int) aa aa<|bl ab ab)<|ay<|az<|aM<|lp (fun Z ae an=> ∃ (i:Nat) (Y:Array Nat),(a+1≤i∧i≤n+1)∧(Go.Sort.insOuter ca a b i Y=MO ca d a b)∧(an.ownsRow B 51 1 (.slice C n cp) n<|LE bg Y)∧(Md (fun q=>(bR C n cp).ownBlock=some q) w an)∧(ae 0= .slice C n cp)∧(ae 1=ak a)∧(ae 2=ak b)∧(ae 6=ak i)∧(b - i=Z)) _ ⟨a+1,d,ab,aa,ar,(Md.refl _ _),aa,aa,aa,aa,aa⟩ ?_
 rintro Z ae an ⟨i,Y,hi,al,av,aq,aV,aX,aY,aZ,rfl⟩
 refine fx 0 aV<|fx 1 aX<|fx 2 aY<|fx 6 aZ<|aC fun aA=>ag fun aD=>au (ak i)<|au (ak b)<|p (lt aa aa)<|nl<|aD<|cd aa (fun aR=> ?_) fun aR=> ?_
 refine aO<|aA<|aC fun ao=>aM<|ag fun aF=>au (ak i)<|p (cO (ak i) aa)<|nl<|aF<|aM<|lp (fun Z V O=> ∃ (j:Nat) (G:Array Nat),(a≤j∧j≤i)∧(MN ca a j G=MN ca a i Y)∧(O.ownsRow B 51 1 (.slice C n cp) n<|LE bg G)∧(Md (fun q=>(bR C n cp).ownBlock=some q) w O)∧(V 0= .slice C n cp)∧(V 1=ak a)∧(V 2=ak b)∧(V 6=ak i)∧(V 7=ak j)∧(j=Z)) _ ⟨i,Y,ab,aa,av,aq,aa,aa,aa,aa,aa,aa⟩ ?_
 rintro Z V O ⟨j,G,bb,am,J,ah,a0,a1,a2,a3,a4,rfl⟩
 refine fx 0 a0<|fx 1 a1<|fx 2 a2<|fx 6 a3<|fx 7 a4<|aC fun aG=>aC fun ap=> ?_
 have a7:=fM J
 have A:(fun w'=>Wk O w') O.drew:=(Md.refl _ _).drew
 refine bM (fun w'=>Wk O w') aa wide A<|bH 0 aa (ak j) A<|bH 1 aa (ak a) A<|aE 2 aa (fun _ _=>gt aa aa) A<|aE 3 aa (fun _ _=>mv) A<|iH (t:=19) aa (fun aQ=> ?_) fun aQ=> ?_
 refine bj 4 aa (fun _ _=>aU (.slice C n cp) aa) A<|bj 5 aa (fun _ _=>aU (ak j) aa) A<|bj 6 aa (fun _ _=>ba bY aa aa ab<|aJ.ok ((a8 J).2)<|cx ab) A<|bj 7 aa (fun w' I=>ld c7 aa<|dI (i:=j) ((a8 J).2.wk I) ab) A<|bj 8 aa (fun _ _=>aU (.slice C n cp) aa) A<|bj 9 aa (fun _ _=>aU (ak j) aa) A<|bj 10 aa (fun _ _=>dN ((j - 1:Nat):Int) aa aa<|bl ab ab) A<|bj 11 aa (fun _ _=>ba bY aa aa ab<|aJ.ok ((a8 J).2)<|cx ab) A<|bj 12 aa (fun w' I=>ld c7 aa<|dI (i:=j - 1) ((a8 J).2.wk I) ab) A<|lY 13 aa aj aa aa aa<|cl lV (l0 G[j]! G[j - 1]! _) aa fun bd ac aP=> ?_
 obtain ⟨rfl,aI⟩:=aP
 have U:(fun w'=>Wk O w') ac:=Md.trans A aI
 refine ⟨U,?_⟩
 refine aE 14 aa (fun _ _=>bB aa) U<|hn aj<|ap<|cb aa (fun ai=> ?_) fun ai=> ?_
 refine aO<|aG<|aC fun aH=>aM ?_
 have M:=aW J U
 have E:(fun w'=>Wk ac w') ac.drew:=(Md.refl _ _).drew
 refine eS (fun w'=>Wk ac w') 15 aa wide E<|bD 0 aa (.slice C n cp) E<|bD 1 aa (ak j) E<|bD 2 aa (.slice C n cp) E<|bD 3 aa (ak j) E<|bz 4 aa (fun _=>dN ((j - 1:Nat):Int) aa aa<|bl ab ab) (fun _=>E)<|bD 5 aa (.slice C n cp) E<|bD 6 aa (ak j) E<|bz 7 aa (fun _=>dN ((j - 1:Nat):Int) aa aa<|bl ab ab) (fun _=>E)<|bz 8 aa (fun _=>ba bY aa aa ab<|aJ.ok ((a8 M).2)<|cx ab) (fun _=>E)<|dM 9 aa (fun w' I=>ld c7 aa<|dI (i:=j - 1) ((a8 M).2.wk I) ab) E<|bD 10 aa (.slice C n cp) E<|bD 11 aa (ak j) E<|bz 12 aa (fun _=>ba bY aa aa ab<|aJ.ok ((a8 M).2)<|cx ab) (fun _=>E)<|dM 13 aa (fun w' I=>ld c7 aa<|dI (i:=j) ((a8 M).2.wk I) ab) E<|bz 14 aa (fun _=>ba bY aa aa ab<|aJ.ok ((a8 M).2)<|cx ab) (fun _=>E) ?_
 refine dK 15 aa aj aj<|gx (u:=G[j - 1]!) (j) (aW M E) gn aa aa aa ab fun bi aL aS=>bz 16 aa (fun _=>ba bY aa aa ab<|aJ.ok ((a8 M).2)<|cx ab) (fun h=>ei<|(show true =_ from by kernel_rfl).trans h)<|dK 17 aa aj aj<|gx (u:=G[j]!) (j - 1) aS gn aa aa aa ab fun ax aN aT=> ?_
 have I:ax.ownsRow B 51 1 (.slice C n cp) n (LE bg<|cR G (j)<|j - 1):=aT
 have aK:Md (fun q=>(bR C n cp).ownBlock=some q) ac ax:=Md.trans (E.mono fun _ _ h=>h.elim)<|Md.trans aL aN
 exact eR aj<|bn<|aH<|rg aa<|au (ak j)<|p (dN ((j - 1:Nat):Int) aa aa<|bl ab ab)<|p aB<|nl<|tn<|⟨_,ab,j - 1,cR G j (j - 1),ab,(by rw [← am,UD (show a < j by omega) ai]),I,(Md.trans ah<|Md.trans (U.mono fun _ _ h=>h.elim) aK),aa,aa,aa,aa,aa,aa⟩
 exact ext<|bf<|bf<|be<|bn<|ao<|rg aa<|au (ak i)<|p (bG ((i+1:Nat):Int) aa aa<|bl ab ab)<|p aB<|nl<|tn<|⟨_,ab,i+1,G,ab,(by rw [← al,II (show i < b by omega),← am,UE (by simpa using ai)]),(aW J U),(Md.trans ah<|U.mono fun _ _ h=>h.elim),aa,aa,aa,aa,aa⟩
 exact a6 4 aa A<|a6 5 aa A<|a6 6 aa A<|a6 7 aa A<|a6 8 aa A<|a6 9 aa A<|a6 10 aa A<|a6 11 aa A<|a6 12 aa A<|a6 13 aa A<|aE 14 aa (fun _ _=>bq aa) A<|hn aj<|ap<|cf aa<|ext<|bf<|bf<|be<|bn<|ao<|rg aa<|au (ak i)<|p (bG ((i+1:Nat):Int) aa aa<|bl ab ab)<|p aB<|nl<|tn<|⟨_,ab,i+1,G,ab,(by rw [← al,II (show i < b by omega),← am,UF ab]),(aW J (Md.refl _ _).drew),ah.drew,aa,aa,aa,aa,aa⟩
 exact ext<|bf<|bf<|be<|f0 aa<|⟨aa,by rw [← al,UC ab]; exact av,aq⟩
theorem XF (d:Array Nat) (lo hi first :Nat) (B n cp:Nat) (C:Option Addr) (w:World) (aP:w.ownsRow B 51 1 (.slice C n cp) n (LE bg d)) (bc:lo≤hi∧first+hi≤n) (bi:n≤1099511627776):
 bo aw 299 (bh [.slice C n cp,ak lo,ak hi,ak first]) w (fun v w'=>v= .tuple #[]∧w'.ownsRow B 51 1 (.slice C n cp) n (LE bg<|qS ca hi first lo d)∧Md (fun q=>(bR C n cp).ownBlock=some q) w w'):=by
 refine enter func299 aa ntmps299 aa<|ag fun ax=>au (ak lo)<|p (cO (ak lo) aa)<|nl<|ax<|aM<|lp (fun ap ah V=> ∃ (r:Nat) (E:Array Nat),(r≤hi)∧(qS ca hi first r E=qS ca hi first lo d)∧(V.ownsRow B 51 1 (.slice C n cp) n<|LE bg E)∧(Md (fun q=>(bR C n cp).ownBlock=some q) w V)∧(ah 0= .slice C n cp)∧(ah 2=ak hi)∧(ah 3=ak first)∧(ah 8=ak r)∧(hi - r=ap)) _ ⟨lo,d,ab,aa,aP,(Md.refl _ _),aa,aa,aa,aa,aa⟩ ?_
 rintro ap ah V ⟨r,E,bk,ao,J,al,aZ,a0,a1,a2,rfl⟩
 refine fx 0 aZ<|fx 2 a0<|fx 3 a1<|fx 8 a2<|aM<|ag fun ay=>au (ak r)<|p (oE ((2 *r:Nat):Int) aa aa<|bl ab ab)<|p (bG ((2 *r+1:Nat):Int) aa aa<|bl ab ab)<|p aB<|nl<|ay<|aC fun aA=>ag fun aD=>p mv<|au (ak hi)<|p (ge aa aa)<|nl<|aD<|cd aa (fun aS=> ?_) fun aS=> ?_
 exact ext<|bf<|mV az<|bf<|be<|f0 aa<|⟨aa,by rw [← ao,XD ab]; exact J,al⟩
 refine aO<|aA ?_
 refine ej (fun ac U=> ∃ (c:Nat),(r < c∧c < hi)∧(qS ca hi first r E=if (!ca E[first+r]! E[first+c]!)=true then E else qS ca hi first c (cR E (first+r)<|first+c))∧(U.ownsRow B 51 1 (.slice C n cp) n<|LE bg E)∧(Md (fun q=>(bR C n cp).ownBlock=some q) w U)∧(ac 0= .slice C n cp)∧(ac 2=ak hi)∧(ac 3=ak first)∧(ac 8=ak r)∧(ac 9=ak c)) ?_ ?_
 refine aC fun ai=> ?_
 have aT:=fM J
 have a:(fun w'=>Wk V w') V.drew:=(Md.refl _ _).drew
 refine bM (fun w'=>Wk V w') aa wide a<|aE 0 aa (fun _ _=>mv) a<|aE 1 aa (fun _ _=>bG ((2 *r+1 +1:Nat):Int) aa aa<|bl ab ab) a<|bH 2 aa (ak hi) a<|aE 3 aa (fun _ _=>lt aa aa) a<|aE 4 aa (fun _ _=>mv) a<|iH (t:=21) aa (fun aV=> ?_) fun aV=> ?_
 refine bj 5 aa (fun _ _=>aU (.slice C n cp) aa) a<|bj 6 aa (fun _ _=>aU (ak first) aa) a<|bj 7 aa (fun _ _=>mv) a<|bj 8 aa (fun _ _=>bG ((first+(2 *r+1):Nat):Int) aa aa<|bl ab ab) a<|bj 9 aa (fun _ _=>ba bY aa aa ab<|aJ.ok ((a8 J).2)<|cx ab) a<|bj 10 aa (fun w' I=>ld c7 aa<|dI (i:=first+(2 *r+1)) ((a8 J).2.wk I) ab) a<|bj 11 aa (fun _ _=>aU (.slice C n cp) aa) a<|bj 12 aa (fun _ _=>aU (ak first) aa) a<|bj 13 aa (fun _ _=>mv) a<|bj 14 aa (fun _ _=>bG ((first+(2 *r+1):Nat):Int) aa aa<|bl ab ab) a<|bj 15 aa (fun _ _=>bG ((first+(2 *r+1)+1:Nat):Int) aa aa<|bl ab ab) a<|bj 16 aa (fun _ _=>ba bY aa aa ab<|aJ.ok ((a8 J).2)<|cx ab) a<|bj 17 aa (fun w' I=>ld c7 aa<|dI (i:=first+(2 *r+1)+1) ((a8 J).2.wk I) ab) a<|lY 18 aa aj aa aa aa<|cl lV (l0 E[first+(2 *r+1)]! E[first+(2 *r+1)+1]! _) aa fun bm bb aQ=> ?_
 obtain ⟨rfl,aH⟩:=aQ
 have Y:(fun w'=>Wk V w') bb:=Md.trans a aH
 refine ⟨Y,?_⟩
 refine aE 19 aa (fun _ _=>bB aa) Y<|hn aj<|ai<|cb aa (fun am=> ?_) fun am=> ?_
 exact rg aa<|p mv<|p (bG ((2 *r+2:Nat):Int) aa aa<|bl ab ab)<|p aB<|nl<|tn<|⟨2 *r+2,ab,(XE ab am),(aW J Y),(Md.trans al<|Y.mono fun _ _ h=>h.elim),aa,aa,aa,aa,aa⟩
 exact aO<|tn<|⟨2 *r+1,ab,(KC ab<|.inr am),(aW J Y),(Md.trans al<|Y.mono fun _ _ h=>h.elim),aa,aa,aa,aa,aa⟩
 exact a6 5 aa a<|a6 6 aa a<|a6 7 aa a<|a6 8 aa a<|a6 9 aa a<|a6 10 aa a<|a6 11 aa a<|a6 12 aa a<|a6 13 aa a<|a6 14 aa a<|a6 15 aa a<|a6 16 aa a<|a6 17 aa a<|a6 18 aa a<|aE 19 aa (fun _ _=>bq aa) a<|hn aj<|ai<|cf aa<|aO<|tn<|⟨2 *r+1,ab,(KC ab<|.inl ab),(aW J (Md.refl _ _).drew),al.drew,aa,aa,aa,aa,aa⟩
 rintro ac U ⟨c,bd,ar,O,aq,a3,a4,a5,a7,a9⟩
 refine fx 0 a3<|fx 2 a4<|fx 3 a5<|fx 8 a7<|fx 9 a9<|aC fun ai=>aC fun aF=> ?_
 have aT:=fM O
 have G:(fun w'=>Wk U w') U.drew:=(Md.refl _ _).drew
 refine bM (fun w'=>Wk U w') aa wide G<|bH 0 aa (.slice C n cp) G<|bH 1 aa (ak first) G<|bH 2 aa (ak r) G<|aE 3 aa (fun _ _=>bG ((first+r:Nat):Int) aa aa<|bl ab ab) G<|aE 4 aa (fun _ _=>ba bY aa aa ab<|aJ.ok ((a8 O).2)<|cx ab) G<|aE 5 aa (fun w' I=>ld c7 aa<|dI (i:=first+r) ((a8 O).2.wk I) ab) G<|bH 6 aa (.slice C n cp) G<|bH 7 aa (ak first) G<|bH 8 aa (ak c) G<|aE 9 aa (fun _ _=>bG ((first+c:Nat):Int) aa aa<|bl ab ab) G<|aE 10 aa (fun _ _=>ba bY aa aa ab<|aJ.ok ((a8 O).2)<|cx ab) G<|aE 11 aa (fun w' I=>ld c7 aa<|dI (i:=first+c) ((a8 O).2.wk I) ab) G<|he 12 aa aj<|cl lV (l0 E[first+r]! E[first+c]! _) aa fun v51 ae aR=> ?_
 obtain ⟨rfl,aI⟩:=aR
 have Z:(fun w'=>Wk U w') ae:=Md.trans G aI
 refine ⟨Z,?_⟩
 refine aE 13 aa (fun _ _=>no aa) Z<|hn aj<|aF<|cb aa (fun an=> ?_) fun an=> ?_
 exact rt<|tr<|br<|tr<|br<|rk aa<|⟨aa,by rw [← ao,ar,if_pos an]; exact aW O Z,Md.trans aq<|Z.mono fun _ _ h=>h.elim⟩
 refine aO<|ai<|aC fun aG=> ?_
 have M:=aW O Z
 have A:(fun w'=>Wk ae w') ae.drew:=(Md.refl _ _).drew
 refine eS (fun w'=>Wk ae w') 21 aa wide A<|bD 0 aa (.slice C n cp) A<|bD 1 aa (ak first) A<|bD 2 aa (ak r) A<|bz 3 aa (fun _=>bG ((first+r:Nat):Int) aa aa<|bl ab ab) (fun _=>A)<|bD 4 aa (.slice C n cp) A<|bD 5 aa (ak first) A<|bD 6 aa (ak c) A<|bz 7 aa (fun _=>bG ((first+c:Nat):Int) aa aa<|bl ab ab) (fun _=>A)<|bD 8 aa (.slice C n cp) A<|bD 9 aa (ak first) A<|bD 10 aa (ak c) A<|bz 11 aa (fun _=>bG ((first+c:Nat):Int) aa aa<|bl ab ab) (fun _=>A)<|bz 12 aa (fun _=>ba bY aa aa ab<|aJ.ok ((a8 M).2)<|cx ab) (fun _=>A)<|dM 13 aa (fun w' I=>ld c7 aa<|dI (i:=first+c) ((a8 M).2.wk I) ab) A<|bD 14 aa (.slice C n cp) A<|bD 15 aa (ak first) A<|bD 16 aa (ak r) A<|bz 17 aa (fun _=>bG ((first+r:Nat):Int) aa aa<|bl ab ab) (fun _=>A)<|bz 18 aa (fun _=>ba bY aa aa ab<|aJ.ok ((a8 M).2)<|cx ab) (fun _=>A)<|dM 19 aa (fun w' I=>ld c7 aa<|dI (i:=first+r) ((a8 M).2.wk I) ab) A<|bz 20 aa (fun _=>ba bY aa aa ab<|aJ.ok ((a8 M).2)<|cx ab) (fun _=>A)<|dK 21 aa aj aj<|gx (u:=E[first+c]!) (first+r) (aW M A) gn aa aa aa ab fun bp aL aX=> ?_
 refine bz 22 aa (fun _=>ba bY aa aa ab<|aJ.ok ((a8 M).2)<|cx ab) (fun h=>ei<|(show true =_ from by kernel_rfl).trans h)<|dK 23 aa aj aj<|gx (u:=E[first+r]!) (first+c) aX gn aa aa aa ab fun av aN aY=> ?_
 have I:av.ownsRow B 51 1 (.slice C n cp) n (LE bg<|cR E (first+r)<|first+c):=aY
 have aK:Md (fun q=>(bR C n cp).ownBlock=some q) ae av:=Md.trans (A.mono fun _ _ h=>h.elim)<|Md.trans aL aN
 exact eR aj<|aG<|rg aa<|au (ak c)<|p (cO (ak c) aa)<|nl<|bn<|tn<|⟨_,ab,c,cR E (first+r) (first+c),ab,(by rw [← ao,ar,if_neg (by rw [an]; exact ei)]),I,(Md.trans aq<|Md.trans (Z.mono fun _ _ h=>h.elim) aK),aa,aa,aa,aa,aa⟩
theorem KD (d:Array Nat) (lo hi first :Nat) (A i:Int) (B n cp:Nat) (a:Option Addr) (w:World) (C:w.ownsRow B 51 1 (.slice a n cp) n (LE bg d)) (E:lo≤hi∧first+hi≤n) (I:A=(lo:Nat)) (G:i=(hi:Nat)) (J:n≤1099511627776):
 bo aw 299 (bh [.slice a n cp,.int .i64 A,.int .i64 i,.int .i64 (first :Nat)]) w (fun v w'=>v= .tuple #[]∧w'.ownsRow B 51 1 (.slice a n cp) n (LE bg<|qS ca hi first lo d)∧Md (fun q=>(bR a n cp).ownBlock=some q) w w'):=by
 subst I G; exact XF d lo hi first B n cp a w C E J
theorem Um (d:Array Nat) (a b:Nat) (B n cp:Nat) (A:Option Addr) (w:World) (aI:w.ownsRow B 51 1 (.slice A n cp) n (LE bg d)) (a5:a < b∧b≤n) (ae:n≤1099511627776):
 bo aw 284 (bh [.slice A n cp,ak a,ak b]) w (fun v w'=>v= .tuple #[]∧w'.ownsRow B 51 1 (.slice A n cp) n (LE bg<|MM ca d a b)∧Md (fun q=>(bR A n cp).ownBlock=some q) w w'):=by
 refine enter func284 aa ntmps284 aa<|ag fun al=>au (ak a)<|p (cO (ak a) aa)<|nl<|al<|ag fun ap=>ay<|ap<|ag fun aq=>au (ak b)<|au (ak a)<|p (dN ((b - a:Nat):Int) aa aa<|bl ab ab)<|ay<|aq<|aC fun ar=>ag fun av=>p mv<|p (dN ((b - a - 1:Nat):Int) aa aa<|bl ab ab)<|p (qE (((b - a - 1) / 2:Nat):Int) aa aa ab<|bl ab ab)<|ay<|av<|aM<|lp (fun O J ac=> ∃ (k:Nat) (E:Array Nat),(k≤b - a)∧(ML ca (b - a) a k E=ML ca (b - a) a ((b - a - 1) / 2 +1) d)∧(ac.ownsRow B 51 1 (.slice A n cp) n<|LE bg E)∧(Md (fun q=>(bR A n cp).ownBlock=some q) w ac)∧(J 0= .slice A n cp)∧(J 6=ak a)∧(J 7= .int .i64 0)∧(J 8=ak (b - a))∧(J 9= .int .i64 ((k:Nat) - 1:Int))∧(k=O)) _ ⟨(b - a - 1) / 2 +1,d,ab,aa,aI,(Md.refl _ _),aa,aa,aa,aa,(iv ab),aa⟩ ?_
 rintro O J ac ⟨k,E,hk,Z,G,U,aU,aV,aX,aY,aZ,rfl⟩
 refine fx 0 aU<|fx 6 aV<|fx 7 aX<|fx 8 aY<|fx 9 aZ<|aC fun ax=>ag fun az=>au (.int .i64 ((k:Nat) - 1:Int))<|p (ge aa aa)<|nl<|az<|cd aa (fun aQ=> ?_) fun aQ=> ?_
 refine aO<|ax<|aC fun Y=>aM<|rg aa<|au (.slice A n cp)<|au (.int .i64 ((k:Nat) - 1:Int))<|au (ak<|b - a)<|au (ak a)<|e<|cl FT (KD E (k - 1) (b - a) a _ _ B n cp A _ G ab ab aa ae) aa fun a9 bc aN=> ?_
 obtain ⟨rfl,aK,aD⟩:=aN
 exact nl<|bn<|Y<|rg aa<|au (.int .i64 ((k:Nat) - 1:Int))<|p (sb aa aa<|bX ab)<|p aB<|nl<|tn<|⟨_,ab,k - 1,qS ca (b - a) a (k - 1) E,ab,(by rw [← Z,TZ (show 0 < k by omega)]),aK,(Md.trans U aD),aa,aa,aa,aa,(iv ab),aa⟩
 refine ext<|bf<|bf<|be<|ar<|ag fun Y=>au (ak<|b - a)<|p (dN ((b - a - 1:Nat):Int) aa aa<|bl ab ab)<|ay<|Y<|aM<|lp (fun O M I=> ∃ (k:Nat) (E:Array Nat),(k≤b - a)∧(Go.Sort.heapPop ca a k E=MM ca d a b)∧(I.ownsRow B 51 1 (.slice A n cp) n<|LE bg E)∧(Md (fun q=>(bR A n cp).ownBlock=some q) w I)∧(M 0= .slice A n cp)∧(M 6=ak a)∧(M 7= .int .i64 0)∧(M 8=ak (b - a))∧(M 10= .int .i64 ((k:Nat) - 1:Int))∧(k=O)) _ ⟨b - a,E,ab,(by rw [show k=0 by omega,T0] at Z; rw [Z]; rfl),G,U,aa,aa,aa,aa,(iv ab),aa⟩ ?_
 rintro O M I ⟨k,E,a7,ah,G,U,a0,a2,a3,a4,a1,rfl⟩
 refine fx 0 a0<|fx 6 a2<|fx 7 a3<|fx 8 a4<|fx 10 a1<|aC fun aA=>ag fun am=>au (.int .i64 ((k:Nat) - 1:Int))<|p (ge aa aa)<|nl<|am<|cd aa (fun aR=> ?_) fun aR=> ?_
 refine aO<|aA<|aC fun an=>aM<|aC fun ao=> ?_
 have a6:=fM G
 have C:(fun w'=>Wk I w') I.drew:=(Md.refl _ _).drew
 refine eS (fun w'=>Wk I w') 17 aa wide C<|bD 0 aa (.slice A n cp) C<|bD 1 aa (ak a) C<|bD 2 aa (.slice A n cp) C<|bD 3 aa (ak a) C<|bD 4 aa (.int .i64 ((k:Nat) - 1:Int)) C<|bz 5 aa (fun _=>bG ((a+(k - 1):Nat):Int) aa aa<|bl ab ab) (fun _=>C)<|bD 6 aa (.slice A n cp) C<|bD 7 aa (ak a) C<|bD 8 aa (.int .i64 ((k:Nat) - 1:Int)) C<|bz 9 aa (fun _=>bG ((a+(k - 1):Nat):Int) aa aa<|bl ab ab) (fun _=>C)<|bz 10 aa (fun _=>ba bY aa aa ab<|aJ.ok ((a8 G).2)<|cx ab) (fun _=>C)<|dM 11 aa (fun w' V=>ld c7 aa<|dI (i:=a+(k - 1)) ((a8 G).2.wk V) ab) C<|bD 12 aa (.slice A n cp) C<|bD 13 aa (ak a) C<|bz 14 aa (fun _=>ba bY aa aa ab<|aJ.ok ((a8 G).2)<|cx ab) (fun _=>C) ?_
 refine dM 15 aa (fun w' V=>ld c7 aa<|dI (i:=a) ((a8 G).2.wk V) ab) C<|bz 16 aa (fun _=>ba bY aa aa ab<|aJ.ok ((a8 G).2)<|cx ab) (fun _=>C)<|dK 17 aa aj aj<|gx (u:=E[a+(k - 1)]!) (a) (aW G C) gn aa aa aa ab fun bi aG aS=>bz 18 aa (fun _=>ba bY aa aa ab<|aJ.ok ((a8 G).2)<|cx ab) (fun h=>ei<|(show true =_ from by kernel_rfl).trans h)<|dK 19 aa aj aj<|gx (u:=E[a]!) (a+(k - 1)) aS gn aa aa aa ab fun ai aH aT=> ?_
 have V:ai.ownsRow B 51 1 (.slice A n cp) n (LE bg<|cR E (a)<|a+(k - 1)):=aT
 have aF:Md (fun q=>(bR A n cp).ownBlock=some q) I ai:=Md.trans (C.mono fun _ _ h=>h.elim)<|Md.trans aG aH
 refine eR aj<|ao<|rg aa<|au (.slice A n cp)<|au (.int .i64 0)<|au (.int .i64 ((k:Nat) - 1:Int))<|au (ak a)<|e<|cl FT (KD (cR E a<|a+(k - 1)) 0 (k - 1) a _ _ B n cp A _ V ab aa ab ae) aa fun bb bd aP=> ?_
 obtain ⟨rfl,aL,aE⟩:=aP
 exact nl<|bn<|an<|rg aa<|au (.int .i64 ((k:Nat) - 1:Int))<|p (sb aa aa<|bX ab)<|p aB<|nl<|tn<|⟨_,ab,k - 1,qS ca (k - 1) a 0 (cR E a<|a+(k - 1)),ab,(by rw [← ah,Uo (show 0 < k by omega)]),aL,(Md.trans U<|Md.trans aF aE),aa,aa,aa,aa,(iv ab),aa⟩
 exact ext<|bf<|bf<|be<|f0 aa<|⟨aa,by rw [← ah,show k=0 by omega]; exact G,U⟩
theorem WT (d:Array Nat) (a b:Nat) (B n cp:Nat) (C:Option Addr) (w:World) (ap:w.ownsRow B 51 1 (.slice C n cp) n (LE bg d)) (aD:a < b∧b≤n) (aF:n≤1099511627776):
 bo aw 287 (bh [.slice C n cp,ak a,ak b]) w (fun v w'=>v= .tuple #[]∧w'.ownsRow B 51 1 (.slice C n cp) n (LE bg<|Eb d a b)∧Md (fun q=>(bR C n cp).ownBlock=some q) w w'):=by
 refine enter func287 aa ntmps287 aa<|ag fun Z=>au (ak a)<|p (cO (ak a) aa)<|nl<|Z<|ag fun ac=>au (ak b)<|p (dN ((b - 1:Nat):Int) aa aa<|bl ab ab)<|ay<|ac<|aM<|lp (fun O M I=> ∃ (i j:Nat) (G:Array Nat),(i≤n∧j < n)∧(Go.Sort.reverseLoop i j G=Eb d a b)∧(I.ownsRow B 51 1 (.slice C n cp) n<|LE bg G)∧(Md (fun q=>(bR C n cp).ownBlock=some q) w I)∧(M 0= .slice C n cp)∧(M 6=ak i)∧(M 7=ak j)∧(j - i=O)) _ ⟨a,b - 1,d,ab,aa,ap,(Md.refl _ _),aa,aa,aa,aa⟩ ?_
 rintro O M I ⟨i,j,G,hi,V,E,U,ax,az,aA,rfl⟩
 refine fx 0 ax<|fx 6 az<|fx 7 aA<|aC fun ae=>ag fun ah=>au (ak i)<|au (ak j)<|p (lt aa aa)<|nl<|ah<|cd aa (fun aq=> ?_) fun aq=> ?_
 refine aO<|ae<|aM<|aC fun ai=> ?_
 have aE:=fM E
 have A:(fun w'=>Wk I w') I.drew:=(Md.refl _ _).drew
 refine eS (fun w'=>Wk I w') 13 aa wide A<|bD 0 aa (.slice C n cp) A<|bD 1 aa (ak i) A<|bD 2 aa (.slice C n cp) A<|bD 3 aa (ak j) A<|bD 4 aa (.slice C n cp) A<|bD 5 aa (ak j) A<|bz 6 aa (fun _=>ba bY aa aa ab<|aJ.ok ((a8 E).2)<|cx ab) (fun _=>A)<|dM 7 aa (fun w' J=>ld c7 aa<|dI (i:=j) ((a8 E).2.wk J) ab) A<|bD 8 aa (.slice C n cp) A<|bD 9 aa (ak i) A<|bz 10 aa (fun _=>ba bY aa aa ab<|aJ.ok ((a8 E).2)<|cx ab) (fun _=>A)<|dM 11 aa (fun w' J=>ld c7 aa<|dI (i:=i) ((a8 E).2.wk J) ab) A<|bz 12 aa (fun _=>ba bY aa aa ab<|aJ.ok ((a8 E).2)<|cx ab) (fun _=>A)<|dK 13 aa aj aj<|gx (u:=G[j]!) (i) (aW E A) gn aa aa aa ab fun aG an ar=> ?_
 refine bz 14 aa (fun _=>ba bY aa aa ab<|aJ.ok ((a8 E).2)<|cx ab) (fun h=>ei<|(show true =_ from by kernel_rfl).trans h)<|dK 15 aa aj aj<|gx (u:=G[i]!) (j) ar gn aa aa aa ab fun Y ao av=> ?_
 have J:Y.ownsRow B 51 1 (.slice C n cp) n (LE bg<|cR G (i)<|j):=av
 have am:Md (fun q=>(bR C n cp).ownBlock=some q) I Y:=Md.trans (A.mono fun _ _ h=>h.elim)<|Md.trans an ao
 refine eR aj<|ai<|ag fun al=>au (ak i)<|p (bG ((i+1:Nat):Int) aa aa<|bl ab ab)<|ay<|al ?_
 exact rg aa<|au (ak j)<|p (dN ((j - 1:Nat):Int) aa aa<|bl ab ab)<|p aB<|nl<|bn<|tn<|⟨_,ab,i+1,j - 1,cR G i j,ab,(by rw [← V,WR (show i < j by omega)]),J,(Md.trans U am),aa,aa,aa,aa⟩
 exact ext<|bf<|bf<|be<|f0 aa<|⟨aa,by rw [← V,WS ab]; exact E,U⟩
end Go.Hb
end
section
namespace Go.Hb
open Go.Hb.dX
theorem YE {n:Nat} {l:List UInt8} (h:n < 256) (a:∀ k:Fin 256,(l.getD k.val 0).toNat=kQ k.val):IntKind.i64.wrap ((l.getD n 0).toNat:Int)=(kQ n:Int):=by
 rw [a ⟨n,h⟩]; have :=yo h; exact bX<|by simp only; omega
theorem Xw {k:Nat} (h:k≤8):eK.wrap ((1:Int)*2 ^ min ((k:Nat):Int).toNat eK.bits)=((2 ^ k:Nat):Int):=by
 have h2:(eK.bits:Nat)=64:=rfl
 rw [Int.toNat_natCast,h2,Nat.min_eq_left ab,Int.one_mul]
 have h3:(2:Nat) ^ k≤2 ^ 8:=Nat.pow_le_pow_right az h
 have h4:((2:Int) ^ k)=((2 ^ k:Nat):Int):=by simp
 rw [h4]
 obtain ⟨m,hm⟩:∃ m:Nat,2 ^ k=m:=⟨_,rfl⟩
 rw [hm] at h3 ⊢; exact oN ab
theorem Wn {d d1 d2:Array Nat} {a b i j:Nat} (h:nX a b d d1) (hi:a≤i∧i < b) (q:a≤j∧j < b) (A:b≤d1.size) (h2:d2=cR d1 i j):nX a b d d2:=by
 subst h2; exact rZ _ _ _ a b h<|Go.Sort.swp_permIn d1 a b i j hi.1 hi.2 q.1 q.2 A
theorem CJ (d:Array Nat) (i j s lo hi G:Nat) (B n cp:Nat) (E:Option Addr) (w:World) (A:w.ownsRow B 51 1 (.slice E n cp) n (LE bg d)) (U:bO w.heap G [ak s]) (ao:(bR E n cp).ownBlock≠some G) (ax:lo≤i∧i < hi∧lo≤j∧j < hi∧hi≤n) (hs:s≤1000) (av:n≤1099511627776):
 bo aw 308 (bh [.slice E n cp,ak i,ak j,aR G]) w (fun v w'=> ∃ M O s1:Nat,v= .tuple #[ak M,ak O]∧(lo≤M∧M < hi)∧(lo≤O∧O < hi)∧s1≤s+1∧bO w'.heap G [ak s1]∧w'.ownsRow B 51 1 (.slice E n cp) n (LE bg d)∧Md (fun q=>q=G) w w'):=by
 refine enter func308 aa ntmps308 aa<|ag fun Z=>p aB<|ay<|Z<|aC fun ac=>aC fun ae=> ?_
 have ar:=fM A
 have a:(fun w'=>Wk w w') w.drew:=(Md.refl _ _).drew
 refine bM (fun w'=>Wk w w') aa wide a<|bH 0 aa (.slice E n cp) a<|bH 1 aa (ak j) a<|aE 2 aa (fun _ _=>ba bY aa aa ab<|aJ.ok ((a8 A).2)<|cx ab) a<|aE 3 aa (fun w' J=>ld c7 aa<|dI (i:=j) ((a8 A).2.wk J) ab) a<|bH 4 aa (.slice E n cp) a<|bH 5 aa (ak i) a<|aE 6 aa (fun _ _=>ba bY aa aa ab<|aJ.ok ((a8 A).2)<|cx ab) a<|aE 7 aa (fun w' J=>ld c7 aa<|dI (i:=i) ((a8 A).2.wk J) ab) a<|he 8 aa aj<|cl lV (l0 d[j]! d[i]! _) aa fun az aq an=> ?_
 obtain ⟨rfl,al⟩:=an
 have C:(fun w'=>Wk w w') aq:=Md.trans a al
 refine ⟨C,?_⟩
 refine hn aj<|ae<|cb aa (fun ap=> ?_) fun ap=> ?_
 have V:=C.B U
 have am:=aW A C
 exact ag fun I=>au (aR G)<|p (nc aa)<|p (ld bC aa<|V.aQ 0)<|p (bG ((s+1:Nat):Int) aa aa<|bl ab ab)<|p (nc aa)<|e<|st gB aa aa (aa) (V) (by simp) fun aA Y ai=>nl<|I<|ag fun ah=>au (ak j)<|au (ak i)<|p (cO (ak j) aa)<|p (cO (ak i) aa)<|nl<|ah<|rt<|tr<|f2 aa aa aa<|⟨j,i,s+1,aa,ab,ab,ab,ai,cX am Y (fun k hk h=>ao<|h ▸ hk),Md.trans (C.mono fun _ _ h=>h.elim) Y⟩
 exact aO<|ac<|ag fun I=>au (ak i)<|au (ak j)<|p (cO (ak i) aa)<|p (cO (ak j) aa)<|nl<|I<|rt<|f2 aa aa aa<|⟨i,j,s,aa,ab,ab,ab,C.B U,aW A C,C.mono fun _ _ h=>h.elim⟩
theorem Jf (d:Array Nat) (i j k s lo hi a:Nat) (B n cp:Nat) (A:Option Addr) (w:World) (aj:w.ownsRow B 51 1 (.slice A n cp) n (LE bg d)) (V:bO w.heap a [ak s]) (C:(bR A n cp).ownBlock≠some a) (aI:(lo≤i∧i < hi)∧(lo≤j∧j < hi)∧(lo≤k∧k < hi)∧hi≤n) (hs:s≤900) (E:n≤1099511627776):
 bo aw 301 (bh [.slice A n cp,ak i,ak j,ak k,aR a]) w (fun v w'=> ∃ G s1:Nat,v=ak G∧(lo≤G∧G < hi)∧s1≤s+3∧bO w'.heap a [ak s1]∧w'.ownsRow B 51 1 (.slice A n cp) n (LE bg d)∧Md (fun q=>q=a) w w'):=by
 refine enter func301 aa ntmps301 aa<|ag fun I=>ay<|I<|ag fun J=>au (.slice A n cp)<|au (ak i)<|au (ak j)<|au (aR a)<|e<|cl AG (CJ d i j s lo hi a B n cp A _ aj V C ab ab E) aa fun aN aP ao=> ?_
 obtain ⟨i1,av,s1,rfl,aD,aF,aJ,Y,al,ae⟩:=ao
 refine p mv<|p (xt aa aa)<|p (xt aa aa)<|p aB<|ay<|J<|aC fun M=>rg aa<|au (.slice A n cp)<|p mv<|au (ak k)<|au (aR a)<|e<|cl AG (CJ d av k s1 lo hi a B n cp A _ al Y C ab ab E) aa fun v24 aQ ap=> ?_
 obtain ⟨ax,aM,s2,rfl,aG,aH,aK,Z,am,ah⟩:=ap
 refine p mv<|p (xt aa aa)<|p (xt aa aa)<|p aB<|ay<|M<|aC fun O=>rg aa<|au (.slice A n cp)<|p mv<|p mv<|au (aR a)<|e<|cl AG (CJ d i1 ax s2 lo hi a B n cp A _ am Z C ab ab E) aa fun aO aS aq=> ?_
 obtain ⟨i3,az,aA,rfl,aE,ar,aL,ac,an,ai⟩:=aq
 exact p mv<|p (xt aa aa)<|p (xt aa aa)<|p aB<|ay<|O<|aC fun U=>rg aa<|p mv<|ay<|U<|rt<|aX aa<|⟨az,aA,aa,ar,ab,ac,an,Md.trans ae<|Md.trans ah ai⟩
theorem Cu (d:Array Nat) (i s lo hi a:Nat) (B n cp:Nat) (A:Option Addr) (w:World) (J:w.ownsRow B 51 1 (.slice A n cp) n (LE bg d)) (I:bO w.heap a [ak s]) (O:(bR A n cp).ownBlock≠some a) (V:lo+1≤i∧i+1 < hi∧hi≤n) (hs:s≤900) (U:n≤1099511627776):
 bo aw 300 (bh [.slice A n cp,ak i,aR a]) w (fun v w'=> ∃ C s1:Nat,v=ak C∧(lo≤C∧C < hi)∧s1≤s+3∧bO w'.heap a [ak s1]∧w'.ownsRow B 51 1 (.slice A n cp) n (LE bg d)∧Md (fun q=>q=a) w w'):=by
 exact enter func300 aa ntmps300 aa<|ag fun E=>ay<|E<|ag fun G=>au (.slice A n cp)<|au (ak i)<|p (dN ((i - 1:Nat):Int) aa aa<|bl ab ab)<|au (ak i)<|au (ak i)<|p (bG ((i+1:Nat):Int) aa aa<|bl ab ab)<|au (aR a)<|e<|cl FU (Jf d (i - 1) i (i+1) s lo hi a B n cp A _ J I O ab ab U) aa fun Y Z M=>p aB<|nl<|G<|rt<|aX aa<|M
theorem Qv (d:Array Nat) (a b:Nat) (B n cp:Nat) (i:Option Addr) (w:World) (ao:w.ownsRow B 51 1 (.slice i n cp) n (LE bg d)) (bq:a+12 < b∧b≤n) (M:n≤1099511627776):
 bo aw 286 (bh [.slice i n cp,ak a,ak b]) w (fun v w'=> ∃ (am:Nat) (bj:Int),v= .tuple #[ak am,.int .i64 bj]∧(a≤am∧am < b)∧w'.ownsRow B 51 1 (.slice i n cp) n (LE bg d)∧Wk w w'):=by
 refine enter func286 aa ntmps286 aa<|ag fun aq=>p aB<|ay<|aq<|ag fun ar=>au (ak b)<|au (ak a)<|p (dN ((b - a:Nat):Int) aa aa<|bl ab ab)<|ay<|ar<|ag fun av=>e<|al DH fun A bM bs ae an=> ?_
 have ap:=aW ao ae.md
 have J:(bR i n cp).ownBlock≠some A:=fun h=>by have :=dG ao h; omega
 refine nl<|av<|ag fun ax=>au (ak a)<|p mv<|p (qE (((b - a) / 4:Nat):Int) aa aa ab<|bl ab ab)<|p (oE (((b - a) / 4:Nat):Int) aa aa<|bl ab ab)<|p (bG ((a+(b - a) / 4:Nat):Int) aa aa<|bl ab ab)<|ay<|ax<|ag fun az=>au (ak a)<|p mv<|p (qE (((b - a) / 4:Nat):Int) aa aa ab<|bl ab ab)<|p (oE (((b - a) / 4 *2:Nat):Int) aa aa<|bl ab ab)<|p (bG ((a+(b - a) / 4 *2:Nat):Int) aa aa<|bl ab ab)<|ay<|az<|ag fun aA=>au (ak a)<|p mv<|p (qE (((b - a) / 4:Nat):Int) aa aa ab<|bl ab ab)<|p (oE (((b - a) / 4 *3:Nat):Int) aa aa<|bl ab ab)<|p (bG ((a+(b - a) / 4 *3:Nat):Int) aa aa<|bl ab ab)<|ay<|aA ?_
 refine aC fun aD=>ag fun aE=>p mv<|p (ge aa aa)<|nl<|aE<|cd aa (fun bt=> ?_) fun h=>absurd ab h
 refine ej (fun q U=> ∃ (C E G O:Nat),(a≤C∧C < b)∧(a≤E∧E < b)∧(a≤G∧G < b)∧(O≤9)∧(bO U.heap A [ak O])∧(U.ownsRow B 51 1 (.slice i n cp) n<|LE bg d)∧(Wk w U)∧(q 0= .slice i n cp)∧(q 1=ak a)∧(q 2=ak b)∧(q 8=ak (b - a))∧(q 9=aR A)∧(q 10=ak C)∧(q 11=ak E)∧(q 12=ak G)) ?_ ?_
 refine ag fun Z=>p mv<|p (ge aa aa)<|nl<|Z<|cd aa (fun a2=> ?_) fun a2=> ?_
 refine ag fun V=>au (.slice i n cp)<|p mv<|e<|cl AF (Cu d (a+(b - a) / 4) 0 a b A B n cp i _ ap an J ab ab M) aa fun v37 bJ aY=> ?_
 obtain ⟨i1,s1,rfl,a5,bx,aF,aT,aL⟩:=aY
 refine ay<|V<|ag fun I=>au (.slice i n cp)<|p mv<|e<|cl AF (Cu d (a+(b - a) / 4 *2) s1 a b A B n cp i _ aT aF J ab ab M) aa fun v40 bK aZ=> ?_
 obtain ⟨bk,s2,rfl,a6,bz,aG,aU,aN⟩:=aZ
 refine ay<|I<|rg aa<|au (.slice i n cp)<|p mv<|e<|cl AF (Cu d (a+(b - a) / 4 *3) s2 a b A B n cp i _ aU aG J ab ab M) aa fun bF bL a0=> ?_
 obtain ⟨bm,bn,rfl,a7,bA,aH,aV,aP⟩:=a0
 exact p aB<|nl<|tn<|⟨i1,bk,bm,bn,a5,a6,a7,ab,aH,aV,(Md.trans' ae.md (Md.trans aL<|Md.trans aN aP) fun k hk h=>by omega),aa,aa,aa,aa,aa,aa,aa,aa⟩
 exact aO<|tn<|⟨a+(b - a) / 4,a+(b - a) / 4 *2,a+(b - a) / 4 *3,0,ab,ab,ab,ab,an,ap,ae.md,aa,aa,aa,aa,aa,aa,aa,aa⟩
 rintro q U ⟨C,E,G,O,bu,bv,bw,bD,aJ,aX,aK,a8,a9,bd,bf,bi,ba,bb,bc⟩
 refine fx 0 a8<|fx 1 a9<|fx 2 bd<|fx 8 bf<|fx 9 bi<|fx 10 ba<|fx 11 bb<|fx 12 bc<|rg aa<|au (.slice i n cp)<|au (ak C)<|au (ak E)<|au (ak G)<|e<|cl FU (Jf d C E G O a b A B n cp i _ aX aJ J ab ab M) aa fun bH bp a1=> ?_
 obtain ⟨aj,bE,rfl,ai,bB,aI,ah,aS⟩:=a1
 have ac:Wk w bp:=Md.trans' aK aS fun k hk h=>by omega
 refine ay<|aD<|ag fun Z=>p (ld bC aa<|aI.aQ 0)<|nl<|Z<|aM<|ag fun V=>p (bI aa aa)<|ay<|V<|cd aa (fun a3=> ?_) fun a3=> ?_
 exact ag fun I=>p mv<|p aB<|ay<|I<|rt<|br<|f2 aa aa aa<|⟨aj,_,aa,ai,ah,ac⟩
 refine ag fun I=>p (bI aa aa)<|ay<|I<|cd aa (fun a4=> ?_) fun a4=> ?_
 exact ag fun Y=>p mv<|p aB<|ay<|Y<|rt<|br<|f2 aa aa aa<|⟨aj,_,aa,ai,ah,ac⟩
 exact ag fun Y=>p mv<|p aB<|ay<|Y<|rt<|br<|f2 aa aa aa<|⟨aj,_,aa,ai,ah,ac⟩
theorem VI (a:Nat) (r:Int) (w:World) (I:bO w.heap a [.int .u64 r]):
 bo aw 228 (bh [aR a]) w (fun v w'=> ∃ G:Int,v= .int .u64 G∧0≤G∧G < 18446744073709551616∧bO w'.heap a [.int .u64 G]∧Md (fun q=>q=a) w w'):=by
 refine enter func228 aa ntmps228 aa<|ag fun Y=>ay<|Y<|aC fun Z=> ?_
 have A:(fun w'=>Wk w w') w.drew:=(Md.refl _ _).drew
 refine eS (fun w'=>Wk w w') 9 aa wide A<|lq 0 aa aj (fun _ _=>aU (aR a) aa) A<|lq 1 aa aj (fun _ _=>nc aa) A<|lq 2 aa aj (fun w' i=>ld q4 aa<|Wk.aQ i<|I.aQ 0) A<|lq 3 aa aj (fun _ _=>aU (aR a) aa) A<|lq 4 aa aj (fun _ _=>nc aa) A<|lq 5 aa aj (fun w' i=>ld q4 aa<|Wk.aQ i<|I.aQ 0) A<|lq 6 aa aj (fun _ _=>shl aa aa az aa) A<|lq 7 aa aj (fun _ _=>Ab aa aa aa) A<|lq 8 aa aj (fun _ _=>nc aa) A<|dK 9 aa aj aj<|st xr aa aa (aa) (A.B I) (by simp) fun O ah J=>eR aj<|Z<|aC fun ab=> ?_
 have C:(fun w'=>Wk O w') O.drew:=(Md.refl _ _).drew
 refine eS (fun w'=>Wk O w') 9 aa wide C<|lq 0 aa aj (fun _ _=>aU (aR a) aa) C<|lq 1 aa aj (fun _ _=>nc aa) C<|lq 2 aa aj (fun w' i=>ld q4 aa<|Wk.aQ i<|J.aQ 0) C<|lq 3 aa aj (fun _ _=>aU (aR a) aa) C<|lq 4 aa aj (fun _ _=>nc aa) C<|lq 5 aa aj (fun w' i=>ld q4 aa<|Wk.aQ i<|J.aQ 0) C<|lq 6 aa aj (fun _ _=>shr aa aa az aa) C<|lq 7 aa aj (fun _ _=>Ab aa aa aa) C<|lq 8 aa aj (fun _ _=>nc aa) C<|dK 9 aa aj aj<|st xr aa aa (aa) (C.B J) (by simp) fun U ai M=>eR aj<|ab<|aC fun ac=> ?_
 have E:(fun w'=>Wk U w') U.drew:=(Md.refl _ _).drew
 refine eS (fun w'=>Wk U w') 9 aa wide E<|lq 0 aa aj (fun _ _=>aU (aR a) aa) E<|lq 1 aa aj (fun _ _=>nc aa) E<|lq 2 aa aj (fun w' i=>ld q4 aa<|Wk.aQ i<|M.aQ 0) E<|lq 3 aa aj (fun _ _=>aU (aR a) aa) E<|lq 4 aa aj (fun _ _=>nc aa) E<|lq 5 aa aj (fun w' i=>ld q4 aa<|Wk.aQ i<|M.aQ 0) E<|lq 6 aa aj (fun _ _=>shl aa aa az aa) E<|lq 7 aa aj (fun _ _=>Ab aa aa aa) E<|lq 8 aa aj (fun _ _=>nc aa) E<|dK 9 aa aj aj<|st xr aa aa (aa) (E.B M) (by simp) fun al ak V=>eR aj<|ac<|ag fun ae=>au (aR a)<|p (nc aa)<|p (ld q4 aa<|V.aQ 0)<|p aB<|nl ?_
 refine ae<|rt<|aX aa ?_
 refine ⟨_,aa,(LB _).1,(LB _).2,V,?_⟩
 exact Md.trans (Md.refl _ _).drew<|Md.trans ah<|Md.trans (Md.refl _ _).drew<|Md.trans ai<|Md.trans (Md.refl _ _).drew ak
theorem U9 (n:Nat) (w:World) (hn:n < 256):
 bo aw 169 (bh [.int .u64 (n:Nat)]) w (fun v w'=>v=ak (kQ n)∧Wk w w'):=by
 have U:=yo hn
 refine enter func169 aa ntmps169 aa<|ag fun a=>ay<|a<|aC fun i=>ag fun q=>au (.int .u64 (n:Nat))<|p (ge aa aa)<|nl<|q<|cd aa (fun h=>absurd h ab) fun M=>aO<|i<|aC fun A=>ag fun C=>au (.int .u64 (n:Nat))<|p (ge aa aa)<|nl<|C<|cd aa (fun h=>absurd h ab) fun O=> ?_
 refine aO<|A<|aC fun E=>ag fun G=>au (.int .u64 (n:Nat))<|p (ge aa aa)<|nl<|G<|cd aa (fun h=>absurd h ab) fun J=> ?_
 exact aO<|E<|ag fun I=>au (.int .i64 0)<|au (.int .u64 (n:Nat))<|p (xp u5 YK aa<|tF ab)<|p (eQ u9 aa aa (by have :n < 256:=hn; simpa using this))<|p (lG u3 pO aa<|YE hn<|by decide+kernel)<|p (bG ((kQ n:Nat):Int) aa aa<|bl ab ab)<|ay<|I<|rt<|aX aa<|⟨aa,Md.refl _ _⟩
theorem I2 (n:Nat) (w:World) (hn:n < 256):
 bo aw 111 (bh [.int .u64 (n:Nat)]) w (fun v w'=>v=ak (kQ n)∧Wk w w'):=by
 refine enter func111 aa ntmps111 aa<|ag fun a=>ay<|a<|aC fun i=>cf aa<|aO<|i<|ag fun q=>au (.int .u64 (n:Nat))<|e<|cl OV (U9 n _ hn) aa fun C E A=>ay<|q ?_
 exact rt<|aX aa<|A
theorem VJ (n:Nat) (w:World) (hn:n < 256):
 bo aw 227 (bh [ak n]) w (fun v w'=>v= .int .u64 (2 ^ kQ n:Nat)∧Wk w w'):=by
 refine enter func227 aa ntmps227 aa<|ag fun a=>ay<|a<|ag fun i=>au (ak n)<|p (lG Lx qK aa<|oN ab)<|e<|cl Fc (I2 n _ hn) aa fun v5 E A=> ?_
 obtain ⟨rfl,q⟩:=A
 have C:=yo hn
 exact p (shl aa aa ab<|Xw C)<|ay<|i<|rt<|aX aa<|⟨aa,q⟩
theorem On (d:Array Nat) (a b:Nat) (B n cp:Nat) (C:Option Addr) (w:World) (av:w.ownsRow B 51 1 (.slice C n cp) n (LE bg d)) (bu:a+12 < b∧b≤n) (bC:n≤255):
 bo aw 285 (bh [.slice C n cp,ak a,ak b]) w (fun v w'=> ∃ d1,v= .tuple #[]∧nX a b d d1∧w'.ownsRow B 51 1 (.slice C n cp) n (LE bg d1)∧Md (fun q=>(bR C n cp).ownBlock=some q) w w'):=by
 refine enter func285 aa ntmps285 aa<|ag fun az=>au (ak b)<|au (ak a)<|p (dN ((b - a:Nat):Int) aa aa<|bl ab ab)<|ay<|az<|ag fun aD=>p mv<|p (ge aa aa)<|nl<|aD<|cd aa (fun bw=> ?_) fun h=>absurd ab h
 refine ag fun aF=>p mv<|p (lG YA qK aa<|oN ab)<|e<|al Zi fun V bP bv aZ aQ=>e<|st xr aa aa (aa) (aQ) (by simp) fun bt aU aP=> ?_
 have aq:Wk w bt:=Md.trans' aZ.md aU fun k hk h=>by omega
 refine nl<|aF<|ag fun aG=>p mv<|e<|cl Pe (VJ (b - a) _ ab) aa fun bK bM a0=> ?_
 obtain ⟨rfl,ah⟩:=a0
 have bB:=Va (n:=b - a) ab ab
 refine ay<|aG<|ag fun aH=>au (ak a)<|p mv<|p (qE (((b - a) / 4:Nat):Int) aa aa ab<|bl ab ab)<|p (oE (((b - a) / 4 *2:Nat):Int) aa aa<|bl ab ab)<|p (bG ((a+(b - a) / 4 *2:Nat):Int) aa aa<|bl ab ab)<|p (dN ((a+(b - a) / 4 *2 - 1:Nat):Int) aa aa<|bl ab ab)<|ay<|aH<|aM ?_
 have Z:(bR C n cp).ownBlock≠some V:=fun h=>by have :=dG av h; omega
 refine lp (fun ao U ae=> ∃ (E:Nat) (r:Int) (I:Array Nat),(a+(b - a) / 4 *2 - 1≤E∧E≤a+(b - a) / 4 *2 +2)∧(nX a b d I)∧(bO ae.heap V [.int .u64 r])∧(ae.ownsRow B 51 1 (.slice C n cp) n<|LE bg I)∧(Md (fun q=>(bR C n cp).ownBlock=some q) w ae)∧(U 0= .slice C n cp)∧(U 1=ak a)∧(U 6=ak (b - a))∧(U 7=aR V)∧(U 8= .int .u64 (2 ^ kQ (b - a):Nat))∧(U 9=ak E)∧(a+(b - a) / 4 *2 +3 - E=ao)) _ ⟨a+(b - a) / 4 *2 - 1,(b - a:Nat),d,ab,(MP d a b),(ah.B aP),(aW (aW av aq) ah),((Md.trans aq ah).mono fun _ _ h=>h.elim),aa,aa,aa,aa,aa,aa,aa⟩ ?_
 rintro ao U ae ⟨E,r,I,bA,aE,aT,am,ai,a7,a9,bb,bc,bd,bi,rfl⟩
 refine fx 0 a7<|fx 1 a9<|fx 6 bb<|fx 7 bc<|fx 8 bd<|fx 9 bi<|aC fun aI=>ag fun aK=>au (ak E)<|au (ak a)<|au (ak<|b - a)<|p (qE (((b - a) / 4:Nat):Int) aa aa ab<|bl ab ab)<|p (oE (((b - a) / 4 *2:Nat):Int) aa aa<|bl ab ab)<|p (bG ((a+(b - a) / 4 *2:Nat):Int) aa aa<|bl ab ab)<|p (bG ((a+(b - a) / 4 *2 +1:Nat):Int) aa aa<|bl ab ab)<|p (le aa aa)<|nl<|aK<|cd aa (fun a2=> ?_) fun a2=> ?_
 refine aO<|aI<|aC fun aL=>aM<|ag fun aN=>e<|cl Pf (VI V r _ aT) aa fun bL bN a1=> ?_
 obtain ⟨an,rfl,bI,bJ,ap,ac⟩:=a1
 obtain ⟨o,bF,a6⟩:=N4 an (2 ^ kQ (b - a)) ab
 have bE:=Z
 refine au (.int .u64 (2 ^ kQ (b - a):Nat))<|p (sb aa aa<|oN ab)<|p (fD aa aa a6)<|p (xp u3 YL aa<|bX ab)<|ay<|aN ?_
 refine ej (fun O M=> ∃ (G:Nat),(G < b - a)∧(bO M.heap V [.int .u64 an])∧(M.ownsRow B 51 1 (.slice C n cp) n<|LE bg I)∧(Md (fun q=>(bR C n cp).ownBlock=some q) w M)∧(O 0= .slice C n cp)∧(O 1=ak a)∧(O 6=ak (b - a))∧(O 7=aR V)∧(O 8= .int .u64 (2 ^ kQ (b - a):Nat))∧(O 9=ak E)∧(O 10=ak G)) ?_ ?_
 refine ag fun aA=>p mv<|au (ak<|b - a)<|p (ge aa aa)<|nl<|aA<|cd aa (fun a3=> ?_) fun a3=> ?_
 exact rg aa<|p mv<|au (ak<|b - a)<|p (dN ((o - (b - a):Nat):Int) aa aa<|bl ab ab)<|p aB<|nl<|tn<|⟨o - (b - a),ab,ap,(cX am ac fun k hk h=>Z<|h ▸ hk),(Md.trans' ai ac fun k hk h=>by omega),aa,aa,aa,aa,aa,aa,aa⟩
 exact aO<|tn<|⟨o,ab,ap,(cX am ac fun k hk h=>Z<|h ▸ hk),(Md.trans' ai ac fun k hk h=>by omega),aa,aa,aa,aa,aa,aa,aa⟩
 rintro O M ⟨G,bH,aS,J,aY,bj,bk,bp,bq,br,bs,bm⟩
 refine fx 0 bj<|fx 1 bk<|fx 6 bp<|fx 7 bq<|fx 8 br<|fx 9 bs<|fx 10 bm ?_
 have bx:=fM J
 have A:(fun w'=>Wk M w') M.drew:=(Md.refl _ _).drew
 refine eS (fun w'=>Wk M w') 17 aa wide A<|bD 0 aa (.slice C n cp) A<|bD 1 aa (ak E) A<|bD 2 aa (.slice C n cp) A<|bD 3 aa (ak a) A<|bD 4 aa (ak G) A<|bz 5 aa (fun _=>bG ((a+G:Nat):Int) aa aa<|bl ab ab) (fun _=>A)<|bD 6 aa (.slice C n cp) A<|bD 7 aa (ak a) A<|bD 8 aa (ak G) A<|bz 9 aa (fun _=>bG ((a+G:Nat):Int) aa aa<|bl ab ab) (fun _=>A)<|bz 10 aa (fun _=>ba bY aa aa ab<|aJ.ok ((a8 J).2)<|cx ab) (fun _=>A)<|dM 11 aa (fun w' Y=>ld c7 aa<|dI (i:=a+G) ((a8 J).2.wk Y) ab) A<|bD 12 aa (.slice C n cp) A<|bD 13 aa (ak E) A<|bz 14 aa (fun _=>ba bY aa aa ab<|aJ.ok ((a8 J).2)<|cx ab) (fun _=>A)<|dM 15 aa (fun w' Y=>ld c7 aa<|dI (i:=E) ((a8 J).2.wk Y) ab) A<|bz 16 aa (fun _=>ba bY aa aa ab<|aJ.ok ((a8 J).2)<|cx ab) (fun _=>A)<|dK 17 aa aj aj<|gx (u:=I[a+G]!) (E) (aW J A) gn aa aa aa ab fun bQ aV a4=> ?_
 refine bz 18 aa (fun _=>ba bY aa aa ab<|aJ.ok ((a8 J).2)<|cx ab) (fun h=>ei<|(show true =_ from by kernel_rfl).trans h)<|dK 19 aa aj aj<|gx (u:=I[E]!) (a+G) a4 gn aa aa aa ab fun ax aX a5=> ?_
 have Y:ax.ownsRow B 51 1 (.slice C n cp) n (LE bg<|cR I (E)<|a+G):=a5
 have ar:Md (fun q=>(bR C n cp).ownBlock=some q) M ax:=Md.trans (A.mono fun _ _ h=>h.elim)<|Md.trans aV aX
 exact eR aj<|bn<|aL<|rg aa<|au (ak E)<|p (bG ((E+1:Nat):Int) aa aa<|bl ab ab)<|p aB<|nl<|tn<|⟨_,ab,E+1,an,cR I E (a+G),ab,(Wn aE ab ab ab aa),(ar.B aS fun h=>Z h),Y,(Md.trans aY ar),aa,aa,aa,aa,aa,aa,aa⟩
 exact ext<|bf<|bf<|be<|f0 aa<|⟨I,aa,aE,am,ai⟩
end Go.Hb
end
section
namespace Go.Hb
open Go.Hb.dX
theorem We {d:Array Nat} {a b q i j:Nat} (h1:nZ (fun x=>ca x (cR d a q)[a]!) (cR d a q) (b - 1) (a+1)=i) (h2:nY (fun x=> !ca x (cR d a q)[a]!) (cR d a q) i (b - 1)=j) (h:i > j):
 qR ca d a b q=(j,true,cR (cR d a q) j a):=by
 unfold qR; simp only [h1,h2,if_pos h]
theorem part_go {d:Array Nat} {a b q i j A:Nat} {C:Array Nat} (h1:nZ (fun x=>ca x (cR d a q)[a]!) (cR d a q) (b - 1) (a+1)=i) (h2:nY (fun x=> !ca x (cR d a q)[a]!) (cR d a q) i (b - 1)=j) (h:¬i > j)
 (h3:Ea ca a (i+1) (j - 1) (cR (cR d a q) i j)=(A,C)):
 qR ca d a b q=(A,false,cR C A a):=by
 unfold qR; simp only [h1,h2,if_neg h,h3]
theorem Wf (d:Array Nat) (a b C:Nat) (B n cp:Nat) (A:Option Addr) (w:World) (aA:w.ownsRow B 51 1 (.slice A n cp) n (LE bg d)) (dv:a≤C∧C < b∧b≤n) (dz:n≤1099511627776):
 bo aw 291 (bh [.slice A n cp,ak a,ak b,ak C]) w (fun v w'=>v= .tuple #[ak ((qR ca d a b C).1),.bool (qR ca d a b C).2.1]∧w'.ownsRow B 51 1 (.slice A n cp) n (LE bg (qR ca d a b C).2.2)∧Md (fun q=>(bR A n cp).ownBlock=some q) w w'):=by
 refine enter func291 aa ntmps291 aa<|ag fun bP=>p aB<|ay<|bP<|aC fun bQ=> ?_
 have dw:=fM aA
 have ah:(fun w'=>Wk w w') w.drew:=(Md.refl _ _).drew
 refine eS (fun w'=>Wk w w') 13 aa wide ah<|bD 0 aa (.slice A n cp) ah<|bD 1 aa (ak a) ah<|bD 2 aa (.slice A n cp) ah<|bD 3 aa (ak C) ah<|bD 4 aa (.slice A n cp) ah<|bD 5 aa (ak C) ah<|bz 6 aa (fun _=>ba bY aa aa ab<|aJ.ok ((a8 aA).2)<|cx ab) (fun _=>ah)<|dM 7 aa (fun w' G=>ld c7 aa<|dI (i:=C) ((a8 aA).2.wk G) ab) ah<|bD 8 aa (.slice A n cp) ah<|bD 9 aa (ak a) ah<|bz 10 aa (fun _=>ba bY aa aa ab<|aJ.ok ((a8 aA).2)<|cx ab) (fun _=>ah)<|dM 11 aa (fun w' G=>ld c7 aa<|dI (i:=a) ((a8 aA).2.wk G) ab) ah<|bz 12 aa (fun _=>ba bY aa aa ab<|aJ.ok ((a8 aA).2)<|cx ab) (fun _=>ah)<|dK 13 aa aj aj<|gx (u:=d[C]!) (a) (aW aA ah) gn aa aa aa ab fun dD b2 cD=> ?_
 refine bz 14 aa (fun _=>ba bY aa aa ab<|aJ.ok ((a8 aA).2)<|cx ab) (fun h=>ei<|(show true =_ from by kernel_rfl).trans h)<|dK 15 aa aj aj<|gx (u:=d[a]!) (C) cD gn aa aa aa ab fun bJ b3 cE=> ?_
 have cm:bJ.ownsRow B 51 1 (.slice A n cp) n (LE bg<|cR d (a)<|C):=cE
 have b1:Md (fun q=>(bR A n cp).ownBlock=some q) w bJ:=Md.trans (ah.mono fun _ _ h=>h.elim)<|Md.trans b2 b3
 refine eR aj<|bQ<|ag fun bS=>au (ak a)<|p (bG ((a+1:Nat):Int) aa aa<|bl ab ab)<|au (ak b)<|p (dN ((b - 1:Nat):Int) aa aa<|bl ab ab)<|p aB ?_
 refine ay<|bS ?_
 refine ej (fun aY bu=> ∃ (M:Nat),(a+1≤M∧(M=a+1∨M≤b - 1 +1))∧(nZ (fun x=>ca x (cR d a C)[a]!) (cR d a C) (b - 1) (a+1)=M)∧(bu.ownsRow B 51 1 (.slice A n cp) n<|LE bg<|cR d a C)∧(Md (fun q=>(bR A n cp).ownBlock=some q) w bu)∧(aY 0= .slice A n cp)∧(aY 1=ak a)∧(aY 10=ak M)∧(aY 11=ak (b - 1))) ?_ ?_
 refine aM<|lp (fun aq aZ aK=> ∃ (q:Nat),(a+1≤q∧(q=a+1∨q≤b - 1 +1))∧(nZ (fun x=>ca x (cR d a C)[a]!) (cR d a C) (b - 1) (q)=nZ (fun x=>ca x (cR d a C)[a]!) (cR d a C) (b - 1) (a+1))∧(aK.ownsRow B 51 1 (.slice A n cp) n<|LE bg<|cR d a C)∧(Md (fun q=>(bR A n cp).ownBlock=some q) w aK)∧(aZ 0= .slice A n cp)∧(aZ 1=ak a)∧(aZ 10=ak q)∧(aZ 11=ak (b - 1))∧(b - 1 +1 - q=aq)) _ ⟨a+1,ab,aa,cm,b1,aa,aa,aa,aa,aa⟩ ?_
 rintro aq aZ aK ⟨q,ar,ap,E,ao,cT,cU,cV,cW,rfl⟩
 refine fx 0 cT<|fx 1 cU<|fx 10 cV<|fx 11 cW<|aC fun aT=>aC fun aF=> ?_
 have aI:=fM E
 have Z:(fun w'=>Wk aK w') aK.drew:=(Md.refl _ _).drew
 refine bM (fun w'=>Wk aK w') aa wide Z<|bH 0 aa (ak q) Z<|bH 1 aa (ak<|b - 1) Z<|aE 2 aa (fun _ _=>le aa aa) Z<|aE 3 aa (fun _ _=>mv) Z<|iH (t:=33) aa (fun cB=> ?_) fun cB=> ?_
 refine bj 4 aa (fun _ _=>aU (.slice A n cp) aa) Z<|bj 5 aa (fun _ _=>aU (ak q) aa) Z<|bj 6 aa (fun _ _=>ba bY aa aa ab<|aJ.ok ((a8 E).2)<|cx ab) Z<|bj 7 aa (fun w' G=>ld c7 aa<|dI (i:=q) ((a8 E).2.wk G) ab) Z<|bj 8 aa (fun _ _=>aU (.slice A n cp) aa) Z<|bj 9 aa (fun _ _=>aU (ak a) aa) Z<|bj 10 aa (fun _ _=>ba bY aa aa ab<|aJ.ok ((a8 E).2)<|cx ab) Z<|bj 11 aa (fun w' G=>ld c7 aa<|dI (i:=a) ((a8 E).2.wk G) ab) Z<|lY 12 aa aj aa aa aa<|cl lV (l0 (cR d a C)[q]! (cR d a C)[a]! _) aa fun dB dt cu=> ?_
 obtain ⟨rfl,bX⟩:=cu
 have aR:(fun w'=>Wk aK w') dt:=Md.trans Z bX
 refine ⟨aR,?_⟩
 refine aE 13 aa (fun _ _=>bB aa) aR<|hn aj<|aF<|cb aa (fun br=> ?_) fun br=> ?_
 exact aO<|aT<|aM<|rg aa<|au (ak q)<|p (bG ((q+1:Nat):Int) aa aa<|bl ab ab)<|p aB<|nl<|bn<|tn<|⟨_,ab,q+1,ab,(by rw [← ap,Dw (show q≤b - 1 by omega) (by simpa using br)]),(aW E aR),(Md.trans ao<|aR.mono fun _ _ h=>h.elim),aa,aa,aa,aa,aa⟩
 exact ext<|bf<|bf<|be<|tn<|⟨q,ar,(by rw [← ap,tz (.inr<|by simpa using br)]),(aW E aR),(Md.trans ao<|aR.mono fun _ _ h=>h.elim),aa,aa,aa,aa⟩
 exact a6 4 aa Z<|a6 5 aa Z<|a6 6 aa Z<|a6 7 aa Z<|a6 8 aa Z<|a6 9 aa Z<|a6 10 aa Z<|a6 11 aa Z<|a6 12 aa Z<|aE 13 aa (fun _ _=>bq aa) Z<|hn aj<|aF<|cf aa<|ext<|bf<|bf<|be<|tn<|⟨q,ar,(by rw [← ap,tz (.inl ab)]),(aW E (Md.refl _ _).drew),ao.drew,aa,aa,aa,aa⟩
 rintro aY bu ⟨M,dx,bF,bk,bi,cN,cP,cQ,cS⟩
 refine fx 0 cN<|fx 1 cP<|fx 10 cQ<|fx 11 cS ?_
 refine ej (fun a0 av=> ∃ (O:Nat),(a≤O∧O≤b - 1)∧(nY (fun x=> !ca x (cR d a C)[a]!) (cR d a C) (M) (b - 1)=O)∧(av.ownsRow B 51 1 (.slice A n cp) n<|LE bg<|cR d a C)∧(Md (fun q=>(bR A n cp).ownBlock=some q) w av)∧(a0 0= .slice A n cp)∧(a0 1=ak a)∧(a0 10=ak M)∧(a0 11=ak O)) ?_ ?_
 refine aM<|lp (fun aq a1 aN=> ∃ (q:Nat),(a≤q∧q≤b - 1)∧(nY (fun x=> !ca x (cR d a C)[a]!) (cR d a C) (M) (q)=nY (fun x=> !ca x (cR d a C)[a]!) (cR d a C) (M) (b - 1))∧(aN.ownsRow B 51 1 (.slice A n cp) n<|LE bg<|cR d a C)∧(Md (fun q=>(bR A n cp).ownBlock=some q) w aN)∧(a1 0= .slice A n cp)∧(a1 1=ak a)∧(a1 10=ak M)∧(a1 11=ak q)∧(q=aq)) _ ⟨b - 1,ab,aa,bk,bi,aa,aa,aa,aa,aa⟩ ?_
 rintro aq a1 aN ⟨q,ar,ap,E,ao,c1,c2,c3,c4,rfl⟩
 refine fx 0 c1<|fx 1 c2<|fx 10 c3<|fx 11 c4<|aC fun aT=>aC fun aF=> ?_
 have aI:=fM E
 have V:(fun w'=>Wk aN w') aN.drew:=(Md.refl _ _).drew
 refine bM (fun w'=>Wk aN w') aa wide V<|bH 0 aa (ak M) V<|bH 1 aa (ak q) V<|aE 2 aa (fun _ _=>le aa aa) V<|aE 3 aa (fun _ _=>mv) V<|iH (t:=49) aa (fun cC=> ?_) fun cC=> ?_
 refine bj 4 aa (fun _ _=>aU (.slice A n cp) aa) V<|bj 5 aa (fun _ _=>aU (ak q) aa) V<|bj 6 aa (fun _ _=>ba bY aa aa ab<|aJ.ok ((a8 E).2)<|cx ab) V<|bj 7 aa (fun w' G=>ld c7 aa<|dI (i:=q) ((a8 E).2.wk G) ab) V<|bj 8 aa (fun _ _=>aU (.slice A n cp) aa) V<|bj 9 aa (fun _ _=>aU (ak a) aa) V<|bj 10 aa (fun _ _=>ba bY aa aa ab<|aJ.ok ((a8 E).2)<|cx ab) V<|bj 11 aa (fun w' G=>ld c7 aa<|dI (i:=a) ((a8 E).2.wk G) ab) V<|lY 12 aa aj aa aa aa<|cl lV (l0 (cR d a C)[q]! (cR d a C)[a]! _) aa fun dC du cv=> ?_
 obtain ⟨rfl,bZ⟩:=cv
 have aH:(fun w'=>Wk aN w') du:=Md.trans V bZ
 refine ⟨aH,?_⟩
 refine bj 13 aa (fun _ _=>no aa) aH<|aE 14 aa (fun _ _=>bB aa) aH<|hn aj<|aF<|cb aa (fun bs=> ?_) fun bs=> ?_
 exact aO<|aT<|aM<|rg aa<|au (ak q)<|p (dN ((q - 1:Nat):Int) aa aa<|bl ab ab)<|p aB<|nl<|bn<|tn<|⟨_,ab,q - 1,ab,(by rw [← ap,A6 (show 0 < q by omega) (show M≤q by omega) (by simpa using bs)]),(aW E aH),(Md.trans ao<|aH.mono fun _ _ h=>h.elim),aa,aa,aa,aa,aa⟩
 exact ext<|bf<|bf<|be<|tn<|⟨q,ar,(by rw [← ap,sO (.inr<|by simpa using bs)]),(aW E aH),(Md.trans ao<|aH.mono fun _ _ h=>h.elim),aa,aa,aa,aa⟩
 exact a6 4 aa V<|a6 5 aa V<|a6 6 aa V<|a6 7 aa V<|a6 8 aa V<|a6 9 aa V<|a6 10 aa V<|a6 11 aa V<|a6 12 aa V<|a6 13 aa V<|aE 14 aa (fun _ _=>bq aa) V<|hn aj<|aF<|cf aa<|ext<|bf<|bf<|be<|tn<|⟨q,ar,(by rw [← ap,sO (.inl ab)]),(aW E (Md.refl _ _).drew),ao.drew,aa,aa,aa,aa⟩
 rintro a0 av ⟨O,dy,bw,I,aV,cX,cY,cZ,c0⟩
 refine fx 0 cX<|fx 1 cY<|fx 10 cZ<|fx 11 c0<|aC fun aT=>ag fun aF=>au (ak M)<|au (ak O)<|p (gt aa aa)<|nl<|aF<|cd aa (fun cy=> ?_) fun cy=> ?_
 refine aC fun bc=> ?_
 have aI:=fM I
 have an:(fun w'=>Wk av w') av.drew:=(Md.refl _ _).drew
 refine eS (fun w'=>Wk av w') 13 aa wide an<|bD 0 aa (.slice A n cp) an<|bD 1 aa (ak O) an<|bD 2 aa (.slice A n cp) an<|bD 3 aa (ak a) an<|bD 4 aa (.slice A n cp) an<|bD 5 aa (ak a) an<|bz 6 aa (fun _=>ba bY aa aa ab<|aJ.ok ((a8 I).2)<|cx ab) (fun _=>an)<|dM 7 aa (fun w' G=>ld c7 aa<|dI (i:=a) ((a8 I).2.wk G) ab) an<|bD 8 aa (.slice A n cp) an<|bD 9 aa (ak O) an<|bz 10 aa (fun _=>ba bY aa aa ab<|aJ.ok ((a8 I).2)<|cx ab) (fun _=>an)<|dM 11 aa (fun w' G=>ld c7 aa<|dI (i:=O) ((a8 I).2.wk G) ab) an<|bz 12 aa (fun _=>ba bY aa aa ab<|aJ.ok ((a8 I).2)<|cx ab) (fun _=>an)<|dK 13 aa aj aj<|gx (u:=(cR d a C)[a]!) (O) (aW I an) gn aa aa aa ab fun dE b5 cF=> ?_
 refine bz 14 aa (fun _=>ba bY aa aa ab<|aJ.ok ((a8 I).2)<|cx ab) (fun h=>ei<|(show true =_ from by kernel_rfl).trans h)<|dK 15 aa aj aj<|gx (u:=(cR d a C)[O]!) (a) cF gn aa aa aa ab fun bK b6 cG=> ?_
 have cn:bK.ownsRow B 51 1 (.slice A n cp) n (LE bg<|cR (cR d a C) (O)<|a):=cG
 have b4:Md (fun q=>(bR A n cp).ownBlock=some q) av bK:=Md.trans (an.mono fun _ _ h=>h.elim)<|Md.trans b5 b6
 refine eR aj<|bc<|ag fun bd=>au (ak O)<|p (cO (ak O) aa)<|ay<|bd ?_
 refine rt<|tr<|f2 aa aa aa ?_
 have aX:=We bF bw ab
 exact ⟨by rw [aX]; rfl,by rw [aX]; exact cn,Md.trans aV b4⟩
 refine aO<|aT<|aC fun bc=> ?_
 have aI:=fM I
 have ai:(fun w'=>Wk av w') av.drew:=(Md.refl _ _).drew
 refine eS (fun w'=>Wk av w') 13 aa wide ai<|bD 0 aa (.slice A n cp) ai<|bD 1 aa (ak M) ai<|bD 2 aa (.slice A n cp) ai<|bD 3 aa (ak O) ai<|bD 4 aa (.slice A n cp) ai<|bD 5 aa (ak O) ai<|bz 6 aa (fun _=>ba bY aa aa ab<|aJ.ok ((a8 I).2)<|cx ab) (fun _=>ai)<|dM 7 aa (fun w' G=>ld c7 aa<|dI (i:=O) ((a8 I).2.wk G) ab) ai<|bD 8 aa (.slice A n cp) ai<|bD 9 aa (ak M) ai<|bz 10 aa (fun _=>ba bY aa aa ab<|aJ.ok ((a8 I).2)<|cx ab) (fun _=>ai)<|dM 11 aa (fun w' G=>ld c7 aa<|dI (i:=M) ((a8 I).2.wk G) ab) ai<|bz 12 aa (fun _=>ba bY aa aa ab<|aJ.ok ((a8 I).2)<|cx ab) (fun _=>ai)<|dK 13 aa aj aj<|gx (u:=(cR d a C)[O]!) (M) (aW I ai) gn aa aa aa ab fun dF b8 cH=> ?_
 refine bz 14 aa (fun _=>ba bY aa aa ab<|aJ.ok ((a8 I).2)<|cx ab) (fun h=>ei<|(show true =_ from by kernel_rfl).trans h)<|dK 15 aa aj aj<|gx (u:=(cR d a C)[M]!) (O) cH gn aa aa aa ab fun bL b9 cI=> ?_
 have co:bL.ownsRow B 51 1 (.slice A n cp) n (LE bg<|cR (cR d a C) (M)<|O):=cI
 have b7:Md (fun q=>(bR A n cp).ownBlock=some q) av bL:=Md.trans (ai.mono fun _ _ h=>h.elim)<|Md.trans b8 b9
 refine eR aj<|bc<|ag fun bd=>au (ak M)<|p (bG ((M+1:Nat):Int) aa aa<|bl ab ab)<|ay<|bd ?_
 refine ag fun bT=>au (ak O)<|p (dN ((O - 1:Nat):Int) aa aa<|bl ab ab)<|ay<|bT<|aC fun bU=>aM<|lp (fun aq a2 bt=> ∃ (i j:Nat) (J:Array Nat),(a+2≤i∧i≤b∧a≤j∧j < b∧i≤j+2)∧(Ea ca a i j J=Ea ca a (M+1) (O - 1) (cR (cR d a C) M O))∧(bt.ownsRow B 51 1 (.slice A n cp) n<|LE bg J)∧(Md (fun q=>(bR A n cp).ownBlock=some q) w bt)∧(a2 0= .slice A n cp)∧(a2 1=ak a)∧(a2 10=ak i)∧(a2 11=ak j)∧(j+1 - i=aq)) _ ⟨M+1,O - 1,cR (cR d a C) M O,ab,aa,co,(Md.trans aV b7),aa,aa,aa,aa,aa⟩ ?_
 rintro aq a2 bt ⟨i,j,J,hi,bE,ck,b0,c5,c6,c8,c9,rfl⟩
 refine fx 0 c5<|fx 1 c6<|fx 10 c8<|fx 11 c9<|aM ?_
 refine ej (fun a3 bv=> ∃ (ac:Nat),(i≤ac∧(ac=i∨ac≤j+1))∧(nZ (fun x=>ca x J[a]!) J (j) (i)=ac)∧(bv.ownsRow B 51 1 (.slice A n cp) n<|LE bg J)∧(Md (fun q=>(bR A n cp).ownBlock=some q) w bv)∧(a3 0= .slice A n cp)∧(a3 1=ak a)∧(a3 10=ak ac)∧(a3 11=ak j)) ?_ ?_
 refine aM<|lp (fun aq a4 aL=> ∃ (q:Nat),(i≤q∧(q=i∨q≤j+1))∧(nZ (fun x=>ca x J[a]!) J (j) (q)=nZ (fun x=>ca x J[a]!) J (j) (i))∧(aL.ownsRow B 51 1 (.slice A n cp) n<|LE bg J)∧(Md (fun q=>(bR A n cp).ownBlock=some q) w aL)∧(a4 0= .slice A n cp)∧(a4 1=ak a)∧(a4 10=ak q)∧(a4 11=ak j)∧(j+1 - q=aq)) _ ⟨i,ab,aa,ck,b0,aa,aa,aa,aa,aa⟩ ?_
 rintro aq a4 aL ⟨q,ar,ap,E,ao,de,df,dg,dh,rfl⟩
 refine fx 0 de<|fx 1 df<|fx 10 dg<|fx 11 dh<|aC fun aS=>aC fun aD=> ?_
 have aI:=fM E
 have Y:(fun w'=>Wk aL w') aL.drew:=(Md.refl _ _).drew
 refine bM (fun w'=>Wk aL w') aa wide Y<|bH 0 aa (ak q) Y<|bH 1 aa (ak j) Y<|aE 2 aa (fun _ _=>le aa aa) Y<|aE 3 aa (fun _ _=>mv) Y<|iH (t:=102) aa (fun cz=> ?_) fun cz=> ?_
 refine bj 4 aa (fun _ _=>aU (.slice A n cp) aa) Y<|bj 5 aa (fun _ _=>aU (ak q) aa) Y<|bj 6 aa (fun _ _=>ba bY aa aa ab<|aJ.ok ((a8 E).2)<|cx ab) Y<|bj 7 aa (fun w' G=>ld c7 aa<|dI (i:=q) ((a8 E).2.wk G) ab) Y<|bj 8 aa (fun _ _=>aU (.slice A n cp) aa) Y<|bj 9 aa (fun _ _=>aU (ak a) aa) Y<|bj 10 aa (fun _ _=>ba bY aa aa ab<|aJ.ok ((a8 E).2)<|cx ab) Y<|bj 11 aa (fun w' G=>ld c7 aa<|dI (i:=a) ((a8 E).2.wk G) ab) Y<|lY 12 aa aj aa aa aa<|cl lV (l0 J[q]! J[a]! _) aa fun dA dr cs=> ?_
 obtain ⟨rfl,bV⟩:=cs
 have aQ:(fun w'=>Wk aL w') dr:=Md.trans Y bV
 refine ⟨aQ,?_⟩
 refine aE 13 aa (fun _ _=>bB aa) aQ<|hn aj<|aD<|cb aa (fun bm=> ?_) fun bm=> ?_
 exact aO<|aS<|aM<|rg aa<|au (ak q)<|p (bG ((q+1:Nat):Int) aa aa<|bl ab ab)<|p aB<|nl<|bn<|tn<|⟨_,ab,q+1,ab,(by rw [← ap,Dw (show q≤j by omega) (by simpa using bm)]),(aW E aQ),(Md.trans ao<|aQ.mono fun _ _ h=>h.elim),aa,aa,aa,aa,aa⟩
 exact ext<|bf<|bf<|be<|tn<|⟨q,ar,(by rw [← ap,tz (.inr<|by simpa using bm)]),(aW E aQ),(Md.trans ao<|aQ.mono fun _ _ h=>h.elim),aa,aa,aa,aa⟩
 exact a6 4 aa Y<|a6 5 aa Y<|a6 6 aa Y<|a6 7 aa Y<|a6 8 aa Y<|a6 9 aa Y<|a6 10 aa Y<|a6 11 aa Y<|a6 12 aa Y<|aE 13 aa (fun _ _=>bq aa) Y<|hn aj<|aD<|cf aa<|ext<|bf<|bf<|be<|tn<|⟨q,ar,(by rw [← ap,tz (.inl ab)]),(aW E (Md.refl _ _).drew),ao.drew,aa,aa,aa,aa⟩
 rintro a3 bv ⟨ac,bA,bI,bk,bi,da,db,dc,dd⟩
 refine fx 0 da<|fx 1 db<|fx 10 dc<|fx 11 dd ?_
 refine ej (fun a5 ax=> ∃ (ae:Nat),(a≤ae∧ae≤j)∧(nY (fun x=> !ca x J[a]!) J (ac) (j)=ae)∧(ax.ownsRow B 51 1 (.slice A n cp) n<|LE bg J)∧(Md (fun q=>(bR A n cp).ownBlock=some q) w ax)∧(a5 0= .slice A n cp)∧(a5 1=ak a)∧(a5 10=ak ac)∧(a5 11=ak ae)) ?_ ?_
 refine aM<|lp (fun aq a7 aP=> ∃ (q:Nat),(a≤q∧q≤j)∧(nY (fun x=> !ca x J[a]!) J (ac) (q)=nY (fun x=> !ca x J[a]!) J (ac) (j))∧(aP.ownsRow B 51 1 (.slice A n cp) n<|LE bg J)∧(Md (fun q=>(bR A n cp).ownBlock=some q) w aP)∧(a7 0= .slice A n cp)∧(a7 1=ak a)∧(a7 10=ak ac)∧(a7 11=ak q)∧(q=aq)) _ ⟨j,ab,aa,bk,bi,aa,aa,aa,aa,aa⟩ ?_
 rintro aq a7 aP ⟨q,ar,ap,E,ao,dm,dn,dp,dq,rfl⟩
 refine fx 0 dm<|fx 1 dn<|fx 10 dp<|fx 11 dq<|aC fun aS=>aC fun aD=> ?_
 have aI:=fM E
 have U:(fun w'=>Wk aP w') aP.drew:=(Md.refl _ _).drew
 refine bM (fun w'=>Wk aP w') aa wide U<|bH 0 aa (ak ac) U<|bH 1 aa (ak q) U<|aE 2 aa (fun _ _=>le aa aa) U<|aE 3 aa (fun _ _=>mv) U<|iH (t:=118) aa (fun cA=> ?_) fun cA=> ?_
 refine bj 4 aa (fun _ _=>aU (.slice A n cp) aa) U<|bj 5 aa (fun _ _=>aU (ak q) aa) U<|bj 6 aa (fun _ _=>ba bY aa aa ab<|aJ.ok ((a8 E).2)<|cx ab) U<|bj 7 aa (fun w' G=>ld c7 aa<|dI (i:=q) ((a8 E).2.wk G) ab) U<|bj 8 aa (fun _ _=>aU (.slice A n cp) aa) U<|bj 9 aa (fun _ _=>aU (ak a) aa) U<|bj 10 aa (fun _ _=>ba bY aa aa ab<|aJ.ok ((a8 E).2)<|cx ab) U<|bj 11 aa (fun w' G=>ld c7 aa<|dI (i:=a) ((a8 E).2.wk G) ab) U<|lY 12 aa aj aa aa aa<|cl lV (l0 J[q]! J[a]! _) aa fun v127 ds ct=> ?_
 obtain ⟨rfl,bW⟩:=ct
 have aG:(fun w'=>Wk aP w') ds:=Md.trans U bW
 refine ⟨aG,?_⟩
 refine bj 13 aa (fun _ _=>no aa) aG<|aE 14 aa (fun _ _=>bB aa) aG<|hn aj<|aD<|cb aa (fun bp=> ?_) fun bp=> ?_
 exact aO<|aS<|aM<|rg aa<|au (ak q)<|p (dN ((q - 1:Nat):Int) aa aa<|bl ab ab)<|p aB<|nl<|bn<|tn<|⟨_,ab,q - 1,ab,(by rw [← ap,A6 (show 0 < q by omega) (show ac≤q by omega) (by simpa using bp)]),(aW E aG),(Md.trans ao<|aG.mono fun _ _ h=>h.elim),aa,aa,aa,aa,aa⟩
 exact ext<|bf<|bf<|be<|tn<|⟨q,ar,(by rw [← ap,sO (.inr<|by simpa using bp)]),(aW E aG),(Md.trans ao<|aG.mono fun _ _ h=>h.elim),aa,aa,aa,aa⟩
 exact a6 4 aa U<|a6 5 aa U<|a6 6 aa U<|a6 7 aa U<|a6 8 aa U<|a6 9 aa U<|a6 10 aa U<|a6 11 aa U<|a6 12 aa U<|a6 13 aa U<|aE 14 aa (fun _ _=>bq aa) U<|hn aj<|aD<|cf aa<|ext<|bf<|bf<|be<|tn<|⟨q,ar,(by rw [← ap,sO (.inl ab)]),(aW E (Md.refl _ _).drew),ao.drew,aa,aa,aa,aa⟩
 rintro a5 ax ⟨ae,bC,bx,I,aV,di,dj,dk,dl⟩
 refine fx 0 di<|fx 1 dj<|fx 10 dk<|fx 11 dl<|aC fun aS=>ag fun aD=>au (ak ac)<|au (ak ae)<|p (gt aa aa)<|nl<|aD<|cd aa (fun cw=> ?_) fun cw=> ?_
 refine ext<|bf<|mV az<|bf<|be<|bU<|aC fun a9=> ?_
 have aI:=fM I
 have am:(fun w'=>Wk ax w') ax.drew:=(Md.refl _ _).drew
 refine eS (fun w'=>Wk ax w') 13 aa wide am<|bD 0 aa (.slice A n cp) am<|bD 1 aa (ak ae) am<|bD 2 aa (.slice A n cp) am<|bD 3 aa (ak a) am<|bD 4 aa (.slice A n cp) am<|bD 5 aa (ak a) am<|bz 6 aa (fun _=>ba bY aa aa ab<|aJ.ok ((a8 I).2)<|cx ab) (fun _=>am)<|dM 7 aa (fun w' G=>ld c7 aa<|dI (i:=a) ((a8 I).2.wk G) ab) am<|bD 8 aa (.slice A n cp) am<|bD 9 aa (ak ae) am<|bz 10 aa (fun _=>ba bY aa aa ab<|aJ.ok ((a8 I).2)<|cx ab) (fun _=>am)<|dM 11 aa (fun w' G=>ld c7 aa<|dI (i:=ae) ((a8 I).2.wk G) ab) am<|bz 12 aa (fun _=>ba bY aa aa ab<|aJ.ok ((a8 I).2)<|cx ab) (fun _=>am)<|dK 13 aa aj aj<|gx (u:=J[a]!) (ae) (aW I am) gn aa aa aa ab fun dH ci cL=> ?_
 refine bz 14 aa (fun _=>ba bY aa aa ab<|aJ.ok ((a8 I).2)<|cx ab) (fun h=>ei<|(show true =_ from by kernel_rfl).trans h)<|dK 15 aa aj aj<|gx (u:=J[ae]!) (a) cL gn aa aa aa ab fun bO cj cM=> ?_
 have cr:bO.ownsRow B 51 1 (.slice A n cp) n (LE bg<|cR J (ae)<|a):=cM
 have ch:Md (fun q=>(bR A n cp).ownBlock=some q) ax bO:=Md.trans (am.mono fun _ _ h=>h.elim)<|Md.trans ci cj
 refine eR aj<|a9<|ag fun bb=>au (ak ae)<|p (cO (ak ae) aa)<|ay<|bb ?_
 refine rt<|f2 aa aa aa ?_
 have aX:=part_go bF bw ab<|bE.symm.trans<|by rw [JS bI bx bA.1 bC.2,if_pos ab]
 exact ⟨by rw [aX]; rfl,by rw [aX]; exact cr,Md.trans aV ch⟩
 refine aO<|aS<|aC fun a9=> ?_
 have aI:=fM I
 have al:(fun w'=>Wk ax w') ax.drew:=(Md.refl _ _).drew
 refine eS (fun w'=>Wk ax w') 13 aa wide al<|bD 0 aa (.slice A n cp) al<|bD 1 aa (ak ac) al<|bD 2 aa (.slice A n cp) al<|bD 3 aa (ak ae) al<|bD 4 aa (.slice A n cp) al<|bD 5 aa (ak ae) al<|bz 6 aa (fun _=>ba bY aa aa ab<|aJ.ok ((a8 I).2)<|cx ab) (fun _=>al)<|dM 7 aa (fun w' G=>ld c7 aa<|dI (i:=ae) ((a8 I).2.wk G) ab) al<|bD 8 aa (.slice A n cp) al<|bD 9 aa (ak ac) al<|bz 10 aa (fun _=>ba bY aa aa ab<|aJ.ok ((a8 I).2)<|cx ab) (fun _=>al)<|dM 11 aa (fun w' G=>ld c7 aa<|dI (i:=ac) ((a8 I).2.wk G) ab) al<|bz 12 aa (fun _=>ba bY aa aa ab<|aJ.ok ((a8 I).2)<|cx ab) (fun _=>al)<|dK 13 aa aj aj<|gx (u:=J[ae]!) (ac) (aW I al) gn aa aa aa ab fun dG ce cJ=> ?_
 refine bz 14 aa (fun _=>ba bY aa aa ab<|aJ.ok ((a8 I).2)<|cx ab) (fun h=>ei<|(show true =_ from by kernel_rfl).trans h)<|dK 15 aa aj aj<|gx (u:=J[ac]!) (ae) cJ gn aa aa aa ab fun bN cg cK=> ?_
 have cq:bN.ownsRow B 51 1 (.slice A n cp) n (LE bg<|cR J (ac)<|ae):=cK
 have cc:Md (fun q=>(bR A n cp).ownBlock=some q) ax bN:=Md.trans (al.mono fun _ _ h=>h.elim)<|Md.trans ce cg
 refine eR aj<|a9<|ag fun bb=>au (ak ac)<|p (bG ((ac+1:Nat):Int) aa aa<|bl ab ab)<|ay<|bb ?_
 exact rg aa<|au (ak ae)<|p (dN ((ae - 1:Nat):Int) aa aa<|bl ab ab)<|p aB<|nl<|bn<|tn<|⟨_,ab,ac+1,ae - 1,cR J ac ae,ab,(by rw [← bE,JS bI bx bA.1 bC.2,if_neg ab,if_pos ab]),cq,(Md.trans aV cc),aa,aa,aa,aa,aa⟩
theorem Wh (d:Array Nat) (a b Y:Nat) (B n cp:Nat) (A:Option Addr) (w:World) (ae:w.ownsRow B 51 1 (.slice A n cp) n (LE bg d)) (b9:a≤Y∧Y < b∧b≤n) (ch:n≤1099511627776):
 bo aw 290 (bh [.slice A n cp,ak a,ak b,ak Y]) w (fun v w'=>v=ak ((vV ca d a b Y).1)∧w'.ownsRow B 51 1 (.slice A n cp) n (LE bg (vV ca d a b Y).2)∧Md (fun q=>(bR A n cp).ownBlock=some q) w w'):=by
 refine enter func290 aa ntmps290 aa<|ag fun a0=>ay<|a0<|aC fun a1=> ?_
 have cc:=fM ae
 have M:(fun w'=>Wk w w') w.drew:=(Md.refl _ _).drew
 refine eS (fun w'=>Wk w w') 13 aa wide M<|bD 0 aa (.slice A n cp) M<|bD 1 aa (ak a) M<|bD 2 aa (.slice A n cp) M<|bD 3 aa (ak Y) M<|bD 4 aa (.slice A n cp) M<|bD 5 aa (ak Y) M<|bz 6 aa (fun _=>ba bY aa aa ab<|aJ.ok ((a8 ae).2)<|cx ab) (fun _=>M)<|dM 7 aa (fun w' V=>ld c7 aa<|dI (i:=Y) ((a8 ae).2.wk V) ab) M<|bD 8 aa (.slice A n cp) M<|bD 9 aa (ak a) M<|bz 10 aa (fun _=>ba bY aa aa ab<|aJ.ok ((a8 ae).2)<|cx ab) (fun _=>M)<|dM 11 aa (fun w' V=>ld c7 aa<|dI (i:=a) ((a8 ae).2.wk V) ab) M<|bz 12 aa (fun _=>ba bY aa aa ab<|aJ.ok ((a8 ae).2)<|cx ab) (fun _=>M)<|dK 13 aa aj aj<|gx (u:=d[Y]!) (a) (aW ae M) gn aa aa aa ab fun ck bc bE=> ?_
 refine bz 14 aa (fun _=>ba bY aa aa ab<|aJ.ok ((a8 ae).2)<|cx ab) (fun h=>ei<|(show true =_ from by kernel_rfl).trans h)<|dK 15 aa aj aj<|gx (u:=d[a]!) (Y) bE gn aa aa aa ab fun aY bd bF=> ?_
 have bt:aY.ownsRow B 51 1 (.slice A n cp) n (LE bg<|cR d (a)<|Y):=bF
 have bb:Md (fun q=>(bR A n cp).ownBlock=some q) w aY:=Md.trans (M.mono fun _ _ h=>h.elim)<|Md.trans bc bd
 refine eR aj<|a1<|ag fun a2=>au (ak a)<|p (bG ((a+1:Nat):Int) aa aa<|bl ab ab)<|au (ak b)<|p (dN ((b - 1:Nat):Int) aa aa<|bl ab ab)<|p aB ?_
 refine ay<|a2<|aC fun a3=>aM<|lp (fun ac ax aL=> ∃ (i j:Nat) (C:Array Nat),(a+1≤i∧i≤b∧a≤j∧j < b∧i≤j+2)∧(Go.Sort.partEqLoop ca a i j C=vV ca d a b Y)∧(aL.ownsRow B 51 1 (.slice A n cp) n<|LE bg C)∧(Md (fun q=>(bR A n cp).ownBlock=some q) w aL)∧(ax 0= .slice A n cp)∧(ax 1=ak a)∧(ax 9=ak i)∧(ax 10=ak j)∧(j+1 - i=ac)) _ ⟨a+1,b - 1,(cR d a Y),ab,aa,bt,bb,aa,aa,aa,aa,aa⟩ ?_
 rintro ac ax aL ⟨i,j,C,hi,aS,br,a9,bK,bL,bO,bN,rfl⟩
 refine fx 0 bK<|fx 1 bL<|fx 9 bO<|fx 10 bN<|aM ?_
 refine ej (fun aA aN=> ∃ (E:Nat),(i≤E∧(E=i∨E≤j+1))∧(nZ (fun x=> !ca C[a]! x) C (j) (i)=E)∧(aN.ownsRow B 51 1 (.slice A n cp) n<|LE bg C)∧(Md (fun q=>(bR A n cp).ownBlock=some q) w aN)∧(aA 0= .slice A n cp)∧(aA 1=ak a)∧(aA 9=ak E)∧(aA 10=ak j)) ?_ ?_
 refine aM<|lp (fun ac aD an=> ∃ (q:Nat),(i≤q∧(q=i∨q≤j+1))∧(nZ (fun x=> !ca C[a]! x) C (j) (q)=nZ (fun x=> !ca C[a]! x) C (j) (i))∧(an.ownsRow B 51 1 (.slice A n cp) n<|LE bg C)∧(Md (fun q=>(bR A n cp).ownBlock=some q) w an)∧(aD 0= .slice A n cp)∧(aD 1=ak a)∧(aD 9=ak q)∧(aD 10=ak j)∧(j+1 - q=ac)) _ ⟨i,ab,aa,br,a9,aa,aa,aa,aa,aa⟩ ?_
 rintro ac aD an ⟨q,av,am,J,ai,bU,bV,bX,bW,rfl⟩
 refine fx 0 bU<|fx 1 bV<|fx 9 bX<|fx 10 bW<|aC fun ar=>aC fun ah=> ?_
 have aQ:=fM J
 have G:(fun w'=>Wk an w') an.drew:=(Md.refl _ _).drew
 refine bM (fun w'=>Wk an w') aa wide G<|bH 0 aa (ak q) G<|bH 1 aa (ak j) G<|aE 2 aa (fun _ _=>le aa aa) G<|aE 3 aa (fun _ _=>mv) G<|iH (t:=32) aa (fun bA=> ?_) fun bA=> ?_
 refine bj 4 aa (fun _ _=>aU (.slice A n cp) aa) G<|bj 5 aa (fun _ _=>aU (ak a) aa) G<|bj 6 aa (fun _ _=>ba bY aa aa ab<|aJ.ok ((a8 J).2)<|cx ab) G<|bj 7 aa (fun w' V=>ld c7 aa<|dI (i:=a) ((a8 J).2.wk V) ab) G<|bj 8 aa (fun _ _=>aU (.slice A n cp) aa) G<|bj 9 aa (fun _ _=>aU (ak q) aa) G<|bj 10 aa (fun _ _=>ba bY aa aa ab<|aJ.ok ((a8 J).2)<|cx ab) G<|bj 11 aa (fun w' V=>ld c7 aa<|dI (i:=q) ((a8 J).2.wk V) ab) G<|lY 12 aa aj aa aa aa<|cl lV (l0 C[a]! C[q]! _) aa fun ci b7 bv=> ?_
 obtain ⟨rfl,a5⟩:=bv
 have al:(fun w'=>Wk an w') b7:=Md.trans G a5
 refine ⟨al,?_⟩
 refine bj 13 aa (fun _ _=>no aa) al<|aE 14 aa (fun _ _=>bB aa) al<|hn aj<|ah<|cb aa (fun aI=> ?_) fun aI=> ?_
 exact aO<|ar<|aM<|rg aa<|au (ak q)<|p (bG ((q+1:Nat):Int) aa aa<|bl ab ab)<|p aB<|nl<|bn<|tn<|⟨_,ab,q+1,ab,(by rw [← am,Dw (show q≤j by omega) (by simpa using aI)]),(aW J al),(Md.trans ai<|al.mono fun _ _ h=>h.elim),aa,aa,aa,aa,aa⟩
 exact ext<|bf<|bf<|be<|tn<|⟨q,av,(by rw [← am,tz (.inr<|by simpa using aI)]),(aW J al),(Md.trans ai<|al.mono fun _ _ h=>h.elim),aa,aa,aa,aa⟩
 exact a6 4 aa G<|a6 5 aa G<|a6 6 aa G<|a6 7 aa G<|a6 8 aa G<|a6 9 aa G<|a6 10 aa G<|a6 11 aa G<|a6 12 aa G<|a6 13 aa G<|aE 14 aa (fun _ _=>bq aa) G<|hn aj<|ah<|cf aa<|ext<|bf<|bf<|be<|tn<|⟨q,av,(by rw [← am,tz (.inl ab)]),(aW J (Md.refl _ _).drew),ai.drew,aa,aa,aa,aa⟩
 rintro aA aN ⟨E,ce,aT,bs,bp,bP,bQ,bT,bS⟩
 refine fx 0 bP<|fx 1 bQ<|fx 9 bT<|fx 10 bS ?_
 refine ej (fun aF ap=> ∃ (U:Nat),(a≤U∧U≤j)∧(nY (fun x=>ca C[a]! x) C (E) (j)=U)∧(ap.ownsRow B 51 1 (.slice A n cp) n<|LE bg C)∧(Md (fun q=>(bR A n cp).ownBlock=some q) w ap)∧(aF 0= .slice A n cp)∧(aF 1=ak a)∧(aF 9=ak E)∧(aF 10=ak U)) ?_ ?_
 refine aM<|lp (fun ac aG ao=> ∃ (q:Nat),(a≤q∧q≤j)∧(nY (fun x=>ca C[a]! x) C (E) (q)=nY (fun x=>ca C[a]! x) C (E) (j))∧(ao.ownsRow B 51 1 (.slice A n cp) n<|LE bg C)∧(Md (fun q=>(bR A n cp).ownBlock=some q) w ao)∧(aG 0= .slice A n cp)∧(aG 1=ak a)∧(aG 9=ak E)∧(aG 10=ak q)∧(q=ac)) _ ⟨j,ab,aa,bs,bp,aa,aa,aa,aa,aa⟩ ?_
 rintro ac aG ao ⟨q,av,am,J,ai,b3,b4,b6,b5,rfl⟩
 refine fx 0 b3<|fx 1 b4<|fx 9 b6<|fx 10 b5<|aC fun ar=>aC fun ah=> ?_
 have aQ:=fM J
 have I:(fun w'=>Wk ao w') ao.drew:=(Md.refl _ _).drew
 refine bM (fun w'=>Wk ao w') aa wide I<|bH 0 aa (ak E) I<|bH 1 aa (ak q) I<|aE 2 aa (fun _ _=>le aa aa) I<|aE 3 aa (fun _ _=>mv) I<|iH (t:=49) aa (fun bC=> ?_) fun bC=> ?_
 refine bj 4 aa (fun _ _=>aU (.slice A n cp) aa) I<|bj 5 aa (fun _ _=>aU (ak a) aa) I<|bj 6 aa (fun _ _=>ba bY aa aa ab<|aJ.ok ((a8 J).2)<|cx ab) I<|bj 7 aa (fun w' V=>ld c7 aa<|dI (i:=a) ((a8 J).2.wk V) ab) I<|bj 8 aa (fun _ _=>aU (.slice A n cp) aa) I<|bj 9 aa (fun _ _=>aU (ak q) aa) I<|bj 10 aa (fun _ _=>ba bY aa aa ab<|aJ.ok ((a8 J).2)<|cx ab) I<|bj 11 aa (fun w' V=>ld c7 aa<|dI (i:=q) ((a8 J).2.wk V) ab) I<|lY 12 aa aj aa aa aa<|cl lV (l0 C[a]! C[q]! _) aa fun cj b8 bw=> ?_
 obtain ⟨rfl,a7⟩:=bw
 have aq:(fun w'=>Wk ao w') b8:=Md.trans I a7
 refine ⟨aq,?_⟩
 refine aE 13 aa (fun _ _=>bB aa) aq<|hn aj<|ah<|cb aa (fun aK=> ?_) fun aK=> ?_
 exact aO<|ar<|aM<|rg aa<|au (ak q)<|p (dN ((q - 1:Nat):Int) aa aa<|bl ab ab)<|p aB<|nl<|bn<|tn<|⟨_,ab,q - 1,ab,(by rw [← am,A6 (show 0 < q by omega) (show E≤q by omega) (by simpa using aK)]),(aW J aq),(Md.trans ai<|aq.mono fun _ _ h=>h.elim),aa,aa,aa,aa,aa⟩
 exact ext<|bf<|bf<|be<|tn<|⟨q,av,(by rw [← am,sO (.inr<|by simpa using aK)]),(aW J aq),(Md.trans ai<|aq.mono fun _ _ h=>h.elim),aa,aa,aa,aa⟩
 exact a6 4 aa I<|a6 5 aa I<|a6 6 aa I<|a6 7 aa I<|a6 8 aa I<|a6 9 aa I<|a6 10 aa I<|a6 11 aa I<|a6 12 aa I<|aE 13 aa (fun _ _=>bq aa) I<|hn aj<|ah<|cf aa<|ext<|bf<|bf<|be<|tn<|⟨q,av,(by rw [← am,sO (.inl ab)]),(aW J (Md.refl _ _).drew),ai.drew,aa,aa,aa,aa⟩
 rintro aF ap ⟨U,cg,aR,Z,aP,bZ,b0,b2,b1⟩
 refine fx 0 bZ<|fx 1 b0<|fx 9 b2<|fx 10 b1<|aC fun ar=>ag fun ah=>au (ak E)<|au (ak U)<|p (gt aa aa)<|nl<|ah<|cd aa (fun bx=> ?_) fun bx=> ?_
 refine ext<|bf<|mV az<|bf<|be<|a3<|ag fun aH=>au (ak E)<|p (cO (ak E) aa)<|nl<|aH<|rt<|aX aa ?_
 have aV:vV ca d a b Y=(E,C):=by rw [← aS,JL aT aR,if_pos ab]
 exact ⟨by rw [aV]; rfl,by rw [aV]; exact Z,aP⟩
 refine aO<|ar<|aC fun aH=> ?_
 have aQ:=fM Z
 have O:(fun w'=>Wk ap w') ap.drew:=(Md.refl _ _).drew
 refine eS (fun w'=>Wk ap w') 13 aa wide O<|bD 0 aa (.slice A n cp) O<|bD 1 aa (ak E) O<|bD 2 aa (.slice A n cp) O<|bD 3 aa (ak U) O<|bD 4 aa (.slice A n cp) O<|bD 5 aa (ak U) O<|bz 6 aa (fun _=>ba bY aa aa ab<|aJ.ok ((a8 Z).2)<|cx ab) (fun _=>O)<|dM 7 aa (fun w' V=>ld c7 aa<|dI (i:=U) ((a8 Z).2.wk V) ab) O<|bD 8 aa (.slice A n cp) O<|bD 9 aa (ak E) O<|bz 10 aa (fun _=>ba bY aa aa ab<|aJ.ok ((a8 Z).2)<|cx ab) (fun _=>O)<|dM 11 aa (fun w' V=>ld c7 aa<|dI (i:=E) ((a8 Z).2.wk V) ab) O<|bz 12 aa (fun _=>ba bY aa aa ab<|aJ.ok ((a8 Z).2)<|cx ab) (fun _=>O)<|dK 13 aa aj aj<|gx (u:=C[U]!) (E) (aW Z O) gn aa aa aa ab fun cm bk bI=> ?_
 refine bz 14 aa (fun _=>ba bY aa aa ab<|aJ.ok ((a8 Z).2)<|cx ab) (fun h=>ei<|(show true =_ from by kernel_rfl).trans h)<|dK 15 aa aj aj<|gx (u:=C[E]!) (U) bI gn aa aa aa ab fun aZ bm bJ=> ?_
 have bu:aZ.ownsRow B 51 1 (.slice A n cp) n (LE bg<|cR C (E)<|U):=bJ
 have bi:Md (fun q=>(bR A n cp).ownBlock=some q) ap aZ:=Md.trans (O.mono fun _ _ h=>h.elim)<|Md.trans bk bm
 refine eR aj<|aH<|ag fun a4=>au (ak E)<|p (bG ((E+1:Nat):Int) aa aa<|bl ab ab)<|ay<|a4 ?_
 exact rg aa<|au (ak U)<|p (dN ((U - 1:Nat):Int) aa aa<|bl ab ab)<|p aB<|nl<|bn<|tn<|⟨_,ab,E+1,U - 1,cR C E U,ab,(by rw [← aS,JL aT aR,if_neg ab,if_pos ab]),bu,(Md.trans aP bi),aa,aa,aa,aa,aa⟩
end Go.Hb
end
section
namespace Go.Hb
open Go.Hb.dX
theorem Wp {d:Array Nat} {a b s i i2:Nat} (q:0 < s) (h:tQ ca d b i=i2) (h1:i2=b):qQ ca a b s i d=(d,true):=by
 cases s with
 | zero=>omega
 | succ s=>rw [qQ]; simp only [h,if_pos h1]
theorem pi_short {d:Array Nat} {a b s i i2:Nat} (q:0 < s) (h:tQ ca d b i=i2) (h1:¬i2=b) (h2:b - a < 50):qQ ca a b s i d=(d,false):=by
 cases s with
 | zero=>omega
 | succ s=>rw [qQ]; simp only [h,if_neg h1,if_pos h2]
theorem pi_go {d q A:Array Nat} {a b s i i2:Nat} (G:0 < s) (h:tQ ca d b i=i2) (h1:¬i2=b) (h2:¬b - a < 50)
 (C:q=if i2 - a≥2 then zr ca (i2 - 1) (cR d i2<|i2 - 1) else cR d i2 (i2 - 1)) (E:A=if b - i2≥2 then Ec ca b (i2+1) q else q):
 qQ ca a b s i d=qQ ca a b (s - 1) i2 A:=by
 cases s with
 | zero=>omega
 | succ s=>rw [qQ]; simp only [h,if_neg h1,if_neg h2]; rw [← C,← E]; rfl
theorem Wt (d:Array Nat) (a b:Nat) (B n cp:Nat) (A:Option Addr) (w:World) (cc:w.ownsRow B 51 1 (.slice A n cp) n (LE bg d)) (db:a < b∧b≤n) (df:n≤1099511627776):
 bo aw 288 (bh [.slice A n cp,ak a,ak b]) w (fun v w'=>v= .bool (tP ca d a b).2∧w'.ownsRow B 51 1 (.slice A n cp) n (LE bg (tP ca d a b).1)∧Md (fun q=>(bR A n cp).ownBlock=some q) w w'):=by
 refine enter func288 aa ntmps288 aa<|ag fun bQ=>ay<|bQ<|ag fun bT=>au (ak a)<|p (bG ((a+1:Nat):Int) aa aa<|bl ab ab)<|ay<|bT<|aC fun bU=>ag fun bV=>p aB<|nl<|bV<|aM<|lp (fun V aI bx=> ∃ (s i:Nat) (G:Array Nat),(a+1≤i∧i≤b∧s≤5)∧(qQ ca a b (5 - s) i G=(tP ca d a b))∧(bx.ownsRow B 51 1 (.slice A n cp) n<|LE bg G)∧(Md (fun q=>(bR A n cp).ownBlock=some q) w bx)∧(aI 0= .slice A n cp)∧(aI 1=ak a)∧(aI 2=ak b)∧(aI 7=ak i)∧(aI 8=ak s)∧(5 - s=V)) _ ⟨0,a+1,d,ab,aa,cc,(Md.refl _ _),aa,aa,aa,aa,aa,aa⟩ ?_
 rintro V aI bx ⟨s,i,G,hi,aH,bF,bA,cC,cD,cE,cF,cG,rfl⟩
 refine fx 0 cC<|fx 1 cD<|fx 2 cE<|fx 7 cF<|fx 8 cG<|aC fun bW=>ag fun bX=>au (ak s)<|p (lt aa aa)<|nl<|bX<|cd aa (fun cm=> ?_) fun cm=> ?_
 refine aO<|bW<|aC fun aP=>aM ?_
 refine ej (fun aK aq=> ∃ (i2:Nat),(i≤i2∧i2≤b)∧(tQ ca G b i=i2)∧(aq.ownsRow B 51 1 (.slice A n cp) n<|LE bg G)∧(Md (fun q=>(bR A n cp).ownBlock=some q) w aq)∧(aK 0= .slice A n cp)∧(aK 1=ak a)∧(aK 2=ak b)∧(aK 7=ak i2)∧(aK 8=ak s)) ?_ ?_
 refine aM<|lp (fun V aL ax=> ∃ (q:Nat),(i≤q∧q≤b)∧(tQ ca G b q=tQ ca G b i)∧(ax.ownsRow B 51 1 (.slice A n cp) n<|LE bg G)∧(Md (fun q=>(bR A n cp).ownBlock=some q) w ax)∧(aL 0= .slice A n cp)∧(aL 1=ak a)∧(aL 2=ak b)∧(aL 7=ak q)∧(aL 8=ak s)∧(b - q=V)) _ ⟨i,ab,aa,bF,bA,aa,aa,aa,aa,aa,aa⟩ ?_
 rintro V aL ax ⟨q,bL,bt,ae,bc,cM,cN,cO,cP,cQ,rfl⟩
 refine fx 0 cM<|fx 1 cN<|fx 2 cO<|fx 7 cP<|fx 8 cQ<|aC fun a9=>aC fun aT=> ?_
 have ct:=fM ae
 have C:(fun w'=>Wk ax w') ax.drew:=(Md.refl _ _).drew
 refine bM (fun w'=>Wk ax w') aa wide C<|bH 0 aa (ak q) C<|bH 1 aa (ak b) C<|aE 2 aa (fun _ _=>lt aa aa) C<|aE 3 aa (fun _ _=>mv) C<|iH (t:=20) aa (fun cu=> ?_) fun cu=> ?_
 refine bj 4 aa (fun _ _=>aU (.slice A n cp) aa) C<|bj 5 aa (fun _ _=>aU (ak q) aa) C<|bj 6 aa (fun _ _=>ba bY aa aa ab<|aJ.ok ((a8 ae).2)<|cx ab) C<|bj 7 aa (fun w' E=>ld c7 aa<|dI (i:=q) ((a8 ae).2.wk E) ab) C<|bj 8 aa (fun _ _=>aU (.slice A n cp) aa) C<|bj 9 aa (fun _ _=>aU (ak q) aa) C<|bj 10 aa (fun _ _=>dN ((q - 1:Nat):Int) aa aa<|bl ab ab) C<|bj 11 aa (fun _ _=>ba bY aa aa ab<|aJ.ok ((a8 ae).2)<|cx ab) C<|bj 12 aa (fun w' E=>ld c7 aa<|dI (i:=q - 1) ((a8 ae).2.wk E) ab) C<|lY 13 aa aj aa aa aa<|cl lV (l0 G[q]! G[q - 1]! _) aa fun v30 da ci=> ?_
 obtain ⟨rfl,b0⟩:=ci
 have ap:(fun w'=>Wk ax w') da:=Md.trans C b0
 refine ⟨ap,?_⟩
 refine bj 14 aa (fun _ _=>no aa) ap<|aE 15 aa (fun _ _=>bB aa) ap<|hn aj<|aT<|cb aa (fun bm=> ?_) fun bm=> ?_
 exact aO<|a9<|aM<|rg aa<|au (ak q)<|p (bG ((q+1:Nat):Int) aa aa<|bl ab ab)<|p aB<|nl<|bn<|tn<|⟨_,ab,q+1,ab,(by rw [← bt,XT (show q < b by omega) (by simpa using bm)]),(aW ae ap),(Md.trans bc<|ap.mono fun _ _ h=>h.elim),aa,aa,aa,aa,aa,aa⟩
 exact ext<|bf<|bf<|be<|tn<|⟨q,ab,(by rw [← bt,KR (.inr<|by simpa using bm)]),(aW ae ap),(Md.trans bc<|ap.mono fun _ _ h=>h.elim),aa,aa,aa,aa,aa⟩
 exact a6 4 aa C<|a6 5 aa C<|a6 6 aa C<|a6 7 aa C<|a6 8 aa C<|a6 9 aa C<|a6 10 aa C<|a6 11 aa C<|a6 12 aa C<|a6 13 aa C<|a6 14 aa C<|aE 15 aa (fun _ _=>bq aa) C<|hn aj<|aT<|cf aa<|ext<|bf<|bf<|be<|tn<|⟨q,ab,(by rw [← bt,KR (.inl ab)]),(aW ae (Md.refl _ _).drew),bc.drew,aa,aa,aa,aa,aa⟩
 rintro aK aq ⟨i2,de,aQ,ac,aV,cH,cI,cJ,cK,cL⟩
 refine fx 0 cH<|fx 1 cI<|fx 2 cJ<|fx 7 cK<|fx 8 cL<|aC fun a9=>ag fun aT=>au (ak i2)<|au (ak b)<|p (bI aa aa)<|nl<|aT<|cd aa (fun cn=> ?_) fun cn=> ?_
 refine ag fun aY=>ay<|aY<|rt<|tr<|br<|tr<|tr<|br<|tr<|aX aa ?_
 have al:(tP ca d a b)=(G,true):=by rw [← aH,Wp (show 0 < 5 - s by omega) aQ ab]
 exact ⟨by rw [al]; rfl,by rw [al]; exact ac,aV⟩
 have bb:¬i2=b:=ab
 refine aO<|a9<|aC fun aY=>ag fun bS=>au (ak b)<|au (ak a)<|p (dN ((b - a:Nat):Int) aa aa<|bl ab ab)<|p (lt aa aa)<|nl<|bS<|cd aa (fun co=> ?_) fun co=> ?_
 refine ag fun aZ=>ay<|aZ<|rt<|tr<|br<|tr<|tr<|br<|tr<|aX aa ?_
 have al:(tP ca d a b)=(G,false):=by rw [← aH,pi_short (show 0 < 5 - s by omega) aQ ab ab]
 exact ⟨by rw [al]; rfl,by rw [al]; exact ac,aV⟩
 refine aO<|aY<|aC fun aZ=> ?_
 have ct:=fM ac
 have I:(fun w'=>Wk aq w') aq.drew:=(Md.refl _ _).drew
 refine eS (fun w'=>Wk aq w') 15 aa wide I<|bD 0 aa (.slice A n cp) I<|bD 1 aa (ak i2) I<|bD 2 aa (.slice A n cp) I<|bD 3 aa (ak i2) I<|bz 4 aa (fun _=>dN ((i2 - 1:Nat):Int) aa aa<|bl ab ab) (fun _=>I)<|bD 5 aa (.slice A n cp) I<|bD 6 aa (ak i2) I<|bz 7 aa (fun _=>dN ((i2 - 1:Nat):Int) aa aa<|bl ab ab) (fun _=>I)<|bz 8 aa (fun _=>ba bY aa aa ab<|aJ.ok ((a8 ac).2)<|cx ab) (fun _=>I)<|dM 9 aa (fun w' E=>ld c7 aa<|dI (i:=i2 - 1) ((a8 ac).2.wk E) ab) I<|bD 10 aa (.slice A n cp) I<|bD 11 aa (ak i2) I<|bz 12 aa (fun _=>ba bY aa aa ab<|aJ.ok ((a8 ac).2)<|cx ab) (fun _=>I)<|dM 13 aa (fun w' E=>ld c7 aa<|dI (i:=i2) ((a8 ac).2.wk E) ab) I<|bz 14 aa (fun _=>ba bY aa aa ab<|aJ.ok ((a8 ac).2)<|cx ab) (fun _=>I) ?_
 refine dK 15 aa aj aj<|gx (u:=G[i2 - 1]!) (i2) (aW ac I) gn aa aa aa ab fun di b2 cv=>bz 16 aa (fun _=>ba bY aa aa ab<|aJ.ok ((a8 ac).2)<|cx ab) (fun h=>ei<|(show true =_ from by kernel_rfl).trans h)<|dK 17 aa aj aj<|gx (u:=G[i2]!) (i2 - 1) cv gn aa aa aa ab fun bN b3 cw=> ?_
 have bK:bN.ownsRow B 51 1 (.slice A n cp) n (LE bg<|cR G (i2)<|i2 - 1):=cw
 have bC:Md (fun q=>(bR A n cp).ownBlock=some q) aq bN:=Md.trans (I.mono fun _ _ h=>h.elim)<|Md.trans b2 b3
 refine eR aj<|aZ ?_
 refine ej (fun aN bw=> ∃ (am:Array Nat),(am=if i2 - a≥2 then zr ca (i2 - 1) (cR G i2<|i2 - 1) else (cR G i2<|i2 - 1))∧(bw.ownsRow B 51 1 (.slice A n cp) n<|LE bg am)∧(Md (fun q=>(bR A n cp).ownBlock=some q) w bw)∧(aN 0= .slice A n cp)∧(aN 1=ak a)∧(aN 2=ak b)∧(aN 7=ak i2)∧(aN 8=ak s)) ?_ ?_
 refine ag fun a0=>au (ak i2)<|au (ak a)<|p (dN ((i2 - a:Nat):Int) aa aa<|bl ab ab)<|p (ge aa aa)<|nl<|a0<|cd aa (fun cq=> ?_) fun cq=> ?_
 refine ag fun a1=>au (ak i2)<|p (dN ((i2 - 1:Nat):Int) aa aa<|bl ab ab)<|ay<|a1<|aM<|lp (fun V aA ar=> ∃ (q:Nat) (U:Array Nat),(q≤i2 - 1)∧(zr ca q U=zr ca (i2 - 1) (cR G i2<|i2 - 1))∧(ar.ownsRow B 51 1 (.slice A n cp) n<|LE bg U)∧(Md (fun q=>(bR A n cp).ownBlock=some q) w ar)∧(aA 0= .slice A n cp)∧(aA 1=ak a)∧(aA 2=ak b)∧(aA 7=ak i2)∧(aA 8=ak s)∧(aA 9=ak q)∧(q=V)) _ ⟨i2 - 1,(cR G i2<|i2 - 1),ab,aa,bK,(Md.trans aV bC),aa,aa,aa,aa,aa,aa,aa⟩ ?_
 rintro V aA ar ⟨q,U,bL,bu,ah,bd,cX,cY,cZ,c0,c1,c2,rfl⟩
 refine fx 0 cX<|fx 1 cY<|fx 2 cZ<|fx 7 c0<|fx 8 c1<|fx 9 c2<|aC fun a2=>ag fun a3=>au (ak q)<|p (ge aa aa)<|nl<|a3<|cd aa (fun cr=> ?_) fun cr=> ?_
 refine aO<|a2<|aC fun a4=>aM<|aC fun a5=>aC fun a7=> ?_
 have dc:=fM ah
 have Y:(fun w'=>Wk ar w') ar.drew:=(Md.refl _ _).drew
 refine bM (fun w'=>Wk ar w') aa wide Y<|bH 0 aa (.slice A n cp) Y<|bH 1 aa (ak q) Y<|aE 2 aa (fun _ _=>ba bY aa aa ab<|aJ.ok ((a8 ah).2)<|cx ab) Y<|aE 3 aa (fun w' E=>ld c7 aa<|dI (i:=q) ((a8 ah).2.wk E) ab) Y<|bH 4 aa (.slice A n cp) Y<|bH 5 aa (ak q) Y<|aE 6 aa (fun _ _=>dN ((q - 1:Nat):Int) aa aa<|bl ab ab) Y<|aE 7 aa (fun _ _=>ba bY aa aa ab<|aJ.ok ((a8 ah).2)<|cx ab) Y<|aE 8 aa (fun w' E=>ld c7 aa<|dI (i:=q - 1) ((a8 ah).2.wk E) ab) Y<|he 9 aa aj<|cl lV (l0 U[q]! U[q - 1]! _) aa fun dh aS cj=> ?_
 obtain ⟨rfl,b1⟩:=cj
 have aF:(fun w'=>Wk ar w') aS:=Md.trans Y b1
 refine ⟨aF,?_⟩
 refine aE 10 aa (fun _ _=>no aa) aF<|hn aj<|a7<|cb aa (fun bp=> ?_) fun bp=> ?_
 exact ext<|bf<|mV az<|bf<|bf<|be<|tn<|⟨U,(by rw [if_pos ab,← bu,Ku (.inr<|by simpa using bp)]),(aW ah aF),(Md.trans bd<|aF.mono fun _ _ h=>h.elim),aa,aa,aa,aa,aa⟩
 refine aO<|a5 ?_
 have an:=aW ah aF
 have J:(fun w'=>Wk aS w') aS.drew:=(Md.refl _ _).drew
 refine eS (fun w'=>Wk aS w') 15 aa wide J<|bD 0 aa (.slice A n cp) J<|bD 1 aa (ak q) J<|bD 2 aa (.slice A n cp) J<|bD 3 aa (ak q) J<|bz 4 aa (fun _=>dN ((q - 1:Nat):Int) aa aa<|bl ab ab) (fun _=>J)<|bD 5 aa (.slice A n cp) J<|bD 6 aa (ak q) J<|bz 7 aa (fun _=>dN ((q - 1:Nat):Int) aa aa<|bl ab ab) (fun _=>J)<|bz 8 aa (fun _=>ba bY aa aa ab<|aJ.ok ((a8 an).2)<|cx ab) (fun _=>J)<|dM 9 aa (fun w' E=>ld c7 aa<|dI (i:=q - 1) ((a8 an).2.wk E) ab) J<|bD 10 aa (.slice A n cp) J<|bD 11 aa (ak q) J<|bz 12 aa (fun _=>ba bY aa aa ab<|aJ.ok ((a8 an).2)<|cx ab) (fun _=>J)<|dM 13 aa (fun w' E=>ld c7 aa<|dI (i:=q) ((a8 an).2.wk E) ab) J<|bz 14 aa (fun _=>ba bY aa aa ab<|aJ.ok ((a8 an).2)<|cx ab) (fun _=>J) ?_
 refine dK 15 aa aj aj<|gx (u:=U[q - 1]!) (q) (aW an J) gn aa aa aa ab fun dj b5 cy=>bz 16 aa (fun _=>ba bY aa aa ab<|aJ.ok ((a8 an).2)<|cx ab) (fun h=>ei<|(show true =_ from by kernel_rfl).trans h)<|dK 17 aa aj aj<|gx (u:=U[q]!) (q - 1) cy gn aa aa aa ab fun bO b6 cz=> ?_
 have ce:bO.ownsRow B 51 1 (.slice A n cp) n (LE bg<|cR U (q)<|q - 1):=cz
 have b4:Md (fun q=>(bR A n cp).ownBlock=some q) aS bO:=Md.trans (J.mono fun _ _ h=>h.elim)<|Md.trans b5 b6
 exact eR aj<|bn<|a4<|rg aa<|au (ak q)<|p (dN ((q - 1:Nat):Int) aa aa<|bl ab ab)<|p aB<|nl<|tn<|⟨_,ab,q - 1,cR U q (q - 1),ab,(by rw [← bu,Xq (show 0 < q by omega) (by simpa using bp)]),ce,(Md.trans bd<|Md.trans (aF.mono fun _ _ h=>h.elim) b4),aa,aa,aa,aa,aa,aa,aa⟩
 exact ext<|bf<|bf<|be<|tn<|⟨U,(by rw [if_pos ab,← bu,Ku (.inl ab)]),ah,bd,aa,aa,aa,aa,aa⟩
 exact aO<|tn<|⟨(cR G i2<|i2 - 1),(by rw [if_neg ab]),bK,(Md.trans aV bC),aa,aa,aa,aa,aa⟩
 rintro aN bw ⟨am,bs,bJ,bE,cS,cT,cU,cV,cW⟩
 refine fx 0 cS<|fx 1 cT<|fx 2 cU<|fx 7 cV<|fx 8 cW<|ag fun a0=>au (ak b)<|au (ak i2)<|p (dN ((b - i2:Nat):Int) aa aa<|bl ab ab)<|p (ge aa aa)<|nl<|a0<|cd aa (fun cs=> ?_) fun cs=> ?_
 refine ag fun a1=>au (ak i2)<|p (bG ((i2+1:Nat):Int) aa aa<|bl ab ab)<|ay<|a1<|aM<|lp (fun V aD av=> ∃ (q:Nat) (O:Array Nat),(i2+1≤q∧q≤b)∧(Ec ca b q O=Ec ca b (i2+1) am)∧(av.ownsRow B 51 1 (.slice A n cp) n<|LE bg O)∧(Md (fun q=>(bR A n cp).ownBlock=some q) w av)∧(aD 0= .slice A n cp)∧(aD 1=ak a)∧(aD 2=ak b)∧(aD 7=ak i2)∧(aD 8=ak s)∧(aD 10=ak q)∧(b - q=V)) _ ⟨i2+1,am,ab,aa,bJ,bE,aa,aa,aa,aa,aa,aa,aa⟩ ?_
 rintro V aD av ⟨q,O,bL,bv,ai,bi,c3,c4,c6,c8,c9,c5,rfl⟩
 refine fx 0 c3<|fx 1 c4<|fx 2 c6<|fx 7 c8<|fx 8 c9<|fx 10 c5<|aC fun a2=>ag fun a3=>au (ak q)<|au (ak b)<|p (lt aa aa)<|nl<|a3<|cd aa (fun ck=> ?_) fun ck=> ?_
 refine aO<|a2<|aC fun a4=>aM<|aC fun a5=>aC fun a7=> ?_
 have dd:=fM ai
 have Z:(fun w'=>Wk av w') av.drew:=(Md.refl _ _).drew
 refine bM (fun w'=>Wk av w') aa wide Z<|bH 0 aa (.slice A n cp) Z<|bH 1 aa (ak q) Z<|aE 2 aa (fun _ _=>ba bY aa aa ab<|aJ.ok ((a8 ai).2)<|cx ab) Z<|aE 3 aa (fun w' E=>ld c7 aa<|dI (i:=q) ((a8 ai).2.wk E) ab) Z<|bH 4 aa (.slice A n cp) Z<|bH 5 aa (ak q) Z<|aE 6 aa (fun _ _=>dN ((q - 1:Nat):Int) aa aa<|bl ab ab) Z<|aE 7 aa (fun _ _=>ba bY aa aa ab<|aJ.ok ((a8 ai).2)<|cx ab) Z<|aE 8 aa (fun w' E=>ld c7 aa<|dI (i:=q - 1) ((a8 ai).2.wk E) ab) Z<|he 9 aa aj<|cl lV (l0 O[q]! O[q - 1]! _) aa fun dg aR ch=> ?_
 obtain ⟨rfl,bZ⟩:=ch
 have aG:(fun w'=>Wk av w') aR:=Md.trans Z bZ
 refine ⟨aG,?_⟩
 refine aE 10 aa (fun _ _=>no aa) aG<|hn aj<|a7<|cb aa (fun bk=> ?_) fun bk=> ?_
 exact ext<|bf<|mV az<|bf<|bf<|be<|bn<|aP<|rg aa<|au (ak s)<|p (bG ((s+1:Nat):Int) aa aa<|bl ab ab)<|p aB<|nl<|tn<|⟨_,ab,s+1,i2,O,ab,(by rw [← aH,pi_go (show 0 < 5 - s by omega) aQ bb ab bs (show O=_ by rw [if_pos ab,← bv,Lb (.inr<|by simpa using bk)])]; rfl),(aW ai aG),(Md.trans bi<|aG.mono fun _ _ h=>h.elim),aa,aa,aa,aa,aa,aa⟩
 refine aO<|a5 ?_
 have ao:=aW ai aG
 have M:(fun w'=>Wk aR w') aR.drew:=(Md.refl _ _).drew
 refine eS (fun w'=>Wk aR w') 15 aa wide M<|bD 0 aa (.slice A n cp) M<|bD 1 aa (ak q) M<|bD 2 aa (.slice A n cp) M<|bD 3 aa (ak q) M<|bz 4 aa (fun _=>dN ((q - 1:Nat):Int) aa aa<|bl ab ab) (fun _=>M)<|bD 5 aa (.slice A n cp) M<|bD 6 aa (ak q) M<|bz 7 aa (fun _=>dN ((q - 1:Nat):Int) aa aa<|bl ab ab) (fun _=>M)<|bz 8 aa (fun _=>ba bY aa aa ab<|aJ.ok ((a8 ao).2)<|cx ab) (fun _=>M)<|dM 9 aa (fun w' E=>ld c7 aa<|dI (i:=q - 1) ((a8 ao).2.wk E) ab) M<|bD 10 aa (.slice A n cp) M<|bD 11 aa (ak q) M<|bz 12 aa (fun _=>ba bY aa aa ab<|aJ.ok ((a8 ao).2)<|cx ab) (fun _=>M)<|dM 13 aa (fun w' E=>ld c7 aa<|dI (i:=q) ((a8 ao).2.wk E) ab) M<|bz 14 aa (fun _=>ba bY aa aa ab<|aJ.ok ((a8 ao).2)<|cx ab) (fun _=>M) ?_
 refine dK 15 aa aj aj<|gx (u:=O[q - 1]!) (q) (aW ao M) gn aa aa aa ab fun dk b8 cA=>bz 16 aa (fun _=>ba bY aa aa ab<|aJ.ok ((a8 ao).2)<|cx ab) (fun h=>ei<|(show true =_ from by kernel_rfl).trans h)<|dK 17 aa aj aj<|gx (u:=O[q]!) (q - 1) cA gn aa aa aa ab fun bP b9 cB=> ?_
 have cg:bP.ownsRow B 51 1 (.slice A n cp) n (LE bg<|cR O (q)<|q - 1):=cB
 have b7:Md (fun q=>(bR A n cp).ownBlock=some q) aR bP:=Md.trans (M.mono fun _ _ h=>h.elim)<|Md.trans b8 b9
 exact eR aj<|bn<|a4<|rg aa<|au (ak q)<|p (bG ((q+1:Nat):Int) aa aa<|bl ab ab)<|p aB<|nl<|tn<|⟨_,ab,q+1,cR O q (q - 1),ab,(by rw [← bv,Ya (show q < b by omega) (by simpa using bk)]),cg,(Md.trans bi<|Md.trans (aG.mono fun _ _ h=>h.elim) b7),aa,aa,aa,aa,aa,aa,aa⟩
 exact ext<|bf<|bf<|be<|bn<|aP<|rg aa<|au (ak s)<|p (bG ((s+1:Nat):Int) aa aa<|bl ab ab)<|p aB<|nl<|tn<|⟨_,ab,s+1,i2,O,ab,(by rw [← aH,pi_go (show 0 < 5 - s by omega) aQ bb ab bs (show O=_ by rw [if_pos ab,← bv,Lb (.inl ab)])]; rfl),ai,bi,aa,aa,aa,aa,aa,aa⟩
 exact aO<|bn<|aP<|rg aa<|au (ak s)<|p (bG ((s+1:Nat):Int) aa aa<|bl ab ab)<|p aB<|nl<|tn<|⟨_,ab,s+1,i2,am,ab,(by rw [← aH,pi_go (show 0 < 5 - s by omega) aQ bb ab bs (show am=_ by rw [if_neg ab])]; rfl),bJ,bE,aa,aa,aa,aa,aa,aa⟩
 refine ext<|bf<|bf<|be<|bU<|ag fun aP=>p aB<|nl<|aP<|rt<|aX aa ?_
 have al:(tP ca d a b)=(G,false):=by rw [← aH,show 5 - s=0 by omega]; rfl
 exact ⟨by rw [al]; rfl,by rw [al]; exact bF,bA⟩
end Go.Hb
end
section
namespace Go.Hb
open Go.Hb.dX
theorem Wg (d:Array Nat) (a b A:Nat) (B n cp:Nat) (i:Option Addr) (w:World) (E:w.ownsRow B 51 1 (.slice i n cp) n (LE bg d)) (G:a≤A∧A < b∧b≤n) (I:n≤1099511627776):bo aw 291 (bh [.slice i n cp,.int .i64 (a:Nat),.int .i64 (b:Nat),.int .i64 (A:Nat)]) w
 (fun v w'=> ∃ C ap d4,qR ca d a b A=(C,ap,d4)∧v= .tuple #[.int .i64 (C:Nat),.bool ap]∧w'.ownsRow B 51 1 (.slice i n cp) n (LE bg d4)∧Md (fun q=>(bR i n cp).ownBlock=some q) w w'):=
 (Wf d a b A B n cp i w E G I).mono fun _ _ h=>⟨_,_,_,rfl,h⟩
theorem Wi (d:Array Nat) (a b A:Nat) (B n cp:Nat) (i:Option Addr) (w:World) (E:w.ownsRow B 51 1 (.slice i n cp) n (LE bg d)) (G:a≤A∧A < b∧b≤n) (I:n≤1099511627776):bo aw 290 (bh [.slice i n cp,.int .i64 (a:Nat),.int .i64 (b:Nat),.int .i64 (A:Nat)]) w
 (fun v w'=> ∃ C d4,vV ca d a b A=(C,d4)∧v= .int .i64 (C:Nat)∧w'.ownsRow B 51 1 (.slice i n cp) n (LE bg d4)∧Md (fun q=>(bR i n cp).ownBlock=some q) w w'):=
 (Wh d a b A B n cp i w E G I).mono fun _ _ h=>⟨_,_,rfl,h⟩
theorem Wl (m:Nat) (d:Array Nat) (a b lim:Nat) (B n cp:Nat) (E:Option Addr) (w:World) (bw:w.ownsRow B 51 1 (.slice E n cp) n (LE bg d)) (hm:b - a < m) (dr:a≤b∧b≤n) (cI:n≤255) (dx:lim≤64) (bV:D8 ca a b d):
 bo aw 268 (bh [.slice E n cp,ak a,ak b,ak lim]) w (fun v w'=> ∃ d1,v= .tuple #[]∧nX a b d d1∧tO ca a b d1∧w'.ownsRow B 51 1 (.slice E n cp) n (LE bg d1)∧Md (fun q=>(bR E n cp).ownBlock=some q) w w'):=by
 have bJ:True:=trivial
 induction m generalizing d a b lim w with
 | zero=>omega
 | succ m bJ=>
   have bF:∀ (d:Array Nat) (a b lim:Nat) (w:World),w.ownsRow B 51 1 (.slice E n cp) n (LE bg d)→b - a < m→(a≤b∧b≤n)→lim≤64→D8 ca a b d→_:=fun d a b lim w h1 h2 h3 h4 h5=>bJ d a b lim w h1 h2 h3 h4 h5
   have dw:=fM bw
   refine enter func268 aa ntmps268 aa<|ag fun bL=>ay<|bL<|ag fun bP=>p aB<|nl<|bP<|aM<|lp (fun bp an bm=> ∃ (A C ae:Nat) (wb wp:Bool) (I:Array Nat),(a≤A∧A≤C∧C≤b∧ae≤64)∧(D8 ca A C I)∧(∀ R,nX A C I R→tO ca A C R→nX a b d R∧tO ca a b R)∧(bm.ownsRow B 51 1 (.slice E n cp) n<|LE bg I)∧(Md (fun q=>(bR E n cp).ownBlock=some q) w bm)∧(an 0= .slice E n cp)∧(an 1=ak A)∧(an 2=ak C)∧(an 3=ak ae)∧(an 8= .bool wb)∧(an 9= .bool wp)∧(C - A=bp)) _ ⟨a,b,lim,true,true,d,ab,bV,(fun R h1 h2=>⟨h1,h2⟩),bw,(Md.refl _ _),aa,aa,aa,aa,aa,aa,aa⟩ ?_
   rintro bp an bm ⟨A,C,ae,wb,wp,I,dA,aT,ao,aA,aL,cK,cL,cM,cN,cO,cP,rfl⟩
   refine fx 0 cK<|fx 1 cL<|fx 2 cM<|fx 3 cN<|fx 8 cO<|fx 9 cP ?_
   have dv:=fM aA
   refine aM<|ag fun bQ=>au (ak C)<|au (ak A)<|p (dN ((C - A:Nat):Int) aa aa<|bl ab ab)<|p aB<|nl<|bQ<|aC fun bS=>ag fun bT=>p mv<|p (le aa aa)<|nl<|bT ?_
   refine cd aa (fun ct=> ?_) fun ct=> ?_
   refine ag fun aS=>au (.slice E n cp)<|au (ak A)<|au (ak C)<|e<|cl PF (UG I A C B n cp E _ aA ab ab) aa fun dD dM ch=> ?_
   obtain ⟨rfl,b5,bZ⟩:=ch
   refine nl<|aS<|rt<|tr<|br<|tr<|br<|rk aa ?_
   obtain ⟨h1,h2⟩:=Go.Sort.insertionSort_holds uW I A C ab ab
   obtain ⟨aG,aK⟩:=ao _ (h1)<|h2
   exact ⟨_,aa,aG,aK,b5,Md.trans aL bZ⟩
   refine aO<|bS<|aC fun aS=>ag fun bU=>au (ak ae)<|p (bI aa aa)<|nl<|bU<|cd aa (fun cu=> ?_) fun cu=> ?_
   refine ag fun av=>au (.slice E n cp)<|au (ak A)<|au (ak C)<|e<|cl PG (Um I A C B n cp E _ aA ab ab) aa fun dE dO ci=> ?_
   obtain ⟨rfl,b6,b0⟩:=ci
   refine nl<|av<|rt<|tr<|br<|tr<|br<|rk aa ?_
   obtain ⟨h1,h2⟩:=Go.Sort.heapSort_holds uW I A C ab ab
   obtain ⟨aG,aK⟩:=ao _ (h1)<|h2
   exact ⟨_,aa,aG,aK,b6,Md.trans aL b0⟩
   refine aO<|aS ?_
   refine ej (fun ah bd=> ∃ (J:Nat) (d1:Array Nat),(J≤64)∧(nX A C I d1)∧(bd.ownsRow B 51 1 (.slice E n cp) n<|LE bg d1)∧(Md (fun q=>(bR E n cp).ownBlock=some q) w bd)∧(ah 0= .slice E n cp)∧(ah 1=ak A)∧(ah 2=ak C)∧(ah 3=ak J)∧(ah 8= .bool wb)∧(ah 9= .bool wp)∧(ah 10=ak (C - A))) ?_ ?_
   refine ag fun av=>au (.bool wb)<|p (no aa)<|nl<|av<|cb aa (fun cv=> ?_) fun cv=> ?_
   refine ag fun O=>au (.slice E n cp)<|au (ak A)<|au (ak C)<|e<|cl PH (On I A C B n cp E _ aA ab cI) aa fun dF dP cj=> ?_
   obtain ⟨d1,rfl,cJ,b7,b1⟩:=cj
   exact nl<|O<|rg aa<|au (ak ae)<|p (dN ((ae - 1:Nat):Int) aa aa<|bl ab ab)<|p aB<|nl<|tn<|⟨ae - 1,d1,ab,cJ,b7,(Md.trans aL b1),aa,aa,aa,aa,aa,aa,aa⟩
   exact aO<|tn<|⟨ae,I,ab,(MP I A C),aA,aL,aa,aa,aa,aa,aa,aa,aa⟩
   rintro ah bd ⟨J,d1,dy,bE,cc,b4,cQ,cR,cT,cU,cV,cW,cS⟩
   refine fx 0 cQ<|fx 1 cR<|fx 2 cT<|fx 3 cU<|fx 8 cV<|fx 9 cW<|fx 10 cS<|ag fun av=>au (.slice E n cp)<|au (ak A)<|au (ak C)<|e<|cl PI (Qv d1 A C B n cp E _ cc ab ab) aa fun v46 dQ ck=> ?_
   obtain ⟨aP,dp,rfl,dz,aY,bW⟩:=ck
   have bs:=Md.trans b4<|bW.mono fun _ _ h=>h.elim
   refine p mv<|p (xt aa aa)<|p (xt aa aa)<|p aB<|ay<|av ?_
   refine ej (fun V bi=> ∃ (M:Nat) (bb:Int) (d2:Array Nat),(A≤M∧M < C)∧(nX A C I d2)∧(bi.ownsRow B 51 1 (.slice E n cp) n<|LE bg d2)∧(Md (fun q=>(bR E n cp).ownBlock=some q) w bi)∧(V 0= .slice E n cp)∧(V 1=ak A)∧(V 2=ak C)∧(V 3=ak J)∧(V 8= .bool wb)∧(V 9= .bool wp)∧(V 10=ak (C - A))∧(V 11=ak M)∧(V 12= .int .i64 bb)) ?_ ?_
   refine ag fun O=>p mv<|p (bI aa aa)<|nl<|O<|cd aa (fun cw=> ?_) fun cw=> ?_
   refine ag fun ai=>au (.slice E n cp)<|au (ak A)<|au (ak C)<|e<|cl PJ (WT d1 A C B n cp E _ aY ab ab) aa fun dG dR cm=> ?_
   obtain ⟨rfl,b8,b2⟩:=cm
   have ds:=fM aY
   exact nl<|ai<|ag fun ar=>au (ak C)<|p (dN ((C - 1:Nat):Int) aa aa<|bl ab ab)<|p mv<|au (ak A)<|p (dN ((aP - A:Nat):Int) aa aa<|bl ab ab)<|p (dN ((C - 1 - (aP - A):Nat):Int) aa aa<|bl ab ab)<|ay<|ar<|rg aa<|p aB<|nl<|tn<|⟨C - 1 - (aP - A),1,Eb d1 A C,ab,(rZ _ _ _ A C bE<|Go.Sort.reverseRange_holds d1 A C ab ab),b8,(Md.trans bs b2),aa,aa,aa,aa,aa,aa,aa,aa,aa⟩
   exact aO<|tn<|⟨aP,dp,d1,ab,bE,aY,bs,aa,aa,aa,aa,aa,aa,aa,aa,aa⟩
   rintro V bi ⟨M,bb,d2,aN,aq,aD,az,cX,cY,c2,c3,c4,c5,cZ,c0,c1⟩
   refine fx 0 cX<|fx 1 cY<|fx 2 c2<|fx 3 c3<|fx 8 c4<|fx 9 c5<|fx 10 cZ<|fx 11 c0<|fx 12 c1 ?_
   refine ej (fun Y am=> ∃ (d3:Array Nat),(nX A C I d3)∧(am.ownsRow B 51 1 (.slice E n cp) n<|LE bg d3)∧(Md (fun q=>(bR E n cp).ownBlock=some q) w am)∧(Y 0= .slice E n cp)∧(Y 1=ak A)∧(Y 2=ak C)∧(Y 3=ak J)∧(Y 8= .bool wb)∧(Y 9= .bool wp)∧(Y 10=ak (C - A))∧(Y 11=ak M)) ?_ ?_
   refine ag fun O=>au (.bool wb)<|au (.bool wb)<|gb (t:=62) aa (fun cA=> ?_) fun cA=> ?_
   refine aI aa (aU (.bool wp) aa)<|p (bB aa)<|p mv<|gb (t:=65) aa (fun cB=> ?_) fun cB=> ?_
   refine aI aa (aU (.int .i64 bb) aa)<|aI aa (bI aa aa)<|p (bB aa)<|nl<|O<|cd aa (fun cy=> ?_) fun cy=> ?_
   refine ag fun ai=>au (.slice E n cp)<|au (ak A)<|au (ak C)<|e<|cl PK (Wt d2 A C B n cp E _ aD ab ab) aa fun v72 dS cn=> ?_
   obtain ⟨rfl,bx,bt⟩:=cn
   have dt:=fM aD
   obtain ⟨bD,cD⟩:=Go.Sort.partialInsertionSort_holds uW d2 A C ab ab<|D9 aT ab aq
   refine nl<|ai<|cb aa (fun bA=> ?_) fun bA=> ?_
   have dn:=cD bA
   refine rt<|tr<|br<|tr<|br<|rk aa ?_
   obtain ⟨aG,aK⟩:=ao _ (rZ _ _ _ A C aq bD)<|dn
   exact ⟨_,aa,aG,aK,bx,Md.trans az bt⟩
   exact aO<|tn<|⟨_,(rZ _ _ _ A C aq bD),bx,(Md.trans az bt),aa,aa,aa,aa,aa,aa,aa,aa⟩
   exact aO<|tn<|⟨d2,aq,aD,az,aa,aa,aa,aa,aa,aa,aa,aa⟩
   exact aH aa<|aH aa<|p (bq aa)<|nl<|O<|cf aa<|aO<|tn<|⟨d2,aq,aD,az,aa,aa,aa,aa,aa,aa,aa,aa⟩
   exact aH aa<|p (bq aa)<|p mv<|aH aa<|aH aa<|p (bq aa)<|nl<|O<|cf aa<|aO<|tn<|⟨d2,aq,aD,az,aa,aa,aa,aa,aa,aa,aa,aa⟩
   rintro Y am ⟨d3,aF,ac,aV,c6,c8,db,dc,dd,de,c9,da⟩
   refine fx 0 c6<|fx 1 c8<|fx 2 db<|fx 3 dc<|fx 8 dd<|fx 9 de<|fx 10 c9<|fx 11 da ?_
   refine ej (fun Z bk=>(bk.ownsRow B 51 1 (.slice E n cp) n<|LE bg d3)∧(Md (fun q=>(bR E n cp).ownBlock=some q) w bk)∧(Z 0= .slice E n cp)∧(Z 1=ak A)∧(Z 2=ak C)∧(Z 3=ak J)∧(Z 8= .bool wb)∧(Z 9= .bool wp)∧(Z 10=ak (C - A))∧(Z 11=ak M)) ?_ ?_
   refine aC fun O=> ?_
   have cz:=fM ac
   have G:(fun w'=>Wk am w') am.drew:=(Md.refl _ _).drew
   refine bM (fun w'=>Wk am w') aa wide G<|bH 0 aa (ak A) G<|aE 1 aa (fun _ _=>gt aa aa) G<|aE 2 aa (fun _ _=>mv) G<|iH (t:=75) aa (fun cC=> ?_) fun cC=> ?_
   refine bj 3 aa (fun _ _=>aU (.slice E n cp) aa) G<|bj 4 aa (fun _ _=>aU (ak A) aa) G<|bj 5 aa (fun _ _=>dN ((A - 1:Nat):Int) aa aa<|bl ab ab) G<|bj 6 aa (fun _ _=>ba bY aa aa ab<|aJ.ok ((a8 ac).2)<|cx ab) G<|bj 7 aa (fun w' a1=>ld c7 aa<|dI (i:=A - 1) ((a8 ac).2.wk a1) ab) G<|bj 8 aa (fun _ _=>aU (.slice E n cp) aa) G<|bj 9 aa (fun _ _=>aU (ak M) aa) G<|bj 10 aa (fun _ _=>ba bY aa aa ab<|aJ.ok ((a8 ac).2)<|cx ab) G<|bj 11 aa (fun w' a1=>ld c7 aa<|dI (i:=M) ((a8 ac).2.wk a1) ab) G<|lY 12 aa aj aa aa aa<|cl lV (l0 d3[A - 1]! d3[M]! _) aa fun v85 dq co=> ?_
   obtain ⟨rfl,bX⟩:=co
   have al:(fun w'=>Wk am w') dq:=Md.trans G bX
   refine ⟨al,?_⟩
   refine bj 13 aa (fun _ _=>no aa) al<|aE 14 aa (fun _ _=>bB aa) al<|hn aj<|O<|cb aa (fun bC=> ?_) fun bC=> ?_
   refine ag fun ai=>au (.slice E n cp)<|au (ak A)<|au (ak C)<|au (ak M)<|e<|cl PL (Wi d3 A C M B n cp E _ (aW ac al) ab ab) aa fun dH dT cq=> ?_
   obtain ⟨U,d4,bc,rfl,b9,b3⟩:=cq
   obtain ⟨bH,cE,cF,a4,a5⟩:=Go.Sort.round_eq uW (Go.Sort.partitionEqual_holds ca) (show 0 < A by omega) aN.1 aN.2 ab (D9 aT ab aF) (by simpa using bC) bc
   exact ay<|ai<|ag fun ar=>p mv<|p aB<|nl<|ar<|ext<|bf<|be<|tn<|⟨_,ab,U,C,J,wb,wp,d4,ab,a4,(fun R h1 h2=>by obtain ⟨h3,h4⟩:=a5 R h1 h2; exact ao R (rZ _ _ _ A C aF h3) h4),b9,(Md.trans aV<|Md.trans (al.mono fun _ _ h=>h.elim) b3),aa,aa,aa,aa,aa,aa,aa⟩
   exact aO<|tn<|⟨(aW ac al),(Md.trans aV<|al.mono fun _ _ h=>h.elim),aa,aa,aa,aa,aa,aa,aa,aa⟩
   exact a6 3 aa G<|a6 4 aa G<|a6 5 aa G<|a6 6 aa G<|a6 7 aa G<|a6 8 aa G<|a6 9 aa G<|a6 10 aa G<|a6 11 aa G<|a6 12 aa G<|a6 13 aa G<|aE 14 aa (fun _ _=>bq aa) G<|hn aj<|O<|cf aa<|aO<|tn<|⟨(aW ac (Md.refl _ _).drew),aV.drew,aa,aa,aa,aa,aa,aa,aa,aa⟩
   rintro Z bk ⟨bz,bv,df,dg,dj,dk,dl,dm,dh,di⟩
   refine fx 0 df<|fx 1 dg<|fx 2 dj<|fx 3 dk<|fx 8 dl<|fx 9 dm<|fx 10 dh<|fx 11 di<|ag fun O=>au (.slice E n cp)<|au (ak A)<|au (ak C)<|au (ak M)<|e<|cl PM (Wg d3 A C M B n cp E _ bz ab ab) aa fun dJ bK cr=> ?_
   obtain ⟨U,ap,d4,bc,rfl,aZ,bu⟩:=cr
   have cz:=fM bz
   have du:=fM aZ
   obtain ⟨bH,cE,cF,a4,a5,cG,cH⟩:=Go.Sort.round_part uW (Go.Sort.partition_holds ca) aN.1 aN.2 ab (D9 aT ab aF) bc
   refine p mv<|p (xt aa aa)<|p (xt aa aa)<|p aB<|ay<|O<|aC fun ai=>rg aa<|p mv<|ay<|ai<|ag fun ar=>p mv<|au (ak A)<|p (dN ((U - A:Nat):Int) aa aa<|bl ab ab)<|au (ak C)<|p mv<|p (dN ((C - U:Nat):Int) aa aa<|bl ab ab)<|p aB<|p aB<|nl<|ar<|ag fun bN=>au (ak<|C - A)<|p (qE (((C - A) / 8:Nat):Int) aa aa ab<|bl ab ab)<|ay<|bN ?_
   refine ag fun bO=>p mv<|p mv<|p (lt aa aa)<|nl<|bO<|cd aa (fun cs=> ?_) fun cs=> ?_
   refine ag fun aQ=>p mv<|p mv<|p (ge aa aa)<|ay<|aQ<|ag fun aR=>au (.slice E n cp)<|au (ak A)<|p mv<|au (ak J)<|e<|cl AB (bF d4 A U J bK aZ ab ab ab a4) aa fun dB dK ce=> ?_
   obtain ⟨ax,rfl,a7,a9,a0,aX⟩:=ce
   obtain ⟨a2,a3⟩:=cG ax a7 a9
   exact nl<|aR<|rg aa<|p mv<|p (bG ((U+1:Nat):Int) aa aa<|bl ab ab)<|p aB<|nl<|bn<|tn<|⟨_,ab,U+1,C,J,decide (((U - A:Nat):Int)≥(((C - A) / 8:Nat):Int)),ap,ax,ab,a2,(fun R h1 h2=>by obtain ⟨h3,h4⟩:=a3 R h1 h2; exact ao R (rZ _ _ _ A C aF h3) h4),a0,(Md.trans bv<|Md.trans bu aX),aa,aa,aa,aa,aa,aa,aa⟩
   refine ag fun aQ=>p mv<|p mv<|p (ge aa aa)<|ay<|aQ<|ag fun aR=>au (.slice E n cp)<|p mv<|p (bG ((U+1:Nat):Int) aa aa<|bl ab ab)<|au (ak C)<|au (ak J)<|e<|cl AB (bF d4 (U+1) C J bK aZ ab ab ab a5) aa fun dC dL cg=> ?_
   obtain ⟨ax,rfl,a7,a9,a0,aX⟩:=cg
   obtain ⟨a2,a3⟩:=cH ax a7 a9
   exact nl<|aR<|rg aa<|p mv<|p aB<|nl<|bn<|tn<|⟨_,ab,A,U,J,decide (((C - U:Nat):Int)≥(((C - A) / 8:Nat):Int)),ap,ax,ab,a2,(fun R h1 h2=>by obtain ⟨h3,h4⟩:=a3 R h1 h2; exact ao R (rZ _ _ _ A C aF h3) h4),a0,(Md.trans bv<|Md.trans bu aX),aa,aa,aa,aa,aa,aa,aa⟩
theorem XL (d:Array Nat) (B n cp:Nat) (a:Option Addr) (w:World) (C:w.ownsRow B 51 1 (.slice a n cp) n (LE bg d)) (I:n≤255):
 bo aw 246 (bh [.slice a n cp]) w (fun v w'=> ∃ d1,v= .tuple #[]∧nX 0 n d d1∧tO ca 0 n d1∧w'.ownsRow B 51 1 (.slice a n cp) n (LE bg d1)∧Md (fun q=>(bR a n cp).ownBlock=some q) w w'):=by
 refine enter func246 aa ntmps246 aa<|ag fun A=>au (.slice a n cp)<|p (bK oJ aa aa)<|ay<|A<|rg aa<|au (.slice a n cp)<|p mv<|p mv<|p (lG Lx qK aa<|oN ab)<|e<|cl Fc (I2 n _ ab) aa fun v9 O G=> ?_
 obtain ⟨rfl,i⟩:=G
 have J:=yo (n:=n) ab
 refine e<|cl AB (Wl (n+1) d 0 n (kQ n) B n cp a _ (aW C i) ab ab I ab<|.inl aa) aa fun v10 M E=> ?_
 obtain ⟨d1,rfl,h1,h2,h3,h4⟩:=E
 exact nl<|f0 aa<|⟨d1,aa,h1,h2,h3,Md.trans (i.mono fun _ _ h=>h.elim) h4⟩
end Go.Hb
end
