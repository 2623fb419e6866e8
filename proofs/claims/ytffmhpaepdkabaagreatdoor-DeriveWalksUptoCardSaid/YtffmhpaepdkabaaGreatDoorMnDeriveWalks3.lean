/-
  Walks and plain laws that the law rests on, laid together. No conditions but those that each theorem names.
-/
import Derived.Test.YtffmhpaepdkabaaGreatDoorMnDeriveWalks2
set_option linter.unusedVariables false
set_option maxRecDepth 20000
set_option maxHeartbeats 1000000
open Bool renaming noConfusion→eo
open Go.IntKind renaming u64→eM
open Go.Proofs.Tryz renaming prog→aw
open Go.Sort renaming Below→Ev,PermIn→om,SortedIn→ud,heapBuild→Nh,heapSort→Ni,insInner→Nj,insertionSort→Nk,partLoop→Ex,partialIns→q6,partialInsertionSort→ue,partition→q7,partitionEqual→wz,permIn_refl→Nl,permIn_trans→sr,reverseRange→Ey,scanDown→oo,scanSorted→uf,scanUp→oq,shiftDown→zK,shiftUp→Ez,siftDown→q8,swp→cX
open Go.Sort.Below renaming perm→Ew
open Go.Value renaming bool→bU,pointer→zL,slice→bS,tuple→gD
open List renaming drop_eq_nil_of_le→gV,length_append→bM,length_eq_zero_iff→wV,length_pos_iff→lF,length_singleton→e9,length_take→dQ,take_of_length_le→eU,take_zero→ow,toArray→bh
open Nat renaming blt→gG,lt_or_ge→fu
open Prod renaming fst→mW
open UInt8 renaming toNat_lt→iX
open Go.Proofs.Tryz
open Go.Proofs

section
namespace Go.Hb
abbrev ak (n:Nat):Value:= .int .i64 (n:Nat)
abbrev aT (b:Nat):Value:= .pointer<|some ⟨b,0,none⟩
variable {P:Program} {N:Fm} {ops:Array Oper} {Q:Exit→(Nat→Value)→World→Prop} {σ:Nat→Value} {w:World} {S:World→Prop} {r fuel:Nat} {bg:Array Bool} {d:Nat} {op:Op} {ty:TypeId} {pos :String} {af:Array Edge} {v:Value}
theorem aH (i:Nat) (hi:ops[i]? =some ⟨some d,op,ty,pos,af,none⟩) (A:∀ w,S w→(execOp (ev N σ) ⟨some d,op,ty,pos,af,none⟩).run P w= .ok (.value v) w) (a:S w) (k:fL P N ops Q S fuel (bg.setIfInBounds i true) (dD σ d v) w) (q:jb N.F ops bg i=true :=by kernel_rfl):fL P N ops Q S (fuel+1) bg σ w:=hp i hi q A a k
theorem dP (i:Nat) (hi:ops[i]? =some ⟨some d,op,ty,pos,af,none⟩) (A:∀ w,S w→(execOp (ev N σ) ⟨some d,op,ty,pos,af,none⟩).run P w= .ok (.value v) w) (a:S w) (k:iP P N ops Q S r fuel (bg.setIfInBounds i true) (dD σ d v) w) (q:Ca N.F ops bg r i=true :=by kernel_rfl):iP P N ops Q S r (fuel+1) bg σ w:=kI i hi q A a k
theorem bB (i:Nat) (hi:ops[i]? =some ⟨some d,op,ty,pos,af,none⟩) (A:∀ w,(execOp (ev N σ) ⟨some d,op,ty,pos,af,none⟩).run P w= .ok (.value v) w) (a:bg.getD r false =false→S w) (k:iP P N ops Q S r fuel (bg.setIfInBounds i true) (dD σ d v) w) (q:yu N.F ops bg r i=true :=by kernel_rfl):iP P N ops Q S r (fuel+1) bg σ w:=dG i hi q A a k
theorem bI {x:Operand} (i:Nat) (hi:ops[i]? =some ⟨some d,.move x,ty,pos,af,none⟩) (v:Value) (a:S w) (k:fL P N ops Q S fuel (bg.setIfInBounds i true) (dD σ d v) w) (A:ev N σ x=v:=by exact aa) (q:jb N.F ops bg i=true :=by kernel_rfl):fL P N ops Q S (fuel+1) bg σ w:=hp i hi q (fun _ _=>aV v A) a k
theorem bE {x:Operand} (i:Nat) (hi:ops[i]? =some ⟨some d,.move x,ty,pos,af,none⟩) (v:Value) (a:S w) (k:iP P N ops Q S r fuel (bg.setIfInBounds i true) (dD σ d v) w) (A:ev N σ x=v:=by exact aa) (q:yu N.F ops bg r i=true :=by kernel_rfl):iP P N ops Q S r (fuel+1) bg σ w:=dG i hi q (fun _=>aV v A) (fun _=>a) k
theorem bq {P:Program} {f:FuncId} {fn:Func} (i:P.funcs[f]? =some fn) (hn:(fn.name== "runtime.NumGoroutine")=false :=by kernel_rfl) (a:fn.body.isNone=false :=by kernel_rfl):bo P f:=QT i hn a
section
variable {rest:List Oper} {x:Operand} {K:(Nat→Value)→World→Prop} {l:List Oper} {id:Nat} {y z:Code} {j t:Nat} {want b:Bool} {fn:Func} {R:Value→World→Prop}
theorem aB (h:∀ {K:(Nat→Value)→World→Prop},(∀ {σ w},dU P N y Q σ w→lS K Q .normal σ w)→dU P N z (lS K Q) σ w):dU P N (.seq z y) Q σ w:=sq fun K a=>h fun hw=>a _ _ hw
theorem ag (h:∀ {K:(Nat→Value)→World→Prop},(∀ {σ w},dU P N y Q σ w→lS K Q .normal σ w)→eT P N l.toArray (lS K Q) l σ w) (i:tC N.r l=true :=by exact aa):dU P N (.seq (.region id l.toArray false) y) Q σ w:=sq fun K a=>rg i<|h fun hw=>a _ _ hw
theorem ay (h:Q .normal (dD σ d<|ev N σ x) w):eT P N ops Q [⟨some d,.assign x,ty,pos,af,none⟩] σ w:=p aE<|nl h
theorem bf {id:Nat} (h:Q (.exit id) σ w):lS K Q (.exit id) σ w:=h
theorem aI (h:(jW ops j,gG t N.n,σ t,b==want)=(some t,true,.bool b,false)) (k:eT P N ops Q rest (dD σ d undef) w):eT P N ops Q (⟨some d,op,ty,pos,af,some (j,want)⟩::rest) σ w:=sk (congrArg mW h) (congrArg (·.2.1) h) (congrArg (·.2.2.1) h) (congrArg (·.2.2.2) h) k
theorem ek (h:(jW ops j,gG t N.n,σ t)=(some t,true,undef)) (k:eT P N ops Q rest (dD σ d undef) w):eT P N ops Q (⟨some d,op,ty,pos,af,some (j,want)⟩::rest) σ w:=kn (congrArg mW h) (congrArg (·.2.1) h) (congrArg (·.2.2) h) k
theorem aM (h:(jW ops j,gG t N.n,σ t)=(some t,true,.bool want)) (a:(execOp (ev N σ) ⟨some d,op,ty,pos,af,some (j,want)⟩).run P w= .ok (.value v) w) (k:eT P N ops Q rest (dD σ d v) w):eT P N ops Q (⟨some d,op,ty,pos,af,some (j,want)⟩::rest) σ w:=pg (congrArg mW h) (congrArg (·.2.1) h) (congrArg (·.2.2) h) a k
theorem a8 (i:Nat) (h:(ops[i]?,jW ops j,gG t N.n,σ t,b==want)=(some ⟨some d,op,ty,pos,af,some (j,want)⟩,some t,true,.bool b,false)) (a:S w) (k:fL P N ops Q S fuel (bg.setIfInBounds i true) (dD σ d undef) w) (q:jb N.F ops bg i=true :=by kernel_rfl):fL P N ops Q S (fuel+1) bg σ w:=oK i (congrArg mW h) q (congrArg (·.2.1) h) (congrArg (·.2.2.1) h) (congrArg (·.2.2.2.1) h) (congrArg (·.2.2.2.2) h) a k
theorem bm (i:Nat) (h:(ops[i]?,jW ops j,gG t N.n,σ t)=(some ⟨some d,op,ty,pos,af,some (j,want)⟩,some t,true,.bool want)) (A:∀ w,S w→(execOp (ev N σ) ⟨some d,op,ty,pos,af,some (j,want)⟩).run P w= .ok (.value v) w) (a:S w) (k:fL P N ops Q S fuel (bg.setIfInBounds i true) (dD σ d v) w) (q:jb N.F ops bg i=true :=by kernel_rfl):fL P N ops Q S (fuel+1) bg σ w:=lr i (congrArg mW h) q (congrArg (·.2.1) h) (congrArg (·.2.2.1) h) (congrArg (·.2.2.2) h) A a k
theorem aX (h:(fn.results,ev N σ (.tmp t))=(#[.tmp t],v)) (a:R v w):fin P fn N R .ret σ w:=f1 (congrArg mW h) (congrArg Prod.snd h) a
theorem au (v:Value) (h:eT P N ops Q rest (dD σ d v) w) (a:ev N σ x=v:=by exact aa):eT P N ops Q (⟨some d,.move x,ty,pos,af,none⟩::rest) σ w:=p (aV v a) h
end
end Go.Hb
end
namespace Go.Hb.ea
theorem Ac:dF aw 106=some (some 3):=aj
theorem E3:dF aw 113=some none:=aj
theorem uA:dF aw 123=some none:=aj
theorem uB:dF aw 131=some (some 5):=aj
theorem E4:dF aw 152=some none:=aj
theorem Ad:dF aw 153=some none:=aj
theorem sI:dF aw 158=some none:=aj
theorem oB:dF aw 169=some (some 2):=aj
theorem rq:dF aw 174=some (some 8):=aj
theorem Oo:dF aw 176=some none:=aj
theorem xm:dF aw 177=some none:=aj
theorem qh:dF aw 178=some none:=aj
theorem ka:dF aw 179=some none:=aj
theorem E5:dF aw 184=some none:=aj
theorem sJ:dF aw 187=some none:=aj
theorem sK:dF aw 193=some none:=aj
theorem E6:dF aw 200=some none:=aj
theorem xn:dF aw 209=some (some 2):=aj
theorem m3:dF aw 22=some none:=aj
theorem Ae:dF aw 230=some none:=aj
theorem sL:dF aw 242=some (some 5):=aj
theorem nJ:dF aw 268=some none:=aj
theorem xo:dF aw 27=some none:=aj
theorem m4:dF aw 270=some (some 1):=aj
theorem ib:dF aw 29=some none:=aj
theorem bz:dF aw 3=some none:=aj
theorem uC:dF aw 30=some none:=aj
theorem kO:dF aw 325=some (some 4):=aj
theorem oC:dF aw 34=some none:=aj
theorem rr:dF aw 340=some none:=aj
theorem sM:dF aw 349=some (some 1):=aj
theorem lY:dF aw 4=some none:=aj
theorem rv:dF aw 41=some (some 5):=aj
theorem sN:dF aw 43=some (some 5):=aj
theorem lh:dF aw 47=some (some 3):=aj
theorem pB:dF aw 5=some none:=aj
theorem dd:dF aw 51=some none:=aj
theorem E7:dF aw 52=some (some 5):=aj
theorem E8:dF aw 53=some none:=aj
theorem ry:dF aw 54=some none:=aj
theorem xp:dF aw 55=some none:=aj
theorem lZ:dF aw 56=some none:=aj
theorem Af:dF aw 58=some (some 13):=aj
theorem gq:dF aw 60=some none:=aj
theorem E9:dF aw 61=some none:=aj
theorem sO:dF aw 62=some none:=aj
theorem m5:dF aw 70=some none:=aj
theorem lJ:dF aw 72=some (some 2):=aj
theorem pC:dF aw 75=some none:=aj
theorem m6:dF aw 77=some (some 7):=aj
theorem jT:dF aw 87=some none:=aj
theorem bV:dF aw 9=some none:=aj
theorem sQ:qk aw 175=some (5,1):=aj
theorem rA:qk aw 325=some (4,1):=aj
theorem Fl:qk aw 351=some (256,1):=aj
theorem uE:qk aw 52=some (5,1):=aj
theorem Fo:Am aw 325=some ([.int .u64 0,.int .u64 0,.int .u64 0,.int .u64 0]):=aj
theorem m8:xx aw 153 5 9=true :=aj
theorem FF:bo aw 100:=bq func100
theorem O7:bo aw 109:=bq func109
theorem kz:bo aw 11:=bq func11
theorem FG:bo aw 111:=bq func111
theorem FH:bo aw 112:=bq func112
theorem As:bo aw 113:=bq func113
theorem O8:bo aw 114:=bq func114
theorem Au:bo aw 115:=bq func115
theorem O9:bo aw 116:=bq func116
theorem Av:bo aw 117:=bq func117
theorem rC:bo aw 118:=bq func118
theorem Pa:bo aw 119:=bq func119
theorem kA:bo aw 12:=bq func12
theorem Aw:bo aw 120:=bq func120
theorem FI:bo aw 121:=bq func121
theorem FJ:bo aw 122:=bq func122
theorem Pb:bo aw 123:=bq func123
theorem Pc:bo aw 124:=bq func124
theorem Ax:bo aw 125:=bq func125
theorem FK:bo aw 126:=bq func126
theorem Pd:bo aw 127:=bq func127
theorem Pe:bo aw 128:=bq func128
theorem Pf:bo aw 129:=bq func129
theorem Pg:bo aw 13:=bq func13
theorem Ph:bo aw 130:=bq func130
theorem uH:bo aw 131:=bq func131
theorem Pj:bo aw 132:=bq func132
theorem Pk:bo aw 133:=bq func133
theorem Pl:bo aw 134:=bq func134
theorem FL:bo aw 135:=bq func135
theorem oF:bo aw 136:=bq func136
theorem Ay:bo aw 137:=bq func137
theorem xy:bo aw 138:=bq func138
theorem Az:bo aw 139:=bq func139
theorem FM:bo aw 140:=bq func140
theorem FN:bo aw 141:=bq func141
theorem Pm:bo aw 142:=bq func142
theorem FO:bo aw 144:=bq func144
theorem Po:bo aw 145:=bq func145
theorem Pp:bo aw 146:=bq func146
theorem Pq:bo aw 147:=bq func147
theorem FP:bo aw 148:=bq func148
theorem FQ:bo aw 149:=bq func149
theorem uI:bo aw 15:=bq func15
theorem Pr:bo aw 150:=bq func150
theorem Ps:bo aw 151:=bq func151
theorem Pt:bo aw 16:=bq func16
theorem Pu:bo aw 169:=bq func169
theorem Pv:bo aw 17:=bq func17
theorem Pw:bo aw 170:=bq func170
theorem Px:bo aw 171:=bq func171
theorem FR:bo aw 172:=bq func172
theorem AA:bo aw 173:=bq func173
theorem FT:bo aw 174:=bq func174
theorem Py:bo aw 175:=bq func175
theorem uJ:bo aw 176:=bq func176
theorem Pz:bo aw 177:=bq func177
theorem AB:bo aw 178:=bq func178
theorem PA:bo aw 179:=bq func179
theorem AD:bo aw 18:=bq func18
theorem xz:bo aw 180:=bq func180
theorem FU:bo aw 181:=bq func181
theorem PB:bo aw 182:=bq func182
theorem PC:bo aw 183:=bq func183
theorem AE:bo aw 184:=bq func184
theorem PD:bo aw 185:=bq func185
theorem FV:bo aw 186:=bq func186
theorem PE:bo aw 187:=bq func187
theorem FW:bo aw 188:=bq func188
theorem FX:bo aw 189:=bq func189
theorem FY:bo aw 19:=bq func19
theorem PF:bo aw 190:=bq func190
theorem AF:bo aw 191:=bq func191
theorem FZ:bo aw 192:=bq func192
theorem AG:bo aw 193:=bq func193
theorem PG:bo aw 194:=bq func194
theorem AH:bo aw 195:=bq func195
theorem xA:bo aw 196:=bq func196
theorem AI:bo aw 197:=bq func197
theorem F1:bo aw 198:=bq func198
theorem F3:bo aw 199:=bq func199
theorem AJ:bo aw 20:=bq func20
theorem F4:bo aw 200:=bq func200
theorem PH:bo aw 201:=bq func201
theorem PI:bo aw 202:=bq func202
theorem F5:bo aw 203:=bq func203
theorem F6:bo aw 204:=bq func204
theorem F7:bo aw 205:=bq func205
theorem PJ:bo aw 206:=bq func206
theorem PK:bo aw 207:=bq func207
theorem AK:bo aw 208:=bq func208
theorem F8:bo aw 209:=bq func209
theorem AL:bo aw 210:=bq func210
theorem AM:bo aw 211:=bq func211
theorem PL:bo aw 212:=bq func212
theorem PM:bo aw 213:=bq func213
theorem PN:bo aw 227:=bq func227
theorem PO:bo aw 228:=bq func228
theorem PQ:bo aw 232:=bq func232
theorem PR:bo aw 233:=bq func233
theorem PS:bo aw 234:=bq func234
theorem F9:bo aw 235:=bq func235
theorem PT:bo aw 236:=bq func236
theorem AN:bo aw 237:=bq func237
theorem PU:bo aw 238:=bq func238
theorem PV:bo aw 239:=bq func239
theorem qp:bo aw 24:=bq func24
theorem PW:bo aw 240:=bq func240
theorem Ga:bo aw 241:=bq func241
theorem Gb:bo aw 242:=bq func242
theorem PX:bo aw 243:=bq func243
theorem Gc:bo aw 244:=bq func244
theorem PY:bo aw 245:=bq func245
theorem PZ:bo aw 246:=bq func246
theorem P0:bo aw 247:=bq func247
theorem P1:bo aw 248:=bq func248
theorem P2:bo aw 249:=bq func249
theorem Gd:bo aw 25:=bq func25
theorem P3:bo aw 250:=bq func250
theorem AO:bo aw 251:=bq func251
theorem Ge:bo aw 258:=bq func258
theorem AP:bo aw 259:=bq func259
theorem Gf:bo aw 260:=bq func260
theorem P4:bo aw 261:=bq func261
theorem P5:bo aw 262:=bq func262
theorem Gg:bo aw 263:=bq func263
theorem Gh:bo aw 264:=bq func264
theorem P6:bo aw 265:=bq func265
theorem AQ:bo aw 266:=bq func266
theorem P7:bo aw 267:=bq func267
theorem AR:bo aw 268:=bq func268
theorem Gi:bo aw 269:=bq func269
theorem P8:bo aw 270:=bq func270
theorem AS:bo aw 273:=bq func273
theorem AT:bo aw 274:=bq func274
theorem P9:bo aw 275:=bq func275
theorem Qa:bo aw 279:=bq func279
theorem Gj:bo aw 280:=bq func280
theorem Qb:bo aw 281:=bq func281
theorem Qc:bo aw 282:=bq func282
theorem Qd:bo aw 283:=bq func283
theorem Qe:bo aw 284:=bq func284
theorem Qf:bo aw 285:=bq func285
theorem Qg:bo aw 286:=bq func286
theorem Qh:bo aw 287:=bq func287
theorem Qi:bo aw 288:=bq func288
theorem l3:bo aw 289:=bq func289
theorem Qj:bo aw 290:=bq func290
theorem Qk:bo aw 291:=bq func291
theorem Ql:bo aw 294:=bq func294
theorem Qm:bo aw 297:=bq func297
theorem Qn:bo aw 298:=bq func298
theorem Gk:bo aw 299:=bq func299
theorem AU:bo aw 300:=bq func300
theorem Gl:bo aw 301:=bq func301
theorem Qo:bo aw 302:=bq func302
theorem Gm:bo aw 304:=bq func304
theorem AV:bo aw 308:=bq func308
theorem Qp:bo aw 38:=bq func38
theorem Qq:bo aw 39:=bq func39
theorem Qr:bo aw 40:=bq func40
theorem Gn:bo aw 41:=bq func41
theorem Gp:bo aw 42:=bq func42
theorem Gq:bo aw 43:=bq func43
theorem Qs:bo aw 44:=bq func44
theorem Qt:bo aw 45:=bq func45
theorem Qu:bo aw 46:=bq func46
theorem Qv:bo aw 47:=bq func47
theorem Qw:bo aw 48:=bq func48
theorem Qx:bo aw 49:=bq func49
theorem Qy:bo aw 50:=bq func50
theorem rD:bo aw 51:=bq func51
theorem Qz:bo aw 52:=bq func52
theorem QA:bo aw 53:=bq func53
theorem QB:bo aw 54:=bq func54
theorem QC:bo aw 55:=bq func55
theorem Gr:bo aw 57:=bq func57
theorem AW:bo aw 59:=bq func59
theorem QD:bo aw 61:=bq func61
theorem QE:bo aw 64:=bq func64
theorem AX:bo aw 70:=bq func70
theorem QF:bo aw 71:=bq func71
theorem QG:bo aw 72:=bq func72
theorem QH:bo aw 73:=bq func73
theorem QI:bo aw 74:=bq func74
theorem AY:bo aw 75:=bq func75
theorem QJ:bo aw 76:=bq func76
theorem AZ:bo aw 77:=bq func77
theorem QK:bo aw 78:=bq func78
theorem QL:bo aw 79:=bq func79
theorem Gs:bo aw 80:=bq func80
theorem Gt:bo aw 81:=bq func81
theorem QM:bo aw 82:=bq func82
theorem QN:bo aw 83:=bq func83
theorem Gu:bo aw 84:=bq func84
theorem iD:bo aw 85:=bq func85
theorem QO:bo aw 86:=bq func86
theorem sW:bo aw 87:=bq func87
theorem QP:bo aw 88:=bq func88
theorem QQ:bo aw 89:=bq func89
theorem QR:bo aw 90:=bq func90
theorem A0:bo aw 91:=bq func91
theorem xB:bo aw 93:=bq func93
theorem QS:bo aw 94:=bq func94
theorem Gv:bo aw 95:=bq func95
theorem Gx:bo aw 96:=bq func96
theorem Gy:bo aw 97:=bq func97
theorem A1:bo aw 99:=bq func99
theorem RH:∀ (l:List UInt8) (c:UInt8) (w:World),(callFunc 307 #[str l,.int .u8 c.toNat]).run aw w= .ok (.value<|.int .i64 (l.count c:Nat)) w:=XV func307 aj aj aj aj
theorem R9:∀ v w,(callFunc 158 #[v]).run aw w= .ok (.value v) w:=fun v w=>aj
theorem xI:et aw 106=some 3:=aj
theorem rF:et aw 131=some 5:=aj
theorem Sa:et aw 152=some 1:=aj
theorem Sb:et aw 153=some 1:=aj
theorem Sc:et aw 158=some 1:=aj
theorem oG:et aw 169=some 2:=aj
theorem Bc:et aw 174=some 8:=aj
theorem Se:et aw 176=some 1:=aj
theorem Sf:et aw 177=some 1:=aj
theorem Sg:et aw 178=some 1:=aj
theorem GY:et aw 179=some 1:=aj
theorem GZ:et aw 187=some 1:=aj
theorem Sh:et aw 202=some 2:=aj
theorem G0:et aw 209=some 2:=aj
theorem qq:et aw 242=some 5:=aj
theorem G1:et aw 268=some 1:=aj
theorem Si:et aw 27=some 1:=aj
theorem qs:et aw 270=some 1:=aj
theorem gr:et aw 3=some 1:=aj
theorem pF:et aw 325=some 4:=aj
theorem G2:et aw 34=some 1:=aj
theorem xJ:et aw 340=some 1:=aj
theorem xK:et aw 4=some 1:=aj
theorem xL:et aw 41=some 5:=aj
theorem jV:et aw 47=some 3:=aj
theorem gu:et aw 51=some 1:=aj
theorem Sj:et aw 52=some 5:=aj
theorem G3:et aw 53=some 1:=aj
theorem G4:et aw 54=some 1:=aj
theorem G5:et aw 55=some 1:=aj
theorem G6:et aw 56=some 1:=aj
theorem Be:et aw 58=some 13:=aj
theorem Bf:et aw 60=some 1:=aj
theorem G7:et aw 62=some 1:=aj
theorem s5:et aw 70=some 1:=aj
theorem kD:et aw 72=some 2:=aj
theorem Bg:et aw 75=some 1:=aj
theorem pG:et aw 77=some 7:=aj
theorem G8:et aw 87=some 1:=aj
theorem kS:et aw 9=some 1:=aj
theorem l6:gA aw 153=some 1:=aj
theorem Tf:gA aw 177=some 1:=aj
theorem xX:gA aw 178=some 5:=aj
theorem nR:gA aw 179=some 8:=aj
theorem ta:gA aw 187=some 2:=aj
theorem Hy:gA aw 217=some 1:=aj
theorem nS:gA aw 230=some 2:=aj
theorem Hz:gA aw 268=some 4:=aj
theorem Bv:gA aw 27=some 5:=aj
theorem HA:gA aw 30=some 2:=aj
theorem HB:gA aw 304=some 1:=aj
theorem Th:gA aw 34=some 5:=aj
theorem Bw:gA aw 54=some 1:=aj
theorem Ti:gA aw 55=some 5:=aj
theorem nd:gA aw 56=some 7:=aj
theorem Bx:gA aw 62=some 2:=aj
theorem ca:gA aw 70=some 1:=aj
theorem kf:gA aw 75=some 1:=aj
theorem cR:gA aw 87=some 1:=aj
theorem Tn:BD aw 58 8=some 12:=aj
theorem TG:bX aw 111 0=some 0:=aj
theorem TH:bX aw 111 1=some 1:=aj
theorem ya:bX aw 111 3=some 3:=aj
theorem yb:bX aw 111 4=some 4:=aj
theorem td:bX aw 111 5=some 5:=aj
theorem tg:bX aw 111 6=some 6:=aj
theorem BR:bX aw 111 7=some 7:=aj
theorem gJ:bX aw 125 0=some 0:=aj
theorem Ia:bX aw 125 1=some 13:=aj
theorem BS:bX aw 131 0=some 0:=aj
theorem uU:bX aw 131 1=some 1:=aj
theorem Ib:bX aw 131 2=some 2:=aj
theorem Ic:bX aw 131 3=some 3:=aj
theorem yc:bX aw 131 4=some 4:=aj
theorem BT:bX aw 155 0=some 0:=aj
theorem yd:bX aw 155 1=some 1:=aj
theorem TI:bX aw 169 0=some 0:=aj
theorem TJ:bX aw 169 1=some 1:=aj
theorem uV:bX aw 174 0=some 0:=aj
theorem TK:bX aw 174 1=some 1:=aj
theorem TL:bX aw 174 2=some 2:=aj
theorem th:bX aw 174 3=some 3:=aj
theorem BU:bX aw 174 4=some 4:=aj
theorem BV:bX aw 174 5=some 5:=aj
theorem uW:bX aw 174 6=some 6:=aj
theorem Ie:bX aw 174 7=some 7:=aj
theorem ti:bX aw 181 0=some 0:=aj
theorem TM:bX aw 181 1=some 1:=aj
theorem TN:bX aw 181 2=some 2:=aj
theorem tj:bX aw 181 3=some 3:=aj
theorem TO:bX aw 181 4=some 8:=aj
theorem If:bX aw 181 5=some 9:=aj
theorem uX:bX aw 181 6=some 10:=aj
theorem pJ:bX aw 181 7=some 11:=aj
theorem jN:bX aw 181 8=some 12:=aj
theorem tk:bX aw 183 0=some 0:=aj
theorem uY:bX aw 183 1=some 1:=aj
theorem BW:bX aw 183 2=some 2:=aj
theorem BX:bX aw 183 3=some 3:=aj
theorem Ig:bX aw 183 4=some 4:=aj
theorem Ih:bX aw 183 5=some 5:=aj
theorem uZ:bX aw 186 0=some 0:=aj
theorem Ii:bX aw 186 1=some 1:=aj
theorem ig:bX aw 195 0=some 0:=aj
theorem u0:bX aw 195 1=some 1:=aj
theorem u6:bX aw 195 2=some 2:=aj
theorem TP:bX aw 195 3=some 3:=aj
theorem tp:bX aw 195 4=some 4:=aj
theorem BY:bX aw 195 5=some 5:=aj
theorem BZ:bX aw 195 6=some 6:=aj
theorem Ij:bX aw 202 0=some 0:=aj
theorem Ik:bX aw 202 1=some 1:=aj
theorem yf:bX aw 209 0=some 0:=aj
theorem u7:bX aw 209 1=some 1:=aj
theorem lO:bX aw 236 0=some 0:=aj
theorem B3:bX aw 236 1=some 1:=aj
theorem oJ:bX aw 236 2=some 2:=aj
theorem TQ:bX aw 236 3=some 3:=aj
theorem pK:bX aw 236 4=some 4:=aj
theorem pL:bX aw 236 5=some 5:=aj
theorem tt:bX aw 237 0=some 0:=aj
theorem vb:bX aw 237 1=some 1:=aj
theorem B4:bX aw 242 0=some 0:=aj
theorem yg:bX aw 242 1=some 1:=aj
theorem Il:bX aw 242 2=some 2:=aj
theorem mB:bX aw 270 0=some 0:=aj
theorem ng:bX aw 32 0=some 0:=aj
theorem vc:bX aw 32 1=some 1:=aj
theorem TR:bX aw 349 0=some 0:=aj
theorem yh:bX aw 41 0=some 0:=aj
theorem Im:bX aw 41 1=some 1:=aj
theorem rI:bX aw 41 2=some 2:=aj
theorem qz:bX aw 41 3=some 3:=aj
theorem rJ:bX aw 41 4=some 4:=aj
theorem yi:bX aw 43 0=some 0:=aj
theorem Io:bX aw 43 1=some 1:=aj
theorem yj:bX aw 43 2=some 2:=aj
theorem ym:bX aw 43 3=some 3:=aj
theorem rK:bX aw 43 4=some 4:=aj
theorem tu:bX aw 58 0=some 0:=aj
theorem TS:bX aw 58 1=some 1:=aj
theorem TT:bX aw 58 2=some 2:=aj
theorem yo:bX aw 58 3=some 3:=aj
theorem B5:bX aw 58 4=some 8:=aj
theorem yq:bX aw 58 5=some 9:=aj
theorem pM:bX aw 58 6=some 10:=aj
theorem tv:bX aw 58 7=some 11:=aj
theorem nU:bX aw 58 8=some 12:=aj
theorem B6:bX aw 64 0=some 0:=aj
theorem Ip:bX aw 64 1=some 1:=aj
theorem vd:bX aw 64 2=some 2:=aj
theorem B7:bX aw 64 3=some 15:=aj
theorem B8:bX aw 72 0=some 0:=aj
theorem rL:bX aw 72 1=some 1:=aj
theorem Iq:bX aw 77 0=some 0:=aj
theorem vf:bX aw 77 2=some 2:=aj
theorem tw:bX aw 77 3=some 3:=aj
theorem B9:bX aw 77 4=some 4:=aj
theorem Ir:bX aw 77 5=some 5:=aj
theorem qA:bX aw 77 6=some 6:=aj
theorem U9:(aw.info? 155).isSome=true :=aj
theorem Vn:∀ (l:List UInt8) (c:UInt8) (w:World),(callFunc 292 #[str l,.int .u8 c.toNat]).run aw w= .ok (.value<|.int .i64<|fj c l) w:=XW func292 aj aj aj aj
theorem rN:oz aw 51 (pO .u16):=Vy (q:= .u16) aj
theorem jg:oz aw 9 jo:=Vz aj
theorem CN:rS aw 47=true :=aj
theorem Xa:ptrTo aw 227 5=true :=aj
theorem il:gi aw 153 5 1 1=true :=aj
theorem Ln:gi aw 176 369 2 32=true :=aj
theorem Lo:gi aw 177 75 1 24=true :=aj
theorem Lp:gi aw 178 242 5 40=true :=aj
theorem y2:gi aw 179 174 8 104=true :=aj
theorem Lq:gi aw 187 209 2 32=true :=aj
theorem y3:gi aw 230 237 2 32=true :=aj
theorem y4:gi aw 268 325 4 32=true :=aj
theorem Lr:gi aw 27 41 5 48=true :=aj
theorem Ls:gi aw 30 169 2 40=true :=aj
theorem Lt:gi aw 304 349 1 16=true :=aj
theorem DB:gi aw 34 43 5 48=true :=aj
theorem y5:gi aw 53 128 2 32=true :=aj
theorem y6:gi aw 54 70 1 24=true :=aj
theorem y7:gi aw 55 131 5 40=true :=aj
theorem y8:gi aw 56 77 7 88=true :=aj
theorem y9:gi aw 62 72 2 40=true :=aj
theorem zb:gi aw 70 51 1 2=true :=aj
theorem nq:gi aw 75 3 1 8=true :=aj
theorem fQ:gi aw 87 9 1 16=true :=aj
theorem DF:gT aw 106=some ([(0,1),(1,1),(2,1)],[.int .i64 0,.int .i64 0,.int .i64 0]):=aj
theorem Yv:gT aw 111=some ([(0,1),(1,1),(2,1),(3,1),(4,1),(5,1),(6,1),(7,1)],[.bool false,.bool false,.string ⟨⟨[]⟩⟩,.int .i64 0,.int .i64 0,.int .i64 0,.int .i64 0,.slice none 0 0]):=aj
theorem Yw:gT aw 125=some ([(0,13),(13,1)],[.int .i64 0,.string ⟨⟨[]⟩⟩,.string ⟨⟨[]⟩⟩,.int .u16 0,.int .u16 0,.int .u16 0,.int .u16 0,.int .u16 0,.int .i64 0,.slice none 0 0,.slice none 0 0,.slice none 0 0,.slice none 0 0,.map none]):=aj
theorem Yx:gT aw 128=some ([(0,1),(1,1)],[.string ⟨⟨[]⟩⟩,.string ⟨⟨[]⟩⟩]):=aj
theorem DG:gT aw 131=some ([(0,1),(1,1),(2,1),(3,1),(4,1)],[.int .u16 0,.int .i64 0,.bool false,.int .i64 0,.int .i64 0]):=aj
theorem pV:gT aw 169=some ([(0,1),(1,1)],[.string ⟨⟨[]⟩⟩,.slice none 0 0]):=aj
theorem Lz:gT aw 174=some ([(0,1),(1,1),(2,1),(3,1),(4,1),(5,1),(6,1),(7,1)],[.int .i64 0,.int .i64 0,.bool false,.string ⟨⟨[]⟩⟩,.string ⟨⟨[]⟩⟩,.string ⟨⟨[]⟩⟩,.slice none 0 0,.int .i64 0]):=aj
theorem Yy:gT aw 181=some ([(0,1),(1,1),(2,1),(3,5),(8,1),(9,1),(10,1),(11,1),(12,1)],[.int .i64 0,.string ⟨⟨[]⟩⟩,.string ⟨⟨[]⟩⟩,.int .i64 0,.int .i64 0,.int .i64 0,.int .i64 0,.int .i64 0,.int .i64 0,.slice none 0 0,.slice none 0 0,.slice none 0 0,.slice none 0 0]):=aj
theorem Yz:gT aw 183=some ([(0,1),(1,1),(2,1),(3,1),(4,1),(5,1)],[.pointer none,.slice none 0 0,.int .i64 0,.string ⟨⟨[]⟩⟩,.slice none 0 0,.nilFunc]):=aj
theorem YA:gT aw 186=some ([(0,1),(1,1)],[.slice none 0 0,.map none]):=aj
theorem YB:gT aw 195=some ([(0,1),(1,1),(2,1),(3,1),(4,1),(5,1),(6,1)],[.pointer none,.slice none 0 0,.int .i64 0,.int .i64 0,.map none,.map none,.slice none 0 0]):=aj
theorem mP:gT aw 202=some ([(0,1),(1,1)],[.int .i64 0,.nilFunc]):=aj
theorem YC:gT aw 209=some ([(0,1),(1,1)],[.int .i64 0,.slice none 0 0]):=aj
theorem YD:gT aw 236=some ([(0,1),(1,1),(2,1),(3,1),(4,1),(5,1)],[.pointer none,.slice none 0 0,.int .i64 0,.int .i64 0,.slice none 0 0,.int .i64 0]):=aj
theorem LA:gT aw 237=some ([(0,1),(1,1)],[.int .i64 0,.slice none 0 0]):=aj
theorem LB:gT aw 242=some ([(0,1),(1,1),(2,1),(3,1),(4,1)],[.int .i64 0,.int .i64 0,.bool false,.int .i64 0,.int .i64 0]):=aj
theorem vR:gT aw 270=some ([(0,1)],[.slice none 0 0]):=aj
theorem YE:gT aw 32=some ([(0,1),(1,1)],[.pointer none,.slice none 0 0]):=aj
theorem YF:gT aw 349=some ([(0,1)],[.string ⟨⟨[]⟩⟩]):=aj
theorem YG:gT aw 369=some ([(0,1),(1,1)],[.string ⟨⟨[]⟩⟩,.string ⟨⟨[]⟩⟩]):=aj
theorem LC:gT aw 41=some ([(0,1),(1,1),(2,1),(3,1),(4,1)],[.string ⟨⟨[]⟩⟩,.int .i64 0,.int .i64 0,.int .i64 0,.int .i64 0]):=aj
theorem DH:gT aw 43=some ([(0,1),(1,1),(2,1),(3,1),(4,1)],[.string ⟨⟨[]⟩⟩,.int .i64 0,.int .i64 0,.int .i64 0,.int .i64 0]):=aj
theorem tH:gT aw 47=some ([(0,1),(1,1),(2,1)],[.int .i64 0,.int .i64 0,.int .i64 0]):=aj
theorem YH:gT aw 64=some ([(0,1),(1,1),(2,13),(15,1)],[.pointer none,.pointer none,.int .i64 0,.string ⟨⟨[]⟩⟩,.string ⟨⟨[]⟩⟩,.int .u16 0,.int .u16 0,.int .u16 0,.int .u16 0,.int .u16 0,.int .i64 0,.slice none 0 0,.slice none 0 0,.slice none 0 0,.slice none 0 0,.slice none 0 0]):=aj
theorem oc:gT aw 72=some ([(0,1),(1,1)],[.string ⟨⟨[]⟩⟩,.slice none 0 0]):=aj
theorem DI:gT aw 77=some ([(0,1),(1,1),(2,1),(3,1),(4,1),(5,1),(6,1)],[.int .i64 0,.int .u16 0,.bool false,.string ⟨⟨[]⟩⟩,.string ⟨⟨[]⟩⟩,.string ⟨⟨[]⟩⟩,.slice none 0 0]):=aj
theorem r7:aw.underlying 123=some (.map 51 3):=aj
theorem LZ:aw.underlying 152=some (.pointer 155):=aj
theorem mS:aw.underlying 153=some (.slice 5):=aj
theorem L1:aw.underlying 177=some (.slice 75):=aj
theorem DO:aw.underlying 178=some (.slice 242):=aj
theorem tM:aw.underlying 179=some (.slice 174):=aj
theorem L2:aw.underlying 184=some (.map 9 75):=aj
theorem zi:aw.underlying 187=some (.slice 209):=aj
theorem qU:aw.underlying 193=some (.map 9 3):=aj
theorem mi:aw.underlying 197=some (.map 9 202):=aj
theorem L4:aw.underlying 217=some (.slice 51):=aj
theorem tN:aw.underlying 22=some (.pointer 64):=aj
theorem L5:aw.underlying 226=some (.int .u64):=aj
theorem DP:aw.underlying 23=some (.pointer 32):=aj
theorem zj:aw.underlying 230=some (.slice 237):=aj
theorem qV:aw.underlying 268=some (.slice 325):=aj
theorem L7:aw.underlying 27=some (.slice 41):=aj
theorem u3:aw.underlying 3=some (.int .i64):=aj
theorem zk:aw.underlying 30=some (.slice 169):=aj
theorem r8:aw.underlying 304=some (.slice 349):=aj
theorem tO:aw.underlying 34=some (.slice 43):=aj
theorem Za:aw.underlying 340=some (.int .u64):=aj
theorem L8:aw.underlying 38=some (.func #[113] #[] false):=aj
theorem u4:aw.underlying 4=some (.bool):=aj
theorem u5:aw.underlying 5=some (.int .u8):=aj
theorem zl:aw.underlying 51=some (.int .u16):=aj
theorem Zb:aw.underlying 53=some (.slice 128):=aj
theorem zm:aw.underlying 54=some (.slice 70):=aj
theorem L9:aw.underlying 55=some (.slice 131):=aj
theorem vU:aw.underlying 56=some (.slice 77):=aj
theorem vV:aw.underlying 60=some (.pointer 125):=aj
theorem DQ:aw.underlying 61=some (.pointer 186):=aj
theorem vW:aw.underlying 62=some (.slice 72):=aj
theorem oT:aw.underlying 70=some (.slice 51):=aj
theorem nu:aw.underlying 75=some (.slice 3):=aj
theorem eZ:aw.underlying 87=some (.slice 9):=aj
theorem u9:aw.underlying 9=some (.string):=aj
theorem Mc:vX aw 152 279 155 2=true :=aj
theorem Zk:(aw.underlying 158).isSome=true :=aj
theorem Zl:(aw.underlying 226).isSome=true :=aj
theorem qW:(aw.underlying 3).isSome=true :=aj
theorem pY:(aw.underlying 5).isSome=true :=aj
theorem wide:aw.follows .mixedOrders=true :=aj
theorem MC:zeroOf aw 106=some (some [.int .i64 0,.int .i64 0,.int .i64 0]):=aj
theorem tW:zeroOf aw 131=some (some [.int .u16 0,.int .i64 0,.bool false,.int .i64 0,.int .i64 0]):=aj
theorem MD:zeroOf aw 155=some (some [.pointer none,.slice none 0 0]):=aj
theorem ME:zeroOf aw 169=some (some [.string ⟨⟨[]⟩⟩,.slice none 0 0]):=aj
theorem D4:zeroOf aw 174=some (some [.int .i64 0,.int .i64 0,.bool false,.string ⟨⟨[]⟩⟩,.string ⟨⟨[]⟩⟩,.string ⟨⟨[]⟩⟩,.slice none 0 0,.int .i64 0]):=aj
theorem ZR:zeroOf aw 187=some (some [.slice none 0 0]):=aj
theorem ZS:zeroOf aw 202=some (some [.int .i64 0,.nilFunc]):=aj
theorem MF:zeroOf aw 209=some (some [.int .i64 0,.slice none 0 0]):=aj
theorem sc:zeroOf aw 242=some (some [.int .i64 0,.int .i64 0,.bool false,.int .i64 0,.int .i64 0]):=aj
theorem ZT:zeroOf aw 27=some (some [.slice none 0 0]):=aj
theorem zw:zeroOf aw 270=some (some [.slice none 0 0]):=aj
theorem wa:zeroOf aw 3=some (some [.int .i64 0]):=aj
theorem sd:zeroOf aw 325=some (some [.int .u64 0,.int .u64 0,.int .u64 0,.int .u64 0]):=aj
theorem MG:zeroOf aw 34=some (some [.slice none 0 0]):=aj
theorem ZU:zeroOf aw 340=some (some [.int .u64 0]):=aj
theorem MH:zeroOf aw 4=some (some [.bool false]):=aj
theorem zx:zeroOf aw 41=some (some [.string ⟨⟨[]⟩⟩,.int .i64 0,.int .i64 0,.int .i64 0,.int .i64 0]):=aj
theorem p7:zeroOf aw 47=some (some [.int .i64 0,.int .i64 0,.int .i64 0]):=aj
theorem ZV:zeroOf aw 52=some (some [.int .u16 0,.int .u16 0,.int .u16 0,.int .u16 0,.int .u16 0]):=aj
theorem MI:zeroOf aw 58=some (some [.int .i64 0,.string ⟨⟨[]⟩⟩,.string ⟨⟨[]⟩⟩,.int .u16 0,.int .u16 0,.int .u16 0,.int .u16 0,.int .u16 0,.int .i64 0,.slice none 0 0,.slice none 0 0,.slice none 0 0,.slice none 0 0]):=aj
theorem ZW:zeroOf aw 60=some (some [.pointer none]):=aj
theorem qX:zeroOf aw 72=some (some [.string ⟨⟨[]⟩⟩,.slice none 0 0]):=aj
theorem se:zeroOf aw 77=some (some [.int .i64 0,.int .u16 0,.bool false,.string ⟨⟨[]⟩⟩,.string ⟨⟨[]⟩⟩,.string ⟨⟨[]⟩⟩,.slice none 0 0]):=aj
theorem ZX:zeroOf aw 87=some (some [.slice none 0 0]):=aj
theorem ZY:zeroOf aw 9=some (some [.string ⟨⟨[]⟩⟩]):=aj
theorem ZZ:zeroOf aw 351=some (some<|List.replicate 256<|.bool false):=aj
theorem Z0:zeroV aw 202=some (.agg #[.int .i64 0,.nilFunc]):=aj
theorem oY:zeroV aw 3=some (.int .i64 0):=aj
theorem Z1:zeroV aw 47=some (.agg #[.int .i64 0,.int .i64 0,.int .i64 0]):=aj
theorem Z2:zeroV aw 5=some (.int .u8 0):=aj
theorem Z3:zeroV aw 51=some (.int .u16 0):=aj
theorem Z4:zeroV aw 75=some (.slice none 0 0):=aj
end Go.Hb.ea
section
namespace Go.Hb
open Go.Hb.ea
theorem RP (b:Nat) (i:Option Addr) (A:Value) (w:World) (a:w.heap[b]? =some (.cells [zL i,A].toArray 155 (0,0))) (hp:i=none∨i=some ⟨b,0,none⟩):
 bp aw 109 (bh [aT b]) w (fun v w'=>v= .tuple #[]∧w'.heap[b]? =some (.cells [zL (some ⟨b,0,none⟩),A].toArray 155 (0,0))∧Md (fun k=>k=b) w w'):=by
 refine enter func109 aa ntmps109 aa<|ag fun C=>au (aT b)<|p (nc aa)<|p (fa BT aa)<|p (ld E4 aa<|(a7 a).trans aa)<|p (lN LZ aa aa)<|nl<|C<|cb aa (fun q=> ?_) fun q=> ?_
 obtain rfl :i=none:=by simpa using q
 exact rg aa<|au (aT b)<|au (aT b)<|p (Y2 Mc aa a aa)<|p (RF R9 aa)<|p (TW Mc aa a aa)<|p (nc aa)<|p (fa BT aa)<|e<|cT Sa aa aa aa a (by simp) fun J I G=>nl<|f0 aa<|⟨aa,G,I⟩
 obtain rfl :i=some ⟨b,0,none⟩:=hp.resolve_left<|by rintro rfl; simp at q
 exact ag fun E=>au (aT b)<|p (nc aa)<|p (fa BT aa)<|p (ld E4 aa<|(a7 a).trans aa)<|au (aT b)<|p (Wh LZ U9 aa aa)<|nl<|E<|cf aa<|aQ<|f0 aa<|⟨aa,a,Md.refl _ _⟩
theorem Mx (b:Nat) (i:Value) (l:List UInt8) (c:UInt8) (w:World) (ak:Bd 155 5 w b i l) (az:l.length≤70368744177664):
 bp aw 203 (bh [aT b,.int .u8 c.toNat]) w (fun v w'=>v= .nilIface∧∃ E,Bd 155 5 w' b E (l++ [c])∧Md (BF b i) w w'∧∀ k,BF b E k→BF b i k∨w.heap.size≤k):=by
 obtain ⟨⟨ar,M,ao⟩,hown,hnil⟩:=ak
 have aA:b < w.heap.size:=(Array.getElem?_eq_some_iff.1 M).1
 have O:∀ k,i.ownBlock=some k→k≠b∧k < w.heap.size:=fun k hk=>by have :=hown.lt k hk; exact ⟨ab,this.2⟩
 refine enter func203 aa ntmps203 aa<|ag fun V=>ay<|V<|ag fun Y=>au (aT b)<|e<|cl O7 (RP b ar i w M ao) aa fun v6 aG aj=> ?_
 obtain ⟨_,J,A⟩:=aj
 have an:=dz hown A fun k hk=>(O k hk).1
 have aB:=A.size
 refine nl<|Y<|ag fun Z=>au (aT b)<|au (aT b)<|p (nc aa)<|p (fa yd aa)<|p (ld Ad aa<|(a7 J).trans aa)<|au (.int .u8 c.toNat)<|e<|fZ il aa aa fun av aC ax q ah=>e<|ap il (a6 an q.md) aa (by have :=q.size; omega) aa (aO.ec ah) (aa) (aa) ab ab fun U aD C G aq am=> ?_
 have al:=G.aJ (Wk.aJ q.md J) fun h=>(O b h).1 rfl
 refine p (nc aa)<|p (fa yd aa)<|e<|cT Sb aa aa (by obtain ⟨a,c,h,_⟩:=tD C; exact congrArg Value.oneCell' h) al (by simp) fun aF I ai=>nl<|Z<|ag fun ac=>p aE<|nl<|ac<|rt<|aX aa ?_
 have ae:∀ k,U.ownBlock=some k→k≠b:=fun k hk=>by have :=C.lt k hk; omega
 refine ⟨aa,U,⟨⟨_,ai,.inr aa⟩,?_,?_⟩,?_,?_⟩
 rw [bM,xi]; exact dz C I fun k hk=>ae k hk
 rw [aq]; simp
 refine Md.trans' (Md.trans' (Md.trans' (A.mono fun k _ h=> .inl h) q.md fun _ _ h=>h.elim) G fun k _ h=> .inr h) I fun k _ h=> .inl h
 rintro k (rfl | hk)
 exact .inl<|.inl aa
 by_cases h:i.ownBlock=some k
 exact .inl<|.inr h
 have :=am k hk; have h1:=A.size; have h2:=q.md.size; exact .inr<|by rcases this with h3 | h3; exact absurd h3 h; omega
theorem DK (b:Nat) (C:Value) (l:List UInt8) (w:World) (M:Bd 155 5 w b C l) (Y:l.length≤70368744177664):
 bp aw 70 (bh [aT b]) w (fun v w'=>v=str l∧Md (fun k=>C.ownBlock=some k) w w'):=by
 obtain ⟨⟨ae,E,Z⟩,hown,hnil⟩:=M
 obtain ⟨a,c,rfl,U,hle,hk,V⟩:=tD hown
 refine enter func70 aa ntmps70 aa<|ag fun G=>ay<|G<|aB fun I=> ?_
 have i:(fun w'=>Md (fun k=>(bS a l.length c).ownBlock=some k) w w') w.drew:=(Md.refl _ _).drew
 refine bN (fun w'=>Md (fun k=>(bS a l.length c).ownBlock=some k) w w') aa wide i<|bI 0 aa (aT b) i<|aH 1 aa (fun _ _=>nc aa) i<|aH 2 aa (fun _ _=>fa yd aa) i<|aH 3 aa (fun w' q=>ld Ad aa<|q.aR ((a7 E).trans aa) fun h=>by have :=hown.lt _ h; omega) i<|bI 5 aa (aT b) i<|aH 6 aa (fun _ _=>nc aa) i<|aH 7 aa (fun _ _=>fa yd aa) i<|aH 8 aa (fun w' q=>ld Ad aa<|q.aR ((a7 E).trans aa) fun h=>by have :=hown.lt _ h; omega) i<|aH 9 aa (fun _ _=>bJ mS aa aa) i ?_
 refine aH 4 aa (fun _ _=>Zm (v:= .nilFunc) aa (by
  by_cases h:l= []
  have :=hnil.2 h; simp only [Value.slice.injEq] at this; exact .inl this.1
  right; have :0 < l.length:=lF.2 h; omega)) i ?_
 refine he 10 aa aj<|Zn Xa aa aa hown aa ab fun O J ac=> ?_
 have A:(fun w'=>Md (fun k=>(bS a l.length c).ownBlock=some k) w w') O:=i.trans' J fun _ _ h=>h
 refine ⟨A,?_⟩
 exact aH 11 aa (fun _ _=>aE) A<|hn aj<|I<|rt<|aX aa<|⟨aa,A⟩
end Go.Hb
end
section
namespace Go.Hb
open Go.Hb.ea
theorem lk (b:UInt8):rH b=decide ((b.toNat:Int)=92∨(b.toNat:Int)=47∨(b.toNat:Int)=35):=by
 unfold rH; exact decide_eq_decide.2 ab
theorem BI (b:UInt8):iT b=decide (32 < (b.toNat:Int)∧(b.toNat:Int)≠127):=by
 unfold iT; exact decide_eq_decide.2 ab
theorem Ty {b:UInt8} (h:32 < (b.toNat:Int)) (h1:(b.toNat:Int)≠127):iT b=true :=by rw [BI]; exact decide_eq_true ⟨h,h1⟩
theorem BH {b:UInt8} (h:¬(32 < (b.toNat:Int)∧(b.toNat:Int)≠127)):iT b=false :=by rw [BI]; exact decide_eq_false h
theorem HR (b:UInt8) (w:World):
 bp aw 204 (bh [.int .u8 b.toNat]) w (fun v w'=>v= .bool (iT b)∧Wk w w'):=by
 refine enter func204 aa ntmps204 aa<|ag fun i=>ay<|i<|ag fun a=>au (.int .u8 b.toNat)<|p (gt aa aa)<|p mv<|gs (t:=5) aa (fun q=> ?_) fun q=> ?_
 exact aM aa (aV (.int .u8 b.toNat) aa)<|aM aa (cO aa aa)<|p (bC aa)<|ay<|a<|rt<|aX aa<|⟨by show bU (decide _)=_; rw [BI]; exact bv (by constructor <;> intro h <;> first | exact ⟨ab,h⟩ | exact h.2),Md.refl _ _⟩
 exact aI aa<|aI aa<|p (bu aa)<|ay<|a<|rt<|aX aa<|⟨by show bU false =_; rw [BH ab],Md.refl _ _⟩
theorem V1 (b:UInt8) (w:World):
 bp aw 202 (bh [.int .u8 b.toNat]) w (fun v w'=>v= .bool (rH b)∧Wk w w'):=by
 refine enter func202 aa ntmps202 aa<|ag fun E=>ay<|E<|aB fun A=>ag fun G=>au (.int .u8 b.toNat)<|nl<|G<|aJ<|aB fun C=>ag fun I=>p (bK aa aa)<|ay<|I<|cd aa (fun a=> ?_) fun a=> ?_
 refine aQ<|C<|cd aa (fun a=> ?_) fun a=> ?_
 refine ag fun q=>ay<|q<|rt<|br<|tr<|aX aa ?_
 first | exact ⟨by show bU true =_; rw [lk,decide_eq_true ab],Md.refl _ _⟩ | exact ⟨by show bU false =_; rw [lk,decide_eq_false ab],Md.refl _ _⟩
 refine aQ<|bn<|A<|ag fun q=>ay<|q<|rt<|aX aa ?_
 first | exact ⟨by show bU true =_; rw [lk,decide_eq_true ab],Md.refl _ _⟩ | exact ⟨by show bU false =_; rw [lk,decide_eq_false ab],Md.refl _ _⟩
 refine ag fun q=>p (bK aa aa)<|ay<|q<|cd aa (fun a=> ?_) fun a=> ?_
 refine aQ<|C<|cd aa (fun a=> ?_) fun a=> ?_
 refine ag fun i=>ay<|i<|rt<|br<|tr<|aX aa ?_
 first | exact ⟨by show bU true =_; rw [lk,decide_eq_true ab],Md.refl _ _⟩ | exact ⟨by show bU false =_; rw [lk,decide_eq_false ab],Md.refl _ _⟩
 refine aQ<|bn<|A<|ag fun i=>ay<|i<|rt<|aX aa ?_
 first | exact ⟨by show bU true =_; rw [lk,decide_eq_true ab],Md.refl _ _⟩ | exact ⟨by show bU false =_; rw [lk,decide_eq_false ab],Md.refl _ _⟩
 refine rg aa<|p (bK aa aa)<|ay<|C<|cd aa (fun a=> ?_) fun a=> ?_
 refine ag fun i=>ay<|i<|rt<|br<|tr<|aX aa ?_
 first | exact ⟨by show bU true =_; rw [lk,decide_eq_true ab],Md.refl _ _⟩ | exact ⟨by show bU false =_; rw [lk,decide_eq_false ab],Md.refl _ _⟩
 refine aQ<|bn<|A<|ag fun i=>ay<|i<|rt<|aX aa ?_
 first | exact ⟨by show bU true =_; rw [lk,decide_eq_true ab],Md.refl _ _⟩ | exact ⟨by show bU false =_; rw [lk,decide_eq_false ab],Md.refl _ _⟩
theorem Mi (s:List UInt8) (w:World) (hs:s.length≤1048576):
 bp aw 140 (bh [str s]) w (fun v w'=>v= .bool (pZ s)∧Wk w w'):=by
 refine enter func140 aa ntmps140 aa<|ag fun Y=>ay<|Y<|aB fun ae=>ag fun J=>au (str s)<|p (dZ aa aa)<|p mv<|gs (t:=6) aa (fun G=> ?_) fun G=> ?_
 exact aI aa<|aI aa<|aI aa<|p (bC aa)<|nl<|J<|ct aa<|aB fun a=>rg aa<|ay<|a<|rt<|tr<|aX aa<|⟨by show bU false =_; unfold pZ; rw [decide_eq_false (by rw [G]; simp)],Md.refl _ _⟩
 refine aM aa (aV (str s) aa)<|aM aa (cz u9 aa aa)<|aM aa (gt aa aa)<|p (bu aa)<|nl<|J<|cd aa (fun am=> ?_) fun am=> ?_
 exact ag fun a=>ay<|a<|rt<|tr<|aX aa<|⟨by show bU false =_; unfold pZ; rw [decide_eq_false ab],Md.refl _ _⟩
 refine aQ<|ae<|aB fun a=>ag fun ah=>au (str s)<|p (cz u9 aa aa)<|p mv<|nl<|ah<|aJ<|lp (fun M q V=> ∃ (i:Nat),(i≤s.length∧1≤s.length∧s.length≤64)∧(∀ j,j < i→iT (s.getD j 0)=true)∧(Wk w V)∧(q 0=str s)∧(q 12= .int .i64 s.length)∧(q 13= .int .i64 i)∧(s.length - i=M)) _ ⟨0,(⟨ab,by rcases Nat.eq_zero_or_pos s.length with h | h <;> first | exact absurd (wV.1 h) G | exact h,ab⟩),(fun j U=>by omega),(Md.refl _ _),aa,aa,aa,aa⟩ ?_
 rintro M q V ⟨i,hi,hp,C,ao,ap,aq,rfl⟩
 refine fx 0 ao<|fx 12 ap<|fx 13 aq<|ag fun ai=>p (lt aa aa)<|nl<|ai<|aB fun aj=>cd aa (fun an=> ?_) fun an=> ?_
 refine aQ<|aj<|aB fun A=>aJ<|ag fun ak=>au (.int .i64 i)<|p (cU (.int .i64 i) aa)<|nl<|ak<|ag fun Z=>au (str s)<|au (.int .i64 i)<|p (eX u9 aa aa ab)<|e<|cl F6 (HR (s.getD i 0) _) aa fun ar av al=> ?_
 obtain ⟨rfl,O⟩:=al
 refine p (no aa)<|nl<|Z<|cb aa (fun E=> ?_) fun E=> ?_
 have I:iT (s.getD i 0)=false :=by simpa using E
 exact ag fun ac=>ay<|ac<|rt<|br<|tr<|tr<|br<|tr<|aX aa<|⟨by show bU false =_; unfold pZ; rw [sV (i:=i) ab I,decide_eq_false (by simp)],Md.trans C O⟩
 have I:iT (s.getD i 0)=true :=by simpa using E
 exact aQ<|bn<|A<|rg aa<|p (ad aa aa<|bY ab)<|p mv<|nl<|tn<|⟨_,ab,i+1,ab,(fun j U=>by rcases fu j i with h | h <;> first | exact hp j h | (rw [show j=i by omega]; exact I)),(Md.trans C O),aa,aa,aa,aa⟩
 exact ext<|bf<|bf<|be<|a<|ag fun A=>p aE<|nl<|A<|rt<|aX aa<|⟨by show bU true =_; unfold pZ; rw [uG (fun j U=>hp j ab),decide_eq_true ⟨hi.2.1,hi.2.2,aa⟩],C⟩
theorem D3 (s:List UInt8) (w:World) (hs:s.length≤1048576):
 bp aw 139 (bh [str s]) w (fun v w'=>v=KH (bD s)∧Wk w w'):=by
 refine enter func139 aa ntmps139 aa<|ag fun an=>p aE<|p aE<|p aE<|ay<|an<|ag fun av=>e<|fg MD fun a bq bc aS aK=>nl<|av<|aB fun ax=>ag fun aA=>ay<|aA<|aJ<|lp (fun al J I=> ∃ (i:Nat) (acc:List UInt8) (q:Value),(i≤s.length∧acc.length≤i)∧(Bd 155 5 I a q acc)∧(Wk w I)∧(jq acc (s.drop i)=bD s)∧(J 0=str s)∧(J 6=aT a)∧(J 7= .int .i64 i)∧(s.length - i=al)) _ ⟨0,[],.slice none 0 0,(by simp),(Bd.new aK),aS.md,aa,aa,aa,aa,aa⟩ ?_
 rintro al J I ⟨i,acc,q,hi,A,C,hd,a5,a6,a7,rfl⟩
 refine fx 0 a5<|fx 6 a6<|fx 7 a7<|aB fun aC=>ag fun aD=>au (.int .i64 i)<|au (str s)<|p (cz u9 aa aa)<|p (lt aa aa)<|nl<|aD<|cd aa (fun a0=> ?_) fun a0=> ?_
 refine aQ<|aC<|aB fun V=>aJ<|ag fun aF=>au (str s)<|au (.int .i64 i)<|p (eX u9 aa aa ab)<|nl<|aF<|aJ ?_
 refine ep (fun M ah=> ∃ (k:Nat),(k < s.length∧i≤k∧k≤i+1)∧(Bd 155 5 ah a q acc)∧(Wk w ah)∧(jq (acc++ [s.getD k 0]) (s.drop<|k+1)=bD s)∧(M 0=str s)∧(M 6=aT a)∧(M 7= .int .i64 k)) ?_ ?_
 refine aJ<|aB fun Y=>aJ<|aB fun ao=>aJ<|aB fun ap=>aB fun aq=>aB fun ar=>rg aa<|p (bK aa aa)<|ay<|ar<|cd aa (fun a1=> ?_) fun a1=> ?_
 have aZ:(s.getD i 0).toNat=47:=ab
 refine ext<|bf<|bf<|be<|ao<|aB fun ai=>aB fun O=> ?_
 have E:(fun w'=>True) I.drew:=trivial
 refine bN (fun w'=>True) aa wide E<|bI 1 aa (str s) E<|bI 2 aa (.int .i64 i) E<|aH 3 aa (fun _ _=>bF ((i+1:Nat):Int) aa aa<|bl ab ab) E<|aH 4 aa (fun _ _=>mh u9 aa aa ab) E<|he 0 aa aj<|cl AX (DK a q acc _ (A.md (Md.refl (fun _=>False) _).drew fun _ _ h=>h) ab) aa fun v21 bb aU=> ?_
 obtain ⟨rfl,aO⟩:=aU
 have G:(fun w'=>True) bb:=trivial
 refine ⟨G,?_⟩
 refine aH 5 aa (fun _ _=>aE) G<|aH 6 aa (fun _ _=>aE) G<|aH 7 aa (fun _ _=>aE) G<|aH 8 aa (fun _ _=>aE) G<|hn aj<|O<|rt<|tr<|br<|tr<|br<|tr<|br<|br<|tr<|tr<|br<|tr<|f4 aa aa aa aa aa ?_
 skip
 exact ⟨by rw [← hd,drop_cons 0 (by omega :i < s.length),D2 aZ]; rfl,A.DJ C (Md.trans (Md.refl _ _).drew aO) ab⟩
 refine aQ<|aq<|ag fun ai=>p (bK aa aa)<|ay<|ai<|cd aa (fun a2=> ?_) fun a2=> ?_
 have ac:(s.getD i 0).toNat=92:=ab
 refine ext<|bf<|my az<|bf<|be<|Y<|ag fun O=>au (.int .i64 i)<|p (bF ((i+1:Nat):Int) aa aa<|bl ab ab)<|ay<|O<|ag fun ak=>p mv<|au (str s)<|p (cz u9 aa aa)<|p (bK aa aa)<|p mv<|gs (t:=32) aa (fun a4=> ?_) fun a4=> ?_
 refine aI aa<|aI aa<|aI aa<|aI aa<|aI aa<|p (bC aa)<|nl<|ak<|ct aa<|ag fun U=>p aE<|p aE<|p aE<|p aE<|nl<|U<|rt<|br<|tr<|br<|br<|tr<|tr ?_
 exact br<|tr<|f4 aa aa aa aa aa<|⟨by rw [← hd,drop_cons 0 (by omega :i < s.length),gV ab,DY ac]; rfl,C⟩
 refine aM aa (aV (str s) aa)<|aM aa mv<|aM aa (eX u9 aa aa ab)<|eg aa aa aa<|cl PI (V1 (s.getD (i+1) 0) _) aa fun bg bk aW=> ?_
 obtain ⟨rfl,Z⟩:=aW
 refine aM aa (no aa)<|p (bu aa)<|nl<|ak<|cb aa (fun ae=> ?_) fun ae=> ?_
 exact ag fun U=>p aE<|p aE<|p aE<|ay<|U<|rt<|br<|tr<|br<|br<|tr<|tr<|br<|tr<|f4 aa aa aa aa aa<|⟨by rw [← hd,drop_cons 0 (by omega :i < s.length),drop_cons 0 (by omega :i+1 < s.length),DZ ac (by simpa using ae)]; rfl,Md.trans C Z⟩
 exact aQ<|bn<|tn<|⟨i+1,ab,(A.md Z fun _ _ h=>h),(Md.trans C Z),(by rw [← hd,drop_cons 0 (by omega :i < s.length),drop_cons 0 (by omega :i+1 < s.length),vZ ac (by simpa using ae)]),aa,aa,aa⟩
 exact aQ<|ap<|ext<|my az<|bf<|my az<|bf<|be<|tn<|⟨i,ab,A,C,(by rw [← hd,drop_cons 0 (by omega :i < s.length),D1 ab ab]),aa,aa,aa⟩
 rintro M ah ⟨k,hk,am,aN,a3,a8,a9,ba⟩
 refine fx 0 a8<|fx 6 a9<|fx 7 ba<|ag fun Y=>au (str s)<|au (.int .i64 k)<|p (eX u9 aa aa ab)<|e<|cl F5 (Mx a q (acc) (s.getD k 0) _ am ab) aa fun bi bm aX=> ?_
 obtain ⟨rfl,aG,aL,aP,bd⟩:=aX
 exact nl<|Y<|ext<|be<|bn<|V<|rg aa<|au (.int .i64 k)<|p (ad aa aa<|bY ab)<|p aE<|nl<|tn<|⟨_,ab,k+1,acc++ [s.getD k 0],aG,(by rw [bM,e9]; omega),aL,(am.step aN aP ab),a3,aa,aa,aa,aa⟩
 refine ext<|bf<|bf<|be<|ax<|ag fun V=>e<|cl AX (DK a q acc _ A ab) aa fun bj bo aY=> ?_
 obtain ⟨rfl,aR⟩:=aY
 exact p aE<|p aE<|p aE<|ay<|V<|rt<|f4 aa aa aa aa aa<|⟨by rw [← hd,gV ab,zt]; rfl,A.DJ C aR ab⟩
theorem VK (s:List UInt8) (w:World) (hs:s.length≤1048576):
 bp aw 194 (bh [str s]) w (fun v w'=>v= .tuple #[str (letE s).1,.int .i64 (letE s).2]∧Wk w w'):=by
 refine enter func194 aa ntmps194 aa<|ag fun az=>p aE<|ay<|az<|ag fun aG=>e<|al ZZ fun V a9 bb I ao=> ?_
 have aR:bP a9.heap V (marksOf []):=by rw [V6]; exact ao
 refine nl<|aG<|aB fun aH=>ag fun aI=>au (str s)<|p (dZ aa aa)<|nl<|aI<|cd aa (fun ak=> ?_) fun ak=> ?_
 exact ag fun U=>p aE<|ay<|U<|rt<|tr<|f2 aa aa aa<|⟨by show gD #[str [],.int .i64 21]=_; unfold letE; rw [if_pos (.inl ak)]; rfl,I.md⟩
 refine aQ<|aH<|ag fun U=>e<|fg MD fun G bs bd ax aS=>nl<|U<|aB fun aK=>ag fun aL=>au (str s)<|p (cz u9 aa aa)<|p mv<|nl<|aL<|aJ ?_
 have bc:=ao.lt
 refine lp (fun an a M=> ∃ (i:Nat) (q:Value),(i≤s.length)∧(∀ j,j < i→iT (s.getD j 0)=true)∧(bP M.heap V<|marksOf<|lets<|s.take i)∧(Bd 155 5 M G q<|lets<|s.take i)∧(Wk w M)∧(a 0=str s)∧(a 4=aT V)∧(a 5=aT G)∧(a 10= .int .i64 s.length)∧(a 11= .int .i64 i)∧(s.length - i=an)) _ ⟨0,.slice none 0 0,ab,(fun j am=>by omega),(ax.md.B aR),(Bd.new aS),(Md.trans I.md ax.md),aa,aa,aa,aa,aa,aa⟩ ?_
 rintro an a M ⟨i,q,hi,hp,av,Z,ah,a3,a6,a7,a4,a5,rfl⟩
 refine fx 0 a3<|fx 4 a6<|fx 5 a7<|fx 10 a4<|fx 11 a5 ?_
 have a2:=CD<|s.take i
 rw [dQ] at a2
 have bg:=av.lt
 refine ag fun aM=>p (lt aa aa)<|nl<|aM<|aB fun aN=>cd aa (fun a1=> ?_) fun a1=> ?_
 refine aQ<|aN<|aB fun E=>aJ<|ag fun aA=>au (.int .i64 i)<|p (cU (.int .i64 i) aa)<|nl<|aA<|aB fun aC=>ag fun aD=>au (str s)<|au (.int .i64 i)<|p (eX u9 aa aa ab)<|e<|cl F6 (HR (s.getD i 0) _) aa fun bk a8 aY=> ?_
 obtain ⟨rfl,A⟩:=aY
 refine p (no aa)<|nl<|aD<|cb aa (fun ai=> ?_) fun ai=> ?_
 have J:iT (s.getD i 0)=false :=by simpa using ai
 exact ag fun O=>p aE<|ay<|O<|rt<|tr<|br<|tr<|tr<|br<|tr<|f2 aa aa aa<|⟨by show gD #[str [],.int .i64 21]=_; unfold letE; rw [if_pos (.inr<|sV ab J)]; rfl,Md.trans ah A⟩
 have J:iT (s.getD i 0)=true :=by simpa using ai
 have ap:Wk w a8:=Md.trans ah A
 have Y:=A.B av
 have ae:=Z.md A fun _ _ h=>h
 have bj:=A.size
 refine aQ<|aC<|ag fun O=>au (str s)<|au (.int .i64 i)<|p (eX u9 aa aa ab)<|p (kg Fl aa aa<|by have :=iX (s.getD i 0); omega)<|p (ld lY aa<|V8 Y _)<|p (no aa)<|nl<|O<|cb aa (fun aj=> ?_) fun aj=> ?_
 have C:¬s.getD i 0∈lets (s.take i):=of_decide_eq_false<|by simpa using aj
 refine ag fun aF=>au (str s)<|au (.int .i64 i)<|p (eX u9 aa aa ab)<|p (kg Fl aa aa<|by have :=iX (s.getD i 0); omega)<|e<|st xK aa aa (aa) (Y) (by rw [JH]; have :=iX (s.getD i 0); omega) fun ba aq aP=> ?_
 have aX:=V9 aP
 have aV:Wk w ba:=Md.trans' ap aq fun k hk h=>by omega
 have ac:=ae.md aq fun k hk h=>by have :=ae.jn hk; omega
 refine nl<|aF<|rg aa<|au (str s)<|au (.int .i64 i)<|p (eX u9 aa aa ab)<|e<|cl F5 (Mx G q (lets<|s.take i) (s.getD i 0) _ ac ab) aa fun bl bo aZ=> ?_
 obtain ⟨rfl,aO,aU,ar,bi⟩:=aZ
 exact nl<|bn<|E<|rg aa<|p (ad aa aa<|bY ab)<|p mv<|nl<|tn<|⟨_,ab,i+1,aO,ab,(fun j am=>by rcases fu j i with h | h <;> first | exact hp j h | (rw [show j=i by omega]; exact J)),(by rw [qI ab,if_neg C]; exact ar.B aX fun h=>by have :=ac.jn h; omega),(by rw [qI ab,if_neg C]; exact aU),(ac.step aV ar<|by have :=I.md.size; omega),aa,aa,aa,aa,aa,aa⟩
 have C:s.getD i 0∈lets (s.take i):=by simpa using aj
 exact aQ<|bn<|E<|rg aa<|p (ad aa aa<|bY ab)<|p mv<|nl<|tn<|⟨_,ab,i+1,q,ab,(fun j am=>by rcases fu j i with h | h <;> first | exact hp j h | (rw [show j=i by omega]; exact J)),(by rw [qI ab,if_pos C]; exact Y),(by rw [qI ab,if_pos C]; exact ae),ap,aa,aa,aa,aa,aa,aa⟩
 refine ext<|bf<|bf<|be<|aK<|ag fun E=>e<|cl AX (DK G q (lets<|s.take i) _ Z<|by have :=CD (s.take i); rw [dQ] at this; omega) aa fun bm bq a0=> ?_
 obtain ⟨rfl,aW⟩:=a0
 exact p aE<|ay<|E<|rt<|f2 aa aa aa<|⟨by show gD #[str (lets<|s.take i),.int .i64 0]=_; unfold letE; rw [if_neg (by rw [uG (fun j am=>hp j ab)]; exact fun h=>h.elim ak eo),show s.take i=s from eU ab]; rfl,Z.DJ ah aW<|by have :=I.md.size; omega⟩
end Go.Hb
end
section
namespace Go.Hb
open Go.Hb.ea
theorem yA {s:List UInt8} (h:¬s= []) (h1:¬(1 < s.length∧(s.getD 0 0).toNat=48)):¬qF s:=fun a=>a.elim h h1
theorem KC {s:List UInt8} (h:¬qF s):0 < s.length:=lF.2 fun e=>h<|.inl e
theorem yO (s:List UInt8) (most:Int) (w:World) (hs:s.length≤1048576) (hm: -9223372036854775808≤most∧most≤9223372036854775807):
 bp aw 138 (bh [str s,.int .i64 most]) w (fun v w'=>v= .tuple #[.int .i64 (ee s most).1,.int .i64 (ee s most).2]∧Wk w w'):=by
 refine enter func138 aa ntmps138 aa<|ag fun ac=>p aE<|ay<|ac ?_
 refine ep (fun O M=>(¬qF s)∧(M=w)∧(O 0=str s)∧(O 1= .int .i64 most)) ?_ ?_
 refine ag fun A=>au (str s)<|p (dZ aa aa)<|p mv<|gs (t:=11) aa (fun G=> ?_) fun G=> ?_
 exact aI aa<|aI aa<|aI aa<|aI aa<|ek aa<|ek aa<|ek aa<|aI aa<|p (bC aa)<|nl<|A<|ct aa<|ag fun C=>p aE<|p aE<|nl<|C<|rt<|tr<|f2 aa aa aa<|⟨by show gD #[.int .i64 0,.int .i64 13]=_; rw [yN (.inl G)]; rfl,Md.refl _ _⟩
 refine aM aa (aV (str s) aa)<|aM aa (cz u9 aa aa)<|aM aa (gt aa aa)<|aM aa mv<|gs (t:=15) aa (fun ax=> ?_) fun ax=> ?_
 refine aM aa (aV (str s) aa)<|aM aa (je 0 u9 aa aa ab)<|aM aa (bK aa aa)<|aM aa (bC aa)<|p (bu aa)<|nl<|A<|cd aa (fun ap=> ?_) fun ap=> ?_
 exact ag fun C=>p aE<|ay<|C<|rt<|tr<|f2 aa aa aa<|⟨by show gD #[.int .i64 0,.int .i64 13]=_; rw [yN (.inr ⟨ab,ab⟩)]; rfl,Md.refl _ _⟩
 have I:=yA (s:=s) G ab
 exact aQ<|tn<|⟨I,aa,aa,aa⟩
 exact aI aa<|aI aa<|aI aa<|aM aa (bu aa)<|p (bu aa)<|nl<|A<|cf aa<|aQ<|tn<|⟨(yA (s:=s) G ab),aa,aa,aa⟩
 rintro O M ⟨I,an,aD,aF⟩
 refine fx 0 aD<|fx 1 aF ?_
 subst an
 have hp:=KC I
 refine ag fun A=>ay<|A<|aB fun C=>ag fun ah=>au (str s)<|p (cz u9 aa aa)<|p mv<|nl<|ah<|aJ<|lp (fun U q Z=> ∃ (i:Nat),(i≤s.length)∧(Z=M)∧((eW (s.take i):Int)≤max 0 most∧(0 < i→(eW (s.take i):Int)≤most))∧(∀ j,j < i→qt (s.getD j 0)=true)∧(q 0=str s)∧(q 1= .int .i64 most)∧(q 6=ak (eW<|s.take i))∧(q 22= .int .i64 s.length)∧(q 23= .int .i64 i)∧(s.length - i=U)) _ ⟨0,ab,aa,(by rw [ow]; show (0:Int)≤_∧_; omega),(fun j Y=>by omega),aa,aa,(iv<|by first | rfl | (rw [nb ab])),aa,aa,aa⟩ ?_
 rintro U q Z ⟨i,hi,ao,hn,V,aG,aH,aN,aK,aL,rfl⟩
 refine fx 0 aG<|fx 1 aH<|fx 6 aN<|fx 22 aK<|fx 23 aL ?_
 subst ao
 have aO:=iX<|s.getD i 0
 refine ag fun ai=>p (lt aa aa)<|nl<|ai<|aB fun aj=>cd aa (fun aq=> ?_) fun aq=> ?_
 refine aQ<|aj<|aB fun J=>aJ<|ag fun al=>au (.int .i64 i)<|p (cU (.int .i64 i) aa)<|nl<|al<|ag fun am=>au (str s)<|au (.int .i64 i)<|p (eX u9 aa aa ab)<|p (xH u3 pY aa<|bY ab)<|p (sb aa aa<|bY ab)<|ay<|am<|aB fun ae=>ag fun E=>p mv<|p (lt aa aa)<|p mv<|gs (t:=33) aa (fun az=> ?_) fun az=> ?_
 refine aI aa<|aI aa<|p (bC aa)<|p mv<|aI aa<|aI aa<|aI aa<|p (bC aa)<|p mv<|aI aa<|aI aa<|aI aa<|aI aa<|aI aa<|aI aa<|p (bC aa)<|nl<|E<|ct aa<|ag fun a=>p aE<|p aE<|nl<|a<|rt<|tr<|br<|tr<|tr<|br<|tr ?_
 exact f2 aa aa aa<|⟨by show gD #[.int .i64 0,.int .i64 13]=_; rw [yM (i:=i) ab (xO ab)]; rfl,Md.refl _ _⟩
 refine aM aa mv<|aM aa (gt aa aa)<|p (bu aa)<|p mv<|gs (t:=37) aa (fun aA=> ?_) fun aA=> ?_
 exact aI aa<|aI aa<|aI aa<|p (bC aa)<|p mv<|aI aa<|aI aa<|aI aa<|aI aa<|aI aa<|aI aa<|p (bC aa)<|nl<|E<|ct aa<|aB fun a=>rg aa<|p aE<|ay<|a<|rt<|tr<|br<|tr<|tr<|br<|tr<|f2 aa aa aa<|⟨by show gD #[.int .i64 0,.int .i64 13]=_; rw [yM (i:=i) ab (xO ab)]; rfl,Md.refl _ _⟩
 refine aM aa (aV (.int .i64 most) aa)<|aM aa mv<|aM aa (lt aa aa)<|p (bu aa)<|p mv<|gs (t:=42) aa (fun aC=> ?_) fun aC=> ?_
 refine aI aa<|aI aa<|aI aa<|aI aa<|aI aa<|aI aa<|p (bC aa)<|nl<|E<|ct aa<|ag fun a=>p aE<|ay<|a ?_
 exact rt<|tr<|br<|tr<|tr<|br<|tr<|f2 aa aa aa<|⟨by show gD #[.int .i64 0,.int .i64 13]=_; rw [vw (i+1) (by rw [nb ab]; omega)]; rfl,Md.refl _ _⟩
 have aP:((s.getD i 0).toNat:Int) - 48≤most:=ab
 refine aM aa (aV (ak<|eW<|s.take i) aa)<|aM aa (aV (.int .i64 most) aa)<|aM aa mv<|aM aa (sb aa aa<|bY ab)<|aM aa (qQ (((most - (((s.getD i 0).toNat:Int) - 48)).toNat / 10:Nat):Int) aa aa ab<|bl ab ab)<|aM aa (gt aa aa)<|p (bu aa)<|nl<|E<|cd aa (fun ar=> ?_) fun ar=> ?_
 exact ag fun a=>p aE<|ay<|a<|rt<|tr<|br<|tr<|tr<|br<|tr<|f2 aa aa aa<|⟨by show gD #[.int .i64 0,.int .i64 13]=_; rw [vw (i+1) (by rw [nb ab]; omega)]; rfl,Md.refl _ _⟩
 have av:qt (s.getD i 0)=true :=decide_eq_true ab
 exact aQ<|ae<|rg aa<|au (ak<|eW<|s.take i)<|p (oO ((eW (s.take i)*10:Nat):Int) aa aa<|bl ab ab)<|p mv<|p (bF ((eW (s.take i)*10 +((s.getD i 0).toNat - 48):Nat):Int) aa aa<|bl ab ab)<|p aE<|nl<|bn<|J<|rg aa<|p (ad aa aa<|bY ab)<|p mv<|nl<|tn<|⟨_,ab,i+1,ab,aa,(by rw [nb ab]; omega),(fun j Y=>by rcases fu j i with h | h <;> first | exact V j h | (rw [show j=i by omega]; exact av)),aa,aa,(iv<|by first | rfl | (rw [nb ab])),aa,aa,aa⟩
 exact ext<|bf<|bf<|be<|C<|ag fun J=>au (ak<|eW<|s.take i)<|p (cU (ak<|eW<|s.take i) aa)<|ay<|J<|rt<|f2 aa aa aa<|⟨by show gD #[ak (eW<|s.take i),.int .i64 0]=_; rw [show s.take i=s from eU ab,CR I (fun j Y=>V j ab) (by rw [show s.take i=s from eU ab] at hn; omega)],Md.refl _ _⟩
theorem rX (s:List UInt8) (most:Int) (w:World) (hs:s.length≤1048576) (hm: -9223372036854775808≤most∧most≤9223372036854775807):
 bp aw 118 (bh [str s,.int .i64 most]) w (fun v w'=>v= .tuple #[.int .i64 (ee s most).1,.int .i64 (ee s most).2]∧Wk w w'):=by
 refine enter func118 aa ntmps118 aa<|ag fun ao=>p aE<|ay<|ao ?_
 refine ep (fun aj ah=>(¬qF s)∧(ah=w)∧(aj 0=str s)∧(aj 1= .int .i64 most)) ?_ ?_
 refine ag fun A=>au (str s)<|p (cz u9 aa aa)<|p (bK aa aa)<|p mv<|gs (t:=13) aa (fun ae=> ?_) fun ae=> ?_
 exact aI aa<|aI aa<|aI aa<|aI aa<|ek aa<|ek aa<|ek aa<|aI aa<|p (bC aa)<|nl<|A<|ct aa<|ag fun C=>p aE<|p aE<|nl<|C<|rt<|tr<|f2 aa aa aa<|⟨by show gD #[.int .i64 0,.int .i64 13]=_; rw [yN (.inl<|wV.1 ab)]; rfl,Md.refl _ _⟩
 refine aM aa (aV (str s) aa)<|aM aa (cz u9 aa aa)<|aM aa (gt aa aa)<|aM aa mv<|gs (t:=17) aa (fun aN=> ?_) fun aN=> ?_
 refine aM aa (aV (str s) aa)<|aM aa (je 0 u9 aa aa ab)<|aM aa (bK aa aa)<|aM aa (bC aa)<|p (bu aa)<|nl<|A<|cd aa (fun aC=> ?_) fun aC=> ?_
 exact ag fun C=>p aE<|ay<|C<|rt<|tr<|f2 aa aa aa<|⟨by show gD #[.int .i64 0,.int .i64 13]=_; rw [yN (.inr ⟨ab,ab⟩)]; rfl,Md.refl _ _⟩
 exact aQ<|tn<|⟨(yA (s:=s) (fun e=>by subst e; exact ae aa) ab),aa,aa,aa⟩
 exact aI aa<|aI aa<|aI aa<|aM aa (bu aa)<|p (bu aa)<|nl<|A<|cf aa<|aQ<|tn<|⟨(yA (s:=s) (fun e=>by subst e; exact ae aa) ab),aa,aa,aa⟩
 rintro aj ah ⟨al,ax,aS,aT⟩
 refine fx 0 aS<|fx 1 aT ?_
 subst ax
 have hp:=KC al
 refine ag fun A=>ay<|A<|aB fun C=>ag fun aq=>ay<|aq<|aJ<|lp (fun G J ai=> ∃ (i:Nat),(i≤s.length)∧(ai=ah)∧(∀ j,j < i→qt (s.getD j 0)=true)∧(J 0=str s)∧(J 1= .int .i64 most)∧(J 6= .int .i64 0)∧(J 7= .int .i64 i)∧(s.length - i=G)) _ ⟨0,ab,aa,(fun j am=>by omega),aa,aa,aa,aa,aa⟩ ?_
 rintro G J ai ⟨i,hi,az,I,aU,aW,aX,aY,rfl⟩
 refine fx 0 aU<|fx 1 aW<|fx 6 aX<|fx 7 aY ?_
 subst az
 refine aB fun ar=>ag fun av=>au (.int .i64 i)<|au (str s)<|p (cz u9 aa aa)<|p (lt aa aa)<|nl<|av<|cd aa (fun aD=> ?_) fun aD=> ?_
 refine aQ<|ar<|aB fun ac=>aJ<|ag fun U=>au (str s)<|au (.int .i64 i)<|p (eX u9 aa aa ab)<|p (lt aa aa)<|p mv<|gs (t:=33) aa (fun aO=> ?_) fun aO=> ?_
 exact aI aa<|aI aa<|aI aa<|aI aa<|p (bC aa)<|nl<|U<|ct aa<|ag fun E=>p aE<|ay<|E<|rt<|br<|tr<|tr<|br<|tr<|f2 aa aa aa<|⟨by show gD #[.int .i64 0,.int .i64 13]=_; rw [yM (i:=i) ab (xO ab)]; rfl,Md.refl _ _⟩
 refine aM aa (aV (str s) aa)<|aM aa (aV (.int .i64 i) aa)<|aM aa (eX u9 aa aa ab)<|aM aa (gt aa aa)<|p (bu aa)<|nl<|U<|cd aa (fun aF=> ?_) fun aF=> ?_
 exact ag fun E=>p aE<|ay<|E<|rt<|br<|tr<|tr<|br<|tr<|f2 aa aa aa<|⟨by show gD #[.int .i64 0,.int .i64 13]=_; rw [yM (i:=i) ab (xO ab)]; rfl,Md.refl _ _⟩
 have aL:qt (s.getD i 0)=true :=decide_eq_true ab
 exact aQ<|bn<|ac<|rg aa<|au (.int .i64 i)<|p (ad aa aa<|bY ab)<|p aE<|nl<|tn<|⟨_,ab,i+1,ab,aa,(fun j am=>by rcases fu j i with h | h <;> first | exact I j h | (rw [show j=i by omega]; exact aL)),aa,aa,aa,aa,aa⟩
 refine ext<|bf<|bf<|be<|C<|aB fun ac=>ag fun U=>ay<|U<|aJ<|lp (fun G M an=> ∃ (j:Nat),(j≤s.length)∧(an=ai)∧(eW (s.take j)≤9223372036854775807)∧(M 0=str s)∧(M 1= .int .i64 most)∧(M 6=ak (eW<|s.take j))∧(M 8= .int .i64 j)∧(s.length - j=G)) _ ⟨0,ab,aa,(by rw [ow]; exact Nat.zero_le _),aa,aa,(iv<|by first | rfl | (rw [nb ab])),aa,aa⟩ ?_
 rintro G M an ⟨j,am,aA,hn,aZ,a0,a1,a2,rfl⟩
 refine fx 0 aZ<|fx 1 a0<|fx 6 a1<|fx 8 a2 ?_
 subst aA
 refine aB fun E=>ag fun ap=>au (.int .i64 j)<|au (str s)<|p (cz u9 aa aa)<|p (lt aa aa)<|nl<|ap<|cd aa (fun aG=> ?_) fun aG=> ?_
 refine aQ<|E<|aB fun O=>aJ<|aB fun V=> ?_
 have a3:=Bk<|I j ab
 refine rg aa<|au (str s)<|au (.int .i64 j)<|p (eX u9 aa aa ab)<|p (sb aa aa<|tV ab)<|p (xH u3 pY aa<|bY ab)<|p aE<|nl<|V<|aB fun a=>ag fun Y=>au (ak<|eW<|s.take j)<|p (gt aa aa)<|p mv<|gs (t:=52) aa (fun aP=> ?_) fun aP=> ?_
 refine aI aa<|aI aa<|aI aa<|ek aa<|ek aa<|aI aa<|p (bC aa)<|nl<|Y<|ct aa<|ag fun Z=>p aE<|ay<|Z ?_
 exact rt<|tr<|br<|tr<|tr<|br<|tr<|f2 aa aa aa<|⟨by show gD #[.int .i64 0,.int .i64 13]=_; rw [vw (j+1) (by rw [nb ab]; omega)]; rfl,Md.refl _ _⟩
 refine aM aa (aV (ak<|eW<|s.take j) aa)<|aM aa (bK aa aa)<|aM aa mv<|gs (t:=55) aa (fun aR=> ?_) fun aR=> ?_
 refine aM aa mv<|aM aa (gt aa aa)<|aM aa (bC aa)<|p (bu aa)<|nl<|Y<|cd aa (fun aH=> ?_) fun aH=> ?_
 exact ag fun Z=>p aE<|ay<|Z<|rt<|tr<|br<|tr<|tr<|br<|tr<|f2 aa aa aa<|⟨by show gD #[.int .i64 0,.int .i64 13]=_; rw [vw (j+1) (by rw [nb ab]; omega)]; rfl,Md.refl _ _⟩
 exact aQ<|a<|rg aa<|au (ak<|eW<|s.take j)<|p (oO ((eW (s.take j)*10:Nat):Int) aa aa<|bl ab ab)<|p mv<|p (bF ((eW (s.take j)*10 +((s.getD j 0).toNat - 48):Nat):Int) aa aa<|bl ab ab)<|p aE<|nl<|bn<|O<|rg aa<|au (.int .i64 j)<|p (ad aa aa<|bY ab)<|p aE<|nl<|tn<|⟨_,ab,j+1,ab,aa,(by have :=Bk (I j ab); rw [nb ab]; omega),aa,aa,(iv<|by first | rfl | (rw [nb ab])),aa,aa⟩
 refine aI aa<|aI aa<|aM aa (bu aa)<|p (bu aa)<|nl<|Y<|cf aa<|aQ<|a<|rg aa<|au (ak<|eW<|s.take j)<|p (oO ((eW (s.take j)*10:Nat):Int) aa aa<|bl ab ab)<|p mv<|p (bF ((eW (s.take j)*10 +((s.getD j 0).toNat - 48):Nat):Int) aa aa<|bl ab ab)<|p aE<|nl ?_
 exact bn<|O<|rg aa<|au (.int .i64 j)<|p (ad aa aa<|bY ab)<|p aE<|nl<|tn<|⟨_,ab,j+1,ab,aa,(by have :=Bk (I j ab); rw [nb ab]; omega),aa,aa,(iv<|by first | rfl | (rw [nb ab])),aa,aa⟩
 refine ext<|bf<|bf<|be<|ac<|aB fun O=>ag fun V=>au (ak<|eW<|s.take j)<|au (.int .i64 most)<|p (gt aa aa)<|nl<|V<|cd aa (fun aK=> ?_) fun aK=> ?_
 exact ag fun a=>p aE<|ay<|a<|rt<|tr<|f2 aa aa aa<|⟨by show gD #[.int .i64 0,.int .i64 13]=_; rw [vw j ab]; rfl,Md.refl _ _⟩
 exact aQ<|O<|ag fun a=>au (ak<|eW<|s.take j)<|p (cU (ak<|eW<|s.take j) aa)<|p aE<|nl<|a<|rt<|f2 aa aa aa<|⟨by show gD #[ak (eW<|s.take j),.int .i64 0]=_; rw [show s.take j=s from eU ab,CR al (fun q a4=>I q ab) (by rw [show s.take j=s from eU ab] at*; omega)],Md.refl _ _⟩
end Go.Hb
end
section
namespace Go.Hb
open Go.Hb.ea
theorem De {s pr:List UInt8} (h:s.take pr.length=pr):pr.length≤s.length:=by
 have :=congrArg List.length h
 rw [dQ] at this; omega
theorem YK {s:List UInt8} (h:decide (1≤s.length∧s.drop (s.length - 1)= [13])=true):jM s=s.take (s.length - 1):=by
 have h1:=of_decide_eq_true h
 rw [Jq ab] at h1
 exact Hm ab<|by simpa using h1.2
theorem YL {s:List UInt8} (h:decide (1≤s.length∧s.drop (s.length - 1)= [13])=false):jM s=s:=by
 have h1:=of_decide_eq_false h
 refine Bt fun h2=>h1 ⟨ab,?_⟩
 rw [Jq ab,h2.2]
theorem Vm (c:UInt8):fj c [c]=0:=by unfold fj; simp
theorem Cq (s pr:List UInt8) (w:World) (hs:s.length≤1099511627776) (hp:pr.length≤1099511627776):
 bp aw 211 (bh [str s,str pr]) w (fun v w'=>v= .bool (decide (s.take pr.length=pr))∧Wk w w'):=by
 refine enter func211 aa ntmps211 aa<|ag fun i=>ay<|i<|ag fun a=>au (str s)<|p (cz u9 aa aa)<|au (str pr)<|p (cz u9 aa aa)<|p (ge aa aa)<|p mv<|gs (t:=10) aa (fun q=> ?_) fun q=> ?_
 exact aM aa (aV (str s) aa)<|aM aa (aV (str pr) aa)<|aM aa (cz u9 aa aa)<|aM aa (r5 u9 aa aa ab)<|aM aa (aV (str pr) aa)<|aM aa (dZ aa aa)<|p (bC aa)<|p aE<|nl<|a<|rt<|aX aa<|⟨aa,Md.refl _ _⟩
 exact aI aa<|aI aa<|aI aa<|aI aa<|aI aa<|aI aa<|p (bu aa)<|p aE<|nl<|a<|rt<|aX aa<|⟨by show bU false =_; rw [decide_eq_false (fun h=>by have :=De h; omega)],Md.refl _ _⟩
theorem Y4 (s pr:List UInt8) (w:World) (hs:s.length≤1099511627776) (hp:pr.length≤1099511627776):
 bp aw 150 (bh [str s,str pr]) w (fun v w'=>v=str (gC s pr)∧Wk w w'):=by
 refine enter func150 aa ntmps150 aa<|ag fun C=>ay<|C<|aB fun E=>ag fun G=>au (str s)<|au (str pr)<|e<|cl AM (Cq s pr _ hs hp) aa fun M O I=> ?_
 obtain ⟨rfl,A⟩:=I
 refine nl<|G<|cb aa (fun q=> ?_) fun q=> ?_
 have a:=of_decide_eq_true q
 have J:=De a
 exact ag fun i=>au (str s)<|au (str pr)<|p (cz u9 aa aa)<|p (mh u9 aa aa ab)<|p aE<|nl<|i<|rt<|tr<|aX aa<|⟨by show str (s.drop (pr.length:Int).toNat)=_; unfold gC; rw [if_pos a]; rfl,A⟩
 have a:=of_decide_eq_false q
 exact aQ<|E<|ag fun i=>au (str s)<|p (cU (str s) aa)<|nl<|i<|rt<|aX aa<|⟨by show str s=_; unfold gC; rw [if_neg a],A⟩
theorem LV (s pr:List UInt8) (w:World) (hs:s.length≤1099511627776) (hp:pr.length≤1099511627776):
 bp aw 96 (bh [str s,str pr]) w (fun v w'=>v=str (gC s pr)∧Wk w w'):=by
 refine enter func96 aa ntmps96 aa<|ag fun a=>ay<|a<|ag fun i=>au (str s)<|au (str pr)<|e<|cl Pr (Y4 s pr _ hs hp) aa fun C E A=> ?_
 obtain ⟨rfl,q⟩:=A
 exact ay<|i<|rt<|aX aa<|⟨aa,q⟩
theorem Cr (s pr:List UInt8) (w:World) (hs:s.length≤1099511627776) (hp:pr.length≤1099511627776):
 bp aw 210 (bh [str s,str pr]) w (fun v w'=>v= .bool (decide (pr.length≤s.length∧s.drop (s.length - pr.length)=pr))∧Wk w w'):=by
 refine enter func210 aa ntmps210 aa<|ag fun i=>ay<|i<|ag fun a=>au (str s)<|p (cz u9 aa aa)<|au (str pr)<|p (cz u9 aa aa)<|p (ge aa aa)<|p mv<|gs (t:=10) aa (fun q=> ?_) fun q=> ?_
 exact aM aa (aV (str s) aa)<|aM aa (aV (str s) aa)<|aM aa (cz u9 aa aa)<|aM aa (aV (str pr) aa)<|aM aa (cz u9 aa aa)<|aM aa (sb aa aa<|bY ab)<|aM aa (mh u9 aa aa ab)<|aM aa (aV (str pr) aa)<|aM aa (dZ aa aa)<|p (bC aa)<|ay<|a<|rt<|aX aa<|⟨by show bU (decide (s.drop ((s.length:Int) - (pr.length:Int)).toNat=pr))=_; rw [show ((s.length:Int) - (pr.length:Int)).toNat=s.length - pr.length from by omega]; exact bv (by constructor <;> intro h <;> first | exact ⟨ab,h⟩ | exact h.2),Md.refl _ _⟩
 exact aI aa<|aI aa<|aI aa<|aI aa<|aI aa<|aI aa<|aI aa<|aI aa<|aI aa<|p (bu aa)<|ay<|a<|rt<|aX aa<|⟨by show bU false =_; rw [decide_eq_false ab],Md.refl _ _⟩
theorem Y7 (s:List UInt8) (w:World) (hs:s.length≤1099511627776):
 bp aw 149 (bh [str s,str [13]]) w (fun v w'=>v=str (jM s)∧Wk w w'):=by
 refine enter func149 aa ntmps149 aa<|ag fun A=>ay<|A<|aB fun C=>ag fun E=>au (str s)<|au (str [13])<|e<|cl AL (Cr s [13] _ hs az) aa fun M O G=> ?_
 obtain ⟨rfl,q⟩:=G
 refine nl<|E<|cb aa (fun a=> ?_) fun a=> ?_
 have J:=(of_decide_eq_true a).1
 have I:([13]:List UInt8).length=1:=rfl
 exact ag fun i=>au (str s)<|au (str s)<|p (cz u9 aa aa)<|au (str [13])<|p (cz u9 aa aa)<|p (sb aa aa<|bY ab)<|p (r5 u9 aa aa ab)<|ay<|i<|rt<|tr<|aX aa<|⟨by show str (s.take ((s.length:Int) - (([13]:List UInt8).length:Int)).toNat)=_; rw [YK a,show ((s.length:Int) - (([13]:List UInt8).length:Int)).toNat=s.length - 1 from by simp only [e9]; omega],q⟩
 exact aQ<|C<|ag fun i=>au (str s)<|p (cU (str s) aa)<|nl<|i<|rt<|aX aa<|⟨by show str s=_; rw [YL a],q⟩
theorem Y8 (s:List UInt8) (w:World) (hs:s.length≤1099511627776):
 bp aw 95 (bh [str s,str [13]]) w (fun v w'=>v=str (jM s)∧Wk w w'):=by
 refine enter func95 aa ntmps95 aa<|ag fun a=>ay<|a<|ag fun i=>au (str s)<|au (str [13])<|e<|cl FQ (Y7 s _ hs) aa fun C E A=> ?_
 obtain ⟨rfl,q⟩:=A
 exact ay<|i<|rt<|aX aa<|⟨aa,q⟩
theorem Jc (s:List UInt8) (c:UInt8) (w:World):
 bp aw 269 (bh [str s,.int .u8 c.toNat]) w (fun v w'=>v= .int .i64 (fj c s)∧Wk w w'):=by
 exact enter func269 aa ntmps269 aa<|ag fun a=>ay<|a<|ag fun i=>au (str s)<|au (.int .u8 c.toNat)<|p (GJ (Vn s c _) aa)<|ay<|i<|rt<|aX aa<|⟨aa,Md.refl _ _⟩
theorem Jb (s:List UInt8) (c:UInt8) (w:World):
 bp aw 264 (bh [str s,str [c]]) w (fun v w'=>v= .int .i64 (fj c s)∧Wk w w'):=by
 refine enter func264 aa ntmps264 aa<|ag fun q=>ay<|q<|ag fun A=>au (str [c])<|p (cz u9 aa aa)<|ay<|A<|aB fun J=>aJ<|ag fun C=>p mv<|p (bK aa aa)<|p mv<|gs (t:=19) aa (fun h=>absurd h<|by simp) fun O=>aM aa (aV (str [c]) aa)<|aM aa (aV (str s) aa)<|aM aa (dZ aa aa)<|p (bu aa)<|ay<|C<|cd aa (fun i=> ?_) fun i=> ?_
 exact ag fun a=>ay<|a<|rt<|br<|tr<|aX aa<|⟨by show Value.int .i64 0=_; rw [← i,Vm],Md.refl _ _⟩
 refine ag fun a=>p mv<|p (bK aa aa)<|ay<|a<|cd aa (fun M=> ?_) fun h=>absurd aa h
 refine ag fun E=>au (str s)<|au (str [c])<|p (je 0 u9 aa aa<|by simp)<|e<|cl Gi (Jc s c _) aa fun v30 U I=> ?_
 obtain ⟨rfl,G⟩:=I
 exact ay<|E<|rt<|br<|tr<|aX aa<|⟨aa,G⟩
theorem U7 (s:List UInt8) (c:UInt8) (w:World):
 bp aw 298 (bh [str s,str [c]]) w (fun v w'=>v= .int .i64 (fj c s)∧Wk w w'):=by
 refine enter func298 aa ntmps298 aa<|ag fun a=>ay<|a<|ag fun i=>au (str s)<|au (str [c])<|e<|cl Gh (Jb s c _) aa fun C E A=> ?_
 obtain ⟨rfl,q⟩:=A
 exact ay<|i<|rt<|aX aa<|⟨aa,q⟩
theorem RY (s:List UInt8) (c:UInt8) (w:World) (hs:s.length≤1099511627776):
 bp aw 238 (bh [str s,str [c]]) w (fun v w'=>v= .tuple #[str (mA c s),str (nO c s),.bool (!decide (fj c s < 0))]∧Wk w w'):=by
 refine enter func238 aa ntmps238 aa<|ag fun C=>p aE<|p aE<|ay<|C<|aB fun E=>ag fun G=>au (str s)<|au (str [c])<|e<|cl Gh (Jb s c _) aa fun v10 q J=> ?_
 obtain ⟨rfl,A⟩:=J
 refine ay<|G<|ag fun I=>p mv<|p (ge aa aa)<|nl<|I<|cd aa (fun M=> ?_) fun M=> ?_
 have O:=rM (c:=c) (l:=s) ab
 have U:[c].length=1:=rfl
 refine aB fun i=> ?_
 have a:(fun w'=>Wk q w') q.drew:=(Md.refl _ _).drew
 exact bN (fun w'=>Wk q w') aa wide a<|bI 0 aa (str s) a<|aH 1 aa (fun _ _=>mv) a<|aH 2 aa (fun _ _=>r5 u9 aa aa ab) a<|bI 3 aa (str s) a<|aH 4 aa (fun _ _=>mv) a<|bI 5 aa (str [c]) a<|aH 6 aa (fun _ _=>cz u9 aa aa) a<|aH 7 aa (fun _ _=>bF ((s.idxOf c+1:Nat):Int) aa aa<|bl ab ab) a<|aH 8 aa (fun _ _=>mh u9 aa aa ab) a<|aH 9 aa (fun _ _=>aE) a<|aH 10 aa (fun _ _=>aE) a<|aH 11 aa (fun _ _=>aE) a<|hn aj<|i<|rt<|tr<|f3 aa aa aa aa<|⟨by show gD #[str (s.take (fj c s).toNat),str (s.drop<|s.idxOf c+1),.bool true]=_; unfold mA nO; rw [if_neg ab,if_neg ab,O.1,decide_eq_false ab]; rfl,Md.trans A (Md.refl _ _).drew⟩
 exact aQ<|E<|ag fun i=>au (str s)<|p (cU (str s) aa)<|p aE<|p aE<|nl<|i<|rt<|f3 aa aa aa aa<|⟨by show gD #[str s,str [],.bool false]=_; unfold mA nO; rw [if_pos ab,if_pos ab,decide_eq_true ab]; rfl,A⟩
theorem R7 (s:List UInt8) (c:UInt8) (w:World) (hs:s.length≤1099511627776):
 bp aw 190 (bh [str s,str [c]]) w (fun v w'=>v= .tuple #[str (mA c s),str (nO c s),.bool (!decide (fj c s < 0))]∧Wk w w'):=by
 refine enter func190 aa ntmps190 aa<|ag fun a=>p aE<|p aE<|ay<|a<|aB fun i=>rg aa<|au (str s)<|au (str [c])<|e<|cl PU (RY s c _ hs) aa fun v9 C A=> ?_
 obtain ⟨rfl,q⟩:=A
 exact p (xt aa aa)<|p (xt aa aa)<|p (xt aa aa)<|p aE<|p aE<|ay<|i<|rt<|f3 aa aa aa aa<|⟨aa,q⟩
end Go.Hb
end
section
namespace Go.Hb
open Go.Hb.ea
theorem Vj (x:Nat) (w:World):
 bp aw 302 (bh [bj x]) w (fun v w'=>v= .bool false∧Wk w w'):=by
 exact enter func302 aa ntmps302 aa<|ag fun a=>ay<|a<|ag fun i=>au (bj x)<|au (bj x)<|p (cO aa aa)<|ay<|i<|rt<|aX aa<|⟨congrArg bU (decide_eq_false fun h=>h aa),Md.refl _ _⟩
theorem l9 (x y:Nat) (w:World):
 bp aw 289 (bh [bj x,bj y]) w (fun v w'=>v= .bool (cg x y)∧Wk w w'):=by
 refine enter func289 aa ntmps289 aa<|ag fun a=>ay<|a<|ag fun i=>au (bj x)<|e<|cl Qo (Vj x _) aa fun v6 C A=> ?_
 obtain ⟨rfl,q⟩:=A
 exact p mv<|aI aa<|aI aa<|aI aa<|p (bu aa)<|p mv<|aM aa (aV (bj x) aa)<|aM aa (aV (bj y) aa)<|aM aa (lt aa aa)<|p (bu aa)<|ay<|i<|rt<|aX aa<|⟨by show bU (decide ((x:Int) < (y:Int)))=_; unfold cg; exact congrArg bU (decide_eq_decide.2 ab),q⟩
theorem Vg (d:Array Nat) (a b:Nat) (B n cp:Nat) (C:Option Addr) (w:World) (ar:w.ownsRow B 51 1 (.slice C n cp) n (LE bj d)) (a4:a≤b∧b≤n) (bb:n≤1099511627776):
 bp aw 283 (bh [.slice C n cp,ak a,ak b]) w (fun v w'=>v= .tuple #[]∧w'.ownsRow B 51 1 (.slice C n cp) n (LE bj<|Nk cg d a b)∧Md (fun q=>(bS C n cp).ownBlock=some q) w w'):=by
 have a7:=fP ar
 refine enter func283 aa ntmps283 aa<|ag fun az=>au (ak a)<|p (bF ((a+1:Nat):Int) aa aa<|bl ab ab)<|ay<|az<|aJ<|lp (fun Z ae an=> ∃ (i:Nat) (Y:Array Nat),(a+1≤i∧i≤n+1)∧(Go.Sort.insOuter cg a b i Y=Nk cg d a b)∧(an.ownsRow B 51 1 (.slice C n cp) n<|LE bj Y)∧(Md (fun q=>(bS C n cp).ownBlock=some q) w an)∧(ae 0= .slice C n cp)∧(ae 1=ak a)∧(ae 2=ak b)∧(ae 6=ak i)∧(b - i=Z)) _ ⟨a+1,d,ab,aa,ar,(Md.refl _ _),aa,aa,aa,aa,aa⟩ ?_
 rintro Z ae an ⟨i,Y,hi,al,av,aq,aU,aW,aX,aY,rfl⟩
 refine fx 0 aU<|fx 1 aW<|fx 2 aX<|fx 6 aY<|aB fun aA=>ag fun aC=>au (ak i)<|au (ak b)<|p (lt aa aa)<|nl<|aC<|cd aa (fun aR=> ?_) fun aR=> ?_
 refine aQ<|aA<|aB fun ao=>aJ<|ag fun aD=>au (ak i)<|p (cU (ak i) aa)<|nl<|aD<|aJ<|lp (fun Z V O=> ∃ (j:Nat) (G:Array Nat),(a≤j∧j≤i)∧(Nj cg a j G=Nj cg a i Y)∧(O.ownsRow B 51 1 (.slice C n cp) n<|LE bj G)∧(Md (fun q=>(bS C n cp).ownBlock=some q) w O)∧(V 0= .slice C n cp)∧(V 1=ak a)∧(V 2=ak b)∧(V 6=ak i)∧(V 7=ak j)∧(j=Z)) _ ⟨i,Y,ab,aa,av,aq,aa,aa,aa,aa,aa,aa⟩ ?_
 rintro Z V O ⟨j,G,a9,am,J,ah,aZ,a0,a1,a2,a3,rfl⟩
 refine fx 0 aZ<|fx 1 a0<|fx 2 a1<|fx 6 a2<|fx 7 a3<|aB fun aF=>aB fun ap=> ?_
 have a5:=fP J
 have A:(fun w'=>Wk O w') O.drew:=(Md.refl _ _).drew
 refine bN (fun w'=>Wk O w') aa wide A<|bI 0 aa (ak j) A<|bI 1 aa (ak a) A<|aH 2 aa (fun _ _=>gt aa aa) A<|aH 3 aa (fun _ _=>mv) A<|iK (t:=19) aa (fun aP=> ?_) fun aP=> ?_
 refine bm 4 aa (fun _ _=>aV (.slice C n cp) aa) A<|bm 5 aa (fun _ _=>aV (ak j) aa) A<|bm 6 aa (fun _ _=>bc ca aa aa ab<|aO.ok ((ba J).2)<|cy ab) A<|bm 7 aa (fun w' I=>ld dd aa<|dN (i:=j) ((ba J).2.wk I) ab) A<|bm 8 aa (fun _ _=>aV (.slice C n cp) aa) A<|bm 9 aa (fun _ _=>aV (ak j) aa) A<|bm 10 aa (fun _ _=>dR ((j - 1:Nat):Int) aa aa<|bl ab ab) A<|bm 11 aa (fun _ _=>bc ca aa aa ab<|aO.ok ((ba J).2)<|cy ab) A<|bm 12 aa (fun w' I=>ld dd aa<|dN (i:=j - 1) ((ba J).2.wk I) ab) A<|l7 13 aa aj aa aa aa<|cl l3 (l9 G[j]! G[j - 1]! _) aa fun bd ac aN=> ?_
 obtain ⟨rfl,aI⟩:=aN
 have U:(fun w'=>Wk O w') ac:=Md.trans A aI
 refine ⟨U,?_⟩
 refine aH 14 aa (fun _ _=>bC aa) U<|hn aj<|ap<|cb aa (fun ai=> ?_) fun ai=> ?_
 refine aQ<|aF<|aB fun aG=>aJ ?_
 have M:=a6 J U
 have E:(fun w'=>Wk ac w') ac.drew:=(Md.refl _ _).drew
 refine eR (fun w'=>Wk ac w') 15 aa wide E<|bE 0 aa (.slice C n cp) E<|bE 1 aa (ak j) E<|bE 2 aa (.slice C n cp) E<|bE 3 aa (ak j) E<|bB 4 aa (fun _=>dR ((j - 1:Nat):Int) aa aa<|bl ab ab) (fun _=>E)<|bE 5 aa (.slice C n cp) E<|bE 6 aa (ak j) E<|bB 7 aa (fun _=>dR ((j - 1:Nat):Int) aa aa<|bl ab ab) (fun _=>E)<|bB 8 aa (fun _=>bc ca aa aa ab<|aO.ok ((ba M).2)<|cy ab) (fun _=>E)<|dP 9 aa (fun w' I=>ld dd aa<|dN (i:=j - 1) ((ba M).2.wk I) ab) E<|bE 10 aa (.slice C n cp) E<|bE 11 aa (ak j) E<|bB 12 aa (fun _=>bc ca aa aa ab<|aO.ok ((ba M).2)<|cy ab) (fun _=>E)<|dP 13 aa (fun w' I=>ld dd aa<|dN (i:=j) ((ba M).2.wk I) ab) E<|bB 14 aa (fun _=>bc ca aa aa ab<|aO.ok ((ba M).2)<|cy ab) (fun _=>E) ?_
 refine dO 15 aa aj aj<|gB (u:=G[j - 1]!) (j) (a6 M E) gu aa aa aa ab fun bg aL aS=>bB 16 aa (fun _=>bc ca aa aa ab<|aO.ok ((ba M).2)<|cy ab) (fun h=>eo<|(show true =_ from by kernel_rfl).trans h)<|dO 17 aa aj aj<|gB (u:=G[j]!) (j - 1) aS gu aa aa aa ab fun ax aM aT=> ?_
 have I:ax.ownsRow B 51 1 (.slice C n cp) n (LE bj<|cX G (j)<|j - 1):=aT
 have aK:Md (fun q=>(bS C n cp).ownBlock=some q) ac ax:=Md.trans (E.mono fun _ _ h=>h.elim)<|Md.trans aL aM
 exact eQ aj<|bn<|aG<|rg aa<|au (ak j)<|p (dR ((j - 1:Nat):Int) aa aa<|bl ab ab)<|p aE<|nl<|tn<|⟨_,ab,j - 1,cX G j (j - 1),ab,(by rw [← am,Vd (show a < j by omega) ai]),I,(Md.trans ah<|Md.trans (U.mono fun _ _ h=>h.elim) aK),aa,aa,aa,aa,aa,aa⟩
 exact ext<|bf<|bf<|be<|bn<|ao<|rg aa<|au (ak i)<|p (bF ((i+1:Nat):Int) aa aa<|bl ab ab)<|p aE<|nl<|tn<|⟨_,ab,i+1,G,ab,(by rw [← al,Jf (show i < b by omega),← am,Ve (by simpa using ai)]),(a6 J U),(Md.trans ah<|U.mono fun _ _ h=>h.elim),aa,aa,aa,aa,aa⟩
 exact a8 4 aa A<|a8 5 aa A<|a8 6 aa A<|a8 7 aa A<|a8 8 aa A<|a8 9 aa A<|a8 10 aa A<|a8 11 aa A<|a8 12 aa A<|a8 13 aa A<|aH 14 aa (fun _ _=>bu aa) A<|hn aj<|ap<|cf aa<|ext<|bf<|bf<|be<|bn<|ao<|rg aa<|au (ak i)<|p (bF ((i+1:Nat):Int) aa aa<|bl ab ab)<|p aE<|nl<|tn<|⟨_,ab,i+1,G,ab,(by rw [← al,Jf (show i < b by omega),← am,Vf ab]),(a6 J (Md.refl _ _).drew),ah.drew,aa,aa,aa,aa,aa⟩
 exact ext<|bf<|bf<|be<|f0 aa<|⟨aa,by rw [← al,Vc ab]; exact av,aq⟩
theorem Yh (d:Array Nat) (lo hi first :Nat) (B n cp:Nat) (C:Option Addr) (w:World) (aN:w.ownsRow B 51 1 (.slice C n cp) n (LE bj d)) (bb:lo≤hi∧first+hi≤n) (bg:n≤1099511627776):
 bp aw 299 (bh [.slice C n cp,ak lo,ak hi,ak first]) w (fun v w'=>v= .tuple #[]∧w'.ownsRow B 51 1 (.slice C n cp) n (LE bj<|q8 cg hi first lo d)∧Md (fun q=>(bS C n cp).ownBlock=some q) w w'):=by
 refine enter func299 aa ntmps299 aa<|ag fun ax=>au (ak lo)<|p (cU (ak lo) aa)<|nl<|ax<|aJ<|lp (fun ap ah V=> ∃ (r:Nat) (E:Array Nat),(r≤hi)∧(q8 cg hi first r E=q8 cg hi first lo d)∧(V.ownsRow B 51 1 (.slice C n cp) n<|LE bj E)∧(Md (fun q=>(bS C n cp).ownBlock=some q) w V)∧(ah 0= .slice C n cp)∧(ah 2=ak hi)∧(ah 3=ak first)∧(ah 8=ak r)∧(hi - r=ap)) _ ⟨lo,d,ab,aa,aN,(Md.refl _ _),aa,aa,aa,aa,aa⟩ ?_
 rintro ap ah V ⟨r,E,bi,ao,J,al,aY,aZ,a0,a1,rfl⟩
 refine fx 0 aY<|fx 2 aZ<|fx 3 a0<|fx 8 a1<|aJ<|ag fun ay=>au (ak r)<|p (oO ((2 *r:Nat):Int) aa aa<|bl ab ab)<|p (bF ((2 *r+1:Nat):Int) aa aa<|bl ab ab)<|p aE<|nl<|ay<|aB fun aA=>ag fun aC=>p mv<|au (ak hi)<|p (ge aa aa)<|nl<|aC<|cd aa (fun aS=> ?_) fun aS=> ?_
 exact ext<|bf<|my az<|bf<|be<|f0 aa<|⟨aa,by rw [← ao,Yf ab]; exact J,al⟩
 refine aQ<|aA ?_
 refine ep (fun ac U=> ∃ (c:Nat),(r < c∧c < hi)∧(q8 cg hi first r E=if (!cg E[first+r]! E[first+c]!)=true then E else q8 cg hi first c (cX E (first+r)<|first+c))∧(U.ownsRow B 51 1 (.slice C n cp) n<|LE bj E)∧(Md (fun q=>(bS C n cp).ownBlock=some q) w U)∧(ac 0= .slice C n cp)∧(ac 2=ak hi)∧(ac 3=ak first)∧(ac 8=ak r)∧(ac 9=ak c)) ?_ ?_
 refine aB fun ai=> ?_
 have aT:=fP J
 have a:(fun w'=>Wk V w') V.drew:=(Md.refl _ _).drew
 refine bN (fun w'=>Wk V w') aa wide a<|aH 0 aa (fun _ _=>mv) a<|aH 1 aa (fun _ _=>bF ((2 *r+1 +1:Nat):Int) aa aa<|bl ab ab) a<|bI 2 aa (ak hi) a<|aH 3 aa (fun _ _=>lt aa aa) a<|aH 4 aa (fun _ _=>mv) a<|iK (t:=21) aa (fun aU=> ?_) fun aU=> ?_
 refine bm 5 aa (fun _ _=>aV (.slice C n cp) aa) a<|bm 6 aa (fun _ _=>aV (ak first) aa) a<|bm 7 aa (fun _ _=>mv) a<|bm 8 aa (fun _ _=>bF ((first+(2 *r+1):Nat):Int) aa aa<|bl ab ab) a<|bm 9 aa (fun _ _=>bc ca aa aa ab<|aO.ok ((ba J).2)<|cy ab) a<|bm 10 aa (fun w' I=>ld dd aa<|dN (i:=first+(2 *r+1)) ((ba J).2.wk I) ab) a<|bm 11 aa (fun _ _=>aV (.slice C n cp) aa) a<|bm 12 aa (fun _ _=>aV (ak first) aa) a<|bm 13 aa (fun _ _=>mv) a<|bm 14 aa (fun _ _=>bF ((first+(2 *r+1):Nat):Int) aa aa<|bl ab ab) a<|bm 15 aa (fun _ _=>bF ((first+(2 *r+1)+1:Nat):Int) aa aa<|bl ab ab) a<|bm 16 aa (fun _ _=>bc ca aa aa ab<|aO.ok ((ba J).2)<|cy ab) a<|bm 17 aa (fun w' I=>ld dd aa<|dN (i:=first+(2 *r+1)+1) ((ba J).2.wk I) ab) a<|l7 18 aa aj aa aa aa<|cl l3 (l9 E[first+(2 *r+1)]! E[first+(2 *r+1)+1]! _) aa fun bk a9 aP=> ?_
 obtain ⟨rfl,aG⟩:=aP
 have Y:(fun w'=>Wk V w') a9:=Md.trans a aG
 refine ⟨Y,?_⟩
 refine aH 19 aa (fun _ _=>bC aa) Y<|hn aj<|ai<|cb aa (fun am=> ?_) fun am=> ?_
 exact rg aa<|p mv<|p (bF ((2 *r+2:Nat):Int) aa aa<|bl ab ab)<|p aE<|nl<|tn<|⟨2 *r+2,ab,(Yg ab am),(a6 J Y),(Md.trans al<|Y.mono fun _ _ h=>h.elim),aa,aa,aa,aa,aa⟩
 exact aQ<|tn<|⟨2 *r+1,ab,(Lk ab<|.inr am),(a6 J Y),(Md.trans al<|Y.mono fun _ _ h=>h.elim),aa,aa,aa,aa,aa⟩
 exact a8 5 aa a<|a8 6 aa a<|a8 7 aa a<|a8 8 aa a<|a8 9 aa a<|a8 10 aa a<|a8 11 aa a<|a8 12 aa a<|a8 13 aa a<|a8 14 aa a<|a8 15 aa a<|a8 16 aa a<|a8 17 aa a<|a8 18 aa a<|aH 19 aa (fun _ _=>bu aa) a<|hn aj<|ai<|cf aa<|aQ<|tn<|⟨2 *r+1,ab,(Lk ab<|.inl ab),(a6 J (Md.refl _ _).drew),al.drew,aa,aa,aa,aa,aa⟩
 rintro ac U ⟨c,bd,ar,O,aq,a2,a3,a4,a5,a7⟩
 refine fx 0 a2<|fx 2 a3<|fx 3 a4<|fx 8 a5<|fx 9 a7<|aB fun ai=>aB fun aD=> ?_
 have aT:=fP O
 have G:(fun w'=>Wk U w') U.drew:=(Md.refl _ _).drew
 refine bN (fun w'=>Wk U w') aa wide G<|bI 0 aa (.slice C n cp) G<|bI 1 aa (ak first) G<|bI 2 aa (ak r) G<|aH 3 aa (fun _ _=>bF ((first+r:Nat):Int) aa aa<|bl ab ab) G<|aH 4 aa (fun _ _=>bc ca aa aa ab<|aO.ok ((ba O).2)<|cy ab) G<|aH 5 aa (fun w' I=>ld dd aa<|dN (i:=first+r) ((ba O).2.wk I) ab) G<|bI 6 aa (.slice C n cp) G<|bI 7 aa (ak first) G<|bI 8 aa (ak c) G<|aH 9 aa (fun _ _=>bF ((first+c:Nat):Int) aa aa<|bl ab ab) G<|aH 10 aa (fun _ _=>bc ca aa aa ab<|aO.ok ((ba O).2)<|cy ab) G<|aH 11 aa (fun w' I=>ld dd aa<|dN (i:=first+c) ((ba O).2.wk I) ab) G<|he 12 aa aj<|cl l3 (l9 E[first+r]! E[first+c]! _) aa fun v51 ae aR=> ?_
 obtain ⟨rfl,aI⟩:=aR
 have Z:(fun w'=>Wk U w') ae:=Md.trans G aI
 refine ⟨Z,?_⟩
 refine aH 13 aa (fun _ _=>no aa) Z<|hn aj<|aD<|cb aa (fun an=> ?_) fun an=> ?_
 exact rt<|tr<|br<|tr<|br<|qw aa<|⟨aa,by rw [← ao,ar,if_pos an]; exact a6 O Z,Md.trans aq<|Z.mono fun _ _ h=>h.elim⟩
 refine aQ<|ai<|aB fun aF=> ?_
 have M:=a6 O Z
 have A:(fun w'=>Wk ae w') ae.drew:=(Md.refl _ _).drew
 refine eR (fun w'=>Wk ae w') 21 aa wide A<|bE 0 aa (.slice C n cp) A<|bE 1 aa (ak first) A<|bE 2 aa (ak r) A<|bB 3 aa (fun _=>bF ((first+r:Nat):Int) aa aa<|bl ab ab) (fun _=>A)<|bE 4 aa (.slice C n cp) A<|bE 5 aa (ak first) A<|bE 6 aa (ak c) A<|bB 7 aa (fun _=>bF ((first+c:Nat):Int) aa aa<|bl ab ab) (fun _=>A)<|bE 8 aa (.slice C n cp) A<|bE 9 aa (ak first) A<|bE 10 aa (ak c) A<|bB 11 aa (fun _=>bF ((first+c:Nat):Int) aa aa<|bl ab ab) (fun _=>A)<|bB 12 aa (fun _=>bc ca aa aa ab<|aO.ok ((ba M).2)<|cy ab) (fun _=>A)<|dP 13 aa (fun w' I=>ld dd aa<|dN (i:=first+c) ((ba M).2.wk I) ab) A<|bE 14 aa (.slice C n cp) A<|bE 15 aa (ak first) A<|bE 16 aa (ak r) A<|bB 17 aa (fun _=>bF ((first+r:Nat):Int) aa aa<|bl ab ab) (fun _=>A)<|bB 18 aa (fun _=>bc ca aa aa ab<|aO.ok ((ba M).2)<|cy ab) (fun _=>A)<|dP 19 aa (fun w' I=>ld dd aa<|dN (i:=first+r) ((ba M).2.wk I) ab) A<|bB 20 aa (fun _=>bc ca aa aa ab<|aO.ok ((ba M).2)<|cy ab) (fun _=>A)<|dO 21 aa aj aj<|gB (u:=E[first+c]!) (first+r) (a6 M A) gu aa aa aa ab fun bo aL aW=> ?_
 refine bB 22 aa (fun _=>bc ca aa aa ab<|aO.ok ((ba M).2)<|cy ab) (fun h=>eo<|(show true =_ from by kernel_rfl).trans h)<|dO 23 aa aj aj<|gB (u:=E[first+r]!) (first+c) aW gu aa aa aa ab fun av aM aX=> ?_
 have I:av.ownsRow B 51 1 (.slice C n cp) n (LE bj<|cX E (first+r)<|first+c):=aX
 have aK:Md (fun q=>(bS C n cp).ownBlock=some q) ae av:=Md.trans (A.mono fun _ _ h=>h.elim)<|Md.trans aL aM
 exact eQ aj<|aF<|rg aa<|au (ak c)<|p (cU (ak c) aa)<|nl<|bn<|tn<|⟨_,ab,c,cX E (first+r) (first+c),ab,(by rw [← ao,ar,if_neg (by rw [an]; exact eo)]),I,(Md.trans aq<|Md.trans (Z.mono fun _ _ h=>h.elim) aK),aa,aa,aa,aa,aa⟩
theorem Ll (d:Array Nat) (lo hi first :Nat) (A i:Int) (B n cp:Nat) (a:Option Addr) (w:World) (C:w.ownsRow B 51 1 (.slice a n cp) n (LE bj d)) (E:lo≤hi∧first+hi≤n) (I:A=(lo:Nat)) (G:i=(hi:Nat)) (J:n≤1099511627776):
 bp aw 299 (bh [.slice a n cp,.int .i64 A,.int .i64 i,.int .i64 (first :Nat)]) w (fun v w'=>v= .tuple #[]∧w'.ownsRow B 51 1 (.slice a n cp) n (LE bj<|q8 cg hi first lo d)∧Md (fun q=>(bS a n cp).ownBlock=some q) w w'):=by
 subst I G; exact Yh d lo hi first B n cp a w C E J
theorem UU (d:Array Nat) (a b:Nat) (B n cp:Nat) (A:Option Addr) (w:World) (aI:w.ownsRow B 51 1 (.slice A n cp) n (LE bj d)) (a4:a < b∧b≤n) (ae:n≤1099511627776):
 bp aw 284 (bh [.slice A n cp,ak a,ak b]) w (fun v w'=>v= .tuple #[]∧w'.ownsRow B 51 1 (.slice A n cp) n (LE bj<|Ni cg d a b)∧Md (fun q=>(bS A n cp).ownBlock=some q) w w'):=by
 refine enter func284 aa ntmps284 aa<|ag fun al=>au (ak a)<|p (cU (ak a) aa)<|nl<|al<|ag fun ap=>ay<|ap<|ag fun aq=>au (ak b)<|au (ak a)<|p (dR ((b - a:Nat):Int) aa aa<|bl ab ab)<|ay<|aq<|aB fun ar=>ag fun av=>p mv<|p (dR ((b - a - 1:Nat):Int) aa aa<|bl ab ab)<|p (qQ (((b - a - 1) / 2:Nat):Int) aa aa ab<|bl ab ab)<|ay<|av<|aJ<|lp (fun O J ac=> ∃ (k:Nat) (E:Array Nat),(k≤b - a)∧(Nh cg (b - a) a k E=Nh cg (b - a) a ((b - a - 1) / 2 +1) d)∧(ac.ownsRow B 51 1 (.slice A n cp) n<|LE bj E)∧(Md (fun q=>(bS A n cp).ownBlock=some q) w ac)∧(J 0= .slice A n cp)∧(J 6=ak a)∧(J 7= .int .i64 0)∧(J 8=ak (b - a))∧(J 9= .int .i64 ((k:Nat) - 1:Int))∧(k=O)) _ ⟨(b - a - 1) / 2 +1,d,ab,aa,aI,(Md.refl _ _),aa,aa,aa,aa,(iv ab),aa⟩ ?_
 rintro O J ac ⟨k,E,hk,Z,G,U,aU,aV,aW,aX,aY,rfl⟩
 refine fx 0 aU<|fx 6 aV<|fx 7 aW<|fx 8 aX<|fx 9 aY<|aB fun ax=>ag fun az=>au (.int .i64 ((k:Nat) - 1:Int))<|p (ge aa aa)<|nl<|az<|cd aa (fun aP=> ?_) fun aP=> ?_
 refine aQ<|ax<|aB fun Y=>aJ<|rg aa<|au (.slice A n cp)<|au (.int .i64 ((k:Nat) - 1:Int))<|au (ak<|b - a)<|au (ak a)<|e<|cl Gk (Ll E (k - 1) (b - a) a _ _ B n cp A _ G ab ab aa ae) aa fun a8 bb aM=> ?_
 obtain ⟨rfl,aK,aC⟩:=aM
 exact nl<|bn<|Y<|rg aa<|au (.int .i64 ((k:Nat) - 1:Int))<|p (sb aa aa<|bY ab)<|p aE<|nl<|tn<|⟨_,ab,k - 1,q8 cg (b - a) a (k - 1) E,ab,(by rw [← Z,Ux (show 0 < k by omega)]),aK,(Md.trans U aC),aa,aa,aa,aa,(iv ab),aa⟩
 refine ext<|bf<|bf<|be<|ar<|ag fun Y=>au (ak<|b - a)<|p (dR ((b - a - 1:Nat):Int) aa aa<|bl ab ab)<|ay<|Y<|aJ<|lp (fun O M I=> ∃ (k:Nat) (E:Array Nat),(k≤b - a)∧(Go.Sort.heapPop cg a k E=Ni cg d a b)∧(I.ownsRow B 51 1 (.slice A n cp) n<|LE bj E)∧(Md (fun q=>(bS A n cp).ownBlock=some q) w I)∧(M 0= .slice A n cp)∧(M 6=ak a)∧(M 7= .int .i64 0)∧(M 8=ak (b - a))∧(M 10= .int .i64 ((k:Nat) - 1:Int))∧(k=O)) _ ⟨b - a,E,ab,(by rw [show k=0 by omega,Uy] at Z; rw [Z]; rfl),G,U,aa,aa,aa,aa,(iv ab),aa⟩ ?_
 rintro O M I ⟨k,E,a7,ah,G,U,aZ,a1,a2,a3,a0,rfl⟩
 refine fx 0 aZ<|fx 6 a1<|fx 7 a2<|fx 8 a3<|fx 10 a0<|aB fun aA=>ag fun am=>au (.int .i64 ((k:Nat) - 1:Int))<|p (ge aa aa)<|nl<|am<|cd aa (fun aR=> ?_) fun aR=> ?_
 refine aQ<|aA<|aB fun an=>aJ<|aB fun ao=> ?_
 have a5:=fP G
 have C:(fun w'=>Wk I w') I.drew:=(Md.refl _ _).drew
 refine eR (fun w'=>Wk I w') 17 aa wide C<|bE 0 aa (.slice A n cp) C<|bE 1 aa (ak a) C<|bE 2 aa (.slice A n cp) C<|bE 3 aa (ak a) C<|bE 4 aa (.int .i64 ((k:Nat) - 1:Int)) C<|bB 5 aa (fun _=>bF ((a+(k - 1):Nat):Int) aa aa<|bl ab ab) (fun _=>C)<|bE 6 aa (.slice A n cp) C<|bE 7 aa (ak a) C<|bE 8 aa (.int .i64 ((k:Nat) - 1:Int)) C<|bB 9 aa (fun _=>bF ((a+(k - 1):Nat):Int) aa aa<|bl ab ab) (fun _=>C)<|bB 10 aa (fun _=>bc ca aa aa ab<|aO.ok ((ba G).2)<|cy ab) (fun _=>C)<|dP 11 aa (fun w' V=>ld dd aa<|dN (i:=a+(k - 1)) ((ba G).2.wk V) ab) C<|bE 12 aa (.slice A n cp) C<|bE 13 aa (ak a) C<|bB 14 aa (fun _=>bc ca aa aa ab<|aO.ok ((ba G).2)<|cy ab) (fun _=>C) ?_
 refine dP 15 aa (fun w' V=>ld dd aa<|dN (i:=a) ((ba G).2.wk V) ab) C<|bB 16 aa (fun _=>bc ca aa aa ab<|aO.ok ((ba G).2)<|cy ab) (fun _=>C)<|dO 17 aa aj aj<|gB (u:=E[a+(k - 1)]!) (a) (a6 G C) gu aa aa aa ab fun bg aG aS=>bB 18 aa (fun _=>bc ca aa aa ab<|aO.ok ((ba G).2)<|cy ab) (fun h=>eo<|(show true =_ from by kernel_rfl).trans h)<|dO 19 aa aj aj<|gB (u:=E[a]!) (a+(k - 1)) aS gu aa aa aa ab fun ai aH aT=> ?_
 have V:ai.ownsRow B 51 1 (.slice A n cp) n (LE bj<|cX E (a)<|a+(k - 1)):=aT
 have aF:Md (fun q=>(bS A n cp).ownBlock=some q) I ai:=Md.trans (C.mono fun _ _ h=>h.elim)<|Md.trans aG aH
 refine eQ aj<|ao<|rg aa<|au (.slice A n cp)<|au (.int .i64 0)<|au (.int .i64 ((k:Nat) - 1:Int))<|au (ak a)<|e<|cl Gk (Ll (cX E a<|a+(k - 1)) 0 (k - 1) a _ _ B n cp A _ V ab aa ab ae) aa fun a9 bd aN=> ?_
 obtain ⟨rfl,aL,aD⟩:=aN
 exact nl<|bn<|an<|rg aa<|au (.int .i64 ((k:Nat) - 1:Int))<|p (sb aa aa<|bY ab)<|p aE<|nl<|tn<|⟨_,ab,k - 1,q8 cg (k - 1) a 0 (cX E a<|a+(k - 1)),ab,(by rw [← ah,UX (show 0 < k by omega)]),aL,(Md.trans U<|Md.trans aF aD),aa,aa,aa,aa,(iv ab),aa⟩
 exact ext<|bf<|bf<|be<|f0 aa<|⟨aa,by rw [← ah,show k=0 by omega]; exact G,U⟩
theorem Xu (d:Array Nat) (a b:Nat) (B n cp:Nat) (C:Option Addr) (w:World) (ap:w.ownsRow B 51 1 (.slice C n cp) n (LE bj d)) (aC:a < b∧b≤n) (aF:n≤1099511627776):
 bp aw 287 (bh [.slice C n cp,ak a,ak b]) w (fun v w'=>v= .tuple #[]∧w'.ownsRow B 51 1 (.slice C n cp) n (LE bj<|Ey d a b)∧Md (fun q=>(bS C n cp).ownBlock=some q) w w'):=by
 refine enter func287 aa ntmps287 aa<|ag fun Z=>au (ak a)<|p (cU (ak a) aa)<|nl<|Z<|ag fun ac=>au (ak b)<|p (dR ((b - 1:Nat):Int) aa aa<|bl ab ab)<|ay<|ac<|aJ<|lp (fun O M I=> ∃ (i j:Nat) (G:Array Nat),(i≤n∧j < n)∧(Go.Sort.reverseLoop i j G=Ey d a b)∧(I.ownsRow B 51 1 (.slice C n cp) n<|LE bj G)∧(Md (fun q=>(bS C n cp).ownBlock=some q) w I)∧(M 0= .slice C n cp)∧(M 6=ak i)∧(M 7=ak j)∧(j - i=O)) _ ⟨a,b - 1,d,ab,aa,ap,(Md.refl _ _),aa,aa,aa,aa⟩ ?_
 rintro O M I ⟨i,j,G,hi,V,E,U,ax,az,aA,rfl⟩
 refine fx 0 ax<|fx 6 az<|fx 7 aA<|aB fun ae=>ag fun ah=>au (ak i)<|au (ak j)<|p (lt aa aa)<|nl<|ah<|cd aa (fun aq=> ?_) fun aq=> ?_
 refine aQ<|ae<|aJ<|aB fun ai=> ?_
 have aD:=fP E
 have A:(fun w'=>Wk I w') I.drew:=(Md.refl _ _).drew
 refine eR (fun w'=>Wk I w') 13 aa wide A<|bE 0 aa (.slice C n cp) A<|bE 1 aa (ak i) A<|bE 2 aa (.slice C n cp) A<|bE 3 aa (ak j) A<|bE 4 aa (.slice C n cp) A<|bE 5 aa (ak j) A<|bB 6 aa (fun _=>bc ca aa aa ab<|aO.ok ((ba E).2)<|cy ab) (fun _=>A)<|dP 7 aa (fun w' J=>ld dd aa<|dN (i:=j) ((ba E).2.wk J) ab) A<|bE 8 aa (.slice C n cp) A<|bE 9 aa (ak i) A<|bB 10 aa (fun _=>bc ca aa aa ab<|aO.ok ((ba E).2)<|cy ab) (fun _=>A)<|dP 11 aa (fun w' J=>ld dd aa<|dN (i:=i) ((ba E).2.wk J) ab) A<|bB 12 aa (fun _=>bc ca aa aa ab<|aO.ok ((ba E).2)<|cy ab) (fun _=>A)<|dO 13 aa aj aj<|gB (u:=G[j]!) (i) (a6 E A) gu aa aa aa ab fun aG an ar=> ?_
 refine bB 14 aa (fun _=>bc ca aa aa ab<|aO.ok ((ba E).2)<|cy ab) (fun h=>eo<|(show true =_ from by kernel_rfl).trans h)<|dO 15 aa aj aj<|gB (u:=G[i]!) (j) ar gu aa aa aa ab fun Y ao av=> ?_
 have J:Y.ownsRow B 51 1 (.slice C n cp) n (LE bj<|cX G (i)<|j):=av
 have am:Md (fun q=>(bS C n cp).ownBlock=some q) I Y:=Md.trans (A.mono fun _ _ h=>h.elim)<|Md.trans an ao
 refine eQ aj<|ai<|ag fun al=>au (ak i)<|p (bF ((i+1:Nat):Int) aa aa<|bl ab ab)<|ay<|al ?_
 exact rg aa<|au (ak j)<|p (dR ((j - 1:Nat):Int) aa aa<|bl ab ab)<|p aE<|nl<|bn<|tn<|⟨_,ab,i+1,j - 1,cX G i j,ab,(by rw [← V,Xs (show i < j by omega)]),J,(Md.trans U am),aa,aa,aa,aa⟩
 exact ext<|bf<|bf<|be<|f0 aa<|⟨aa,by rw [← V,Xt ab]; exact E,U⟩
end Go.Hb
end
section
namespace Go.Hb
open Go.Hb.ea
theorem Ze {n:Nat} {l:List UInt8} (h:n < 256) (a:∀ k:Fin 256,(l.getD k.val 0).toNat=kW k.val):IntKind.i64.wrap ((l.getD n 0).toNat:Int)=(kW n:Int):=by
 rw [a ⟨n,h⟩]; have :=yG h; exact bY<|by simp only; omega
theorem X7 {k:Nat} (h:k≤8):eM.wrap ((1:Int)*2 ^ min ((k:Nat):Int).toNat eM.bits)=((2 ^ k:Nat):Int):=by
 have h2:(eM.bits:Nat)=64:=rfl
 rw [Int.toNat_natCast,h2,Nat.min_eq_left ab,Int.one_mul]
 have h3:(2:Nat) ^ k≤2 ^ 8:=Nat.pow_le_pow_right az h
 have h4:((2:Int) ^ k)=((2 ^ k:Nat):Int):=by simp
 rw [h4]
 obtain ⟨m,hm⟩:∃ m:Nat,2 ^ k=m:=⟨_,rfl⟩
 rw [hm] at h3 ⊢; exact oX ab
theorem WY {d d1 d2:Array Nat} {a b i j:Nat} (h:om a b d d1) (hi:a≤i∧i < b) (q:a≤j∧j < b) (A:b≤d1.size) (h2:d2=cX d1 i j):om a b d d2:=by
 subst h2; exact sr _ _ _ a b h<|Go.Sort.swp_permIn d1 a b i j hi.1 hi.2 q.1 q.2 A
theorem C2 (d:Array Nat) (i j s lo hi G:Nat) (B n cp:Nat) (E:Option Addr) (w:World) (A:w.ownsRow B 51 1 (.slice E n cp) n (LE bj d)) (U:bP w.heap G [ak s]) (ao:(bS E n cp).ownBlock≠some G) (ax:lo≤i∧i < hi∧lo≤j∧j < hi∧hi≤n) (hs:s≤1000) (av:n≤1099511627776):
 bp aw 308 (bh [.slice E n cp,ak i,ak j,aT G]) w (fun v w'=> ∃ M O s1:Nat,v= .tuple #[ak M,ak O]∧(lo≤M∧M < hi)∧(lo≤O∧O < hi)∧s1≤s+1∧bP w'.heap G [ak s1]∧w'.ownsRow B 51 1 (.slice E n cp) n (LE bj d)∧Md (fun q=>q=G) w w'):=by
 refine enter func308 aa ntmps308 aa<|ag fun Z=>p aE<|ay<|Z<|aB fun ac=>aB fun ae=> ?_
 have ar:=fP A
 have a:(fun w'=>Wk w w') w.drew:=(Md.refl _ _).drew
 refine bN (fun w'=>Wk w w') aa wide a<|bI 0 aa (.slice E n cp) a<|bI 1 aa (ak j) a<|aH 2 aa (fun _ _=>bc ca aa aa ab<|aO.ok ((ba A).2)<|cy ab) a<|aH 3 aa (fun w' J=>ld dd aa<|dN (i:=j) ((ba A).2.wk J) ab) a<|bI 4 aa (.slice E n cp) a<|bI 5 aa (ak i) a<|aH 6 aa (fun _ _=>bc ca aa aa ab<|aO.ok ((ba A).2)<|cy ab) a<|aH 7 aa (fun w' J=>ld dd aa<|dN (i:=i) ((ba A).2.wk J) ab) a<|he 8 aa aj<|cl l3 (l9 d[j]! d[i]! _) aa fun az aq an=> ?_
 obtain ⟨rfl,al⟩:=an
 have C:(fun w'=>Wk w w') aq:=Md.trans a al
 refine ⟨C,?_⟩
 refine hn aj<|ae<|cb aa (fun ap=> ?_) fun ap=> ?_
 have V:=C.B U
 have am:=a6 A C
 exact ag fun I=>au (aT G)<|p (nc aa)<|p (ld bz aa<|V.aR 0)<|p (bF ((s+1:Nat):Int) aa aa<|bl ab ab)<|p (nc aa)<|e<|st gr aa aa (aa) (V) (by simp) fun aA Y ai=>nl<|I<|ag fun ah=>au (ak j)<|au (ak i)<|p (cU (ak j) aa)<|p (cU (ak i) aa)<|nl<|ah<|rt<|tr<|f2 aa aa aa<|⟨j,i,s+1,aa,ab,ab,ab,ai,dz am Y (fun k hk h=>ao<|h ▸ hk),Md.trans (C.mono fun _ _ h=>h.elim) Y⟩
 exact aQ<|ac<|ag fun I=>au (ak i)<|au (ak j)<|p (cU (ak i) aa)<|p (cU (ak j) aa)<|nl<|I<|rt<|f2 aa aa aa<|⟨i,j,s,aa,ab,ab,ab,C.B U,a6 A C,C.mono fun _ _ h=>h.elim⟩
theorem JM (d:Array Nat) (i j k s lo hi a:Nat) (B n cp:Nat) (A:Option Addr) (w:World) (aj:w.ownsRow B 51 1 (.slice A n cp) n (LE bj d)) (V:bP w.heap a [ak s]) (C:(bS A n cp).ownBlock≠some a) (aI:(lo≤i∧i < hi)∧(lo≤j∧j < hi)∧(lo≤k∧k < hi)∧hi≤n) (hs:s≤900) (E:n≤1099511627776):
 bp aw 301 (bh [.slice A n cp,ak i,ak j,ak k,aT a]) w (fun v w'=> ∃ G s1:Nat,v=ak G∧(lo≤G∧G < hi)∧s1≤s+3∧bP w'.heap a [ak s1]∧w'.ownsRow B 51 1 (.slice A n cp) n (LE bj d)∧Md (fun q=>q=a) w w'):=by
 refine enter func301 aa ntmps301 aa<|ag fun I=>ay<|I<|ag fun J=>au (.slice A n cp)<|au (ak i)<|au (ak j)<|au (aT a)<|e<|cl AV (C2 d i j s lo hi a B n cp A _ aj V C ab ab E) aa fun aN aP ao=> ?_
 obtain ⟨i1,av,s1,rfl,aC,aF,aJ,Y,al,ae⟩:=ao
 refine p mv<|p (xt aa aa)<|p (xt aa aa)<|p aE<|ay<|J<|aB fun M=>rg aa<|au (.slice A n cp)<|p mv<|au (ak k)<|au (aT a)<|e<|cl AV (C2 d av k s1 lo hi a B n cp A _ al Y C ab ab E) aa fun v24 aQ ap=> ?_
 obtain ⟨ax,aM,s2,rfl,aG,aH,aK,Z,am,ah⟩:=ap
 refine p mv<|p (xt aa aa)<|p (xt aa aa)<|p aE<|ay<|M<|aB fun O=>rg aa<|au (.slice A n cp)<|p mv<|p mv<|au (aT a)<|e<|cl AV (C2 d i1 ax s2 lo hi a B n cp A _ am Z C ab ab E) aa fun aO aR aq=> ?_
 obtain ⟨i3,az,aA,rfl,aD,ar,aL,ac,an,ai⟩:=aq
 exact p mv<|p (xt aa aa)<|p (xt aa aa)<|p aE<|ay<|O<|aB fun U=>rg aa<|p mv<|ay<|U<|rt<|aX aa<|⟨az,aA,aa,ar,ab,ac,an,Md.trans ae<|Md.trans ah ai⟩
theorem CL (d:Array Nat) (i s lo hi a:Nat) (B n cp:Nat) (A:Option Addr) (w:World) (J:w.ownsRow B 51 1 (.slice A n cp) n (LE bj d)) (I:bP w.heap a [ak s]) (O:(bS A n cp).ownBlock≠some a) (V:lo+1≤i∧i+1 < hi∧hi≤n) (hs:s≤900) (U:n≤1099511627776):
 bp aw 300 (bh [.slice A n cp,ak i,aT a]) w (fun v w'=> ∃ C s1:Nat,v=ak C∧(lo≤C∧C < hi)∧s1≤s+3∧bP w'.heap a [ak s1]∧w'.ownsRow B 51 1 (.slice A n cp) n (LE bj d)∧Md (fun q=>q=a) w w'):=by
 exact enter func300 aa ntmps300 aa<|ag fun E=>ay<|E<|ag fun G=>au (.slice A n cp)<|au (ak i)<|p (dR ((i - 1:Nat):Int) aa aa<|bl ab ab)<|au (ak i)<|au (ak i)<|p (bF ((i+1:Nat):Int) aa aa<|bl ab ab)<|au (aT a)<|e<|cl Gl (JM d (i - 1) i (i+1) s lo hi a B n cp A _ J I O ab ab U) aa fun Y Z M=>p aE<|nl<|G<|rt<|aX aa<|M
theorem Q3 (d:Array Nat) (a b:Nat) (B n cp:Nat) (i:Option Addr) (w:World) (ao:w.ownsRow B 51 1 (.slice i n cp) n (LE bj d)) (bq:a+12 < b∧b≤n) (M:n≤1099511627776):
 bp aw 286 (bh [.slice i n cp,ak a,ak b]) w (fun v w'=> ∃ (am:Nat) (bi:Int),v= .tuple #[ak am,.int .i64 bi]∧(a≤am∧am < b)∧w'.ownsRow B 51 1 (.slice i n cp) n (LE bj d)∧Wk w w'):=by
 refine enter func286 aa ntmps286 aa<|ag fun aq=>p aE<|ay<|aq<|ag fun ar=>au (ak b)<|au (ak a)<|p (dR ((b - a:Nat):Int) aa aa<|bl ab ab)<|ay<|ar<|ag fun av=>e<|al wa fun A bM bs ae an=> ?_
 have ap:=a6 ao ae.md
 have J:(bS i n cp).ownBlock≠some A:=fun h=>by have :=dS ao h; omega
 refine nl<|av<|ag fun ax=>au (ak a)<|p mv<|p (qQ (((b - a) / 4:Nat):Int) aa aa ab<|bl ab ab)<|p (oO (((b - a) / 4:Nat):Int) aa aa<|bl ab ab)<|p (bF ((a+(b - a) / 4:Nat):Int) aa aa<|bl ab ab)<|ay<|ax<|ag fun az=>au (ak a)<|p mv<|p (qQ (((b - a) / 4:Nat):Int) aa aa ab<|bl ab ab)<|p (oO (((b - a) / 4 *2:Nat):Int) aa aa<|bl ab ab)<|p (bF ((a+(b - a) / 4 *2:Nat):Int) aa aa<|bl ab ab)<|ay<|az<|ag fun aA=>au (ak a)<|p mv<|p (qQ (((b - a) / 4:Nat):Int) aa aa ab<|bl ab ab)<|p (oO (((b - a) / 4 *3:Nat):Int) aa aa<|bl ab ab)<|p (bF ((a+(b - a) / 4 *3:Nat):Int) aa aa<|bl ab ab)<|ay<|aA ?_
 refine aB fun aC=>ag fun aD=>p mv<|p (ge aa aa)<|nl<|aD<|cd aa (fun bt=> ?_) fun h=>absurd ab h
 refine ep (fun q U=> ∃ (C E G O:Nat),(a≤C∧C < b)∧(a≤E∧E < b)∧(a≤G∧G < b)∧(O≤9)∧(bP U.heap A [ak O])∧(U.ownsRow B 51 1 (.slice i n cp) n<|LE bj d)∧(Wk w U)∧(q 0= .slice i n cp)∧(q 1=ak a)∧(q 2=ak b)∧(q 8=ak (b - a))∧(q 9=aT A)∧(q 10=ak C)∧(q 11=ak E)∧(q 12=ak G)) ?_ ?_
 refine ag fun Z=>p mv<|p (ge aa aa)<|nl<|Z<|cd aa (fun a1=> ?_) fun a1=> ?_
 refine ag fun V=>au (.slice i n cp)<|p mv<|e<|cl AU (CL d (a+(b - a) / 4) 0 a b A B n cp i _ ap an J ab ab M) aa fun v37 bI aX=> ?_
 obtain ⟨i1,s1,rfl,a4,bx,aF,aS,aM⟩:=aX
 refine ay<|V<|ag fun I=>au (.slice i n cp)<|p mv<|e<|cl AU (CL d (a+(b - a) / 4 *2) s1 a b A B n cp i _ aS aF J ab ab M) aa fun v40 bJ aY=> ?_
 obtain ⟨bk,s2,rfl,a5,bA,aG,aU,aN⟩:=aY
 refine ay<|I<|rg aa<|au (.slice i n cp)<|p mv<|e<|cl AU (CL d (a+(b - a) / 4 *3) s2 a b A B n cp i _ aU aG J ab ab M) aa fun bG bL aZ=> ?_
 obtain ⟨bm,bn,rfl,a7,bB,aH,aV,aO⟩:=aZ
 exact p aE<|nl<|tn<|⟨i1,bk,bm,bn,a4,a5,a7,ab,aH,aV,(Md.trans' ae.md (Md.trans aM<|Md.trans aN aO) fun k hk h=>by omega),aa,aa,aa,aa,aa,aa,aa,aa⟩
 exact aQ<|tn<|⟨a+(b - a) / 4,a+(b - a) / 4 *2,a+(b - a) / 4 *3,0,ab,ab,ab,ab,an,ap,ae.md,aa,aa,aa,aa,aa,aa,aa,aa⟩
 rintro q U ⟨C,E,G,O,bu,bv,bw,bD,aK,aW,aL,a8,a9,bd,bf,bg,ba,bb,bc⟩
 refine fx 0 a8<|fx 1 a9<|fx 2 bd<|fx 8 bf<|fx 9 bg<|fx 10 ba<|fx 11 bb<|fx 12 bc<|rg aa<|au (.slice i n cp)<|au (ak C)<|au (ak E)<|au (ak G)<|e<|cl Gl (JM d C E G O a b A B n cp i _ aW aK J ab ab M) aa fun bH bo a0=> ?_
 obtain ⟨aj,bE,rfl,ai,bC,aI,ah,aP⟩:=a0
 have ac:Wk w bo:=Md.trans' aL aP fun k hk h=>by omega
 refine ay<|aC<|ag fun Z=>p (ld bz aa<|aI.aR 0)<|nl<|Z<|aJ<|ag fun V=>p (bK aa aa)<|ay<|V<|cd aa (fun a2=> ?_) fun a2=> ?_
 exact ag fun I=>p mv<|p aE<|ay<|I<|rt<|br<|f2 aa aa aa<|⟨aj,_,aa,ai,ah,ac⟩
 refine ag fun I=>p (bK aa aa)<|ay<|I<|cd aa (fun a3=> ?_) fun a3=> ?_
 exact ag fun Y=>p mv<|p aE<|ay<|Y<|rt<|br<|f2 aa aa aa<|⟨aj,_,aa,ai,ah,ac⟩
 exact ag fun Y=>p mv<|p aE<|ay<|Y<|rt<|br<|f2 aa aa aa<|⟨aj,_,aa,ai,ah,ac⟩
theorem Wj (a:Nat) (r:Int) (w:World) (I:bP w.heap a [.int .u64 r]):
 bp aw 228 (bh [aT a]) w (fun v w'=> ∃ G:Int,v= .int .u64 G∧0≤G∧G < 18446744073709551616∧bP w'.heap a [.int .u64 G]∧Md (fun q=>q=a) w w'):=by
 refine enter func228 aa ntmps228 aa<|ag fun Y=>ay<|Y<|aB fun Z=> ?_
 have A:(fun w'=>Wk w w') w.drew:=(Md.refl _ _).drew
 refine eR (fun w'=>Wk w w') 9 aa wide A<|lq 0 aa aj (fun _ _=>aV (aT a) aa) A<|lq 1 aa aj (fun _ _=>nc aa) A<|lq 2 aa aj (fun w' i=>ld rr aa<|Wk.aR i<|I.aR 0) A<|lq 3 aa aj (fun _ _=>aV (aT a) aa) A<|lq 4 aa aj (fun _ _=>nc aa) A<|lq 5 aa aj (fun w' i=>ld rr aa<|Wk.aR i<|I.aR 0) A<|lq 6 aa aj (fun _ _=>shl aa aa az aa) A<|lq 7 aa aj (fun _ _=>Aq aa aa aa) A<|lq 8 aa aj (fun _ _=>nc aa) A<|dO 9 aa aj aj<|st xJ aa aa (aa) (A.B I) (by simp) fun O ah J=>eQ aj<|Z<|aB fun ab=> ?_
 have C:(fun w'=>Wk O w') O.drew:=(Md.refl _ _).drew
 refine eR (fun w'=>Wk O w') 9 aa wide C<|lq 0 aa aj (fun _ _=>aV (aT a) aa) C<|lq 1 aa aj (fun _ _=>nc aa) C<|lq 2 aa aj (fun w' i=>ld rr aa<|Wk.aR i<|J.aR 0) C<|lq 3 aa aj (fun _ _=>aV (aT a) aa) C<|lq 4 aa aj (fun _ _=>nc aa) C<|lq 5 aa aj (fun w' i=>ld rr aa<|Wk.aR i<|J.aR 0) C<|lq 6 aa aj (fun _ _=>shr aa aa az aa) C<|lq 7 aa aj (fun _ _=>Aq aa aa aa) C<|lq 8 aa aj (fun _ _=>nc aa) C<|dO 9 aa aj aj<|st xJ aa aa (aa) (C.B J) (by simp) fun U ai M=>eQ aj<|ab<|aB fun ac=> ?_
 have E:(fun w'=>Wk U w') U.drew:=(Md.refl _ _).drew
 refine eR (fun w'=>Wk U w') 9 aa wide E<|lq 0 aa aj (fun _ _=>aV (aT a) aa) E<|lq 1 aa aj (fun _ _=>nc aa) E<|lq 2 aa aj (fun w' i=>ld rr aa<|Wk.aR i<|M.aR 0) E<|lq 3 aa aj (fun _ _=>aV (aT a) aa) E<|lq 4 aa aj (fun _ _=>nc aa) E<|lq 5 aa aj (fun w' i=>ld rr aa<|Wk.aR i<|M.aR 0) E<|lq 6 aa aj (fun _ _=>shl aa aa az aa) E<|lq 7 aa aj (fun _ _=>Aq aa aa aa) E<|lq 8 aa aj (fun _ _=>nc aa) E<|dO 9 aa aj aj<|st xJ aa aa (aa) (E.B M) (by simp) fun al ak V=>eQ aj<|ac<|ag fun ae=>au (aT a)<|p (nc aa)<|p (ld rr aa<|V.aR 0)<|p aE<|nl ?_
 refine ae<|rt<|aX aa ?_
 refine ⟨_,aa,(Ma _).1,(Ma _).2,V,?_⟩
 exact Md.trans (Md.refl _ _).drew<|Md.trans ah<|Md.trans (Md.refl _ _).drew<|Md.trans ai<|Md.trans (Md.refl _ _).drew ak
theorem VH (n:Nat) (w:World) (hn:n < 256):
 bp aw 169 (bh [.int .u64 (n:Nat)]) w (fun v w'=>v=ak (kW n)∧Wk w w'):=by
 have U:=yG hn
 refine enter func169 aa ntmps169 aa<|ag fun a=>ay<|a<|aB fun i=>ag fun q=>au (.int .u64 (n:Nat))<|p (ge aa aa)<|nl<|q<|cd aa (fun h=>absurd h ab) fun M=>aQ<|i<|aB fun A=>ag fun C=>au (.int .u64 (n:Nat))<|p (ge aa aa)<|nl<|C<|cd aa (fun h=>absurd h ab) fun O=> ?_
 refine aQ<|A<|aB fun E=>ag fun G=>au (.int .u64 (n:Nat))<|p (ge aa aa)<|nl<|G<|cd aa (fun h=>absurd h ab) fun J=> ?_
 exact aQ<|E<|ag fun I=>au (.int .i64 0)<|au (.int .u64 (n:Nat))<|p (xH u5 Zk aa<|tV ab)<|p (eX u9 aa aa (by have :n < 256:=hn; simpa using this))<|p (lM u3 pY aa<|Ze hn<|by decide+kernel)<|p (bF ((kW n:Nat):Int) aa aa<|bl ab ab)<|ay<|I<|rt<|aX aa<|⟨aa,Md.refl _ _⟩
theorem Jy (n:Nat) (w:World) (hn:n < 256):
 bp aw 111 (bh [.int .u64 (n:Nat)]) w (fun v w'=>v=ak (kW n)∧Wk w w'):=by
 refine enter func111 aa ntmps111 aa<|ag fun a=>ay<|a<|aB fun i=>cf aa<|aQ<|i<|ag fun q=>au (.int .u64 (n:Nat))<|e<|cl Pu (VH n _ hn) aa fun C E A=>ay<|q ?_
 exact rt<|aX aa<|A
theorem Wl (n:Nat) (w:World) (hn:n < 256):
 bp aw 227 (bh [ak n]) w (fun v w'=>v= .int .u64 (2 ^ kW n:Nat)∧Wk w w'):=by
 refine enter func227 aa ntmps227 aa<|ag fun a=>ay<|a<|ag fun i=>au (ak n)<|p (lM L5 qW aa<|oX ab)<|e<|cl FG (Jy n _ hn) aa fun v5 E A=> ?_
 obtain ⟨rfl,q⟩:=A
 have C:=yG hn
 exact p (shl aa aa ab<|X7 C)<|ay<|i<|rt<|aX aa<|⟨aa,q⟩
theorem OW (d:Array Nat) (a b:Nat) (B n cp:Nat) (C:Option Addr) (w:World) (av:w.ownsRow B 51 1 (.slice C n cp) n (LE bj d)) (bu:a+12 < b∧b≤n) (bC:n≤255):
 bp aw 285 (bh [.slice C n cp,ak a,ak b]) w (fun v w'=> ∃ d1,v= .tuple #[]∧om a b d d1∧w'.ownsRow B 51 1 (.slice C n cp) n (LE bj d1)∧Md (fun q=>(bS C n cp).ownBlock=some q) w w'):=by
 refine enter func285 aa ntmps285 aa<|ag fun az=>au (ak b)<|au (ak a)<|p (dR ((b - a:Nat):Int) aa aa<|bl ab ab)<|ay<|az<|ag fun aC=>p mv<|p (ge aa aa)<|nl<|aC<|cd aa (fun bw=> ?_) fun h=>absurd ab h
 refine ag fun aD=>p mv<|p (lM Za qW aa<|oX ab)<|e<|al ZU fun V bO bv aY aP=>e<|st xJ aa aa (aa) (aP) (by simp) fun bt aU aN=> ?_
 have aq:Wk w bt:=Md.trans' aY.md aU fun k hk h=>by omega
 refine nl<|aD<|ag fun aF=>p mv<|e<|cl PN (Wl (b - a) _ ab) aa fun bK bM aZ=> ?_
 obtain ⟨rfl,ah⟩:=aZ
 have bA:=VI (n:=b - a) ab ab
 refine ay<|aF<|ag fun aG=>au (ak a)<|p mv<|p (qQ (((b - a) / 4:Nat):Int) aa aa ab<|bl ab ab)<|p (oO (((b - a) / 4 *2:Nat):Int) aa aa<|bl ab ab)<|p (bF ((a+(b - a) / 4 *2:Nat):Int) aa aa<|bl ab ab)<|p (dR ((a+(b - a) / 4 *2 - 1:Nat):Int) aa aa<|bl ab ab)<|ay<|aG<|aJ ?_
 have Z:(bS C n cp).ownBlock≠some V:=fun h=>by have :=dS av h; omega
 refine lp (fun ao U ae=> ∃ (E:Nat) (r:Int) (I:Array Nat),(a+(b - a) / 4 *2 - 1≤E∧E≤a+(b - a) / 4 *2 +2)∧(om a b d I)∧(bP ae.heap V [.int .u64 r])∧(ae.ownsRow B 51 1 (.slice C n cp) n<|LE bj I)∧(Md (fun q=>(bS C n cp).ownBlock=some q) w ae)∧(U 0= .slice C n cp)∧(U 1=ak a)∧(U 6=ak (b - a))∧(U 7=aT V)∧(U 8= .int .u64 (2 ^ kW (b - a):Nat))∧(U 9=ak E)∧(a+(b - a) / 4 *2 +3 - E=ao)) _ ⟨a+(b - a) / 4 *2 - 1,(b - a:Nat),d,ab,(Nl d a b),(ah.B aN),(a6 (a6 av aq) ah),((Md.trans aq ah).mono fun _ _ h=>h.elim),aa,aa,aa,aa,aa,aa,aa⟩ ?_
 rintro ao U ae ⟨E,r,I,bz,aH,aS,am,ai,a7,a8,a9,bb,bd,bg,rfl⟩
 refine fx 0 a7<|fx 1 a8<|fx 6 a9<|fx 7 bb<|fx 8 bd<|fx 9 bg<|aB fun aI=>ag fun aK=>au (ak E)<|au (ak a)<|au (ak<|b - a)<|p (qQ (((b - a) / 4:Nat):Int) aa aa ab<|bl ab ab)<|p (oO (((b - a) / 4 *2:Nat):Int) aa aa<|bl ab ab)<|p (bF ((a+(b - a) / 4 *2:Nat):Int) aa aa<|bl ab ab)<|p (bF ((a+(b - a) / 4 *2 +1:Nat):Int) aa aa<|bl ab ab)<|p (le aa aa)<|nl<|aK<|cd aa (fun a1=> ?_) fun a1=> ?_
 refine aQ<|aI<|aB fun aL=>aJ<|ag fun aM=>e<|cl PO (Wj V r _ aS) aa fun bL bN a0=> ?_
 obtain ⟨an,rfl,bI,bJ,ap,ac⟩:=a0
 obtain ⟨o,bG,a5⟩:=OF an (2 ^ kW (b - a)) ab
 have bD:=Z
 refine au (.int .u64 (2 ^ kW (b - a):Nat))<|p (sb aa aa<|oX ab)<|p (fG aa aa a5)<|p (xH u3 Zl aa<|bY ab)<|ay<|aM ?_
 refine ep (fun O M=> ∃ (G:Nat),(G < b - a)∧(bP M.heap V [.int .u64 an])∧(M.ownsRow B 51 1 (.slice C n cp) n<|LE bj I)∧(Md (fun q=>(bS C n cp).ownBlock=some q) w M)∧(O 0= .slice C n cp)∧(O 1=ak a)∧(O 6=ak (b - a))∧(O 7=aT V)∧(O 8= .int .u64 (2 ^ kW (b - a):Nat))∧(O 9=ak E)∧(O 10=ak G)) ?_ ?_
 refine ag fun aA=>p mv<|au (ak<|b - a)<|p (ge aa aa)<|nl<|aA<|cd aa (fun a2=> ?_) fun a2=> ?_
 exact rg aa<|p mv<|au (ak<|b - a)<|p (dR ((o - (b - a):Nat):Int) aa aa<|bl ab ab)<|p aE<|nl<|tn<|⟨o - (b - a),ab,ap,(dz am ac fun k hk h=>Z<|h ▸ hk),(Md.trans' ai ac fun k hk h=>by omega),aa,aa,aa,aa,aa,aa,aa⟩
 exact aQ<|tn<|⟨o,ab,ap,(dz am ac fun k hk h=>Z<|h ▸ hk),(Md.trans' ai ac fun k hk h=>by omega),aa,aa,aa,aa,aa,aa,aa⟩
 rintro O M ⟨G,bH,aR,J,aX,bi,bk,bo,bq,br,bs,bm⟩
 refine fx 0 bi<|fx 1 bk<|fx 6 bo<|fx 7 bq<|fx 8 br<|fx 9 bs<|fx 10 bm ?_
 have bx:=fP J
 have A:(fun w'=>Wk M w') M.drew:=(Md.refl _ _).drew
 refine eR (fun w'=>Wk M w') 17 aa wide A<|bE 0 aa (.slice C n cp) A<|bE 1 aa (ak E) A<|bE 2 aa (.slice C n cp) A<|bE 3 aa (ak a) A<|bE 4 aa (ak G) A<|bB 5 aa (fun _=>bF ((a+G:Nat):Int) aa aa<|bl ab ab) (fun _=>A)<|bE 6 aa (.slice C n cp) A<|bE 7 aa (ak a) A<|bE 8 aa (ak G) A<|bB 9 aa (fun _=>bF ((a+G:Nat):Int) aa aa<|bl ab ab) (fun _=>A)<|bB 10 aa (fun _=>bc ca aa aa ab<|aO.ok ((ba J).2)<|cy ab) (fun _=>A)<|dP 11 aa (fun w' Y=>ld dd aa<|dN (i:=a+G) ((ba J).2.wk Y) ab) A<|bE 12 aa (.slice C n cp) A<|bE 13 aa (ak E) A<|bB 14 aa (fun _=>bc ca aa aa ab<|aO.ok ((ba J).2)<|cy ab) (fun _=>A)<|dP 15 aa (fun w' Y=>ld dd aa<|dN (i:=E) ((ba J).2.wk Y) ab) A<|bB 16 aa (fun _=>bc ca aa aa ab<|aO.ok ((ba J).2)<|cy ab) (fun _=>A)<|dO 17 aa aj aj<|gB (u:=I[a+G]!) (E) (a6 J A) gu aa aa aa ab fun bQ aV a3=> ?_
 refine bB 18 aa (fun _=>bc ca aa aa ab<|aO.ok ((ba J).2)<|cy ab) (fun h=>eo<|(show true =_ from by kernel_rfl).trans h)<|dO 19 aa aj aj<|gB (u:=I[E]!) (a+G) a3 gu aa aa aa ab fun ax aW a4=> ?_
 have Y:ax.ownsRow B 51 1 (.slice C n cp) n (LE bj<|cX I (E)<|a+G):=a4
 have ar:Md (fun q=>(bS C n cp).ownBlock=some q) M ax:=Md.trans (A.mono fun _ _ h=>h.elim)<|Md.trans aV aW
 exact eQ aj<|bn<|aL<|rg aa<|au (ak E)<|p (bF ((E+1:Nat):Int) aa aa<|bl ab ab)<|p aE<|nl<|tn<|⟨_,ab,E+1,an,cX I E (a+G),ab,(WY aH ab ab ab aa),(ar.B aR fun h=>Z h),Y,(Md.trans aX ar),aa,aa,aa,aa,aa,aa,aa⟩
 exact ext<|bf<|bf<|be<|f0 aa<|⟨I,aa,aH,am,ai⟩
end Go.Hb
end
section
namespace Go.Hb
open Go.Hb.ea
theorem WQ {d:Array Nat} {a b q i j:Nat} (h1:oq (fun x=>cg x (cX d a q)[a]!) (cX d a q) (b - 1) (a+1)=i) (h2:oo (fun x=> !cg x (cX d a q)[a]!) (cX d a q) i (b - 1)=j) (h:i > j):
 q7 cg d a b q=(j,true,cX (cX d a q) j a):=by
 unfold q7; simp only [h1,h2,if_pos h]
theorem part_go {d:Array Nat} {a b q i j A:Nat} {C:Array Nat} (h1:oq (fun x=>cg x (cX d a q)[a]!) (cX d a q) (b - 1) (a+1)=i) (h2:oo (fun x=> !cg x (cX d a q)[a]!) (cX d a q) i (b - 1)=j) (h:¬i > j)
 (h3:Ex cg a (i+1) (j - 1) (cX (cX d a q) i j)=(A,C)):
 q7 cg d a b q=(A,false,cX C A a):=by
 unfold q7; simp only [h1,h2,if_neg h,h3]
theorem WR (d:Array Nat) (a b C:Nat) (B n cp:Nat) (A:Option Addr) (w:World) (aA:w.ownsRow B 51 1 (.slice A n cp) n (LE bj d)) (dv:a≤C∧C < b∧b≤n) (dz:n≤1099511627776):
 bp aw 291 (bh [.slice A n cp,ak a,ak b,ak C]) w (fun v w'=>v= .tuple #[ak ((q7 cg d a b C).1),.bool (q7 cg d a b C).2.1]∧w'.ownsRow B 51 1 (.slice A n cp) n (LE bj (q7 cg d a b C).2.2)∧Md (fun q=>(bS A n cp).ownBlock=some q) w w'):=by
 refine enter func291 aa ntmps291 aa<|ag fun bP=>p aE<|ay<|bP<|aB fun bQ=> ?_
 have dw:=fP aA
 have ah:(fun w'=>Wk w w') w.drew:=(Md.refl _ _).drew
 refine eR (fun w'=>Wk w w') 13 aa wide ah<|bE 0 aa (.slice A n cp) ah<|bE 1 aa (ak a) ah<|bE 2 aa (.slice A n cp) ah<|bE 3 aa (ak C) ah<|bE 4 aa (.slice A n cp) ah<|bE 5 aa (ak C) ah<|bB 6 aa (fun _=>bc ca aa aa ab<|aO.ok ((ba aA).2)<|cy ab) (fun _=>ah)<|dP 7 aa (fun w' G=>ld dd aa<|dN (i:=C) ((ba aA).2.wk G) ab) ah<|bE 8 aa (.slice A n cp) ah<|bE 9 aa (ak a) ah<|bB 10 aa (fun _=>bc ca aa aa ab<|aO.ok ((ba aA).2)<|cy ab) (fun _=>ah)<|dP 11 aa (fun w' G=>ld dd aa<|dN (i:=a) ((ba aA).2.wk G) ab) ah<|bB 12 aa (fun _=>bc ca aa aa ab<|aO.ok ((ba aA).2)<|cy ab) (fun _=>ah)<|dO 13 aa aj aj<|gB (u:=d[C]!) (a) (a6 aA ah) gu aa aa aa ab fun dD b1 cD=> ?_
 refine bB 14 aa (fun _=>bc ca aa aa ab<|aO.ok ((ba aA).2)<|cy ab) (fun h=>eo<|(show true =_ from by kernel_rfl).trans h)<|dO 15 aa aj aj<|gB (u:=d[a]!) (C) cD gu aa aa aa ab fun bJ b2 cE=> ?_
 have cm:bJ.ownsRow B 51 1 (.slice A n cp) n (LE bj<|cX d (a)<|C):=cE
 have b0:Md (fun q=>(bS A n cp).ownBlock=some q) w bJ:=Md.trans (ah.mono fun _ _ h=>h.elim)<|Md.trans b1 b2
 refine eQ aj<|bQ<|ag fun bR=>au (ak a)<|p (bF ((a+1:Nat):Int) aa aa<|bl ab ab)<|au (ak b)<|p (dR ((b - 1:Nat):Int) aa aa<|bl ab ab)<|p aE ?_
 refine ay<|bR ?_
 refine ep (fun aX bt=> ∃ (M:Nat),(a+1≤M∧(M=a+1∨M≤b - 1 +1))∧(oq (fun x=>cg x (cX d a C)[a]!) (cX d a C) (b - 1) (a+1)=M)∧(bt.ownsRow B 51 1 (.slice A n cp) n<|LE bj<|cX d a C)∧(Md (fun q=>(bS A n cp).ownBlock=some q) w bt)∧(aX 0= .slice A n cp)∧(aX 1=ak a)∧(aX 10=ak M)∧(aX 11=ak (b - 1))) ?_ ?_
 refine aJ<|lp (fun aq aY aK=> ∃ (q:Nat),(a+1≤q∧(q=a+1∨q≤b - 1 +1))∧(oq (fun x=>cg x (cX d a C)[a]!) (cX d a C) (b - 1) (q)=oq (fun x=>cg x (cX d a C)[a]!) (cX d a C) (b - 1) (a+1))∧(aK.ownsRow B 51 1 (.slice A n cp) n<|LE bj<|cX d a C)∧(Md (fun q=>(bS A n cp).ownBlock=some q) w aK)∧(aY 0= .slice A n cp)∧(aY 1=ak a)∧(aY 10=ak q)∧(aY 11=ak (b - 1))∧(b - 1 +1 - q=aq)) _ ⟨a+1,ab,aa,cm,b0,aa,aa,aa,aa,aa⟩ ?_
 rintro aq aY aK ⟨q,ar,ap,E,ao,cR,cS,cT,cV,rfl⟩
 refine fx 0 cR<|fx 1 cS<|fx 10 cT<|fx 11 cV<|aB fun aT=>aB fun aD=> ?_
 have aI:=fP E
 have Z:(fun w'=>Wk aK w') aK.drew:=(Md.refl _ _).drew
 refine bN (fun w'=>Wk aK w') aa wide Z<|bI 0 aa (ak q) Z<|bI 1 aa (ak<|b - 1) Z<|aH 2 aa (fun _ _=>le aa aa) Z<|aH 3 aa (fun _ _=>mv) Z<|iK (t:=33) aa (fun cB=> ?_) fun cB=> ?_
 refine bm 4 aa (fun _ _=>aV (.slice A n cp) aa) Z<|bm 5 aa (fun _ _=>aV (ak q) aa) Z<|bm 6 aa (fun _ _=>bc ca aa aa ab<|aO.ok ((ba E).2)<|cy ab) Z<|bm 7 aa (fun w' G=>ld dd aa<|dN (i:=q) ((ba E).2.wk G) ab) Z<|bm 8 aa (fun _ _=>aV (.slice A n cp) aa) Z<|bm 9 aa (fun _ _=>aV (ak a) aa) Z<|bm 10 aa (fun _ _=>bc ca aa aa ab<|aO.ok ((ba E).2)<|cy ab) Z<|bm 11 aa (fun w' G=>ld dd aa<|dN (i:=a) ((ba E).2.wk G) ab) Z<|l7 12 aa aj aa aa aa<|cl l3 (l9 (cX d a C)[q]! (cX d a C)[a]! _) aa fun dB dt cu=> ?_
 obtain ⟨rfl,bX⟩:=cu
 have aR:(fun w'=>Wk aK w') dt:=Md.trans Z bX
 refine ⟨aR,?_⟩
 refine aH 13 aa (fun _ _=>bC aa) aR<|hn aj<|aD<|cb aa (fun bq=> ?_) fun bq=> ?_
 exact aQ<|aT<|aJ<|rg aa<|au (ak q)<|p (bF ((q+1:Nat):Int) aa aa<|bl ab ab)<|p aE<|nl<|bn<|tn<|⟨_,ab,q+1,ab,(by rw [← ap,DS (show q≤b - 1 by omega) (by simpa using bq)]),(a6 E aR),(Md.trans ao<|aR.mono fun _ _ h=>h.elim),aa,aa,aa,aa,aa⟩
 exact ext<|bf<|bf<|be<|tn<|⟨q,ar,(by rw [← ap,tP (.inr<|by simpa using bq)]),(a6 E aR),(Md.trans ao<|aR.mono fun _ _ h=>h.elim),aa,aa,aa,aa⟩
 exact a8 4 aa Z<|a8 5 aa Z<|a8 6 aa Z<|a8 7 aa Z<|a8 8 aa Z<|a8 9 aa Z<|a8 10 aa Z<|a8 11 aa Z<|a8 12 aa Z<|aH 13 aa (fun _ _=>bu aa) Z<|hn aj<|aD<|cf aa<|ext<|bf<|bf<|be<|tn<|⟨q,ar,(by rw [← ap,tP (.inl ab)]),(a6 E (Md.refl _ _).drew),ao.drew,aa,aa,aa,aa⟩
 rintro aX bt ⟨M,dx,bG,bi,bg,cN,cO,cP,cQ⟩
 refine fx 0 cN<|fx 1 cO<|fx 10 cP<|fx 11 cQ ?_
 refine ep (fun aZ av=> ∃ (O:Nat),(a≤O∧O≤b - 1)∧(oo (fun x=> !cg x (cX d a C)[a]!) (cX d a C) (M) (b - 1)=O)∧(av.ownsRow B 51 1 (.slice A n cp) n<|LE bj<|cX d a C)∧(Md (fun q=>(bS A n cp).ownBlock=some q) w av)∧(aZ 0= .slice A n cp)∧(aZ 1=ak a)∧(aZ 10=ak M)∧(aZ 11=ak O)) ?_ ?_
 refine aJ<|lp (fun aq a0 aM=> ∃ (q:Nat),(a≤q∧q≤b - 1)∧(oo (fun x=> !cg x (cX d a C)[a]!) (cX d a C) (M) (q)=oo (fun x=> !cg x (cX d a C)[a]!) (cX d a C) (M) (b - 1))∧(aM.ownsRow B 51 1 (.slice A n cp) n<|LE bj<|cX d a C)∧(Md (fun q=>(bS A n cp).ownBlock=some q) w aM)∧(a0 0= .slice A n cp)∧(a0 1=ak a)∧(a0 10=ak M)∧(a0 11=ak q)∧(q=aq)) _ ⟨b - 1,ab,aa,bi,bg,aa,aa,aa,aa,aa⟩ ?_
 rintro aq a0 aM ⟨q,ar,ap,E,ao,c1,c2,c3,c4,rfl⟩
 refine fx 0 c1<|fx 1 c2<|fx 10 c3<|fx 11 c4<|aB fun aT=>aB fun aD=> ?_
 have aI:=fP E
 have V:(fun w'=>Wk aM w') aM.drew:=(Md.refl _ _).drew
 refine bN (fun w'=>Wk aM w') aa wide V<|bI 0 aa (ak M) V<|bI 1 aa (ak q) V<|aH 2 aa (fun _ _=>le aa aa) V<|aH 3 aa (fun _ _=>mv) V<|iK (t:=49) aa (fun cC=> ?_) fun cC=> ?_
 refine bm 4 aa (fun _ _=>aV (.slice A n cp) aa) V<|bm 5 aa (fun _ _=>aV (ak q) aa) V<|bm 6 aa (fun _ _=>bc ca aa aa ab<|aO.ok ((ba E).2)<|cy ab) V<|bm 7 aa (fun w' G=>ld dd aa<|dN (i:=q) ((ba E).2.wk G) ab) V<|bm 8 aa (fun _ _=>aV (.slice A n cp) aa) V<|bm 9 aa (fun _ _=>aV (ak a) aa) V<|bm 10 aa (fun _ _=>bc ca aa aa ab<|aO.ok ((ba E).2)<|cy ab) V<|bm 11 aa (fun w' G=>ld dd aa<|dN (i:=a) ((ba E).2.wk G) ab) V<|l7 12 aa aj aa aa aa<|cl l3 (l9 (cX d a C)[q]! (cX d a C)[a]! _) aa fun dC du cv=> ?_
 obtain ⟨rfl,bY⟩:=cv
 have aG:(fun w'=>Wk aM w') du:=Md.trans V bY
 refine ⟨aG,?_⟩
 refine bm 13 aa (fun _ _=>no aa) aG<|aH 14 aa (fun _ _=>bC aa) aG<|hn aj<|aD<|cb aa (fun br=> ?_) fun br=> ?_
 exact aQ<|aT<|aJ<|rg aa<|au (ak q)<|p (dR ((q - 1:Nat):Int) aa aa<|bl ab ab)<|p aE<|nl<|bn<|tn<|⟨_,ab,q - 1,ab,(by rw [← ap,Bn (show 0 < q by omega) (show M≤q by omega) (by simpa using br)]),(a6 E aG),(Md.trans ao<|aG.mono fun _ _ h=>h.elim),aa,aa,aa,aa,aa⟩
 exact ext<|bf<|bf<|be<|tn<|⟨q,ar,(by rw [← ap,s7 (.inr<|by simpa using br)]),(a6 E aG),(Md.trans ao<|aG.mono fun _ _ h=>h.elim),aa,aa,aa,aa⟩
 exact a8 4 aa V<|a8 5 aa V<|a8 6 aa V<|a8 7 aa V<|a8 8 aa V<|a8 9 aa V<|a8 10 aa V<|a8 11 aa V<|a8 12 aa V<|a8 13 aa V<|aH 14 aa (fun _ _=>bu aa) V<|hn aj<|aD<|cf aa<|ext<|bf<|bf<|be<|tn<|⟨q,ar,(by rw [← ap,s7 (.inl ab)]),(a6 E (Md.refl _ _).drew),ao.drew,aa,aa,aa,aa⟩
 rintro aZ av ⟨O,dy,bw,I,aU,cW,cY,cZ,c0⟩
 refine fx 0 cW<|fx 1 cY<|fx 10 cZ<|fx 11 c0<|aB fun aT=>ag fun aD=>au (ak M)<|au (ak O)<|p (gt aa aa)<|nl<|aD<|cd aa (fun cx=> ?_) fun cx=> ?_
 refine aB fun bb=> ?_
 have aI:=fP I
 have an:(fun w'=>Wk av w') av.drew:=(Md.refl _ _).drew
 refine eR (fun w'=>Wk av w') 13 aa wide an<|bE 0 aa (.slice A n cp) an<|bE 1 aa (ak O) an<|bE 2 aa (.slice A n cp) an<|bE 3 aa (ak a) an<|bE 4 aa (.slice A n cp) an<|bE 5 aa (ak a) an<|bB 6 aa (fun _=>bc ca aa aa ab<|aO.ok ((ba I).2)<|cy ab) (fun _=>an)<|dP 7 aa (fun w' G=>ld dd aa<|dN (i:=a) ((ba I).2.wk G) ab) an<|bE 8 aa (.slice A n cp) an<|bE 9 aa (ak O) an<|bB 10 aa (fun _=>bc ca aa aa ab<|aO.ok ((ba I).2)<|cy ab) (fun _=>an)<|dP 11 aa (fun w' G=>ld dd aa<|dN (i:=O) ((ba I).2.wk G) ab) an<|bB 12 aa (fun _=>bc ca aa aa ab<|aO.ok ((ba I).2)<|cy ab) (fun _=>an)<|dO 13 aa aj aj<|gB (u:=(cX d a C)[a]!) (O) (a6 I an) gu aa aa aa ab fun dE b4 cF=> ?_
 refine bB 14 aa (fun _=>bc ca aa aa ab<|aO.ok ((ba I).2)<|cy ab) (fun h=>eo<|(show true =_ from by kernel_rfl).trans h)<|dO 15 aa aj aj<|gB (u:=(cX d a C)[O]!) (a) cF gu aa aa aa ab fun bK b5 cG=> ?_
 have cn:bK.ownsRow B 51 1 (.slice A n cp) n (LE bj<|cX (cX d a C) (O)<|a):=cG
 have b3:Md (fun q=>(bS A n cp).ownBlock=some q) av bK:=Md.trans (an.mono fun _ _ h=>h.elim)<|Md.trans b4 b5
 refine eQ aj<|bb<|ag fun bd=>au (ak O)<|p (cU (ak O) aa)<|ay<|bd ?_
 refine rt<|tr<|f2 aa aa aa ?_
 have aW:=WQ bG bw ab
 exact ⟨by rw [aW]; rfl,by rw [aW]; exact cn,Md.trans aU b3⟩
 refine aQ<|aT<|aB fun bb=> ?_
 have aI:=fP I
 have ai:(fun w'=>Wk av w') av.drew:=(Md.refl _ _).drew
 refine eR (fun w'=>Wk av w') 13 aa wide ai<|bE 0 aa (.slice A n cp) ai<|bE 1 aa (ak M) ai<|bE 2 aa (.slice A n cp) ai<|bE 3 aa (ak O) ai<|bE 4 aa (.slice A n cp) ai<|bE 5 aa (ak O) ai<|bB 6 aa (fun _=>bc ca aa aa ab<|aO.ok ((ba I).2)<|cy ab) (fun _=>ai)<|dP 7 aa (fun w' G=>ld dd aa<|dN (i:=O) ((ba I).2.wk G) ab) ai<|bE 8 aa (.slice A n cp) ai<|bE 9 aa (ak M) ai<|bB 10 aa (fun _=>bc ca aa aa ab<|aO.ok ((ba I).2)<|cy ab) (fun _=>ai)<|dP 11 aa (fun w' G=>ld dd aa<|dN (i:=M) ((ba I).2.wk G) ab) ai<|bB 12 aa (fun _=>bc ca aa aa ab<|aO.ok ((ba I).2)<|cy ab) (fun _=>ai)<|dO 13 aa aj aj<|gB (u:=(cX d a C)[O]!) (M) (a6 I ai) gu aa aa aa ab fun dF b7 cH=> ?_
 refine bB 14 aa (fun _=>bc ca aa aa ab<|aO.ok ((ba I).2)<|cy ab) (fun h=>eo<|(show true =_ from by kernel_rfl).trans h)<|dO 15 aa aj aj<|gB (u:=(cX d a C)[M]!) (O) cH gu aa aa aa ab fun bL b8 cI=> ?_
 have co:bL.ownsRow B 51 1 (.slice A n cp) n (LE bj<|cX (cX d a C) (M)<|O):=cI
 have b6:Md (fun q=>(bS A n cp).ownBlock=some q) av bL:=Md.trans (ai.mono fun _ _ h=>h.elim)<|Md.trans b7 b8
 refine eQ aj<|bb<|ag fun bd=>au (ak M)<|p (bF ((M+1:Nat):Int) aa aa<|bl ab ab)<|ay<|bd ?_
 refine ag fun bT=>au (ak O)<|p (dR ((O - 1:Nat):Int) aa aa<|bl ab ab)<|ay<|bT<|aB fun bU=>aJ<|lp (fun aq a1 bs=> ∃ (i j:Nat) (J:Array Nat),(a+2≤i∧i≤b∧a≤j∧j < b∧i≤j+2)∧(Ex cg a i j J=Ex cg a (M+1) (O - 1) (cX (cX d a C) M O))∧(bs.ownsRow B 51 1 (.slice A n cp) n<|LE bj J)∧(Md (fun q=>(bS A n cp).ownBlock=some q) w bs)∧(a1 0= .slice A n cp)∧(a1 1=ak a)∧(a1 10=ak i)∧(a1 11=ak j)∧(j+1 - i=aq)) _ ⟨M+1,O - 1,cX (cX d a C) M O,ab,aa,co,(Md.trans aU b6),aa,aa,aa,aa,aa⟩ ?_
 rintro aq a1 bs ⟨i,j,J,hi,bD,ck,bZ,c5,c6,c7,c8,rfl⟩
 refine fx 0 c5<|fx 1 c6<|fx 10 c7<|fx 11 c8<|aJ ?_
 refine ep (fun a2 bv=> ∃ (ac:Nat),(i≤ac∧(ac=i∨ac≤j+1))∧(oq (fun x=>cg x J[a]!) J (j) (i)=ac)∧(bv.ownsRow B 51 1 (.slice A n cp) n<|LE bj J)∧(Md (fun q=>(bS A n cp).ownBlock=some q) w bv)∧(a2 0= .slice A n cp)∧(a2 1=ak a)∧(a2 10=ak ac)∧(a2 11=ak j)) ?_ ?_
 refine aJ<|lp (fun aq a3 aL=> ∃ (q:Nat),(i≤q∧(q=i∨q≤j+1))∧(oq (fun x=>cg x J[a]!) J (j) (q)=oq (fun x=>cg x J[a]!) J (j) (i))∧(aL.ownsRow B 51 1 (.slice A n cp) n<|LE bj J)∧(Md (fun q=>(bS A n cp).ownBlock=some q) w aL)∧(a3 0= .slice A n cp)∧(a3 1=ak a)∧(a3 10=ak q)∧(a3 11=ak j)∧(j+1 - q=aq)) _ ⟨i,ab,aa,ck,bZ,aa,aa,aa,aa,aa⟩ ?_
 rintro aq a3 aL ⟨q,ar,ap,E,ao,de,df,dg,dh,rfl⟩
 refine fx 0 de<|fx 1 df<|fx 10 dg<|fx 11 dh<|aB fun aS=>aB fun aC=> ?_
 have aI:=fP E
 have Y:(fun w'=>Wk aL w') aL.drew:=(Md.refl _ _).drew
 refine bN (fun w'=>Wk aL w') aa wide Y<|bI 0 aa (ak q) Y<|bI 1 aa (ak j) Y<|aH 2 aa (fun _ _=>le aa aa) Y<|aH 3 aa (fun _ _=>mv) Y<|iK (t:=102) aa (fun cz=> ?_) fun cz=> ?_
 refine bm 4 aa (fun _ _=>aV (.slice A n cp) aa) Y<|bm 5 aa (fun _ _=>aV (ak q) aa) Y<|bm 6 aa (fun _ _=>bc ca aa aa ab<|aO.ok ((ba E).2)<|cy ab) Y<|bm 7 aa (fun w' G=>ld dd aa<|dN (i:=q) ((ba E).2.wk G) ab) Y<|bm 8 aa (fun _ _=>aV (.slice A n cp) aa) Y<|bm 9 aa (fun _ _=>aV (ak a) aa) Y<|bm 10 aa (fun _ _=>bc ca aa aa ab<|aO.ok ((ba E).2)<|cy ab) Y<|bm 11 aa (fun w' G=>ld dd aa<|dN (i:=a) ((ba E).2.wk G) ab) Y<|l7 12 aa aj aa aa aa<|cl l3 (l9 J[q]! J[a]! _) aa fun dA dr cs=> ?_
 obtain ⟨rfl,bV⟩:=cs
 have aP:(fun w'=>Wk aL w') dr:=Md.trans Y bV
 refine ⟨aP,?_⟩
 refine aH 13 aa (fun _ _=>bC aa) aP<|hn aj<|aC<|cb aa (fun bk=> ?_) fun bk=> ?_
 exact aQ<|aS<|aJ<|rg aa<|au (ak q)<|p (bF ((q+1:Nat):Int) aa aa<|bl ab ab)<|p aE<|nl<|bn<|tn<|⟨_,ab,q+1,ab,(by rw [← ap,DS (show q≤j by omega) (by simpa using bk)]),(a6 E aP),(Md.trans ao<|aP.mono fun _ _ h=>h.elim),aa,aa,aa,aa,aa⟩
 exact ext<|bf<|bf<|be<|tn<|⟨q,ar,(by rw [← ap,tP (.inr<|by simpa using bk)]),(a6 E aP),(Md.trans ao<|aP.mono fun _ _ h=>h.elim),aa,aa,aa,aa⟩
 exact a8 4 aa Y<|a8 5 aa Y<|a8 6 aa Y<|a8 7 aa Y<|a8 8 aa Y<|a8 9 aa Y<|a8 10 aa Y<|a8 11 aa Y<|a8 12 aa Y<|aH 13 aa (fun _ _=>bu aa) Y<|hn aj<|aC<|cf aa<|ext<|bf<|bf<|be<|tn<|⟨q,ar,(by rw [← ap,tP (.inl ab)]),(a6 E (Md.refl _ _).drew),ao.drew,aa,aa,aa,aa⟩
 rintro a2 bv ⟨ac,bz,bH,bi,bg,c9,da,db,dc⟩
 refine fx 0 c9<|fx 1 da<|fx 10 db<|fx 11 dc ?_
 refine ep (fun a4 ax=> ∃ (ae:Nat),(a≤ae∧ae≤j)∧(oo (fun x=> !cg x J[a]!) J (ac) (j)=ae)∧(ax.ownsRow B 51 1 (.slice A n cp) n<|LE bj J)∧(Md (fun q=>(bS A n cp).ownBlock=some q) w ax)∧(a4 0= .slice A n cp)∧(a4 1=ak a)∧(a4 10=ak ac)∧(a4 11=ak ae)) ?_ ?_
 refine aJ<|lp (fun aq a5 aN=> ∃ (q:Nat),(a≤q∧q≤j)∧(oo (fun x=> !cg x J[a]!) J (ac) (q)=oo (fun x=> !cg x J[a]!) J (ac) (j))∧(aN.ownsRow B 51 1 (.slice A n cp) n<|LE bj J)∧(Md (fun q=>(bS A n cp).ownBlock=some q) w aN)∧(a5 0= .slice A n cp)∧(a5 1=ak a)∧(a5 10=ak ac)∧(a5 11=ak q)∧(q=aq)) _ ⟨j,ab,aa,bi,bg,aa,aa,aa,aa,aa⟩ ?_
 rintro aq a5 aN ⟨q,ar,ap,E,ao,dm,dn,dp,dq,rfl⟩
 refine fx 0 dm<|fx 1 dn<|fx 10 dp<|fx 11 dq<|aB fun aS=>aB fun aC=> ?_
 have aI:=fP E
 have U:(fun w'=>Wk aN w') aN.drew:=(Md.refl _ _).drew
 refine bN (fun w'=>Wk aN w') aa wide U<|bI 0 aa (ak ac) U<|bI 1 aa (ak q) U<|aH 2 aa (fun _ _=>le aa aa) U<|aH 3 aa (fun _ _=>mv) U<|iK (t:=118) aa (fun cA=> ?_) fun cA=> ?_
 refine bm 4 aa (fun _ _=>aV (.slice A n cp) aa) U<|bm 5 aa (fun _ _=>aV (ak q) aa) U<|bm 6 aa (fun _ _=>bc ca aa aa ab<|aO.ok ((ba E).2)<|cy ab) U<|bm 7 aa (fun w' G=>ld dd aa<|dN (i:=q) ((ba E).2.wk G) ab) U<|bm 8 aa (fun _ _=>aV (.slice A n cp) aa) U<|bm 9 aa (fun _ _=>aV (ak a) aa) U<|bm 10 aa (fun _ _=>bc ca aa aa ab<|aO.ok ((ba E).2)<|cy ab) U<|bm 11 aa (fun w' G=>ld dd aa<|dN (i:=a) ((ba E).2.wk G) ab) U<|l7 12 aa aj aa aa aa<|cl l3 (l9 J[q]! J[a]! _) aa fun v127 ds ct=> ?_
 obtain ⟨rfl,bW⟩:=ct
 have aF:(fun w'=>Wk aN w') ds:=Md.trans U bW
 refine ⟨aF,?_⟩
 refine bm 13 aa (fun _ _=>no aa) aF<|aH 14 aa (fun _ _=>bC aa) aF<|hn aj<|aC<|cb aa (fun bo=> ?_) fun bo=> ?_
 exact aQ<|aS<|aJ<|rg aa<|au (ak q)<|p (dR ((q - 1:Nat):Int) aa aa<|bl ab ab)<|p aE<|nl<|bn<|tn<|⟨_,ab,q - 1,ab,(by rw [← ap,Bn (show 0 < q by omega) (show ac≤q by omega) (by simpa using bo)]),(a6 E aF),(Md.trans ao<|aF.mono fun _ _ h=>h.elim),aa,aa,aa,aa,aa⟩
 exact ext<|bf<|bf<|be<|tn<|⟨q,ar,(by rw [← ap,s7 (.inr<|by simpa using bo)]),(a6 E aF),(Md.trans ao<|aF.mono fun _ _ h=>h.elim),aa,aa,aa,aa⟩
 exact a8 4 aa U<|a8 5 aa U<|a8 6 aa U<|a8 7 aa U<|a8 8 aa U<|a8 9 aa U<|a8 10 aa U<|a8 11 aa U<|a8 12 aa U<|a8 13 aa U<|aH 14 aa (fun _ _=>bu aa) U<|hn aj<|aC<|cf aa<|ext<|bf<|bf<|be<|tn<|⟨q,ar,(by rw [← ap,s7 (.inl ab)]),(a6 E (Md.refl _ _).drew),ao.drew,aa,aa,aa,aa⟩
 rintro a4 ax ⟨ae,bA,bx,I,aU,di,dj,dk,dl⟩
 refine fx 0 di<|fx 1 dj<|fx 10 dk<|fx 11 dl<|aB fun aS=>ag fun aC=>au (ak ac)<|au (ak ae)<|p (gt aa aa)<|nl<|aC<|cd aa (fun cw=> ?_) fun cw=> ?_
 refine ext<|bf<|my az<|bf<|be<|bU<|aB fun a7=> ?_
 have aI:=fP I
 have am:(fun w'=>Wk ax w') ax.drew:=(Md.refl _ _).drew
 refine eR (fun w'=>Wk ax w') 13 aa wide am<|bE 0 aa (.slice A n cp) am<|bE 1 aa (ak ae) am<|bE 2 aa (.slice A n cp) am<|bE 3 aa (ak a) am<|bE 4 aa (.slice A n cp) am<|bE 5 aa (ak a) am<|bB 6 aa (fun _=>bc ca aa aa ab<|aO.ok ((ba I).2)<|cy ab) (fun _=>am)<|dP 7 aa (fun w' G=>ld dd aa<|dN (i:=a) ((ba I).2.wk G) ab) am<|bE 8 aa (.slice A n cp) am<|bE 9 aa (ak ae) am<|bB 10 aa (fun _=>bc ca aa aa ab<|aO.ok ((ba I).2)<|cy ab) (fun _=>am)<|dP 11 aa (fun w' G=>ld dd aa<|dN (i:=ae) ((ba I).2.wk G) ab) am<|bB 12 aa (fun _=>bc ca aa aa ab<|aO.ok ((ba I).2)<|cy ab) (fun _=>am)<|dO 13 aa aj aj<|gB (u:=J[a]!) (ae) (a6 I am) gu aa aa aa ab fun dH ci cL=> ?_
 refine bB 14 aa (fun _=>bc ca aa aa ab<|aO.ok ((ba I).2)<|cy ab) (fun h=>eo<|(show true =_ from by kernel_rfl).trans h)<|dO 15 aa aj aj<|gB (u:=J[ae]!) (a) cL gu aa aa aa ab fun bO cj cM=> ?_
 have cr:bO.ownsRow B 51 1 (.slice A n cp) n (LE bj<|cX J (ae)<|a):=cM
 have ch:Md (fun q=>(bS A n cp).ownBlock=some q) ax bO:=Md.trans (am.mono fun _ _ h=>h.elim)<|Md.trans ci cj
 refine eQ aj<|a7<|ag fun a9=>au (ak ae)<|p (cU (ak ae) aa)<|ay<|a9 ?_
 refine rt<|f2 aa aa aa ?_
 have aW:=part_go bG bw ab<|bD.symm.trans<|by rw [KB bH bx bz.1 bA.2,if_pos ab]
 exact ⟨by rw [aW]; rfl,by rw [aW]; exact cr,Md.trans aU ch⟩
 refine aQ<|aS<|aB fun a7=> ?_
 have aI:=fP I
 have al:(fun w'=>Wk ax w') ax.drew:=(Md.refl _ _).drew
 refine eR (fun w'=>Wk ax w') 13 aa wide al<|bE 0 aa (.slice A n cp) al<|bE 1 aa (ak ac) al<|bE 2 aa (.slice A n cp) al<|bE 3 aa (ak ae) al<|bE 4 aa (.slice A n cp) al<|bE 5 aa (ak ae) al<|bB 6 aa (fun _=>bc ca aa aa ab<|aO.ok ((ba I).2)<|cy ab) (fun _=>al)<|dP 7 aa (fun w' G=>ld dd aa<|dN (i:=ae) ((ba I).2.wk G) ab) al<|bE 8 aa (.slice A n cp) al<|bE 9 aa (ak ac) al<|bB 10 aa (fun _=>bc ca aa aa ab<|aO.ok ((ba I).2)<|cy ab) (fun _=>al)<|dP 11 aa (fun w' G=>ld dd aa<|dN (i:=ac) ((ba I).2.wk G) ab) al<|bB 12 aa (fun _=>bc ca aa aa ab<|aO.ok ((ba I).2)<|cy ab) (fun _=>al)<|dO 13 aa aj aj<|gB (u:=J[ae]!) (ac) (a6 I al) gu aa aa aa ab fun dG cc cJ=> ?_
 refine bB 14 aa (fun _=>bc ca aa aa ab<|aO.ok ((ba I).2)<|cy ab) (fun h=>eo<|(show true =_ from by kernel_rfl).trans h)<|dO 15 aa aj aj<|gB (u:=J[ac]!) (ae) cJ gu aa aa aa ab fun bM ce cK=> ?_
 have cq:bM.ownsRow B 51 1 (.slice A n cp) n (LE bj<|cX J (ac)<|ae):=cK
 have b9:Md (fun q=>(bS A n cp).ownBlock=some q) ax bM:=Md.trans (al.mono fun _ _ h=>h.elim)<|Md.trans cc ce
 refine eQ aj<|a7<|ag fun a9=>au (ak ac)<|p (bF ((ac+1:Nat):Int) aa aa<|bl ab ab)<|ay<|a9 ?_
 exact rg aa<|au (ak ae)<|p (dR ((ae - 1:Nat):Int) aa aa<|bl ab ab)<|p aE<|nl<|bn<|tn<|⟨_,ab,ac+1,ae - 1,cX J ac ae,ab,(by rw [← bD,KB bH bx bz.1 bA.2,if_neg ab,if_pos ab]),cq,(Md.trans aU b9),aa,aa,aa,aa,aa⟩
theorem WT (d:Array Nat) (a b Y:Nat) (B n cp:Nat) (A:Option Addr) (w:World) (ae:w.ownsRow B 51 1 (.slice A n cp) n (LE bj d)) (b8:a≤Y∧Y < b∧b≤n) (ch:n≤1099511627776):
 bp aw 290 (bh [.slice A n cp,ak a,ak b,ak Y]) w (fun v w'=>v=ak ((wz cg d a b Y).1)∧w'.ownsRow B 51 1 (.slice A n cp) n (LE bj (wz cg d a b Y).2)∧Md (fun q=>(bS A n cp).ownBlock=some q) w w'):=by
 refine enter func290 aa ntmps290 aa<|ag fun aZ=>ay<|aZ<|aB fun a0=> ?_
 have b9:=fP ae
 have M:(fun w'=>Wk w w') w.drew:=(Md.refl _ _).drew
 refine eR (fun w'=>Wk w w') 13 aa wide M<|bE 0 aa (.slice A n cp) M<|bE 1 aa (ak a) M<|bE 2 aa (.slice A n cp) M<|bE 3 aa (ak Y) M<|bE 4 aa (.slice A n cp) M<|bE 5 aa (ak Y) M<|bB 6 aa (fun _=>bc ca aa aa ab<|aO.ok ((ba ae).2)<|cy ab) (fun _=>M)<|dP 7 aa (fun w' V=>ld dd aa<|dN (i:=Y) ((ba ae).2.wk V) ab) M<|bE 8 aa (.slice A n cp) M<|bE 9 aa (ak a) M<|bB 10 aa (fun _=>bc ca aa aa ab<|aO.ok ((ba ae).2)<|cy ab) (fun _=>M)<|dP 11 aa (fun w' V=>ld dd aa<|dN (i:=a) ((ba ae).2.wk V) ab) M<|bB 12 aa (fun _=>bc ca aa aa ab<|aO.ok ((ba ae).2)<|cy ab) (fun _=>M)<|dO 13 aa aj aj<|gB (u:=d[Y]!) (a) (a6 ae M) gu aa aa aa ab fun ck bb bD=> ?_
 refine bB 14 aa (fun _=>bc ca aa aa ab<|aO.ok ((ba ae).2)<|cy ab) (fun h=>eo<|(show true =_ from by kernel_rfl).trans h)<|dO 15 aa aj aj<|gB (u:=d[a]!) (Y) bD gu aa aa aa ab fun aW bd bG=> ?_
 have bs:aW.ownsRow B 51 1 (.slice A n cp) n (LE bj<|cX d (a)<|Y):=bG
 have a9:Md (fun q=>(bS A n cp).ownBlock=some q) w aW:=Md.trans (M.mono fun _ _ h=>h.elim)<|Md.trans bb bd
 refine eQ aj<|a0<|ag fun a1=>au (ak a)<|p (bF ((a+1:Nat):Int) aa aa<|bl ab ab)<|au (ak b)<|p (dR ((b - 1:Nat):Int) aa aa<|bl ab ab)<|p aE ?_
 refine ay<|a1<|aB fun a2=>aJ<|lp (fun ac ax aL=> ∃ (i j:Nat) (C:Array Nat),(a+1≤i∧i≤b∧a≤j∧j < b∧i≤j+2)∧(Go.Sort.partEqLoop cg a i j C=wz cg d a b Y)∧(aL.ownsRow B 51 1 (.slice A n cp) n<|LE bj C)∧(Md (fun q=>(bS A n cp).ownBlock=some q) w aL)∧(ax 0= .slice A n cp)∧(ax 1=ak a)∧(ax 9=ak i)∧(ax 10=ak j)∧(j+1 - i=ac)) _ ⟨a+1,b - 1,(cX d a Y),ab,aa,bs,a9,aa,aa,aa,aa,aa⟩ ?_
 rintro ac ax aL ⟨i,j,C,hi,aS,bq,a7,bK,bL,bO,bM,rfl⟩
 refine fx 0 bK<|fx 1 bL<|fx 9 bO<|fx 10 bM<|aJ ?_
 refine ep (fun aA aM=> ∃ (E:Nat),(i≤E∧(E=i∨E≤j+1))∧(oq (fun x=> !cg C[a]! x) C (j) (i)=E)∧(aM.ownsRow B 51 1 (.slice A n cp) n<|LE bj C)∧(Md (fun q=>(bS A n cp).ownBlock=some q) w aM)∧(aA 0= .slice A n cp)∧(aA 1=ak a)∧(aA 9=ak E)∧(aA 10=ak j)) ?_ ?_
 refine aJ<|lp (fun ac aC an=> ∃ (q:Nat),(i≤q∧(q=i∨q≤j+1))∧(oq (fun x=> !cg C[a]! x) C (j) (q)=oq (fun x=> !cg C[a]! x) C (j) (i))∧(an.ownsRow B 51 1 (.slice A n cp) n<|LE bj C)∧(Md (fun q=>(bS A n cp).ownBlock=some q) w an)∧(aC 0= .slice A n cp)∧(aC 1=ak a)∧(aC 9=ak q)∧(aC 10=ak j)∧(j+1 - q=ac)) _ ⟨i,ab,aa,bq,a7,aa,aa,aa,aa,aa⟩ ?_
 rintro ac aC an ⟨q,av,am,J,ai,bU,bV,bX,bW,rfl⟩
 refine fx 0 bU<|fx 1 bV<|fx 9 bX<|fx 10 bW<|aB fun ar=>aB fun ah=> ?_
 have aP:=fP J
 have G:(fun w'=>Wk an w') an.drew:=(Md.refl _ _).drew
 refine bN (fun w'=>Wk an w') aa wide G<|bI 0 aa (ak q) G<|bI 1 aa (ak j) G<|aH 2 aa (fun _ _=>le aa aa) G<|aH 3 aa (fun _ _=>mv) G<|iK (t:=32) aa (fun bz=> ?_) fun bz=> ?_
 refine bm 4 aa (fun _ _=>aV (.slice A n cp) aa) G<|bm 5 aa (fun _ _=>aV (ak a) aa) G<|bm 6 aa (fun _ _=>bc ca aa aa ab<|aO.ok ((ba J).2)<|cy ab) G<|bm 7 aa (fun w' V=>ld dd aa<|dN (i:=a) ((ba J).2.wk V) ab) G<|bm 8 aa (fun _ _=>aV (.slice A n cp) aa) G<|bm 9 aa (fun _ _=>aV (ak q) aa) G<|bm 10 aa (fun _ _=>bc ca aa aa ab<|aO.ok ((ba J).2)<|cy ab) G<|bm 11 aa (fun w' V=>ld dd aa<|dN (i:=q) ((ba J).2.wk V) ab) G<|l7 12 aa aj aa aa aa<|cl l3 (l9 C[a]! C[q]! _) aa fun ci b6 bv=> ?_
 obtain ⟨rfl,a4⟩:=bv
 have al:(fun w'=>Wk an w') b6:=Md.trans G a4
 refine ⟨al,?_⟩
 refine bm 13 aa (fun _ _=>no aa) al<|aH 14 aa (fun _ _=>bC aa) al<|hn aj<|ah<|cb aa (fun aI=> ?_) fun aI=> ?_
 exact aQ<|ar<|aJ<|rg aa<|au (ak q)<|p (bF ((q+1:Nat):Int) aa aa<|bl ab ab)<|p aE<|nl<|bn<|tn<|⟨_,ab,q+1,ab,(by rw [← am,DS (show q≤j by omega) (by simpa using aI)]),(a6 J al),(Md.trans ai<|al.mono fun _ _ h=>h.elim),aa,aa,aa,aa,aa⟩
 exact ext<|bf<|bf<|be<|tn<|⟨q,av,(by rw [← am,tP (.inr<|by simpa using aI)]),(a6 J al),(Md.trans ai<|al.mono fun _ _ h=>h.elim),aa,aa,aa,aa⟩
 exact a8 4 aa G<|a8 5 aa G<|a8 6 aa G<|a8 7 aa G<|a8 8 aa G<|a8 9 aa G<|a8 10 aa G<|a8 11 aa G<|a8 12 aa G<|a8 13 aa G<|aH 14 aa (fun _ _=>bu aa) G<|hn aj<|ah<|cf aa<|ext<|bf<|bf<|be<|tn<|⟨q,av,(by rw [← am,tP (.inl ab)]),(a6 J (Md.refl _ _).drew),ai.drew,aa,aa,aa,aa⟩
 rintro aA aM ⟨E,cc,aT,br,bo,bP,bQ,bT,bR⟩
 refine fx 0 bP<|fx 1 bQ<|fx 9 bT<|fx 10 bR ?_
 refine ep (fun aD ap=> ∃ (U:Nat),(a≤U∧U≤j)∧(oo (fun x=>cg C[a]! x) C (E) (j)=U)∧(ap.ownsRow B 51 1 (.slice A n cp) n<|LE bj C)∧(Md (fun q=>(bS A n cp).ownBlock=some q) w ap)∧(aD 0= .slice A n cp)∧(aD 1=ak a)∧(aD 9=ak E)∧(aD 10=ak U)) ?_ ?_
 refine aJ<|lp (fun ac aF ao=> ∃ (q:Nat),(a≤q∧q≤j)∧(oo (fun x=>cg C[a]! x) C (E) (q)=oo (fun x=>cg C[a]! x) C (E) (j))∧(ao.ownsRow B 51 1 (.slice A n cp) n<|LE bj C)∧(Md (fun q=>(bS A n cp).ownBlock=some q) w ao)∧(aF 0= .slice A n cp)∧(aF 1=ak a)∧(aF 9=ak E)∧(aF 10=ak q)∧(q=ac)) _ ⟨j,ab,aa,br,bo,aa,aa,aa,aa,aa⟩ ?_
 rintro ac aF ao ⟨q,av,am,J,ai,b2,b3,b5,b4,rfl⟩
 refine fx 0 b2<|fx 1 b3<|fx 9 b5<|fx 10 b4<|aB fun ar=>aB fun ah=> ?_
 have aP:=fP J
 have I:(fun w'=>Wk ao w') ao.drew:=(Md.refl _ _).drew
 refine bN (fun w'=>Wk ao w') aa wide I<|bI 0 aa (ak E) I<|bI 1 aa (ak q) I<|aH 2 aa (fun _ _=>le aa aa) I<|aH 3 aa (fun _ _=>mv) I<|iK (t:=49) aa (fun bA=> ?_) fun bA=> ?_
 refine bm 4 aa (fun _ _=>aV (.slice A n cp) aa) I<|bm 5 aa (fun _ _=>aV (ak a) aa) I<|bm 6 aa (fun _ _=>bc ca aa aa ab<|aO.ok ((ba J).2)<|cy ab) I<|bm 7 aa (fun w' V=>ld dd aa<|dN (i:=a) ((ba J).2.wk V) ab) I<|bm 8 aa (fun _ _=>aV (.slice A n cp) aa) I<|bm 9 aa (fun _ _=>aV (ak q) aa) I<|bm 10 aa (fun _ _=>bc ca aa aa ab<|aO.ok ((ba J).2)<|cy ab) I<|bm 11 aa (fun w' V=>ld dd aa<|dN (i:=q) ((ba J).2.wk V) ab) I<|l7 12 aa aj aa aa aa<|cl l3 (l9 C[a]! C[q]! _) aa fun cj b7 bw=> ?_
 obtain ⟨rfl,a5⟩:=bw
 have aq:(fun w'=>Wk ao w') b7:=Md.trans I a5
 refine ⟨aq,?_⟩
 refine aH 13 aa (fun _ _=>bC aa) aq<|hn aj<|ah<|cb aa (fun aK=> ?_) fun aK=> ?_
 exact aQ<|ar<|aJ<|rg aa<|au (ak q)<|p (dR ((q - 1:Nat):Int) aa aa<|bl ab ab)<|p aE<|nl<|bn<|tn<|⟨_,ab,q - 1,ab,(by rw [← am,Bn (show 0 < q by omega) (show E≤q by omega) (by simpa using aK)]),(a6 J aq),(Md.trans ai<|aq.mono fun _ _ h=>h.elim),aa,aa,aa,aa,aa⟩
 exact ext<|bf<|bf<|be<|tn<|⟨q,av,(by rw [← am,s7 (.inr<|by simpa using aK)]),(a6 J aq),(Md.trans ai<|aq.mono fun _ _ h=>h.elim),aa,aa,aa,aa⟩
 exact a8 4 aa I<|a8 5 aa I<|a8 6 aa I<|a8 7 aa I<|a8 8 aa I<|a8 9 aa I<|a8 10 aa I<|a8 11 aa I<|a8 12 aa I<|aH 13 aa (fun _ _=>bu aa) I<|hn aj<|ah<|cf aa<|ext<|bf<|bf<|be<|tn<|⟨q,av,(by rw [← am,s7 (.inl ab)]),(a6 J (Md.refl _ _).drew),ai.drew,aa,aa,aa,aa⟩
 rintro aD ap ⟨U,ce,aR,Z,aN,bY,bZ,b1,b0⟩
 refine fx 0 bY<|fx 1 bZ<|fx 9 b1<|fx 10 b0<|aB fun ar=>ag fun ah=>au (ak E)<|au (ak U)<|p (gt aa aa)<|nl<|ah<|cd aa (fun bx=> ?_) fun bx=> ?_
 refine ext<|bf<|my az<|bf<|be<|a2<|ag fun aG=>au (ak E)<|p (cU (ak E) aa)<|nl<|aG<|rt<|aX aa ?_
 have aU:wz cg d a b Y=(E,C):=by rw [← aS,Ku aT aR,if_pos ab]
 exact ⟨by rw [aU]; rfl,by rw [aU]; exact Z,aN⟩
 refine aQ<|ar<|aB fun aG=> ?_
 have aP:=fP Z
 have O:(fun w'=>Wk ap w') ap.drew:=(Md.refl _ _).drew
 refine eR (fun w'=>Wk ap w') 13 aa wide O<|bE 0 aa (.slice A n cp) O<|bE 1 aa (ak E) O<|bE 2 aa (.slice A n cp) O<|bE 3 aa (ak U) O<|bE 4 aa (.slice A n cp) O<|bE 5 aa (ak U) O<|bB 6 aa (fun _=>bc ca aa aa ab<|aO.ok ((ba Z).2)<|cy ab) (fun _=>O)<|dP 7 aa (fun w' V=>ld dd aa<|dN (i:=U) ((ba Z).2.wk V) ab) O<|bE 8 aa (.slice A n cp) O<|bE 9 aa (ak E) O<|bB 10 aa (fun _=>bc ca aa aa ab<|aO.ok ((ba Z).2)<|cy ab) (fun _=>O)<|dP 11 aa (fun w' V=>ld dd aa<|dN (i:=E) ((ba Z).2.wk V) ab) O<|bB 12 aa (fun _=>bc ca aa aa ab<|aO.ok ((ba Z).2)<|cy ab) (fun _=>O)<|dO 13 aa aj aj<|gB (u:=C[U]!) (E) (a6 Z O) gu aa aa aa ab fun cm bi bH=> ?_
 refine bB 14 aa (fun _=>bc ca aa aa ab<|aO.ok ((ba Z).2)<|cy ab) (fun h=>eo<|(show true =_ from by kernel_rfl).trans h)<|dO 15 aa aj aj<|gB (u:=C[E]!) (U) bH gu aa aa aa ab fun aY bk bJ=> ?_
 have bt:aY.ownsRow B 51 1 (.slice A n cp) n (LE bj<|cX C (E)<|U):=bJ
 have bg:Md (fun q=>(bS A n cp).ownBlock=some q) ap aY:=Md.trans (O.mono fun _ _ h=>h.elim)<|Md.trans bi bk
 refine eQ aj<|aG<|ag fun a3=>au (ak E)<|p (bF ((E+1:Nat):Int) aa aa<|bl ab ab)<|ay<|a3 ?_
 exact rg aa<|au (ak U)<|p (dR ((U - 1:Nat):Int) aa aa<|bl ab ab)<|p aE<|nl<|bn<|tn<|⟨_,ab,E+1,U - 1,cX C E U,ab,(by rw [← aS,Ku aT aR,if_neg ab,if_pos ab]),bt,(Md.trans aN bg),aa,aa,aa,aa,aa⟩
end Go.Hb
end
section
namespace Go.Hb
open Go.Hb.ea
theorem W0 {d:Array Nat} {a b s i i2:Nat} (q:0 < s) (h:uf cg d b i=i2) (h1:i2=b):q6 cg a b s i d=(d,true):=by
 cases s with
 | zero=>omega
 | succ s=>rw [q6]; simp only [h,if_pos h1]
theorem pi_short {d:Array Nat} {a b s i i2:Nat} (q:0 < s) (h:uf cg d b i=i2) (h1:¬i2=b) (h2:b - a < 50):q6 cg a b s i d=(d,false):=by
 cases s with
 | zero=>omega
 | succ s=>rw [q6]; simp only [h,if_neg h1,if_pos h2]
theorem pi_go {d q A:Array Nat} {a b s i i2:Nat} (G:0 < s) (h:uf cg d b i=i2) (h1:¬i2=b) (h2:¬b - a < 50)
 (C:q=if i2 - a≥2 then zK cg (i2 - 1) (cX d i2<|i2 - 1) else cX d i2 (i2 - 1)) (E:A=if b - i2≥2 then Ez cg b (i2+1) q else q):
 q6 cg a b s i d=q6 cg a b (s - 1) i2 A:=by
 cases s with
 | zero=>omega
 | succ s=>rw [q6]; simp only [h,if_neg h1,if_neg h2]; rw [← C,← E]; rfl
theorem W6 (d:Array Nat) (a b:Nat) (B n cp:Nat) (A:Option Addr) (w:World) (b9:w.ownsRow B 51 1 (.slice A n cp) n (LE bj d)) (da:a < b∧b≤n) (df:n≤1099511627776):
 bp aw 288 (bh [.slice A n cp,ak a,ak b]) w (fun v w'=>v= .bool (ue cg d a b).2∧w'.ownsRow B 51 1 (.slice A n cp) n (LE bj (ue cg d a b).1)∧Md (fun q=>(bS A n cp).ownBlock=some q) w w'):=by
 refine enter func288 aa ntmps288 aa<|ag fun bQ=>ay<|bQ<|ag fun bT=>au (ak a)<|p (bF ((a+1:Nat):Int) aa aa<|bl ab ab)<|ay<|bT<|aB fun bU=>ag fun bV=>p aE<|nl<|bV<|aJ<|lp (fun V aI bx=> ∃ (s i:Nat) (G:Array Nat),(a+1≤i∧i≤b∧s≤5)∧(q6 cg a b (5 - s) i G=(ue cg d a b))∧(bx.ownsRow B 51 1 (.slice A n cp) n<|LE bj G)∧(Md (fun q=>(bS A n cp).ownBlock=some q) w bx)∧(aI 0= .slice A n cp)∧(aI 1=ak a)∧(aI 2=ak b)∧(aI 7=ak i)∧(aI 8=ak s)∧(5 - s=V)) _ ⟨0,a+1,d,ab,aa,b9,(Md.refl _ _),aa,aa,aa,aa,aa,aa⟩ ?_
 rintro V aI bx ⟨s,i,G,hi,aG,bG,bz,cC,cD,cE,cF,cG,rfl⟩
 refine fx 0 cC<|fx 1 cD<|fx 2 cE<|fx 7 cF<|fx 8 cG<|aB fun bW=>ag fun bX=>au (ak s)<|p (lt aa aa)<|nl<|bX<|cd aa (fun cm=> ?_) fun cm=> ?_
 refine aQ<|bW<|aB fun aN=>aJ ?_
 refine ep (fun aK aq=> ∃ (i2:Nat),(i≤i2∧i2≤b)∧(uf cg G b i=i2)∧(aq.ownsRow B 51 1 (.slice A n cp) n<|LE bj G)∧(Md (fun q=>(bS A n cp).ownBlock=some q) w aq)∧(aK 0= .slice A n cp)∧(aK 1=ak a)∧(aK 2=ak b)∧(aK 7=ak i2)∧(aK 8=ak s)) ?_ ?_
 refine aJ<|lp (fun V aL ax=> ∃ (q:Nat),(i≤q∧q≤b)∧(uf cg G b q=uf cg G b i)∧(ax.ownsRow B 51 1 (.slice A n cp) n<|LE bj G)∧(Md (fun q=>(bS A n cp).ownBlock=some q) w ax)∧(aL 0= .slice A n cp)∧(aL 1=ak a)∧(aL 2=ak b)∧(aL 7=ak q)∧(aL 8=ak s)∧(b - q=V)) _ ⟨i,ab,aa,bG,bz,aa,aa,aa,aa,aa,aa⟩ ?_
 rintro V aL ax ⟨q,bL,bs,ae,bb,cM,cN,cO,cP,cQ,rfl⟩
 refine fx 0 cM<|fx 1 cN<|fx 2 cO<|fx 7 cP<|fx 8 cQ<|aB fun a7=>aB fun aT=> ?_
 have ct:=fP ae
 have C:(fun w'=>Wk ax w') ax.drew:=(Md.refl _ _).drew
 refine bN (fun w'=>Wk ax w') aa wide C<|bI 0 aa (ak q) C<|bI 1 aa (ak b) C<|aH 2 aa (fun _ _=>lt aa aa) C<|aH 3 aa (fun _ _=>mv) C<|iK (t:=20) aa (fun cu=> ?_) fun cu=> ?_
 refine bm 4 aa (fun _ _=>aV (.slice A n cp) aa) C<|bm 5 aa (fun _ _=>aV (ak q) aa) C<|bm 6 aa (fun _ _=>bc ca aa aa ab<|aO.ok ((ba ae).2)<|cy ab) C<|bm 7 aa (fun w' E=>ld dd aa<|dN (i:=q) ((ba ae).2.wk E) ab) C<|bm 8 aa (fun _ _=>aV (.slice A n cp) aa) C<|bm 9 aa (fun _ _=>aV (ak q) aa) C<|bm 10 aa (fun _ _=>dR ((q - 1:Nat):Int) aa aa<|bl ab ab) C<|bm 11 aa (fun _ _=>bc ca aa aa ab<|aO.ok ((ba ae).2)<|cy ab) C<|bm 12 aa (fun w' E=>ld dd aa<|dN (i:=q - 1) ((ba ae).2.wk E) ab) C<|l7 13 aa aj aa aa aa<|cl l3 (l9 G[q]! G[q - 1]! _) aa fun v30 c9 ci=> ?_
 obtain ⟨rfl,bZ⟩:=ci
 have ap:(fun w'=>Wk ax w') c9:=Md.trans C bZ
 refine ⟨ap,?_⟩
 refine bm 14 aa (fun _ _=>no aa) ap<|aH 15 aa (fun _ _=>bC aa) ap<|hn aj<|aT<|cb aa (fun bk=> ?_) fun bk=> ?_
 exact aQ<|a7<|aJ<|rg aa<|au (ak q)<|p (bF ((q+1:Nat):Int) aa aa<|bl ab ab)<|p aE<|nl<|bn<|tn<|⟨_,ab,q+1,ab,(by rw [← bs,Yu (show q < b by omega) (by simpa using bk)]),(a6 ae ap),(Md.trans bb<|ap.mono fun _ _ h=>h.elim),aa,aa,aa,aa,aa,aa⟩
 exact ext<|bf<|bf<|be<|tn<|⟨q,ab,(by rw [← bs,Ly (.inr<|by simpa using bk)]),(a6 ae ap),(Md.trans bb<|ap.mono fun _ _ h=>h.elim),aa,aa,aa,aa,aa⟩
 exact a8 4 aa C<|a8 5 aa C<|a8 6 aa C<|a8 7 aa C<|a8 8 aa C<|a8 9 aa C<|a8 10 aa C<|a8 11 aa C<|a8 12 aa C<|a8 13 aa C<|a8 14 aa C<|aH 15 aa (fun _ _=>bu aa) C<|hn aj<|aT<|cf aa<|ext<|bf<|bf<|be<|tn<|⟨q,ab,(by rw [← bs,Ly (.inl ab)]),(a6 ae (Md.refl _ _).drew),bb.drew,aa,aa,aa,aa,aa⟩
 rintro aK aq ⟨i2,de,aP,ac,aU,cH,cI,cJ,cK,cL⟩
 refine fx 0 cH<|fx 1 cI<|fx 2 cJ<|fx 7 cK<|fx 8 cL<|aB fun a7=>ag fun aT=>au (ak i2)<|au (ak b)<|p (bK aa aa)<|nl<|aT<|cd aa (fun cn=> ?_) fun cn=> ?_
 refine ag fun aW=>ay<|aW<|rt<|tr<|br<|tr<|tr<|br<|tr<|aX aa ?_
 have al:(ue cg d a b)=(G,true):=by rw [← aG,W0 (show 0 < 5 - s by omega) aP ab]
 exact ⟨by rw [al]; rfl,by rw [al]; exact ac,aU⟩
 have a9:¬i2=b:=ab
 refine aQ<|a7<|aB fun aW=>ag fun bR=>au (ak b)<|au (ak a)<|p (dR ((b - a:Nat):Int) aa aa<|bl ab ab)<|p (lt aa aa)<|nl<|bR<|cd aa (fun co=> ?_) fun co=> ?_
 refine ag fun aY=>ay<|aY<|rt<|tr<|br<|tr<|tr<|br<|tr<|aX aa ?_
 have al:(ue cg d a b)=(G,false):=by rw [← aG,pi_short (show 0 < 5 - s by omega) aP ab ab]
 exact ⟨by rw [al]; rfl,by rw [al]; exact ac,aU⟩
 refine aQ<|aW<|aB fun aY=> ?_
 have ct:=fP ac
 have I:(fun w'=>Wk aq w') aq.drew:=(Md.refl _ _).drew
 refine eR (fun w'=>Wk aq w') 15 aa wide I<|bE 0 aa (.slice A n cp) I<|bE 1 aa (ak i2) I<|bE 2 aa (.slice A n cp) I<|bE 3 aa (ak i2) I<|bB 4 aa (fun _=>dR ((i2 - 1:Nat):Int) aa aa<|bl ab ab) (fun _=>I)<|bE 5 aa (.slice A n cp) I<|bE 6 aa (ak i2) I<|bB 7 aa (fun _=>dR ((i2 - 1:Nat):Int) aa aa<|bl ab ab) (fun _=>I)<|bB 8 aa (fun _=>bc ca aa aa ab<|aO.ok ((ba ac).2)<|cy ab) (fun _=>I)<|dP 9 aa (fun w' E=>ld dd aa<|dN (i:=i2 - 1) ((ba ac).2.wk E) ab) I<|bE 10 aa (.slice A n cp) I<|bE 11 aa (ak i2) I<|bB 12 aa (fun _=>bc ca aa aa ab<|aO.ok ((ba ac).2)<|cy ab) (fun _=>I)<|dP 13 aa (fun w' E=>ld dd aa<|dN (i:=i2) ((ba ac).2.wk E) ab) I<|bB 14 aa (fun _=>bc ca aa aa ab<|aO.ok ((ba ac).2)<|cy ab) (fun _=>I) ?_
 refine dO 15 aa aj aj<|gB (u:=G[i2 - 1]!) (i2) (a6 ac I) gu aa aa aa ab fun di b1 cv=>bB 16 aa (fun _=>bc ca aa aa ab<|aO.ok ((ba ac).2)<|cy ab) (fun h=>eo<|(show true =_ from by kernel_rfl).trans h)<|dO 17 aa aj aj<|gB (u:=G[i2]!) (i2 - 1) cv gu aa aa aa ab fun bM b2 cw=> ?_
 have bJ:bM.ownsRow B 51 1 (.slice A n cp) n (LE bj<|cX G (i2)<|i2 - 1):=cw
 have bA:Md (fun q=>(bS A n cp).ownBlock=some q) aq bM:=Md.trans (I.mono fun _ _ h=>h.elim)<|Md.trans b1 b2
 refine eQ aj<|aY ?_
 refine ep (fun aM bw=> ∃ (am:Array Nat),(am=if i2 - a≥2 then zK cg (i2 - 1) (cX G i2<|i2 - 1) else (cX G i2<|i2 - 1))∧(bw.ownsRow B 51 1 (.slice A n cp) n<|LE bj am)∧(Md (fun q=>(bS A n cp).ownBlock=some q) w bw)∧(aM 0= .slice A n cp)∧(aM 1=ak a)∧(aM 2=ak b)∧(aM 7=ak i2)∧(aM 8=ak s)) ?_ ?_
 refine ag fun aZ=>au (ak i2)<|au (ak a)<|p (dR ((i2 - a:Nat):Int) aa aa<|bl ab ab)<|p (ge aa aa)<|nl<|aZ<|cd aa (fun cq=> ?_) fun cq=> ?_
 refine ag fun a0=>au (ak i2)<|p (dR ((i2 - 1:Nat):Int) aa aa<|bl ab ab)<|ay<|a0<|aJ<|lp (fun V aA ar=> ∃ (q:Nat) (U:Array Nat),(q≤i2 - 1)∧(zK cg q U=zK cg (i2 - 1) (cX G i2<|i2 - 1))∧(ar.ownsRow B 51 1 (.slice A n cp) n<|LE bj U)∧(Md (fun q=>(bS A n cp).ownBlock=some q) w ar)∧(aA 0= .slice A n cp)∧(aA 1=ak a)∧(aA 2=ak b)∧(aA 7=ak i2)∧(aA 8=ak s)∧(aA 9=ak q)∧(q=V)) _ ⟨i2 - 1,(cX G i2<|i2 - 1),ab,aa,bJ,(Md.trans aU bA),aa,aa,aa,aa,aa,aa,aa⟩ ?_
 rintro V aA ar ⟨q,U,bL,bt,ah,bd,cW,cY,cZ,c0,c1,c2,rfl⟩
 refine fx 0 cW<|fx 1 cY<|fx 2 cZ<|fx 7 c0<|fx 8 c1<|fx 9 c2<|aB fun a1=>ag fun a2=>au (ak q)<|p (ge aa aa)<|nl<|a2<|cd aa (fun cr=> ?_) fun cr=> ?_
 refine aQ<|a1<|aB fun a3=>aJ<|aB fun a4=>aB fun a5=> ?_
 have db:=fP ah
 have Y:(fun w'=>Wk ar w') ar.drew:=(Md.refl _ _).drew
 refine bN (fun w'=>Wk ar w') aa wide Y<|bI 0 aa (.slice A n cp) Y<|bI 1 aa (ak q) Y<|aH 2 aa (fun _ _=>bc ca aa aa ab<|aO.ok ((ba ah).2)<|cy ab) Y<|aH 3 aa (fun w' E=>ld dd aa<|dN (i:=q) ((ba ah).2.wk E) ab) Y<|bI 4 aa (.slice A n cp) Y<|bI 5 aa (ak q) Y<|aH 6 aa (fun _ _=>dR ((q - 1:Nat):Int) aa aa<|bl ab ab) Y<|aH 7 aa (fun _ _=>bc ca aa aa ab<|aO.ok ((ba ah).2)<|cy ab) Y<|aH 8 aa (fun w' E=>ld dd aa<|dN (i:=q - 1) ((ba ah).2.wk E) ab) Y<|he 9 aa aj<|cl l3 (l9 U[q]! U[q - 1]! _) aa fun dh aS cj=> ?_
 obtain ⟨rfl,b0⟩:=cj
 have aD:(fun w'=>Wk ar w') aS:=Md.trans Y b0
 refine ⟨aD,?_⟩
 refine aH 10 aa (fun _ _=>no aa) aD<|hn aj<|a5<|cb aa (fun bo=> ?_) fun bo=> ?_
 exact ext<|bf<|my az<|bf<|bf<|be<|tn<|⟨U,(by rw [if_pos ab,← bt,Lc (.inr<|by simpa using bo)]),(a6 ah aD),(Md.trans bd<|aD.mono fun _ _ h=>h.elim),aa,aa,aa,aa,aa⟩
 refine aQ<|a4 ?_
 have an:=a6 ah aD
 have J:(fun w'=>Wk aS w') aS.drew:=(Md.refl _ _).drew
 refine eR (fun w'=>Wk aS w') 15 aa wide J<|bE 0 aa (.slice A n cp) J<|bE 1 aa (ak q) J<|bE 2 aa (.slice A n cp) J<|bE 3 aa (ak q) J<|bB 4 aa (fun _=>dR ((q - 1:Nat):Int) aa aa<|bl ab ab) (fun _=>J)<|bE 5 aa (.slice A n cp) J<|bE 6 aa (ak q) J<|bB 7 aa (fun _=>dR ((q - 1:Nat):Int) aa aa<|bl ab ab) (fun _=>J)<|bB 8 aa (fun _=>bc ca aa aa ab<|aO.ok ((ba an).2)<|cy ab) (fun _=>J)<|dP 9 aa (fun w' E=>ld dd aa<|dN (i:=q - 1) ((ba an).2.wk E) ab) J<|bE 10 aa (.slice A n cp) J<|bE 11 aa (ak q) J<|bB 12 aa (fun _=>bc ca aa aa ab<|aO.ok ((ba an).2)<|cy ab) (fun _=>J)<|dP 13 aa (fun w' E=>ld dd aa<|dN (i:=q) ((ba an).2.wk E) ab) J<|bB 14 aa (fun _=>bc ca aa aa ab<|aO.ok ((ba an).2)<|cy ab) (fun _=>J) ?_
 refine dO 15 aa aj aj<|gB (u:=U[q - 1]!) (q) (a6 an J) gu aa aa aa ab fun dj b4 cx=>bB 16 aa (fun _=>bc ca aa aa ab<|aO.ok ((ba an).2)<|cy ab) (fun h=>eo<|(show true =_ from by kernel_rfl).trans h)<|dO 17 aa aj aj<|gB (u:=U[q]!) (q - 1) cx gu aa aa aa ab fun bO b5 cz=> ?_
 have cc:bO.ownsRow B 51 1 (.slice A n cp) n (LE bj<|cX U (q)<|q - 1):=cz
 have b3:Md (fun q=>(bS A n cp).ownBlock=some q) aS bO:=Md.trans (J.mono fun _ _ h=>h.elim)<|Md.trans b4 b5
 exact eQ aj<|bn<|a3<|rg aa<|au (ak q)<|p (dR ((q - 1:Nat):Int) aa aa<|bl ab ab)<|p aE<|nl<|tn<|⟨_,ab,q - 1,cX U q (q - 1),ab,(by rw [← bt,XZ (show 0 < q by omega) (by simpa using bo)]),cc,(Md.trans bd<|Md.trans (aD.mono fun _ _ h=>h.elim) b3),aa,aa,aa,aa,aa,aa,aa⟩
 exact ext<|bf<|bf<|be<|tn<|⟨U,(by rw [if_pos ab,← bt,Lc (.inl ab)]),ah,bd,aa,aa,aa,aa,aa⟩
 exact aQ<|tn<|⟨(cX G i2<|i2 - 1),(by rw [if_neg ab]),bJ,(Md.trans aU bA),aa,aa,aa,aa,aa⟩
 rintro aM bw ⟨am,bq,bH,bD,cR,cS,cT,cU,cV⟩
 refine fx 0 cR<|fx 1 cS<|fx 2 cT<|fx 7 cU<|fx 8 cV<|ag fun aZ=>au (ak b)<|au (ak i2)<|p (dR ((b - i2:Nat):Int) aa aa<|bl ab ab)<|p (ge aa aa)<|nl<|aZ<|cd aa (fun cs=> ?_) fun cs=> ?_
 refine ag fun a0=>au (ak i2)<|p (bF ((i2+1:Nat):Int) aa aa<|bl ab ab)<|ay<|a0<|aJ<|lp (fun V aC av=> ∃ (q:Nat) (O:Array Nat),(i2+1≤q∧q≤b)∧(Ez cg b q O=Ez cg b (i2+1) am)∧(av.ownsRow B 51 1 (.slice A n cp) n<|LE bj O)∧(Md (fun q=>(bS A n cp).ownBlock=some q) w av)∧(aC 0= .slice A n cp)∧(aC 1=ak a)∧(aC 2=ak b)∧(aC 7=ak i2)∧(aC 8=ak s)∧(aC 10=ak q)∧(b - q=V)) _ ⟨i2+1,am,ab,aa,bH,bD,aa,aa,aa,aa,aa,aa,aa⟩ ?_
 rintro V aC av ⟨q,O,bL,bv,ai,bg,c3,c4,c6,c7,c8,c5,rfl⟩
 refine fx 0 c3<|fx 1 c4<|fx 2 c6<|fx 7 c7<|fx 8 c8<|fx 10 c5<|aB fun a1=>ag fun a2=>au (ak q)<|au (ak b)<|p (lt aa aa)<|nl<|a2<|cd aa (fun ck=> ?_) fun ck=> ?_
 refine aQ<|a1<|aB fun a3=>aJ<|aB fun a4=>aB fun a5=> ?_
 have dc:=fP ai
 have Z:(fun w'=>Wk av w') av.drew:=(Md.refl _ _).drew
 refine bN (fun w'=>Wk av w') aa wide Z<|bI 0 aa (.slice A n cp) Z<|bI 1 aa (ak q) Z<|aH 2 aa (fun _ _=>bc ca aa aa ab<|aO.ok ((ba ai).2)<|cy ab) Z<|aH 3 aa (fun w' E=>ld dd aa<|dN (i:=q) ((ba ai).2.wk E) ab) Z<|bI 4 aa (.slice A n cp) Z<|bI 5 aa (ak q) Z<|aH 6 aa (fun _ _=>dR ((q - 1:Nat):Int) aa aa<|bl ab ab) Z<|aH 7 aa (fun _ _=>bc ca aa aa ab<|aO.ok ((ba ai).2)<|cy ab) Z<|aH 8 aa (fun w' E=>ld dd aa<|dN (i:=q - 1) ((ba ai).2.wk E) ab) Z<|he 9 aa aj<|cl l3 (l9 O[q]! O[q - 1]! _) aa fun dg aR ch=> ?_
 obtain ⟨rfl,bY⟩:=ch
 have aF:(fun w'=>Wk av w') aR:=Md.trans Z bY
 refine ⟨aF,?_⟩
 refine aH 10 aa (fun _ _=>no aa) aF<|hn aj<|a5<|cb aa (fun bi=> ?_) fun bi=> ?_
 exact ext<|bf<|my az<|bf<|bf<|be<|bn<|aN<|rg aa<|au (ak s)<|p (bF ((s+1:Nat):Int) aa aa<|bl ab ab)<|p aE<|nl<|tn<|⟨_,ab,s+1,i2,O,ab,(by rw [← aG,pi_go (show 0 < 5 - s by omega) aP a9 ab bq (show O=_ by rw [if_pos ab,← bv,LJ (.inr<|by simpa using bi)])]; rfl),(a6 ai aF),(Md.trans bg<|aF.mono fun _ _ h=>h.elim),aa,aa,aa,aa,aa,aa⟩
 refine aQ<|a4 ?_
 have ao:=a6 ai aF
 have M:(fun w'=>Wk aR w') aR.drew:=(Md.refl _ _).drew
 refine eR (fun w'=>Wk aR w') 15 aa wide M<|bE 0 aa (.slice A n cp) M<|bE 1 aa (ak q) M<|bE 2 aa (.slice A n cp) M<|bE 3 aa (ak q) M<|bB 4 aa (fun _=>dR ((q - 1:Nat):Int) aa aa<|bl ab ab) (fun _=>M)<|bE 5 aa (.slice A n cp) M<|bE 6 aa (ak q) M<|bB 7 aa (fun _=>dR ((q - 1:Nat):Int) aa aa<|bl ab ab) (fun _=>M)<|bB 8 aa (fun _=>bc ca aa aa ab<|aO.ok ((ba ao).2)<|cy ab) (fun _=>M)<|dP 9 aa (fun w' E=>ld dd aa<|dN (i:=q - 1) ((ba ao).2.wk E) ab) M<|bE 10 aa (.slice A n cp) M<|bE 11 aa (ak q) M<|bB 12 aa (fun _=>bc ca aa aa ab<|aO.ok ((ba ao).2)<|cy ab) (fun _=>M)<|dP 13 aa (fun w' E=>ld dd aa<|dN (i:=q) ((ba ao).2.wk E) ab) M<|bB 14 aa (fun _=>bc ca aa aa ab<|aO.ok ((ba ao).2)<|cy ab) (fun _=>M) ?_
 refine dO 15 aa aj aj<|gB (u:=O[q - 1]!) (q) (a6 ao M) gu aa aa aa ab fun dk b7 cA=>bB 16 aa (fun _=>bc ca aa aa ab<|aO.ok ((ba ao).2)<|cy ab) (fun h=>eo<|(show true =_ from by kernel_rfl).trans h)<|dO 17 aa aj aj<|gB (u:=O[q]!) (q - 1) cA gu aa aa aa ab fun bP b8 cB=> ?_
 have ce:bP.ownsRow B 51 1 (.slice A n cp) n (LE bj<|cX O (q)<|q - 1):=cB
 have b6:Md (fun q=>(bS A n cp).ownBlock=some q) aR bP:=Md.trans (M.mono fun _ _ h=>h.elim)<|Md.trans b7 b8
 exact eQ aj<|bn<|a3<|rg aa<|au (ak q)<|p (bF ((q+1:Nat):Int) aa aa<|bl ab ab)<|p aE<|nl<|tn<|⟨_,ab,q+1,cX O q (q - 1),ab,(by rw [← bv,YJ (show q < b by omega) (by simpa using bi)]),ce,(Md.trans bg<|Md.trans (aF.mono fun _ _ h=>h.elim) b6),aa,aa,aa,aa,aa,aa,aa⟩
 exact ext<|bf<|bf<|be<|bn<|aN<|rg aa<|au (ak s)<|p (bF ((s+1:Nat):Int) aa aa<|bl ab ab)<|p aE<|nl<|tn<|⟨_,ab,s+1,i2,O,ab,(by rw [← aG,pi_go (show 0 < 5 - s by omega) aP a9 ab bq (show O=_ by rw [if_pos ab,← bv,LJ (.inl ab)])]; rfl),ai,bg,aa,aa,aa,aa,aa,aa⟩
 exact aQ<|bn<|aN<|rg aa<|au (ak s)<|p (bF ((s+1:Nat):Int) aa aa<|bl ab ab)<|p aE<|nl<|tn<|⟨_,ab,s+1,i2,am,ab,(by rw [← aG,pi_go (show 0 < 5 - s by omega) aP a9 ab bq (show am=_ by rw [if_neg ab])]; rfl),bH,bD,aa,aa,aa,aa,aa,aa⟩
 refine ext<|bf<|bf<|be<|bU<|ag fun aN=>p aE<|nl<|aN<|rt<|aX aa ?_
 have al:(ue cg d a b)=(G,false):=by rw [← aG,show 5 - s=0 by omega]; rfl
 exact ⟨by rw [al]; rfl,by rw [al]; exact bG,bz⟩
end Go.Hb
end
section
namespace Go.Hb
open Go.Hb.ea
theorem WS (d:Array Nat) (a b A:Nat) (B n cp:Nat) (i:Option Addr) (w:World) (E:w.ownsRow B 51 1 (.slice i n cp) n (LE bj d)) (G:a≤A∧A < b∧b≤n) (I:n≤1099511627776):bp aw 291 (bh [.slice i n cp,.int .i64 (a:Nat),.int .i64 (b:Nat),.int .i64 (A:Nat)]) w
 (fun v w'=> ∃ C ap d4,q7 cg d a b A=(C,ap,d4)∧v= .tuple #[.int .i64 (C:Nat),.bool ap]∧w'.ownsRow B 51 1 (.slice i n cp) n (LE bj d4)∧Md (fun q=>(bS i n cp).ownBlock=some q) w w'):=
 (WR d a b A B n cp i w E G I).mono fun _ _ h=>⟨_,_,_,rfl,h⟩
theorem WU (d:Array Nat) (a b A:Nat) (B n cp:Nat) (i:Option Addr) (w:World) (E:w.ownsRow B 51 1 (.slice i n cp) n (LE bj d)) (G:a≤A∧A < b∧b≤n) (I:n≤1099511627776):bp aw 290 (bh [.slice i n cp,.int .i64 (a:Nat),.int .i64 (b:Nat),.int .i64 (A:Nat)]) w
 (fun v w'=> ∃ C d4,wz cg d a b A=(C,d4)∧v= .int .i64 (C:Nat)∧w'.ownsRow B 51 1 (.slice i n cp) n (LE bj d4)∧Md (fun q=>(bS i n cp).ownBlock=some q) w w'):=
 (WT d a b A B n cp i w E G I).mono fun _ _ h=>⟨_,_,rfl,h⟩
theorem WW (m:Nat) (d:Array Nat) (a b lim:Nat) (B n cp:Nat) (E:Option Addr) (w:World) (bw:w.ownsRow B 51 1 (.slice E n cp) n (LE bj d)) (hm:b - a < m) (dr:a≤b∧b≤n) (cI:n≤255) (dx:lim≤64) (bV:Ev cg a b d):
 bp aw 268 (bh [.slice E n cp,ak a,ak b,ak lim]) w (fun v w'=> ∃ d1,v= .tuple #[]∧om a b d d1∧ud cg a b d1∧w'.ownsRow B 51 1 (.slice E n cp) n (LE bj d1)∧Md (fun q=>(bS E n cp).ownBlock=some q) w w'):=by
 have bH:True:=trivial
 induction m generalizing d a b lim w with
 | zero=>omega
 | succ m bH=>
   have bG:∀ (d:Array Nat) (a b lim:Nat) (w:World),w.ownsRow B 51 1 (.slice E n cp) n (LE bj d)→b - a < m→(a≤b∧b≤n)→lim≤64→Ev cg a b d→_:=fun d a b lim w h1 h2 h3 h4 h5=>bH d a b lim w h1 h2 h3 h4 h5
   have dw:=fP bw
   refine enter func268 aa ntmps268 aa<|ag fun bL=>ay<|bL<|ag fun bP=>p aE<|nl<|bP<|aJ<|lp (fun bo an bk=> ∃ (A C ae:Nat) (wb wp:Bool) (I:Array Nat),(a≤A∧A≤C∧C≤b∧ae≤64)∧(Ev cg A C I)∧(∀ R,om A C I R→ud cg A C R→om a b d R∧ud cg a b R)∧(bk.ownsRow B 51 1 (.slice E n cp) n<|LE bj I)∧(Md (fun q=>(bS E n cp).ownBlock=some q) w bk)∧(an 0= .slice E n cp)∧(an 1=ak A)∧(an 2=ak C)∧(an 3=ak ae)∧(an 8= .bool wb)∧(an 9= .bool wp)∧(C - A=bo)) _ ⟨a,b,lim,true,true,d,ab,bV,(fun R h1 h2=>⟨h1,h2⟩),bw,(Md.refl _ _),aa,aa,aa,aa,aa,aa,aa⟩ ?_
   rintro bo an bk ⟨A,C,ae,wb,wp,I,dA,aT,ao,aA,aK,cK,cL,cM,cN,cO,cP,rfl⟩
   refine fx 0 cK<|fx 1 cL<|fx 2 cM<|fx 3 cN<|fx 8 cO<|fx 9 cP ?_
   have dv:=fP aA
   refine aJ<|ag fun bQ=>au (ak C)<|au (ak A)<|p (dR ((C - A:Nat):Int) aa aa<|bl ab ab)<|p aE<|nl<|bQ<|aB fun bR=>ag fun bT=>p mv<|p (le aa aa)<|nl<|bT ?_
   refine cd aa (fun ct=> ?_) fun ct=> ?_
   refine ag fun aS=>au (.slice E n cp)<|au (ak A)<|au (ak C)<|e<|cl Qd (Vg I A C B n cp E _ aA ab ab) aa fun dD dL ch=> ?_
   obtain ⟨rfl,b4,bY⟩:=ch
   refine nl<|aS<|rt<|tr<|br<|tr<|br<|qw aa ?_
   obtain ⟨h1,h2⟩:=Go.Sort.insertionSort_holds vp I A C ab ab
   obtain ⟨aF,aG⟩:=ao _ (h1)<|h2
   exact ⟨_,aa,aF,aG,b4,Md.trans aK bY⟩
   refine aQ<|bR<|aB fun aS=>ag fun bU=>au (ak ae)<|p (bK aa aa)<|nl<|bU<|cd aa (fun cu=> ?_) fun cu=> ?_
   refine ag fun av=>au (.slice E n cp)<|au (ak A)<|au (ak C)<|e<|cl Qe (UU I A C B n cp E _ aA ab ab) aa fun dE dM ci=> ?_
   obtain ⟨rfl,b5,bZ⟩:=ci
   refine nl<|av<|rt<|tr<|br<|tr<|br<|qw aa ?_
   obtain ⟨h1,h2⟩:=Go.Sort.heapSort_holds vp I A C ab ab
   obtain ⟨aF,aG⟩:=ao _ (h1)<|h2
   exact ⟨_,aa,aF,aG,b5,Md.trans aK bZ⟩
   refine aQ<|aS ?_
   refine ep (fun ah bd=> ∃ (J:Nat) (d1:Array Nat),(J≤64)∧(om A C I d1)∧(bd.ownsRow B 51 1 (.slice E n cp) n<|LE bj d1)∧(Md (fun q=>(bS E n cp).ownBlock=some q) w bd)∧(ah 0= .slice E n cp)∧(ah 1=ak A)∧(ah 2=ak C)∧(ah 3=ak J)∧(ah 8= .bool wb)∧(ah 9= .bool wp)∧(ah 10=ak (C - A))) ?_ ?_
   refine ag fun av=>au (.bool wb)<|p (no aa)<|nl<|av<|cb aa (fun cv=> ?_) fun cv=> ?_
   refine ag fun O=>au (.slice E n cp)<|au (ak A)<|au (ak C)<|e<|cl Qf (OW I A C B n cp E _ aA ab cI) aa fun dF dO cj=> ?_
   obtain ⟨d1,rfl,cJ,b6,b0⟩:=cj
   exact nl<|O<|rg aa<|au (ak ae)<|p (dR ((ae - 1:Nat):Int) aa aa<|bl ab ab)<|p aE<|nl<|tn<|⟨ae - 1,d1,ab,cJ,b6,(Md.trans aK b0),aa,aa,aa,aa,aa,aa,aa⟩
   exact aQ<|tn<|⟨ae,I,ab,(Nl I A C),aA,aK,aa,aa,aa,aa,aa,aa,aa⟩
   rintro ah bd ⟨J,d1,dy,bE,b9,b3,cQ,cR,cT,cU,cV,cW,cS⟩
   refine fx 0 cQ<|fx 1 cR<|fx 2 cT<|fx 3 cU<|fx 8 cV<|fx 9 cW<|fx 10 cS<|ag fun av=>au (.slice E n cp)<|au (ak A)<|au (ak C)<|e<|cl Qg (Q3 d1 A C B n cp E _ b9 ab ab) aa fun v46 dP ck=> ?_
   obtain ⟨aN,dp,rfl,dz,aX,bW⟩:=ck
   have bq:=Md.trans b3<|bW.mono fun _ _ h=>h.elim
   refine p mv<|p (xt aa aa)<|p (xt aa aa)<|p aE<|ay<|av ?_
   refine ep (fun V bg=> ∃ (M:Nat) (a9:Int) (d2:Array Nat),(A≤M∧M < C)∧(om A C I d2)∧(bg.ownsRow B 51 1 (.slice E n cp) n<|LE bj d2)∧(Md (fun q=>(bS E n cp).ownBlock=some q) w bg)∧(V 0= .slice E n cp)∧(V 1=ak A)∧(V 2=ak C)∧(V 3=ak J)∧(V 8= .bool wb)∧(V 9= .bool wp)∧(V 10=ak (C - A))∧(V 11=ak M)∧(V 12= .int .i64 a9)) ?_ ?_
   refine ag fun O=>p mv<|p (bK aa aa)<|nl<|O<|cd aa (fun cw=> ?_) fun cw=> ?_
   refine ag fun ai=>au (.slice E n cp)<|au (ak A)<|au (ak C)<|e<|cl Qh (Xu d1 A C B n cp E _ aX ab ab) aa fun dG dQ cm=> ?_
   obtain ⟨rfl,b7,b1⟩:=cm
   have ds:=fP aX
   exact nl<|ai<|ag fun ar=>au (ak C)<|p (dR ((C - 1:Nat):Int) aa aa<|bl ab ab)<|p mv<|au (ak A)<|p (dR ((aN - A:Nat):Int) aa aa<|bl ab ab)<|p (dR ((C - 1 - (aN - A):Nat):Int) aa aa<|bl ab ab)<|ay<|ar<|rg aa<|p aE<|nl<|tn<|⟨C - 1 - (aN - A),1,Ey d1 A C,ab,(sr _ _ _ A C bE<|Go.Sort.reverseRange_holds d1 A C ab ab),b7,(Md.trans bq b1),aa,aa,aa,aa,aa,aa,aa,aa,aa⟩
   exact aQ<|tn<|⟨aN,dp,d1,ab,bE,aX,bq,aa,aa,aa,aa,aa,aa,aa,aa,aa⟩
   rintro V bg ⟨M,a9,d2,aL,aq,aC,az,cX,cY,c2,c3,c4,c5,cZ,c0,c1⟩
   refine fx 0 cX<|fx 1 cY<|fx 2 c2<|fx 3 c3<|fx 8 c4<|fx 9 c5<|fx 10 cZ<|fx 11 c0<|fx 12 c1 ?_
   refine ep (fun Y am=> ∃ (d3:Array Nat),(om A C I d3)∧(am.ownsRow B 51 1 (.slice E n cp) n<|LE bj d3)∧(Md (fun q=>(bS E n cp).ownBlock=some q) w am)∧(Y 0= .slice E n cp)∧(Y 1=ak A)∧(Y 2=ak C)∧(Y 3=ak J)∧(Y 8= .bool wb)∧(Y 9= .bool wp)∧(Y 10=ak (C - A))∧(Y 11=ak M)) ?_ ?_
   refine ag fun O=>au (.bool wb)<|au (.bool wb)<|gb (t:=62) aa (fun cA=> ?_) fun cA=> ?_
   refine aM aa (aV (.bool wp) aa)<|p (bC aa)<|p mv<|gb (t:=65) aa (fun cB=> ?_) fun cB=> ?_
   refine aM aa (aV (.int .i64 a9) aa)<|aM aa (bK aa aa)<|p (bC aa)<|nl<|O<|cd aa (fun cx=> ?_) fun cx=> ?_
   refine ag fun ai=>au (.slice E n cp)<|au (ak A)<|au (ak C)<|e<|cl Qi (W6 d2 A C B n cp E _ aC ab ab) aa fun v72 dS cn=> ?_
   obtain ⟨rfl,bx,bs⟩:=cn
   have dt:=fP aC
   obtain ⟨bD,cD⟩:=Go.Sort.partialInsertionSort_holds vp d2 A C ab ab<|Ew aT ab aq
   refine nl<|ai<|cb aa (fun bA=> ?_) fun bA=> ?_
   have dn:=cD bA
   refine rt<|tr<|br<|tr<|br<|qw aa ?_
   obtain ⟨aF,aG⟩:=ao _ (sr _ _ _ A C aq bD)<|dn
   exact ⟨_,aa,aF,aG,bx,Md.trans az bs⟩
   exact aQ<|tn<|⟨_,(sr _ _ _ A C aq bD),bx,(Md.trans az bs),aa,aa,aa,aa,aa,aa,aa,aa⟩
   exact aQ<|tn<|⟨d2,aq,aC,az,aa,aa,aa,aa,aa,aa,aa,aa⟩
   exact aI aa<|aI aa<|p (bu aa)<|nl<|O<|cf aa<|aQ<|tn<|⟨d2,aq,aC,az,aa,aa,aa,aa,aa,aa,aa,aa⟩
   exact aI aa<|p (bu aa)<|p mv<|aI aa<|aI aa<|p (bu aa)<|nl<|O<|cf aa<|aQ<|tn<|⟨d2,aq,aC,az,aa,aa,aa,aa,aa,aa,aa,aa⟩
   rintro Y am ⟨d3,aD,ac,aU,c6,c7,da,db,dc,de,c8,c9⟩
   refine fx 0 c6<|fx 1 c7<|fx 2 da<|fx 3 db<|fx 8 dc<|fx 9 de<|fx 10 c8<|fx 11 c9 ?_
   refine ep (fun Z bi=>(bi.ownsRow B 51 1 (.slice E n cp) n<|LE bj d3)∧(Md (fun q=>(bS E n cp).ownBlock=some q) w bi)∧(Z 0= .slice E n cp)∧(Z 1=ak A)∧(Z 2=ak C)∧(Z 3=ak J)∧(Z 8= .bool wb)∧(Z 9= .bool wp)∧(Z 10=ak (C - A))∧(Z 11=ak M)) ?_ ?_
   refine aB fun O=> ?_
   have cz:=fP ac
   have G:(fun w'=>Wk am w') am.drew:=(Md.refl _ _).drew
   refine bN (fun w'=>Wk am w') aa wide G<|bI 0 aa (ak A) G<|aH 1 aa (fun _ _=>gt aa aa) G<|aH 2 aa (fun _ _=>mv) G<|iK (t:=75) aa (fun cC=> ?_) fun cC=> ?_
   refine bm 3 aa (fun _ _=>aV (.slice E n cp) aa) G<|bm 4 aa (fun _ _=>aV (ak A) aa) G<|bm 5 aa (fun _ _=>dR ((A - 1:Nat):Int) aa aa<|bl ab ab) G<|bm 6 aa (fun _ _=>bc ca aa aa ab<|aO.ok ((ba ac).2)<|cy ab) G<|bm 7 aa (fun w' a0=>ld dd aa<|dN (i:=A - 1) ((ba ac).2.wk a0) ab) G<|bm 8 aa (fun _ _=>aV (.slice E n cp) aa) G<|bm 9 aa (fun _ _=>aV (ak M) aa) G<|bm 10 aa (fun _ _=>bc ca aa aa ab<|aO.ok ((ba ac).2)<|cy ab) G<|bm 11 aa (fun w' a0=>ld dd aa<|dN (i:=M) ((ba ac).2.wk a0) ab) G<|l7 12 aa aj aa aa aa<|cl l3 (l9 d3[A - 1]! d3[M]! _) aa fun v85 dq co=> ?_
   obtain ⟨rfl,bX⟩:=co
   have al:(fun w'=>Wk am w') dq:=Md.trans G bX
   refine ⟨al,?_⟩
   refine bm 13 aa (fun _ _=>no aa) al<|aH 14 aa (fun _ _=>bC aa) al<|hn aj<|O<|cb aa (fun bB=> ?_) fun bB=> ?_
   refine ag fun ai=>au (.slice E n cp)<|au (ak A)<|au (ak C)<|au (ak M)<|e<|cl Qj (WU d3 A C M B n cp E _ (a6 ac al) ab ab) aa fun dH dT cq=> ?_
   obtain ⟨U,d4,bb,rfl,b8,b2⟩:=cq
   obtain ⟨bI,cE,cF,a3,a4⟩:=Go.Sort.round_eq vp (Go.Sort.partitionEqual_holds cg) (show 0 < A by omega) aL.1 aL.2 ab (Ew aT ab aD) (by simpa using bB) bb
   exact ay<|ai<|ag fun ar=>p mv<|p aE<|nl<|ar<|ext<|bf<|be<|tn<|⟨_,ab,U,C,J,wb,wp,d4,ab,a3,(fun R h1 h2=>by obtain ⟨h3,h4⟩:=a4 R h1 h2; exact ao R (sr _ _ _ A C aD h3) h4),b8,(Md.trans aU<|Md.trans (al.mono fun _ _ h=>h.elim) b2),aa,aa,aa,aa,aa,aa,aa⟩
   exact aQ<|tn<|⟨(a6 ac al),(Md.trans aU<|al.mono fun _ _ h=>h.elim),aa,aa,aa,aa,aa,aa,aa,aa⟩
   exact a8 3 aa G<|a8 4 aa G<|a8 5 aa G<|a8 6 aa G<|a8 7 aa G<|a8 8 aa G<|a8 9 aa G<|a8 10 aa G<|a8 11 aa G<|a8 12 aa G<|a8 13 aa G<|aH 14 aa (fun _ _=>bu aa) G<|hn aj<|O<|cf aa<|aQ<|tn<|⟨(a6 ac (Md.refl _ _).drew),aU.drew,aa,aa,aa,aa,aa,aa,aa,aa⟩
   rintro Z bi ⟨bz,bv,df,dg,dj,dk,dl,dm,dh,di⟩
   refine fx 0 df<|fx 1 dg<|fx 2 dj<|fx 3 dk<|fx 8 dl<|fx 9 dm<|fx 10 dh<|fx 11 di<|ag fun O=>au (.slice E n cp)<|au (ak A)<|au (ak C)<|au (ak M)<|e<|cl Qk (WS d3 A C M B n cp E _ bz ab ab) aa fun dI bJ cr=> ?_
   obtain ⟨U,ap,d4,bb,rfl,aY,bt⟩:=cr
   have cz:=fP bz
   have du:=fP aY
   obtain ⟨bI,cE,cF,a3,a4,cG,cH⟩:=Go.Sort.round_part vp (Go.Sort.partition_holds cg) aL.1 aL.2 ab (Ew aT ab aD) bb
   refine p mv<|p (xt aa aa)<|p (xt aa aa)<|p aE<|ay<|O<|aB fun ai=>rg aa<|p mv<|ay<|ai<|ag fun ar=>p mv<|au (ak A)<|p (dR ((U - A:Nat):Int) aa aa<|bl ab ab)<|au (ak C)<|p mv<|p (dR ((C - U:Nat):Int) aa aa<|bl ab ab)<|p aE<|p aE<|nl<|ar<|ag fun bM=>au (ak<|C - A)<|p (qQ (((C - A) / 8:Nat):Int) aa aa ab<|bl ab ab)<|ay<|bM ?_
   refine ag fun bO=>p mv<|p mv<|p (lt aa aa)<|nl<|bO<|cd aa (fun cs=> ?_) fun cs=> ?_
   refine ag fun aP=>p mv<|p mv<|p (ge aa aa)<|ay<|aP<|ag fun aR=>au (.slice E n cp)<|au (ak A)<|p mv<|au (ak J)<|e<|cl AR (bG d4 A U J bJ aY ab ab ab a3) aa fun dB dJ cc=> ?_
   obtain ⟨ax,rfl,a5,a7,aZ,aW⟩:=cc
   obtain ⟨a1,a2⟩:=cG ax a5 a7
   exact nl<|aR<|rg aa<|p mv<|p (bF ((U+1:Nat):Int) aa aa<|bl ab ab)<|p aE<|nl<|bn<|tn<|⟨_,ab,U+1,C,J,decide (((U - A:Nat):Int)≥(((C - A) / 8:Nat):Int)),ap,ax,ab,a1,(fun R h1 h2=>by obtain ⟨h3,h4⟩:=a2 R h1 h2; exact ao R (sr _ _ _ A C aD h3) h4),aZ,(Md.trans bv<|Md.trans bt aW),aa,aa,aa,aa,aa,aa,aa⟩
   refine ag fun aP=>p mv<|p mv<|p (ge aa aa)<|ay<|aP<|ag fun aR=>au (.slice E n cp)<|p mv<|p (bF ((U+1:Nat):Int) aa aa<|bl ab ab)<|au (ak C)<|au (ak J)<|e<|cl AR (bG d4 (U+1) C J bJ aY ab ab ab a4) aa fun dC dK ce=> ?_
   obtain ⟨ax,rfl,a5,a7,aZ,aW⟩:=ce
   obtain ⟨a1,a2⟩:=cH ax a5 a7
   exact nl<|aR<|rg aa<|p mv<|p aE<|nl<|bn<|tn<|⟨_,ab,A,U,J,decide (((C - U:Nat):Int)≥(((C - A) / 8:Nat):Int)),ap,ax,ab,a1,(fun R h1 h2=>by obtain ⟨h3,h4⟩:=a2 R h1 h2; exact ao R (sr _ _ _ A C aD h3) h4),aZ,(Md.trans bv<|Md.trans bt aW),aa,aa,aa,aa,aa,aa,aa⟩
theorem Yn (d:Array Nat) (B n cp:Nat) (a:Option Addr) (w:World) (C:w.ownsRow B 51 1 (.slice a n cp) n (LE bj d)) (I:n≤255):
 bp aw 246 (bh [.slice a n cp]) w (fun v w'=> ∃ d1,v= .tuple #[]∧om 0 n d d1∧ud cg 0 n d1∧w'.ownsRow B 51 1 (.slice a n cp) n (LE bj d1)∧Md (fun q=>(bS a n cp).ownBlock=some q) w w'):=by
 refine enter func246 aa ntmps246 aa<|ag fun A=>au (.slice a n cp)<|p (bJ oT aa aa)<|ay<|A<|rg aa<|au (.slice a n cp)<|p mv<|p mv<|p (lM L5 qW aa<|oX ab)<|e<|cl FG (Jy n _ ab) aa fun v9 O G=> ?_
 obtain ⟨rfl,i⟩:=G
 have J:=yG (n:=n) ab
 refine e<|cl AR (WW (n+1) d 0 n (kW n) B n cp a _ (a6 C i) ab ab I ab<|.inl aa) aa fun v10 M E=> ?_
 obtain ⟨d1,rfl,h1,h2,h3,h4⟩:=E
 exact nl<|f0 aa<|⟨d1,aa,h1,h2,h3,Md.trans (i.mono fun _ _ h=>h.elim) h4⟩
end Go.Hb
end
