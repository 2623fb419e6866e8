/-
  Walks and plain laws that the law rests on, laid together. No conditions but those that each theorem names.
-/
import Derived.Test.YtchkamdekbbgeaaGreatDoorMnAnalyseMakes2
set_option linter.unusedVariables false
set_option maxRecDepth 20000
set_option maxHeartbeats 1000000
open Bool renaming noConfusion→dv
open Go.IntKind renaming u64→dO
open Go.Proofs.Tryz renaming prog→ao
open Go.Sort renaming Below→Ck,PermIn→nA,SortedIn→sQ,heapBuild→Jo,heapSort→Jp,insInner→Jq,insertionSort→Jr,partLoop→Cm,partialIns→qd,partialInsertionSort→sR,partition→qe,partitionEqual→uQ,permIn_refl→Js,permIn_trans→rh,reverseRange→Cn,scanDown→nB,scanSorted→sS,scanUp→nC,shiftDown→x7,shiftUp→Co,siftDown→qf,swp→bV
open Go.Sort.Below renaming perm→Cl
open Go.Value renaming bool→bU,oneCell'→eO,pointer→x8,slice→bE,tuple→jY
open Go.World renaming ownsRow→bq
open List renaming drop_drop→yg,drop_eq_nil_of_le→lC,length_append→bK,length_pos_iff→mM,length_singleton→iR,length_take→ee,take_of_length_le→e9,take_zero→ph,toArray→ba
open Nat renaming blt→fP,le_refl→cz,lt_or_ge→jh
open Prod renaming fst→gk
open UInt8 renaming toNat_lt→jH
open Go.Proofs.Tryz
open Go.Proofs

section
namespace Go.Hb
abbrev aj (n:Nat):Value:= .int .i64 (n:Nat)
abbrev aU (b:Nat):Value:= .pointer<|some ⟨b,0,none⟩
variable {P:Program} {N:Fm} {ops:Array Oper} {Q:Exit→(Nat→Value)→World→Prop} {σ:Nat→Value} {w:World} {S:World→Prop} {r fuel:Nat} {aV:Array Bool} {d:Nat} {op:Op} {ty:TypeId} {pos :String} {af:Array Edge} {v:Value}
theorem aH (i:Nat) (hi:ops[i]? =some ⟨some d,op,ty,pos,af,none⟩) (q:∀ w,S w→(execOp (ev N σ) ⟨some d,op,ty,pos,af,none⟩).run P w= .ok (.value v) w) (a:S w) (k:fF P N ops Q S fuel (aV.setIfInBounds i true) (cY σ d v) w) (c:iO N.F ops aV i=true :=by kernel_rfl):fF P N ops Q S (fuel+1) aV σ w:=hp i hi c q a k
theorem ez (i:Nat) (hi:ops[i]? =some ⟨some d,op,ty,pos,af,none⟩) (q:∀ w,S w→(execOp (ev N σ) ⟨some d,op,ty,pos,af,none⟩).run P w= .ok (.value v) w) (a:S w) (k:gF P N ops Q S r fuel (aV.setIfInBounds i true) (cY σ d v) w) (c:Ab N.F ops aV r i=true :=by kernel_rfl):gF P N ops Q S r (fuel+1) aV σ w:=jS i hi c q a k
theorem bG (i:Nat) (hi:ops[i]? =some ⟨some d,op,ty,pos,af,none⟩) (q:∀ w,(execOp (ev N σ) ⟨some d,op,ty,pos,af,none⟩).run P w= .ok (.value v) w) (a:aV.getD r false =false→S w) (k:gF P N ops Q S r fuel (aV.setIfInBounds i true) (cY σ d v) w) (c:wy N.F ops aV r i=true :=by kernel_rfl):gF P N ops Q S r (fuel+1) aV σ w:=cG i hi c q a k
theorem bQ {x:Operand} (i:Nat) (hi:ops[i]? =some ⟨some d,.move x,ty,pos,af,none⟩) (v:Value) (a:S w) (k:fF P N ops Q S fuel (aV.setIfInBounds i true) (cY σ d v) w) (q:ev N σ x=v:=by exact aa) (c:iO N.F ops aV i=true :=by kernel_rfl):fF P N ops Q S (fuel+1) aV σ w:=hp i hi c (fun _ _=>aJ v q) a k
theorem bw {x:Operand} (i:Nat) (hi:ops[i]? =some ⟨some d,.move x,ty,pos,af,none⟩) (v:Value) (a:S w) (k:gF P N ops Q S r fuel (aV.setIfInBounds i true) (cY σ d v) w) (q:ev N σ x=v:=by exact aa) (c:wy N.F ops aV r i=true :=by kernel_rfl):gF P N ops Q S r (fuel+1) aV σ w:=cG i hi c (fun _=>aJ v q) (fun _=>a) k
theorem bl {P:Program} {f:FuncId} {fn:Func} (c:P.funcs[f]? =some fn) (hn:(fn.name== "runtime.NumGoroutine")=false :=by kernel_rfl) (a:fn.body.isNone=false :=by kernel_rfl):bg P f:=MY c hn a
section
variable {rest:List Oper} {x:Operand} {K:(Nat→Value)→World→Prop} {l:List Oper} {id:Nat} {y z:Code} {j t:Nat} {want b:Bool} {fn:Func} {R:Value→World→Prop}
theorem az (h:∀ {K:(Nat→Value)→World→Prop},(∀ {σ w},c6 P N y Q σ w→kY K Q .normal σ w)→c6 P N z (kY K Q) σ w):c6 P N (.seq z y) Q σ w:=sq fun K a=>h fun hw=>a _ _ hw
theorem ak (h:∀ {K:(Nat→Value)→World→Prop},(∀ {σ w},c6 P N y Q σ w→kY K Q .normal σ w)→dR P N l.toArray (kY K Q) l σ w) (c:sn N.r l=true :=by exact aa):c6 P N (.seq (.region id l.toArray false) y) Q σ w:=sq fun K a=>rg c<|h fun hw=>a _ _ hw
theorem ay (h:Q .normal (cY σ d<|ev N σ x) w):dR P N ops Q [⟨some d,.assign x,ty,pos,af,none⟩] σ w:=p aE<|nl h
theorem bh {id:Nat} (h:Q (.exit id) σ w):kY K Q (.exit id) σ w:=h
theorem aT (h:(jx ops j,fP t N.n,σ t,b==want)=(some t,true,.bool b,false)) (k:dR P N ops Q rest (cY σ d undef) w):dR P N ops Q (⟨some d,op,ty,pos,af,some (j,want)⟩::rest) σ w:=sk (congrArg gk h) (congrArg (·.2.1) h) (congrArg (·.2.2.1) h) (congrArg (·.2.2.2) h) k
theorem fN (h:(jx ops j,fP t N.n,σ t)=(some t,true,undef)) (k:dR P N ops Q rest (cY σ d undef) w):dR P N ops Q (⟨some d,op,ty,pos,af,some (j,want)⟩::rest) σ w:=xp (congrArg gk h) (congrArg (·.2.1) h) (congrArg (·.2.2) h) k
theorem aY (h:(jx ops j,fP t N.n,σ t)=(some t,true,.bool want)) (a:(execOp (ev N σ) ⟨some d,op,ty,pos,af,some (j,want)⟩).run P w= .ok (.value v) w) (k:dR P N ops Q rest (cY σ d v) w):dR P N ops Q (⟨some d,op,ty,pos,af,some (j,want)⟩::rest) σ w:=pg (congrArg gk h) (congrArg (·.2.1) h) (congrArg (·.2.2) h) a k
theorem bo (i:Nat) (h:(ops[i]?,jx ops j,fP t N.n,σ t,b==want)=(some ⟨some d,op,ty,pos,af,some (j,want)⟩,some t,true,.bool b,false)) (a:S w) (k:fF P N ops Q S fuel (aV.setIfInBounds i true) (cY σ d undef) w) (c:iO N.F ops aV i=true :=by kernel_rfl):fF P N ops Q S (fuel+1) aV σ w:=nU i (congrArg gk h) c (congrArg (·.2.1) h) (congrArg (·.2.2.1) h) (congrArg (·.2.2.2.1) h) (congrArg (·.2.2.2.2) h) a k
theorem bz (i:Nat) (h:(ops[i]?,jx ops j,fP t N.n,σ t)=(some ⟨some d,op,ty,pos,af,some (j,want)⟩,some t,true,.bool want)) (q:∀ w,S w→(execOp (ev N σ) ⟨some d,op,ty,pos,af,some (j,want)⟩).run P w= .ok (.value v) w) (a:S w) (k:fF P N ops Q S fuel (aV.setIfInBounds i true) (cY σ d v) w) (c:iO N.F ops aV i=true :=by kernel_rfl):fF P N ops Q S (fuel+1) aV σ w:=nT i (congrArg gk h) c (congrArg (·.2.1) h) (congrArg (·.2.2.1) h) (congrArg (·.2.2.2) h) q a k
theorem bc (h:(fn.results,ev N σ (.tmp t))=(#[.tmp t],v)) (a:R v w):fin P fn N R .ret σ w:=f1 (congrArg gk h) (congrArg Prod.snd h) a
theorem au (v:Value) (h:dR P N ops Q rest (cY σ d v) w) (a:ev N σ x=v:=by exact aa):dR P N ops Q (⟨some d,.move x,ty,pos,af,none⟩::rest) σ w:=p (aJ v a) h
end
end Go.Hb
end
namespace Go.Hb.dF
theorem jM:da ao 100=some none:=ag
theorem yE:da ao 102=some (some 13):=ag
theorem th:da ao 103=some none:=ag
theorem KA:da ao 112=some (some 2):=ag
theorem CK:da ao 117=some none:=ag
theorem yF:da ao 129=some none:=ag
theorem CL:da ao 130=some none:=ag
theorem ju:da ao 134=some (some 7):=ag
theorem rD:da ao 156=some none:=ag
theorem ti:da ao 162=some none:=ag
theorem rE:da ao 165=some none:=ag
theorem CM:da ao 172=some none:=ag
theorem vq:da ao 181=some (some 2):=ag
theorem yG:da ao 182=some none:=ag
theorem tj:da ao 192=some (some 5):=ag
theorem lH:da ao 24=some none:=ag
theorem rF:da ao 242=some none:=ag
theorem yH:da ao 261=some none:=ag
theorem mR:da ao 273=some none:=ag
theorem mg:da ao 275=some (some 1):=ag
theorem qs:da ao 287=some none:=ag
theorem pB:da ao 29=some none:=ag
theorem bO:da ao 3=some none:=ag
theorem CN:da ao 307=some none:=ag
theorem j5:da ao 321=some (some 4):=ag
theorem qt:da ao 35=some none:=ag
theorem pC:da ao 4=some none:=ag
theorem kq:da ao 45=some (some 3):=ag
theorem hZ:da ao 49=some (some 5):=ag
theorem yI:da ao 5=some none:=ag
theorem mh:da ao 51=some none:=ag
theorem kM:da ao 53=some (some 2):=ag
theorem vt:da ao 85=some none:=ag
theorem eX:da ao 88=some none:=ag
theorem cH:da ao 9=some none:=ag
theorem CO:da ao 91=some none:=ag
theorem bZ:da ao 95=some none:=ag
theorem CP:da ao 96=some (some 5):=ag
theorem CQ:da ao 97=some none:=ag
theorem qu:da ao 98=some none:=ag
theorem vu:da ao 99=some none:=ag
theorem qv:qw ao 321=some (4,1):=ag
theorem C0:qw ao 337=some (256,1):=ag
theorem tp:qw ao 96=some (5,1):=ag
theorem C1:yJ ao 321=some ([.int .u64 0,.int .u64 0,.int .u64 0,.int .u64 0]):=ag
theorem yO:vB ao 261 5 9=true :=ag
theorem k8:bg ao 10:=bl func10
theorem yQ:bg ao 101:=bl func101
theorem Lw:bg ao 102:=bl func102
theorem Da:bg ao 103:=bl func103
theorem Db:bg ao 104:=bl func104
theorem Lx:bg ao 106:=bl func106
theorem vE:bg ao 107:=bl func107
theorem kr:bg ao 11:=bl func11
theorem Ly:bg ao 113:=bl func113
theorem Lz:bg ao 124:=bl func124
theorem Dc:bg ao 125:=bl func125
theorem LA:bg ao 126:=bl func126
theorem LB:bg ao 127:=bl func127
theorem LC:bg ao 128:=bl func128
theorem LD:bg ao 129:=bl func129
theorem tu:bg ao 130:=bl func130
theorem LF:bg ao 131:=bl func131
theorem LG:bg ao 132:=bl func132
theorem LH:bg ao 133:=bl func133
theorem Dd:bg ao 134:=bl func134
theorem nN:bg ao 135:=bl func135
theorem yR:bg ao 136:=bl func136
theorem vF:bg ao 137:=bl func137
theorem yS:bg ao 138:=bl func138
theorem De:bg ao 139:=bl func139
theorem LI:bg ao 14:=bl func14
theorem Df:bg ao 140:=bl func140
theorem LJ:bg ao 141:=bl func141
theorem LK:bg ao 142:=bl func142
theorem LL:bg ao 143:=bl func143
theorem LM:bg ao 144:=bl func144
theorem Dg:bg ao 145:=bl func145
theorem Dh:bg ao 146:=bl func146
theorem yT:bg ao 147:=bl func147
theorem tv:bg ao 15:=bl func15
theorem Di:bg ao 16:=bl func16
theorem LN:bg ao 161:=bl func161
theorem LO:bg ao 162:=bl func162
theorem LP:bg ao 163:=bl func163
theorem Dj:bg ao 164:=bl func164
theorem LQ:bg ao 165:=bl func165
theorem LR:bg ao 166:=bl func166
theorem LS:bg ao 167:=bl func167
theorem Dk:bg ao 168:=bl func168
theorem Dl:bg ao 177:=bl func177
theorem LU:bg ao 184:=bl func184
theorem LV:bg ao 185:=bl func185
theorem Dm:bg ao 189:=bl func189
theorem LW:bg ao 190:=bl func190
theorem yU:bg ao 191:=bl func191
theorem Dn:bg ao 192:=bl func192
theorem yV:bg ao 193:=bl func193
theorem LX:bg ao 194:=bl func194
theorem yW:bg ao 195:=bl func195
theorem vG:bg ao 196:=bl func196
theorem yX:bg ao 197:=bl func197
theorem Dp:bg ao 198:=bl func198
theorem Dq:bg ao 199:=bl func199
theorem Dr:bg ao 200:=bl func200
theorem LY:bg ao 201:=bl func201
theorem yY:bg ao 202:=bl func202
theorem LZ:bg ao 203:=bl func203
theorem Ds:bg ao 204:=bl func204
theorem Dt:bg ao 205:=bl func205
theorem Du:bg ao 206:=bl func206
theorem L0:bg ao 207:=bl func207
theorem Dv:bg ao 209:=bl func209
theorem L1:bg ao 210:=bl func210
theorem L4:bg ao 215:=bl func215
theorem vH:bg ao 216:=bl func216
theorem yZ:bg ao 217:=bl func217
theorem L5:bg ao 218:=bl func218
theorem y4:bg ao 219:=bl func219
theorem rL:bg ao 22:=bl func22
theorem Dw:bg ao 220:=bl func220
theorem L7:bg ao 221:=bl func221
theorem Dx:bg ao 23:=bl func23
theorem L8:bg ao 232:=bl func232
theorem L9:bg ao 233:=bl func233
theorem Ma:bg ao 234:=bl func234
theorem Dy:bg ao 235:=bl func235
theorem Dz:bg ao 236:=bl func236
theorem Mb:bg ao 237:=bl func237
theorem DA:bg ao 238:=bl func238
theorem Mc:bg ao 239:=bl func239
theorem rM:bg ao 24:=bl func24
theorem Me:bg ao 240:=bl func240
theorem Mf:bg ao 241:=bl func241
theorem Mg:bg ao 242:=bl func242
theorem DB:bg ao 25:=bl func25
theorem Mh:bg ao 257:=bl func257
theorem Mi:bg ao 258:=bl func258
theorem y5:bg ao 259:=bl func259
theorem DC:bg ao 26:=bl func26
theorem DD:bg ao 263:=bl func263
theorem Mj:bg ao 264:=bl func264
theorem y6:bg ao 265:=bl func265
theorem Mk:bg ao 266:=bl func266
theorem y7:bg ao 268:=bl func268
theorem DE:bg ao 275:=bl func275
theorem Ml:bg ao 280:=bl func280
theorem DF:bg ao 281:=bl func281
theorem Mm:bg ao 282:=bl func282
theorem Mn:bg ao 283:=bl func283
theorem Mo:bg ao 284:=bl func284
theorem Mp:bg ao 285:=bl func285
theorem Mq:bg ao 286:=bl func286
theorem Mr:bg ao 287:=bl func287
theorem Ms:bg ao 288:=bl func288
theorem Mt:bg ao 289:=bl func289
theorem k9:bg ao 290:=bl func290
theorem Mu:bg ao 291:=bl func291
theorem Mv:bg ao 292:=bl func292
theorem Mx:bg ao 298:=bl func298
theorem My:bg ao 299:=bl func299
theorem y8:bg ao 30:=bl func30
theorem DG:bg ao 300:=bl func300
theorem y9:bg ao 301:=bl func301
theorem DH:bg ao 302:=bl func302
theorem Mz:bg ao 303:=bl func303
theorem za:bg ao 308:=bl func308
theorem DI:bg ao 31:=bl func31
theorem DJ:bg ao 33:=bl func33
theorem MA:bg ao 39:=bl func39
theorem MB:bg ao 40:=bl func40
theorem tw:bg ao 41:=bl func41
theorem MC:bg ao 42:=bl func42
theorem DK:bg ao 43:=bl func43
theorem rN:bg ao 44:=bl func44
theorem DL:bg ao 45:=bl func45
theorem zb:bg ao 46:=bl func46
theorem DM:bg ao 47:=bl func47
theorem MD:bg ao 48:=bl func48
theorem zc:bg ao 49:=bl func49
theorem DN:bg ao 50:=bl func50
theorem ME:bg ao 52:=bl func52
theorem MF:bg ao 54:=bl func54
theorem MG:bg ao 57:=bl func57
theorem DO:bg ao 58:=bl func58
theorem zd:bg ao 59:=bl func59
theorem MH:bg ao 60:=bl func60
theorem MI:bg ao 61:=bl func61
theorem MJ:bg ao 63:=bl func63
theorem MK:bg ao 64:=bl func64
theorem DP:bg ao 66:=bl func66
theorem DQ:bg ao 70:=bl func70
theorem DR:bg ao 71:=bl func71
theorem ML:bg ao 72:=bl func72
theorem MM:bg ao 73:=bl func73
theorem DS:bg ao 74:=bl func74
theorem gy:bg ao 75:=bl func75
theorem MN:bg ao 76:=bl func76
theorem rO:bg ao 77:=bl func77
theorem MO:bg ao 78:=bl func78
theorem MP:bg ao 79:=bl func79
theorem MQ:bg ao 80:=bl func80
theorem MR:bg ao 81:=bl func81
theorem MS:bg ao 82:=bl func82
theorem MT:bg ao 83:=bl func83
theorem MU:bg ao 84:=bl func84
theorem MV:bg ao 85:=bl func85
theorem ze:bg ao 86:=bl func86
theorem DT:bg ao 87:=bl func87
theorem MW:bg ao 88:=bl func88
theorem vI:bg ao 89:=bl func89
theorem DU:bg ao 90:=bl func90
theorem DV:bg ao 91:=bl func91
theorem MX:bg ao 92:=bl func92
theorem N0:∀ (l:List UInt8) (c:UInt8) (w:World),(callFunc 307 #[str l,.int .u8 c.toNat]).run ao w= .ok (.value<|.int .i64 (l.count c:Nat)) w:=UU func307 ag ag ag ag
theorem OB:∀ v w,(callFunc 267 #[v]).run ao w= .ok (.value v) w:=fun v w=>ag
theorem Eh:eb ao 100=some 1:=ag
theorem zq:eb ao 102=some 13:=ag
theorem Ei:eb ao 103=some 1:=ag
theorem OC:eb ao 112=some 2:=ag
theorem mZ:eb ao 134=some 7:=ag
theorem Ej:eb ao 156=some 1:=ag
theorem OD:eb ao 174=some 2:=ag
theorem Ek:eb ao 181=some 2:=ag
theorem qA:eb ao 192=some 5:=ag
theorem OE:eb ao 242=some 1:=ag
theorem OF:eb ao 261=some 1:=ag
theorem El:eb ao 273=some 1:=ag
theorem pH:eb ao 275=some 1:=ag
theorem vM:eb ao 287=some 1:=ag
theorem Em:eb ao 29=some 1:=ag
theorem jN:eb ao 3=some 1:=ag
theorem OG:eb ao 307=some 1:=ag
theorem oF:eb ao 321=some 4:=ag
theorem OH:eb ao 35=some 1:=ag
theorem En:eb ao 4=some 1:=ag
theorem iV:eb ao 45=some 3:=ag
theorem pI:eb ao 49=some 5:=ag
theorem rR:eb ao 51=some 1:=ag
theorem jv:eb ao 53=some 2:=ag
theorem Eo:eb ao 85=some 1:=ag
theorem zr:eb ao 88=some 1:=ag
theorem oG:eb ao 9=some 1:=ag
theorem fq:eb ao 95=some 1:=ag
theorem OI:eb ao 96=some 5:=ag
theorem Ep:eb ao 97=some 1:=ag
theorem Er:eb ao 98=some 1:=ag
theorem Es:eb ao 99=some 1:=ag
theorem ky:gK ao 100=some 7:=ag
theorem zC:gK ao 103=some 2:=ag
theorem EI:gK ao 108=some 1:=ag
theorem PR:gK ao 113=some 2:=ag
theorem rW:gK ao 156=some 2:=ag
theorem qE:gK ao 261=some 1:=ag
theorem EJ:gK ao 273=some 4:=ag
theorem pL:gK ao 29=some 5:=ag
theorem ec:gK ao 35=some 1:=ag
theorem bJ:gK ao 51=some 1:=ag
theorem oH:gK ao 85=some 1:=ag
theorem zD:gK ao 98=some 1:=ag
theorem PS:gK ao 99=some 5:=ag
theorem zJ:zM ao 102 8=some 12:=ag
theorem rY:cE ao 102 0=some 0:=ag
theorem QA:cE ao 102 1=some 1:=ag
theorem QB:cE ao 102 2=some 2:=ag
theorem wh:cE ao 102 3=some 3:=ag
theorem zV:cE ao 102 4=some 8:=ag
theorem wi:cE ao 102 5=some 9:=ag
theorem oI:cE ao 102 6=some 10:=ag
theorem rZ:cE ao 102 7=some 11:=ag
theorem na:cE ao 102 8=some 12:=ag
theorem tM:cE ao 105 0=some 0:=ag
theorem Fg:cE ao 105 1=some 1:=ag
theorem tN:cE ao 105 2=some 2:=ag
theorem zW:cE ao 105 3=some 15:=ag
theorem QC:cE ao 112 0=some 0:=ag
theorem QD:cE ao 112 1=some 1:=ag
theorem Fh:cE ao 132 0=some 0:=ag
theorem wj:cE ao 132 1=some 1:=ag
theorem zX:cE ao 132 2=some 2:=ag
theorem Fi:cE ao 132 3=some 3:=ag
theorem tO:cE ao 134 0=some 0:=ag
theorem tP:cE ao 134 2=some 2:=ag
theorem pM:cE ao 134 3=some 3:=ag
theorem tQ:cE ao 134 4=some 4:=ag
theorem Fj:cE ao 134 5=some 5:=ag
theorem pN:cE ao 134 6=some 6:=ag
theorem fU:cE ao 164 0=some 0:=ag
theorem Fk:cE ao 164 1=some 13:=ag
theorem gu:cE ao 167 0=some 0:=ag
theorem tR:cE ao 167 1=some 1:=ag
theorem tS:cE ao 167 2=some 2:=ag
theorem QE:cE ao 167 3=some 3:=ag
theorem r4:cE ao 167 4=some 4:=ag
theorem zY:cE ao 167 5=some 5:=ag
theorem zZ:cE ao 167 6=some 6:=ag
theorem Fl:cE ao 174 0=some 0:=ag
theorem Fo:cE ao 174 1=some 1:=ag
theorem wm:cE ao 181 0=some 0:=ag
theorem tT:cE ao 181 1=some 1:=ag
theorem wo:cE ao 184 0=some 0:=ag
theorem z1:cE ao 184 1=some 1:=ag
theorem z6:cE ao 192 0=some 0:=ag
theorem tU:cE ao 192 1=some 1:=ag
theorem Fp:cE ao 192 2=some 2:=ag
theorem Fq:cE ao 192 3=some 3:=ag
theorem wq:cE ao 192 4=some 4:=ag
theorem r5:cE ao 201 0=some 0:=ag
theorem tV:cE ao 201 1=some 1:=ag
theorem z7:cE ao 201 2=some 2:=ag
theorem z8:cE ao 201 3=some 3:=ag
theorem Fs:cE ao 201 4=some 4:=ag
theorem Ft:cE ao 201 5=some 5:=ag
theorem lO:cE ao 275 0=some 0:=ag
theorem Aa:cE ao 309 0=some 0:=ag
theorem wu:cE ao 309 1=some 1:=ag
theorem wv:cE ao 49 0=some 0:=ag
theorem oJ:cE ao 49 1=some 1:=ag
theorem lP:cE ao 49 2=some 2:=ag
theorem lQ:cE ao 49 3=some 3:=ag
theorem nS:cE ao 49 4=some 4:=ag
theorem wx:cE ao 53 0=some 0:=ag
theorem qG:cE ao 53 1=some 1:=ag
theorem Fu:cE ao 57 0=some 0:=ag
theorem Fv:cE ao 57 1=some 1:=ag
theorem Fw:cE ao 57 2=some 2:=ag
theorem Fy:cE ao 57 3=some 3:=ag
theorem RE:(ao.info? 309).isSome=true :=ag
theorem RS:∀ (l:List UInt8) (c:UInt8) (w:World),(callFunc 295 #[str l,.int .u8 c.toNat]).run ao w= .ok (.value<|.int .i64<|ew c l) w:=UW func295 ag ag ag ag
theorem Ar:k5 ao 3 (jQ .i64):=Gc (q:= .i64) ag
theorem gL:k5 ao 9 ik:=R6 ag
theorem qJ:k5 ao 95 (jQ .u16):=Gc (q:= .u16) ag
theorem AH:qL ao 45=true :=ag
theorem Uh:ptrTo ao 342 5=true :=ag
theorem xq:gv ao 100 134 7 88=true :=ag
theorem xr:gv ao 103 53 2 40=true :=ag
theorem Vm:gv ao 113 112 2 32=true :=ag
theorem HN:gv ao 156 181 2 32=true :=ag
theorem qS:gv ao 261 5 1 1=true :=ag
theorem xu:gv ao 273 321 4 32=true :=ag
theorem pW:gv ao 29 49 5 48=true :=ag
theorem kW:gv ao 35 9 1 16=true :=ag
theorem xv:gv ao 51 95 1 2=true :=ag
theorem nq:gv ao 85 3 1 8=true :=ag
theorem xw:gv ao 97 189 2 32=true :=ag
theorem xx:gv ao 98 51 1 24=true :=ag
theorem xy:gv ao 99 192 5 40=true :=ag
theorem Vz:jW ao 105=some ([(0,1),(1,1),(2,13),(15,1)],[.pointer none,.pointer none,.int .i64 0,.string ⟨⟨[]⟩⟩,.string ⟨⟨[]⟩⟩,.int .u16 0,.int .u16 0,.int .u16 0,.int .u16 0,.int .u16 0,.int .i64 0,.slice none 0 0,.slice none 0 0,.slice none 0 0,.slice none 0 0,.slice none 0 0]):=ag
theorem Bq:jW ao 112=some ([(0,1),(1,1)],[.slice none 0 0,.int .i64 0]):=ag
theorem VA:jW ao 132=some ([(0,1),(1,1),(2,1),(3,1)],[.pointer none,.slice none 0 0,.map none,.map none]):=ag
theorem Bs:jW ao 134=some ([(0,1),(1,1),(2,1),(3,1),(4,1),(5,1),(6,1)],[.int .i64 0,.int .u16 0,.bool false,.string ⟨⟨[]⟩⟩,.string ⟨⟨[]⟩⟩,.string ⟨⟨[]⟩⟩,.slice none 0 0]):=ag
theorem VB:jW ao 164=some ([(0,13),(13,1)],[.int .i64 0,.string ⟨⟨[]⟩⟩,.string ⟨⟨[]⟩⟩,.int .u16 0,.int .u16 0,.int .u16 0,.int .u16 0,.int .u16 0,.int .i64 0,.slice none 0 0,.slice none 0 0,.slice none 0 0,.slice none 0 0,.map none]):=ag
theorem VC:jW ao 167=some ([(0,1),(1,1),(2,1),(3,1),(4,1),(5,1),(6,1)],[.pointer none,.slice none 0 0,.int .i64 0,.int .i64 0,.map none,.map none,.slice none 0 0]):=ag
theorem l3:jW ao 174=some ([(0,1),(1,1)],[.int .i64 0,.nilFunc]):=ag
theorem VD:jW ao 181=some ([(0,1),(1,1)],[.int .i64 0,.slice none 0 0]):=ag
theorem VE:jW ao 184=some ([(0,1),(1,1)],[.slice none 0 0,.map none]):=ag
theorem VF:jW ao 189=some ([(0,1),(1,1)],[.string ⟨⟨[]⟩⟩,.string ⟨⟨[]⟩⟩]):=ag
theorem Bt:jW ao 192=some ([(0,1),(1,1),(2,1),(3,1),(4,1)],[.int .u16 0,.int .i64 0,.bool false,.int .i64 0,.int .i64 0]):=ag
theorem VG:jW ao 201=some ([(0,1),(1,1),(2,1),(3,1),(4,1),(5,1)],[.pointer none,.slice none 0 0,.int .i64 0,.string ⟨⟨[]⟩⟩,.slice none 0 0,.nilFunc]):=ag
theorem ux:jW ao 275=some ([(0,1)],[.slice none 0 0]):=ag
theorem sv:jW ao 45=some ([(0,1),(1,1),(2,1)],[.int .i64 0,.int .i64 0,.int .i64 0]):=ag
theorem xz:jW ao 49=some ([(0,1),(1,1),(2,1),(3,1),(4,1)],[.string ⟨⟨[]⟩⟩,.int .i64 0,.int .i64 0,.int .i64 0,.int .i64 0]):=ag
theorem nr:jW ao 53=some ([(0,1),(1,1)],[.string ⟨⟨[]⟩⟩,.slice none 0 0]):=ag
theorem pX:ao.underlying 100=some (.slice 134):=ag
theorem xH:ao.underlying 103=some (.slice 53):=ag
theorem Ib:ao.underlying 108=some (.slice 95):=ag
theorem Wp:ao.underlying 113=some (.slice 112):=ag
theorem Bz:ao.underlying 129=some (.map 3 85):=ag
theorem BA:ao.underlying 130=some (.map 49 3):=ag
theorem Ic:ao.underlying 145=some (.int .u64):=ag
theorem xI:ao.underlying 156=some (.slice 181):=ag
theorem qU:ao.underlying 162=some (.map 95 3):=ag
theorem pY:ao.underlying 165=some (.map 9 3):=ag
theorem lx:ao.underlying 169=some (.map 9 174):=ag
theorem BB:ao.underlying 182=some (.map 9 85):=ag
theorem sB:ao.underlying 24=some (.pointer 105):=ag
theorem pZ:ao.underlying 261=some (.slice 5):=ag
theorem p5:ao.underlying 273=some (.slice 321):=ag
theorem Wq:ao.underlying 287=some (.int .u64):=ag
theorem l6:ao.underlying 29=some (.slice 49):=ag
theorem u3:ao.underlying 3=some (.int .i64):=ag
theorem If:ao.underlying 307=some (.pointer 309):=ag
theorem iQ:ao.underlying 35=some (.slice 9):=ag
theorem u4:ao.underlying 4=some (.bool):=ag
theorem u5:ao.underlying 5=some (.int .u8):=ag
theorem n4:ao.underlying 51=some (.slice 95):=ag
theorem oQ:ao.underlying 85=some (.slice 3):=ag
theorem uA:ao.underlying 88=some (.pointer 164):=ag
theorem u9:ao.underlying 9=some (.string):=ag
theorem BG:ao.underlying 91=some (.pointer 184):=ag
theorem xJ:ao.underlying 95=some (.int .u16):=ag
theorem Wu:ao.underlying 97=some (.slice 189):=ag
theorem xK:ao.underlying 98=some (.slice 51):=ag
theorem Ii:ao.underlying 99=some (.slice 192):=ag
theorem Ik:uB ao 307 364 309 2=true :=ag
theorem WA:(ao.underlying 145).isSome=true :=ag
theorem WB:(ao.underlying 242).isSome=true :=ag
theorem sE:(ao.underlying 3).isSome=true :=ag
theorem uC:(ao.underlying 5).isSome=true :=ag
theorem wide:ao.follows .mixedOrders=true :=ag
theorem IM:zeroOf ao 102=some (some [.int .i64 0,.string ⟨⟨[]⟩⟩,.string ⟨⟨[]⟩⟩,.int .u16 0,.int .u16 0,.int .u16 0,.int .u16 0,.int .u16 0,.int .i64 0,.slice none 0 0,.slice none 0 0,.slice none 0 0,.slice none 0 0]):=ag
theorem Xg:zeroOf ao 112=some (some [.slice none 0 0,.int .i64 0]):=ag
theorem oW:zeroOf ao 134=some (some [.int .i64 0,.int .u16 0,.bool false,.string ⟨⟨[]⟩⟩,.string ⟨⟨[]⟩⟩,.string ⟨⟨[]⟩⟩,.slice none 0 0]):=ag
theorem Xh:zeroOf ao 156=some (some [.slice none 0 0]):=ag
theorem Xi:zeroOf ao 174=some (some [.int .i64 0,.nilFunc]):=ag
theorem IN:zeroOf ao 181=some (some [.int .i64 0,.slice none 0 0]):=ag
theorem sJ:zeroOf ao 192=some (some [.int .u16 0,.int .i64 0,.bool false,.int .i64 0,.int .i64 0]):=ag
theorem xR:zeroOf ao 275=some (some [.slice none 0 0]):=ag
theorem Xj:zeroOf ao 287=some (some [.int .u64 0]):=ag
theorem IP:zeroOf ao 29=some (some [.slice none 0 0]):=ag
theorem Xk:zeroOf ao 3=some (some [.int .i64 0]):=ag
theorem IQ:zeroOf ao 309=some (some [.pointer none,.slice none 0 0]):=ag
theorem qW:zeroOf ao 321=some (some [.int .u64 0,.int .u64 0,.int .u64 0,.int .u64 0]):=ag
theorem Xl:zeroOf ao 35=some (some [.slice none 0 0]):=ag
theorem oc:zeroOf ao 45=some (some [.int .i64 0,.int .i64 0,.int .i64 0]):=ag
theorem p6:zeroOf ao 49=some (some [.string ⟨⟨[]⟩⟩,.int .i64 0,.int .i64 0,.int .i64 0,.int .i64 0]):=ag
theorem oX:zeroOf ao 53=some (some [.string ⟨⟨[]⟩⟩,.slice none 0 0]):=ag
theorem Xm:zeroOf ao 88=some (some [.pointer none]):=ag
theorem Xn:zeroOf ao 9=some (some [.string ⟨⟨[]⟩⟩]):=ag
theorem Xo:zeroOf ao 96=some (some [.int .u16 0,.int .u16 0,.int .u16 0,.int .u16 0,.int .u16 0]):=ag
theorem Xp:zeroOf ao 337=some (some<|List.replicate 256<|.bool false):=ag
theorem Xq:zeroV ao 174=some (.agg #[.int .i64 0,.nilFunc]):=ag
theorem mH:zeroV ao 3=some (.int .i64 0):=ag
theorem Xr:zeroV ao 45=some (.agg #[.int .i64 0,.int .i64 0,.int .i64 0]):=ag
theorem Xs:zeroV ao 5=some (.int .u8 0):=ag
theorem xS:zeroV ao 85=some (.slice none 0 0):=ag
theorem Xt:zeroV ao 95=some (.int .u16 0):=ag
end Go.Hb.dF
section
namespace Go.Hb
open Go.Hb.dF
theorem Oe (b:Nat) (c:Option Addr) (A:Value) (w:World) (a:w.heap[b]? =some (.cells [x8 c,A].toArray 309 (0,0))) (hp:c=none∨c=some ⟨b,0,none⟩):
 bf ao 240 (ba [aU b]) w (fun v w'=>v= .tuple #[]∧w'.heap[b]? =some (.cells [x8 (some ⟨b,0,none⟩),A].toArray 309 (0,0))∧Md (fun k=>k=b) w w'):=by
 refine enter func240 aa ntmps240 aa<|ak fun C=>au (aU b)<|p (nc aa)<|p (fa Aa aa)<|p (ld CN aa<|(a7 a).trans aa)<|p (lN If aa aa)<|nl<|C<|cb aa (fun q=> ?_) fun q=> ?_
 obtain rfl :c=none:=by simpa using q
 exact rg aa<|au (aU b)<|au (aU b)<|p (Wd Ik aa a aa)<|p (NV OB aa)<|p (QM Ik aa a aa)<|p (nc aa)<|p (fa Aa aa)<|e<|dy OG aa aa aa a (by simp) fun J I G=>nl<|f0 aa<|⟨aa,G,I⟩
 obtain rfl :c=some ⟨b,0,none⟩:=hp.resolve_left<|by rintro rfl; simp at q
 exact ak fun E=>au (aU b)<|p (nc aa)<|p (fa Aa aa)<|p (ld CN aa<|(a7 a).trans aa)<|au (aU b)<|p (Te If RE aa aa)<|nl<|E<|cf aa<|aR<|f0 aa<|⟨aa,a,Md.refl _ _⟩
theorem IH (b:Nat) (q:Value) (l:List UInt8) (c:UInt8) (w:World) (al:Bd 309 5 w b q l) (aC:l.length≤70368744177664):
 bf ao 204 (ba [aU b,.int .u8 c.toNat]) w (fun v w'=>v= .nilIface∧∃ G,Bd 309 5 w' b G (l++ [c])∧Md (BF b q) w w'∧∀ k,BF b G k→BF b q k∨w.heap.size≤k):=by
 obtain ⟨⟨ax,O,av⟩,hown,hnil⟩:=al
 have aD:b < w.heap.size:=(Array.getElem?_eq_some_iff.1 O).1
 have V:∀ k,q.ownBlock=some k→k≠b∧k < w.heap.size:=fun k hk=>by have :=hown.lt k hk; exact ⟨ab,this.2⟩
 refine enter func204 aa ntmps204 aa<|ak fun Z=>ay<|Z<|ak fun ac=>au (aU b)<|e<|cl Me (Oe b ax q w O av) aa fun v6 aK aj=> ?_
 obtain ⟨_,M,C⟩:=aj
 have aq:=cx hown C fun k hk=>(V k hk).1
 have aF:=C.size
 refine nl<|ac<|ak fun ad=>au (aU b)<|au (aU b)<|p (nc aa)<|p (fa wu aa)<|p (ld yH aa<|(a7 M).trans aa)<|au (.int .u8 c.toNat)<|e<|lK qS aa aa fun az aH aA A ah=>e<|ap qS (a8 aq A.md) aa (by have :=A.size; omega) aa (aG.fV ah) (aa) (aa) ab ab fun Y aI E I aw an=> ?_
 have am:=I.aB (Wk.aB A.md M) fun h=>(V b h).1 rfl
 refine p (nc aa)<|p (fa wu aa)<|e<|dy OF aa aa (by obtain ⟨a,c,h,_⟩:=sr E; exact congrArg eO h) am (by simp) fun aJ J ai=>nl<|ad<|ak fun ae=>p aE<|nl<|ae<|rt<|bc aa ?_
 have ag:∀ k,Y.ownBlock=some k→k≠b:=fun k hk=>by have :=E.lt k hk; omega
 refine ⟨aa,Y,⟨⟨_,ai,.inr aa⟩,?_,?_⟩,?_,?_⟩
 rw [bK,vm]; exact cx E J fun k hk=>ag k hk
 rw [aw]; simp
 refine Md.trans' (Md.trans' (Md.trans' (C.mono fun k _ h=> .inl h) A.md fun _ _ h=>h.elim) I fun k _ h=> .inr h) J fun k _ h=> .inl h
 rintro k (rfl | hk)
 exact .inl<|.inl aa
 by_cases h:q.ownBlock=some k
 exact .inl<|.inr h
 have :=an k hk; have h1:=C.size; have h2:=A.md.size; exact .inr<|by rcases this with h3 | h3; exact absurd h3 h; omega
theorem Bw (b:Nat) (E:Value) (l:List UInt8) (w:World) (O:Bd 309 5 w b E l) (ac:l.length≤70368744177664):
 bf ao 202 (ba [aU b]) w (fun v w'=>v=str l∧Md (fun k=>E.ownBlock=some k) w w'):=by
 obtain ⟨⟨ah,G,ad⟩,hown,hnil⟩:=O
 obtain ⟨a,c,rfl,Y,hle,hk,Z⟩:=sr hown
 refine enter func202 aa ntmps202 aa<|ak fun I=>ay<|I<|az fun J=> ?_
 have q:(fun w'=>Md (fun k=>(bE a l.length c).ownBlock=some k) w w') w.drew:=(Md.refl _ _).drew
 refine bT (fun w'=>Md (fun k=>(bE a l.length c).ownBlock=some k) w w') aa wide q<|bQ 0 aa (aU b) q<|aH 1 aa (fun _ _=>nc aa) q<|aH 2 aa (fun _ _=>fa wu aa) q<|aH 3 aa (fun w' A=>ld yH aa<|A.aM ((a7 G).trans aa) fun h=>by have :=hown.lt _ h; omega) q<|bQ 5 aa (aU b) q<|aH 6 aa (fun _ _=>nc aa) q<|aH 7 aa (fun _ _=>fa wu aa) q<|aH 8 aa (fun w' A=>ld yH aa<|A.aM ((a7 G).trans aa) fun h=>by have :=hown.lt _ h; omega) q<|aH 9 aa (fun _ _=>bP pZ aa aa) q ?_
 refine aH 4 aa (fun _ _=>WC (v:= .nilFunc) aa (by
  by_cases h:l= []
  have :=hnil.2 h; simp only [Value.slice.injEq] at this; exact .inl this.1
  right; have :0 < l.length:=mM.2 h; omega)) q ?_
 refine he 10 aa ag<|WD Uh aa aa hown aa ab fun V M ae=> ?_
 have C:(fun w'=>Md (fun k=>(bE a l.length c).ownBlock=some k) w w') V:=q.trans' M fun _ _ h=>h
 refine ⟨C,?_⟩
 exact aH 11 aa (fun _ _=>aE) C<|hn ag<|J<|rt<|bc aa<|⟨aa,C⟩
end Go.Hb
end
section
namespace Go.Hb
open Go.Hb.dF
theorem mq (b:UInt8):qF b=decide ((b.toNat:Int)=92∨(b.toNat:Int)=47∨(b.toNat:Int)=35):=by
 unfold qF; exact decide_eq_decide.2 ab
theorem E1 (b:UInt8):iM b=decide (32 < (b.toNat:Int)∧(b.toNat:Int)≠127):=by
 unfold iM; exact decide_eq_decide.2 ab
theorem Qa {b:UInt8} (h:¬(32 < (b.toNat:Int)∧(b.toNat:Int)≠127)):iM b=false :=by rw [E1]; exact decide_eq_false h
theorem E2 (b:UInt8) (w:World):
 bf ao 205 (ba [.int .u8 b.toNat]) w (fun v w'=>v= .bool (iM b)∧Wk w w'):=by
 refine enter func205 aa ntmps205 aa<|ak fun c=>ay<|c<|ak fun a=>au (.int .u8 b.toNat)<|p (gt aa aa)<|p mv<|gs (t:=5) aa (fun q=> ?_) fun q=> ?_
 exact aY aa (aJ (.int .u8 b.toNat) aa)<|aY aa (gE aa aa)<|p (bR aa)<|ay<|a<|rt<|bc aa<|⟨by show bU (decide _)=_; rw [E1]; exact bv (by constructor <;> intro h <;> first | exact ⟨ab,h⟩ | exact h.2),Md.refl _ _⟩
 exact aT aa<|aT aa<|p (bI aa)<|ay<|a<|rt<|bc aa<|⟨by show bU false =_; rw [Qa ab],Md.refl _ _⟩
theorem SN (b:UInt8) (w:World):
 bf ao 203 (ba [.int .u8 b.toNat]) w (fun v w'=>v= .bool (qF b)∧Wk w w'):=by
 refine enter func203 aa ntmps203 aa<|ak fun E=>ay<|E<|az fun A=>ak fun G=>au (.int .u8 b.toNat)<|nl<|G<|aB<|az fun C=>ak fun I=>p (cw aa aa)<|ay<|I<|cd aa (fun a=> ?_) fun a=> ?_
 refine aR<|C<|cd aa (fun a=> ?_) fun a=> ?_
 refine ak fun q=>ay<|q<|rt<|br<|tr<|bc aa ?_
 first | exact ⟨by show bU true =_; rw [mq,decide_eq_true ab],Md.refl _ _⟩ | exact ⟨by show bU false =_; rw [mq,decide_eq_false ab],Md.refl _ _⟩
 refine aR<|bn<|A<|ak fun q=>ay<|q<|rt<|bc aa ?_
 first | exact ⟨by show bU true =_; rw [mq,decide_eq_true ab],Md.refl _ _⟩ | exact ⟨by show bU false =_; rw [mq,decide_eq_false ab],Md.refl _ _⟩
 refine ak fun q=>p (cw aa aa)<|ay<|q<|cd aa (fun a=> ?_) fun a=> ?_
 refine aR<|C<|cd aa (fun a=> ?_) fun a=> ?_
 refine ak fun c=>ay<|c<|rt<|br<|tr<|bc aa ?_
 first | exact ⟨by show bU true =_; rw [mq,decide_eq_true ab],Md.refl _ _⟩ | exact ⟨by show bU false =_; rw [mq,decide_eq_false ab],Md.refl _ _⟩
 refine aR<|bn<|A<|ak fun c=>ay<|c<|rt<|bc aa ?_
 first | exact ⟨by show bU true =_; rw [mq,decide_eq_true ab],Md.refl _ _⟩ | exact ⟨by show bU false =_; rw [mq,decide_eq_false ab],Md.refl _ _⟩
 refine rg aa<|p (cw aa aa)<|ay<|C<|cd aa (fun a=> ?_) fun a=> ?_
 refine ak fun c=>ay<|c<|rt<|br<|tr<|bc aa ?_
 first | exact ⟨by show bU true =_; rw [mq,decide_eq_true ab],Md.refl _ _⟩ | exact ⟨by show bU false =_; rw [mq,decide_eq_false ab],Md.refl _ _⟩
 refine aR<|bn<|A<|ak fun c=>ay<|c<|rt<|bc aa ?_
 first | exact ⟨by show bU true =_; rw [mq,decide_eq_true ab],Md.refl _ _⟩ | exact ⟨by show bU false =_; rw [mq,decide_eq_false ab],Md.refl _ _⟩
theorem It (s:List UInt8) (w:World) (hs:s.length≤1048576):
 bf ao 139 (ba [str s]) w (fun v w'=>v= .bool (oS s)∧Wk w w'):=by
 refine enter func139 aa ntmps139 aa<|ak fun Y=>ay<|Y<|az fun ae=>ak fun I=>au (str s)<|p (jP aa aa)<|p mv<|gs (t:=6) aa (fun E=> ?_) fun E=> ?_
 exact aT aa<|aT aa<|aT aa<|p (bR aa)<|nl<|I<|ct aa<|az fun a=>rg aa<|ay<|a<|rt<|tr<|bc aa<|⟨by show bU false =_; unfold oS; rw [decide_eq_false (by rw [E]; simp)],Md.refl _ _⟩
 refine aY aa (aJ (str s) aa)<|aY aa (dB u9 aa aa)<|aY aa (gt aa aa)<|p (bI aa)<|nl<|I<|cd aa (fun am=> ?_) fun am=> ?_
 exact ak fun a=>ay<|a<|rt<|tr<|bc aa<|⟨by show bU false =_; unfold oS; rw [decide_eq_false ab],Md.refl _ _⟩
 refine aR<|ae<|az fun a=>ak fun ag=>au (str s)<|p (dB u9 aa aa)<|p mv<|nl<|ag<|aB<|lp (fun J c V=> ∃ (i:Nat),(i≤s.length∧1≤s.length∧s.length≤64)∧(∀ j,j < i→iM (s.getD j 0)=true)∧(Wk w V)∧(c 0=str s)∧(c 12= .int .i64 s.length)∧(c 13= .int .i64 i)∧(s.length - i=J)) _ ⟨0,(⟨ab,by rcases Nat.eq_zero_or_pos s.length with h | h <;> first | exact absurd (List.length_eq_zero_iff.1 h) E | exact h,ab⟩),(fun j O=>by omega),(Md.refl _ _),aa,aa,aa,aa⟩ ?_
 rintro J c V ⟨i,hi,hp,A,ap,aq,av,rfl⟩
 refine fx 0 ap<|fx 12 aq<|fx 13 av<|ak fun ah=>p (lt aa aa)<|nl<|ah<|az fun ai=>cd aa (fun an=> ?_) fun an=> ?_
 refine aR<|ai<|az fun q=>aB<|ak fun aj=>au (.int .i64 i)<|p (cj (.int .i64 i) aa)<|nl<|aj<|ak fun Z=>au (str s)<|au (.int .i64 i)<|p (j8 u9 aa aa ab)<|e<|cl Dt (E2 (s.getD i 0) _) aa fun aw ax al=> ?_
 obtain ⟨rfl,M⟩:=al
 refine p (no aa)<|nl<|Z<|cb aa (fun C=> ?_) fun C=> ?_
 have G:iM (s.getD i 0)=false :=by simpa using C
 exact ak fun ac=>ay<|ac<|rt<|br<|tr<|tr<|br<|tr<|bc aa<|⟨by show bU false =_; unfold oS; rw [vC (i:=i) ab G,decide_eq_false (by simp)],Md.trans A M⟩
 have G:iM (s.getD i 0)=true :=by simpa using C
 exact aR<|bn<|q<|rg aa<|p (ad aa aa<|cC ab)<|p mv<|nl<|tn<|⟨_,ab,i+1,ab,(fun j O=>by rcases jh j i with h | h <;> first | exact hp j h | (rw [show j=i by omega]; exact G)),(Md.trans A M),aa,aa,aa,aa⟩
 exact ext<|bh<|bh<|be<|a<|ak fun q=>p aE<|nl<|q<|rt<|bc aa<|⟨by show bU true =_; unfold oS; rw [vD (fun j O=>hp j ab),decide_eq_true ⟨hi.2.1,hi.2.2,aa⟩],A⟩
theorem BQ (s:List UInt8) (w:World) (hs:s.length≤1048576):
 bf ao 138 (ba [str s]) w (fun v w'=>v=Ul (bF s)∧Wk w w'):=by
 refine enter func138 aa ntmps138 aa<|ak fun an=>p aE<|p aE<|p aE<|ay<|an<|ak fun aA=>e<|gn IQ fun a bs bg aS aL=>nl<|aA<|az fun aC=>ak fun aD=>ay<|aD<|aB<|lp (fun al I G=> ∃ (i:Nat) (acc:List UInt8) (c:Value),(i≤s.length∧acc.length≤i)∧(Bd 309 5 G a c acc)∧(Wk w G)∧(jd acc (s.drop i)=bF s)∧(I 0=str s)∧(I 6=aU a)∧(I 7= .int .i64 i)∧(s.length - i=al)) _ ⟨0,[],.slice none 0 0,(by simp),(Bd.new aL),aS.md,aa,aa,aa,aa,aa⟩ ?_
 rintro al I G ⟨i,acc,c,hi,q,A,hd,a6,a7,a8,rfl⟩
 refine fx 0 a6<|fx 6 a7<|fx 7 a8<|az fun aF=>ak fun aG=>au (.int .i64 i)<|au (str s)<|p (dB u9 aa aa)<|p (lt aa aa)<|nl<|aG<|cd aa (fun a1=> ?_) fun a1=> ?_
 refine aR<|aF<|az fun V=>aB<|ak fun aI=>au (str s)<|au (.int .i64 i)<|p (j8 u9 aa aa ab)<|nl<|aI<|aB ?_
 refine e6 (fun J ah=> ∃ (k:Nat),(k < s.length∧i≤k∧k≤i+1)∧(Bd 309 5 ah a c acc)∧(Wk w ah)∧(jd (acc++ [s.getD k 0]) (s.drop<|k+1)=bF s)∧(J 0=str s)∧(J 6=aU a)∧(J 7= .int .i64 k)) ?_ ?_
 refine aB<|az fun Y=>aB<|az fun ap=>aB<|az fun aq=>az fun av=>az fun ax=>rg aa<|p (cw aa aa)<|ay<|ax<|cd aa (fun a2=> ?_) fun a2=> ?_
 have a0:(s.getD i 0).toNat=47:=ab
 refine ext<|bh<|bh<|be<|ap<|az fun ai=>az fun M=> ?_
 have C:(fun w'=>True) G.drew:=trivial
 refine bT (fun w'=>True) aa wide C<|bQ 1 aa (str s) C<|bQ 2 aa (.int .i64 i) C<|aH 3 aa (fun _ _=>bL ((i+1:Nat):Int) aa aa<|bm ab ab) C<|aH 4 aa (fun _ _=>oP u9 aa aa ab) C<|he 0 aa ag<|cl yY (Bw a c acc _ (q.md (Md.refl (fun _=>False) _).drew fun _ _ h=>h) ab) aa fun v21 bd aV=> ?_
 obtain ⟨rfl,aO⟩:=aV
 have E:(fun w'=>True) bd:=trivial
 refine ⟨E,?_⟩
 refine aH 5 aa (fun _ _=>aE) E<|aH 6 aa (fun _ _=>aE) E<|aH 7 aa (fun _ _=>aE) E<|aH 8 aa (fun _ _=>aE) E<|hn ag<|M<|rt<|tr<|br<|tr<|br<|tr<|br<|br<|tr<|tr<|br<|tr<|f4 aa aa aa aa aa ?_
 skip
 exact ⟨by rw [← hd,drop_cons 0 (by omega :i < s.length),IG a0]; rfl,q.Bu A (Md.trans (Md.refl _ _).drew aO) ab⟩
 refine aR<|av<|ak fun ai=>p (cw aa aa)<|ay<|ai<|cd aa (fun a3=> ?_) fun a3=> ?_
 have ac:(s.getD i 0).toNat=92:=ab
 refine ext<|bh<|mj aw<|bh<|be<|Y<|ak fun M=>au (.int .i64 i)<|p (bL ((i+1:Nat):Int) aa aa<|bm ab ab)<|ay<|M<|ak fun aj=>p mv<|au (str s)<|p (dB u9 aa aa)<|p (cw aa aa)<|p mv<|gs (t:=32) aa (fun a5=> ?_) fun a5=> ?_
 refine aT aa<|aT aa<|aT aa<|aT aa<|aT aa<|p (bR aa)<|nl<|aj<|ct aa<|ak fun O=>p aE<|p aE<|p aE<|p aE<|nl<|O<|rt<|br<|tr<|br<|br<|tr<|tr ?_
 exact br<|tr<|f4 aa aa aa aa aa<|⟨by rw [← hd,drop_cons 0 (by omega :i < s.length),lC ab,ID ac]; rfl,A⟩
 refine aY aa (aJ (str s) aa)<|aY aa mv<|aY aa (j8 u9 aa aa ab)<|eg aa aa aa<|cl LZ (SN (s.getD (i+1) 0) _) aa fun bj bo aW=> ?_
 obtain ⟨rfl,Z⟩:=aW
 refine aY aa (no aa)<|p (bI aa)<|nl<|aj<|cb aa (fun ae=> ?_) fun ae=> ?_
 exact ak fun O=>p aE<|p aE<|p aE<|ay<|O<|rt<|br<|tr<|br<|br<|tr<|tr<|br<|tr<|f4 aa aa aa aa aa<|⟨by rw [← hd,drop_cons 0 (by omega :i < s.length),drop_cons 0 (by omega :i+1 < s.length),IE ac (by simpa using ae)]; rfl,Md.trans A Z⟩
 exact aR<|bn<|tn<|⟨i+1,ab,(q.md Z fun _ _ h=>h),(Md.trans A Z),(by rw [← hd,drop_cons 0 (by omega :i < s.length),drop_cons 0 (by omega :i+1 < s.length),IC ac (by simpa using ae)]),aa,aa,aa⟩
 exact aR<|aq<|ext<|mj aw<|bh<|mj aw<|bh<|be<|tn<|⟨i,ab,q,A,(by rw [← hd,drop_cons 0 (by omega :i < s.length),IF ab ab]),aa,aa,aa⟩
 rintro J ah ⟨k,hk,am,aN,a4,a9,bb,bc⟩
 refine fx 0 a9<|fx 6 bb<|fx 7 bc<|ak fun Y=>au (str s)<|au (.int .i64 k)<|p (j8 u9 aa aa ab)<|e<|cl Ds (IH a c (acc) (s.getD k 0) _ am ab) aa fun bk bp aX=> ?_
 obtain ⟨rfl,aK,aM,aP,bi⟩:=aX
 exact nl<|Y<|ext<|be<|bn<|V<|rg aa<|au (.int .i64 k)<|p (ad aa aa<|cC ab)<|p aE<|nl<|tn<|⟨_,ab,k+1,acc++ [s.getD k 0],aK,(by rw [bK,iR]; omega),aM,(am.step aN aP ab),a4,aa,aa,aa,aa⟩
 refine ext<|bh<|bh<|be<|aC<|ak fun V=>e<|cl yY (Bw a c acc _ q ab) aa fun bl bq aZ=> ?_
 obtain ⟨rfl,aQ⟩:=aZ
 exact p aE<|p aE<|p aE<|ay<|V<|rt<|f4 aa aa aa aa aa<|⟨by rw [← hd,lC ab,BO]; rfl,q.Bu A aQ ab⟩
theorem Sm (s:List UInt8) (w:World) (hs:s.length≤1048576):
 bf ao 194 (ba [str s]) w (fun v w'=>v= .tuple #[str (letE s).1,.int .i64 (letE s).2]∧Wk w w'):=by
 refine enter func194 aa ntmps194 aa<|ak fun aC=>p aE<|ay<|aC<|ak fun aI=>e<|al Xp fun V bb bd G ap=> ?_
 have aS:bD bb.heap V (marksOf []):=by rw [SP]; exact ap
 refine nl<|aI<|az fun aJ=>ak fun aK=>au (str s)<|p (jP aa aa)<|nl<|aK<|cd aa (fun aj=> ?_) fun aj=> ?_
 exact ak fun O=>p aE<|ay<|O<|rt<|tr<|f2 aa aa aa<|⟨by show jY #[str [],.int .i64 21]=_; unfold letE; rw [if_pos (.inl aj)]; rfl,G.md⟩
 refine aR<|aJ<|ak fun O=>e<|gn IQ fun E bq bi aA aT=>nl<|O<|az fun aL=>ak fun aM=>au (str s)<|p (dB u9 aa aa)<|p mv<|nl<|aM<|aB ?_
 have bg:=ap.lt
 refine lp (fun an a J=> ∃ (i:Nat) (c:Value),(i≤s.length)∧(∀ j,j < i→iM (s.getD j 0)=true)∧(bD J.heap V<|marksOf<|lets<|s.take i)∧(Bd 309 5 J E c<|lets<|s.take i)∧(Wk w J)∧(a 0=str s)∧(a 4=aU V)∧(a 5=aU E)∧(a 10= .int .i64 s.length)∧(a 11= .int .i64 i)∧(s.length - i=an)) _ ⟨0,.slice none 0 0,ab,(fun j am=>by omega),(aA.md.B aS),(Bd.new aT),(Md.trans G.md aA.md),aa,aa,aa,aa,aa,aa⟩ ?_
 rintro an a J ⟨i,c,hi,hp,ax,Z,ag,a4,a7,a8,a5,a6,rfl⟩
 refine fx 0 a4<|fx 4 a7<|fx 5 a8<|fx 10 a5<|fx 11 a6 ?_
 have a3:=Gq<|s.take i
 rw [ee] at a3
 have bj:=ax.lt
 refine ak fun aN=>p (lt aa aa)<|nl<|aN<|az fun aO=>cd aa (fun a2=> ?_) fun a2=> ?_
 refine aR<|aO<|az fun C=>aB<|ak fun aD=>au (.int .i64 i)<|p (cj (.int .i64 i) aa)<|nl<|aD<|az fun aF=>ak fun aG=>au (str s)<|au (.int .i64 i)<|p (j8 u9 aa aa ab)<|e<|cl Dt (E2 (s.getD i 0) _) aa fun v17 a9 aZ=> ?_
 obtain ⟨rfl,q⟩:=aZ
 refine p (no aa)<|nl<|aG<|cb aa (fun ah=> ?_) fun ah=> ?_
 have I:iM (s.getD i 0)=false :=by simpa using ah
 exact ak fun M=>p aE<|ay<|M<|rt<|tr<|br<|tr<|tr<|br<|tr<|f2 aa aa aa<|⟨by show jY #[str [],.int .i64 21]=_; unfold letE; rw [if_pos (.inr<|vC ab I)]; rfl,Md.trans ag q⟩
 have I:iM (s.getD i 0)=true :=by simpa using ah
 have aq:Wk w a9:=Md.trans ag q
 have Y:=q.B ax
 have ae:=Z.md q fun _ _ h=>h
 have bl:=q.size
 refine aR<|aF<|ak fun M=>au (str s)<|au (.int .i64 i)<|p (j8 u9 aa aa ab)<|p (lS C0 aa aa<|by have :=jH (s.getD i 0); omega)<|p (ld pC aa<|SR Y _)<|p (no aa)<|nl<|M<|cb aa (fun ai=> ?_) fun ai=> ?_
 have A:¬s.getD i 0∈lets (s.take i):=of_decide_eq_false<|by simpa using ai
 refine ak fun aH=>au (str s)<|au (.int .i64 i)<|p (j8 u9 aa aa ab)<|p (lS C0 aa aa<|by have :=jH (s.getD i 0); omega)<|e<|st En aa aa (aa) (Y) (by rw [GD]; have :=jH (s.getD i 0); omega) fun bc av aQ=> ?_
 have aY:=SS aQ
 have aW:Wk w bc:=Md.trans' aq av fun k hk h=>by omega
 have ac:=ae.md av fun k hk h=>by have :=ae.ij hk; omega
 refine nl<|aH<|rg aa<|au (str s)<|au (.int .i64 i)<|p (j8 u9 aa aa ab)<|e<|cl Ds (IH E c (lets<|s.take i) (s.getD i 0) _ ac ab) aa fun v32 bo a0=> ?_
 obtain ⟨rfl,aP,aV,aw,bk⟩:=a0
 exact nl<|bn<|C<|rg aa<|p (ad aa aa<|cC ab)<|p mv<|nl<|tn<|⟨_,ab,i+1,aP,ab,(fun j am=>by rcases jh j i with h | h <;> first | exact hp j h | (rw [show j=i by omega]; exact I)),(by rw [wP ab,if_neg A]; exact aw.B aY fun h=>by have :=ac.ij h; omega),(by rw [wP ab,if_neg A]; exact aV),(ac.step aW aw<|by have :=G.md.size; omega),aa,aa,aa,aa,aa,aa⟩
 have A:s.getD i 0∈lets (s.take i):=by simpa using ai
 exact aR<|bn<|C<|rg aa<|p (ad aa aa<|cC ab)<|p mv<|nl<|tn<|⟨_,ab,i+1,c,ab,(fun j am=>by rcases jh j i with h | h <;> first | exact hp j h | (rw [show j=i by omega]; exact I)),(by rw [wP ab,if_pos A]; exact Y),(by rw [wP ab,if_pos A]; exact ae),aq,aa,aa,aa,aa,aa,aa⟩
 refine ext<|bh<|bh<|be<|aL<|ak fun C=>e<|cl yY (Bw E c (lets<|s.take i) _ Z<|by have :=Gq (s.take i); rw [ee] at this; omega) aa fun bm bp a1=> ?_
 obtain ⟨rfl,aX⟩:=a1
 exact p aE<|ay<|C<|rt<|f2 aa aa aa<|⟨by show jY #[str (lets<|s.take i),.int .i64 0]=_; unfold letE; rw [if_neg (by rw [vD (fun j am=>hp j ab)]; exact fun h=>h.elim aj dv),show s.take i=s from e9 ab]; rfl,Z.Bu ag aX<|by have :=G.md.size; omega⟩
end Go.Hb
end
section
namespace Go.Hb
open Go.Hb.dF
theorem FX {s:List UInt8} (h:¬s= []) (h1:¬(1 < s.length∧(s.getD 0 0).toNat=48)):¬qI s:=fun a=>a.elim h h1
theorem Ue {s:List UInt8} (h:¬qI s):0 < s.length:=mM.2 fun e=>h<|.inl e
theorem xa (s:List UInt8) (most:Int) (w:World) (hs:s.length≤1048576) (hm: -9223372036854775808≤most∧most≤9223372036854775807):
 bf ao 137 (ba [str s,.int .i64 most]) w (fun v w'=>v= .tuple #[.int .i64 (fC s most).1,.int .i64 (fC s most).2]∧Wk w w'):=by
 refine enter func137 aa ntmps137 aa<|ak fun ac=>p aE<|ay<|ac ?_
 refine e6 (fun M J=>(¬qI s)∧(J=w)∧(M 0=str s)∧(M 1= .int .i64 most)) ?_ ?_
 refine ak fun q=>au (str s)<|p (jP aa aa)<|p mv<|gs (t:=11) aa (fun E=> ?_) fun E=> ?_
 exact aT aa<|aT aa<|aT aa<|aT aa<|fN aa<|fN aa<|fN aa<|aT aa<|p (bR aa)<|nl<|q<|ct aa<|ak fun A=>p aE<|p aE<|nl<|A<|rt<|tr<|f2 aa aa aa<|⟨by show jY #[.int .i64 0,.int .i64 13]=_; rw [GX (.inl E)]; rfl,Md.refl _ _⟩
 refine aY aa (aJ (str s) aa)<|aY aa (dB u9 aa aa)<|aY aa (gt aa aa)<|aY aa mv<|gs (t:=15) aa (fun aA=> ?_) fun aA=> ?_
 refine aY aa (aJ (str s) aa)<|aY aa (ng 0 u9 aa aa ab)<|aY aa (cw aa aa)<|aY aa (bR aa)<|p (bI aa)<|nl<|q<|cd aa (fun aq=> ?_) fun aq=> ?_
 exact ak fun A=>p aE<|ay<|A<|rt<|tr<|f2 aa aa aa<|⟨by show jY #[.int .i64 0,.int .i64 13]=_; rw [GX (.inr ⟨ab,ab⟩)]; rfl,Md.refl _ _⟩
 have G:=FX (s:=s) E ab
 exact aR<|tn<|⟨G,aa,aa,aa⟩
 exact aT aa<|aT aa<|aT aa<|aY aa (bI aa)<|p (bI aa)<|nl<|q<|cf aa<|aR<|tn<|⟨(FX (s:=s) E ab),aa,aa,aa⟩
 rintro M J ⟨G,an,aG,aH⟩
 refine fx 0 aG<|fx 1 aH ?_
 subst an
 have hp:=Ue G
 refine ak fun q=>ay<|q<|az fun A=>ak fun ag=>au (str s)<|p (dB u9 aa aa)<|p mv<|nl<|ag<|aB<|lp (fun O c Z=> ∃ (i:Nat),(i≤s.length)∧(Z=J)∧((fT (s.take i):Int)≤max 0 most∧(0 < i→(fT (s.take i):Int)≤most))∧(∀ j,j < i→tC (s.getD j 0)=true)∧(c 0=str s)∧(c 1= .int .i64 most)∧(c 6=aj (fT<|s.take i))∧(c 22= .int .i64 s.length)∧(c 23= .int .i64 i)∧(s.length - i=O)) _ ⟨0,ab,aa,(by rw [ph]; show (0:Int)≤_∧_; omega),(fun j Y=>by omega),aa,aa,(iv<|by first | rfl | (rw [tB ab])),aa,aa,aa⟩ ?_
 rintro O c Z ⟨i,hi,ap,hn,V,aI,aK,aN,aL,aM,rfl⟩
 refine fx 0 aI<|fx 1 aK<|fx 6 aN<|fx 22 aL<|fx 23 aM ?_
 subst ap
 have aO:=jH<|s.getD i 0
 refine ak fun ah=>p (lt aa aa)<|nl<|ah<|az fun ai=>cd aa (fun av=> ?_) fun av=> ?_
 refine aR<|ai<|az fun I=>aB<|ak fun al=>au (.int .i64 i)<|p (cj (.int .i64 i) aa)<|nl<|al<|ak fun am=>au (str s)<|au (.int .i64 i)<|p (j8 u9 aa aa ab)<|p (zp u3 uC aa<|cC ab)<|p (sb aa aa<|cC ab)<|ay<|am<|az fun ae=>ak fun C=>p mv<|p (lt aa aa)<|p mv<|gs (t:=33) aa (fun aC=> ?_) fun aC=> ?_
 refine aT aa<|aT aa<|p (bR aa)<|p mv<|aT aa<|aT aa<|aT aa<|p (bR aa)<|p mv<|aT aa<|aT aa<|aT aa<|aT aa<|aT aa<|aT aa<|p (bR aa)<|nl<|C<|ct aa<|ak fun a=>p aE<|p aE<|nl<|a<|rt<|tr<|br<|tr<|tr<|br<|tr ?_
 exact f2 aa aa aa<|⟨by show jY #[.int .i64 0,.int .i64 13]=_; rw [GW (i:=i) ab (Ez ab)]; rfl,Md.refl _ _⟩
 refine aY aa mv<|aY aa (gt aa aa)<|p (bI aa)<|p mv<|gs (t:=37) aa (fun aD=> ?_) fun aD=> ?_
 exact aT aa<|aT aa<|aT aa<|p (bR aa)<|p mv<|aT aa<|aT aa<|aT aa<|aT aa<|aT aa<|aT aa<|p (bR aa)<|nl<|C<|ct aa<|az fun a=>rg aa<|p aE<|ay<|a<|rt<|tr<|br<|tr<|tr<|br<|tr<|f2 aa aa aa<|⟨by show jY #[.int .i64 0,.int .i64 13]=_; rw [GW (i:=i) ab (Ez ab)]; rfl,Md.refl _ _⟩
 refine aY aa (aJ (.int .i64 most) aa)<|aY aa mv<|aY aa (lt aa aa)<|p (bI aa)<|p mv<|gs (t:=42) aa (fun aF=> ?_) fun aF=> ?_
 refine aT aa<|aT aa<|aT aa<|aT aa<|aT aa<|aT aa<|p (bR aa)<|nl<|C<|ct aa<|ak fun a=>p aE<|ay<|a ?_
 exact rt<|tr<|br<|tr<|tr<|br<|tr<|f2 aa aa aa<|⟨by show jY #[.int .i64 0,.int .i64 13]=_; rw [GU (i+1) (by rw [tB ab]; omega)]; rfl,Md.refl _ _⟩
 have aP:((s.getD i 0).toNat:Int) - 48≤most:=ab
 refine aY aa (aJ (aj<|fT<|s.take i) aa)<|aY aa (aJ (.int .i64 most) aa)<|aY aa mv<|aY aa (sb aa aa<|cC ab)<|aY aa (pS (((most - (((s.getD i 0).toNat:Int) - 48)).toNat / 10:Nat):Int) aa aa ab<|bm ab ab)<|aY aa (gt aa aa)<|p (bI aa)<|nl<|C<|cd aa (fun aw=> ?_) fun aw=> ?_
 exact ak fun a=>p aE<|ay<|a<|rt<|tr<|br<|tr<|tr<|br<|tr<|f2 aa aa aa<|⟨by show jY #[.int .i64 0,.int .i64 13]=_; rw [GU (i+1) (by rw [tB ab]; omega)]; rfl,Md.refl _ _⟩
 have ax:tC (s.getD i 0)=true :=decide_eq_true ab
 exact aR<|ae<|rg aa<|au (aj<|fT<|s.take i)<|p (qN ((fT (s.take i)*10:Nat):Int) aa aa<|bm ab ab)<|p mv<|p (bL ((fT (s.take i)*10 +((s.getD i 0).toNat - 48):Nat):Int) aa aa<|bm ab ab)<|p aE<|nl<|bn<|I<|rg aa<|p (ad aa aa<|cC ab)<|p mv<|nl<|tn<|⟨_,ab,i+1,ab,aa,(by rw [tB ab]; omega),(fun j Y=>by rcases jh j i with h | h <;> first | exact V j h | (rw [show j=i by omega]; exact ax)),aa,aa,(iv<|by first | rfl | (rw [tB ab])),aa,aa,aa⟩
 exact ext<|bh<|bh<|be<|A<|ak fun I=>au (aj<|fT<|s.take i)<|p (cj (aj<|fT<|s.take i) aa)<|ay<|I<|rt<|f2 aa aa aa<|⟨by show jY #[aj (fT<|s.take i),.int .i64 0]=_; rw [show s.take i=s from e9 ab,GY G (fun j Y=>V j ab) (by rw [show s.take i=s from e9 ab] at hn; omega)],Md.refl _ _⟩
end Go.Hb
end
section
namespace Go.Hb
open Go.Hb.dF
theorem A7 {s pr:List UInt8} (h:s.take pr.length=pr):pr.length≤s.length:=by
 have :=congrArg List.length h
 rw [ee] at this; omega
theorem VR {s:List UInt8} (h:decide (1≤s.length∧s.drop (s.length - 1)= [13])=true):jO s=s.take (s.length - 1):=by
 have h1:=of_decide_eq_true h
 rw [Gg ab] at h1
 exact Pp ab<|by simpa using h1.2
theorem VS {s:List UInt8} (h:decide (1≤s.length∧s.drop (s.length - 1)= [13])=false):jO s=s:=by
 have h1:=of_decide_eq_false h
 refine Po fun h2=>h1 ⟨ab,?_⟩
 rw [Gg ab,h2.2]
theorem RP (c:UInt8):ew c [c]=0:=by unfold ew; simp
theorem Ag (s pr:List UInt8) (w:World) (hs:s.length≤1099511627776) (hp:pr.length≤1099511627776):
 bf ao 217 (ba [str s,str pr]) w (fun v w'=>v= .bool (decide (s.take pr.length=pr))∧Wk w w'):=by
 refine enter func217 aa ntmps217 aa<|ak fun c=>ay<|c<|ak fun a=>au (str s)<|p (dB u9 aa aa)<|au (str pr)<|p (dB u9 aa aa)<|p (ge aa aa)<|p mv<|gs (t:=10) aa (fun q=> ?_) fun q=> ?_
 exact aY aa (aJ (str s) aa)<|aY aa (aJ (str pr) aa)<|aY aa (dB u9 aa aa)<|aY aa (su u9 aa aa ab)<|aY aa (aJ (str pr) aa)<|aY aa (jP aa aa)<|p (bR aa)<|p aE<|nl<|a<|rt<|bc aa<|⟨aa,Md.refl _ _⟩
 exact aT aa<|aT aa<|aT aa<|aT aa<|aT aa<|aT aa<|p (bI aa)<|p aE<|nl<|a<|rt<|bc aa<|⟨by show bU false =_; rw [decide_eq_false (fun h=>by have :=A7 h; omega)],Md.refl _ _⟩
theorem Wf (s pr:List UInt8) (w:World) (hs:s.length≤1099511627776) (hp:pr.length≤1099511627776):
 bf ao 210 (ba [str s,str pr]) w (fun v w'=>v=str (eN s pr)∧Wk w w'):=by
 refine enter func210 aa ntmps210 aa<|ak fun C=>ay<|C<|az fun E=>ak fun G=>au (str s)<|au (str pr)<|e<|cl yZ (Ag s pr _ hs hp) aa fun M O I=> ?_
 obtain ⟨rfl,A⟩:=I
 refine nl<|G<|cb aa (fun q=> ?_) fun q=> ?_
 have a:=of_decide_eq_true q
 have J:=A7 a
 exact ak fun c=>au (str s)<|au (str pr)<|p (dB u9 aa aa)<|p (oP u9 aa aa ab)<|p aE<|nl<|c<|rt<|tr<|bc aa<|⟨by show str (s.drop (pr.length:Int).toNat)=_; unfold eN; rw [if_pos a]; rfl,A⟩
 have a:=of_decide_eq_false q
 exact aR<|E<|ak fun c=>au (str s)<|p (cj (str s) aa)<|nl<|c<|rt<|bc aa<|⟨by show str s=_; unfold eN; rw [if_neg a],A⟩
theorem H7 (s pr:List UInt8) (w:World) (hs:s.length≤1099511627776) (hp:pr.length≤1099511627776):
 bf ao 146 (ba [str s,str pr]) w (fun v w'=>v=str (eN s pr)∧Wk w w'):=by
 refine enter func146 aa ntmps146 aa<|ak fun a=>ay<|a<|ak fun c=>au (str s)<|au (str pr)<|e<|cl L1 (Wf s pr _ hs hp) aa fun C E A=> ?_
 obtain ⟨rfl,q⟩:=A
 exact ay<|c<|rt<|bc aa<|⟨aa,q⟩
theorem wz (s pr:List UInt8) (w:World) (hs:s.length≤1099511627776) (hp:pr.length≤1099511627776):
 bf ao 216 (ba [str s,str pr]) w (fun v w'=>v= .bool (decide (pr.length≤s.length∧s.drop (s.length - pr.length)=pr))∧Wk w w'):=by
 refine enter func216 aa ntmps216 aa<|ak fun c=>ay<|c<|ak fun a=>au (str s)<|p (dB u9 aa aa)<|au (str pr)<|p (dB u9 aa aa)<|p (ge aa aa)<|p mv<|gs (t:=10) aa (fun q=> ?_) fun q=> ?_
 exact aY aa (aJ (str s) aa)<|aY aa (aJ (str s) aa)<|aY aa (dB u9 aa aa)<|aY aa (aJ (str pr) aa)<|aY aa (dB u9 aa aa)<|aY aa (sb aa aa<|cC ab)<|aY aa (oP u9 aa aa ab)<|aY aa (aJ (str pr) aa)<|aY aa (jP aa aa)<|p (bR aa)<|ay<|a<|rt<|bc aa<|⟨by show bU (decide (s.drop ((s.length:Int) - (pr.length:Int)).toNat=pr))=_; rw [show ((s.length:Int) - (pr.length:Int)).toNat=s.length - pr.length from by omega]; exact bv (by constructor <;> intro h <;> first | exact ⟨ab,h⟩ | exact h.2),Md.refl _ _⟩
 exact aT aa<|aT aa<|aT aa<|aT aa<|aT aa<|aT aa<|aT aa<|aT aa<|aT aa<|p (bI aa)<|ay<|a<|rt<|bc aa<|⟨by show bU false =_; rw [decide_eq_false ab],Md.refl _ _⟩
theorem Wi (s:List UInt8) (w:World) (hs:s.length≤1099511627776):
 bf ao 209 (ba [str s,str [13]]) w (fun v w'=>v=str (jO s)∧Wk w w'):=by
 refine enter func209 aa ntmps209 aa<|ak fun A=>ay<|A<|az fun C=>ak fun E=>au (str s)<|au (str [13])<|e<|cl vH (wz s [13] _ hs aw) aa fun M O G=> ?_
 obtain ⟨rfl,q⟩:=G
 refine nl<|E<|cb aa (fun a=> ?_) fun a=> ?_
 have J:=(of_decide_eq_true a).1
 have I:([13]:List UInt8).length=1:=rfl
 exact ak fun c=>au (str s)<|au (str s)<|p (dB u9 aa aa)<|au (str [13])<|p (dB u9 aa aa)<|p (sb aa aa<|cC ab)<|p (su u9 aa aa ab)<|ay<|c<|rt<|tr<|bc aa<|⟨by show str (s.take ((s.length:Int) - (([13]:List UInt8).length:Int)).toNat)=_; rw [VR a,show ((s.length:Int) - (([13]:List UInt8).length:Int)).toNat=s.length - 1 from by simp only [iR]; omega],q⟩
 exact aR<|C<|ak fun c=>au (str s)<|p (cj (str s) aa)<|nl<|c<|rt<|bc aa<|⟨by show str s=_; rw [VS a],q⟩
theorem Wj (s:List UInt8) (w:World) (hs:s.length≤1099511627776):
 bf ao 145 (ba [str s,str [13]]) w (fun v w'=>v=str (jO s)∧Wk w w'):=by
 refine enter func145 aa ntmps145 aa<|ak fun a=>ay<|a<|ak fun c=>au (str s)<|au (str [13])<|e<|cl Dv (Wi s _ hs) aa fun C E A=> ?_
 obtain ⟨rfl,q⟩:=A
 exact ay<|c<|rt<|bc aa<|⟨aa,q⟩
theorem F1 (s:List UInt8) (c:UInt8) (w:World):
 bf ao 275 (ba [str s,.int .u8 c.toNat]) w (fun v w'=>v= .int .i64 (ew c s)∧Wk w w'):=by
 exact enter func275 aa ntmps275 aa<|ak fun a=>ay<|a<|ak fun q=>au (str s)<|au (.int .u8 c.toNat)<|p (Ec (RS s c _) aa)<|ay<|q<|rt<|bc aa<|⟨aa,Md.refl _ _⟩
theorem FZ (s:List UInt8) (c:UInt8) (w:World):
 bf ao 263 (ba [str s,str [c]]) w (fun v w'=>v= .int .i64 (ew c s)∧Wk w w'):=by
 refine enter func263 aa ntmps263 aa<|ak fun A=>ay<|A<|ak fun C=>au (str [c])<|p (dB u9 aa aa)<|ay<|C<|az fun M=>aB<|ak fun E=>p mv<|p (cw aa aa)<|p mv<|gs (t:=19) aa (fun h=>absurd h<|by simp) fun V=>aY aa (aJ (str [c]) aa)<|aY aa (aJ (str s) aa)<|aY aa (jP aa aa)<|p (bI aa)<|ay<|E<|cd aa (fun q=> ?_) fun q=> ?_
 exact ak fun a=>ay<|a<|rt<|br<|tr<|bc aa<|⟨by show Value.int .i64 0=_; rw [← q,RP],Md.refl _ _⟩
 refine ak fun a=>p mv<|p (cw aa aa)<|ay<|a<|cd aa (fun O=> ?_) fun h=>absurd aa h
 refine ak fun G=>au (str s)<|au (str [c])<|p (ng 0 u9 aa aa<|by simp)<|e<|cl DE (F1 s c _) aa fun v30 Y J=> ?_
 obtain ⟨rfl,I⟩:=J
 exact ay<|G<|rt<|br<|tr<|bc aa<|⟨aa,I⟩
theorem RD (s:List UInt8) (c:UInt8) (w:World):
 bf ao 299 (ba [str s,str [c]]) w (fun v w'=>v= .int .i64 (ew c s)∧Wk w w'):=by
 refine enter func299 aa ntmps299 aa<|ak fun a=>ay<|a<|ak fun q=>au (str s)<|au (str [c])<|e<|cl DD (FZ s c _) aa fun E G C=> ?_
 obtain ⟨rfl,A⟩:=C
 exact ay<|q<|rt<|bc aa<|⟨aa,A⟩
theorem Ou (s:List UInt8) (c:UInt8) (w:World) (hs:s.length≤1099511627776):
 bf ao 232 (ba [str s,str [c]]) w (fun v w'=>v= .tuple #[str (lM c s),str (mY c s),.bool (!decide (ew c s < 0))]∧Wk w w'):=by
 refine enter func232 aa ntmps232 aa<|ak fun E=>p aE<|p aE<|ay<|E<|az fun G=>ak fun I=>au (str s)<|au (str [c])<|e<|cl DD (FZ s c _) aa fun v10 A M=> ?_
 obtain ⟨rfl,C⟩:=M
 refine ay<|I<|ak fun J=>p mv<|p (ge aa aa)<|nl<|J<|cd aa (fun O=> ?_) fun O=> ?_
 have V:=r9 (c:=c) (l:=s) ab
 have Y:[c].length=1:=rfl
 refine az fun q=> ?_
 have a:(fun w'=>Wk A w') A.drew:=(Md.refl _ _).drew
 exact bT (fun w'=>Wk A w') aa wide a<|bQ 0 aa (str s) a<|aH 1 aa (fun _ _=>mv) a<|aH 2 aa (fun _ _=>su u9 aa aa ab) a<|bQ 3 aa (str s) a<|aH 4 aa (fun _ _=>mv) a<|bQ 5 aa (str [c]) a<|aH 6 aa (fun _ _=>dB u9 aa aa) a<|aH 7 aa (fun _ _=>bL ((s.idxOf c+1:Nat):Int) aa aa<|bm ab ab) a<|aH 8 aa (fun _ _=>oP u9 aa aa ab) a<|aH 9 aa (fun _ _=>aE) a<|aH 10 aa (fun _ _=>aE) a<|aH 11 aa (fun _ _=>aE) a<|hn ag<|q<|rt<|tr<|f3 aa aa aa aa<|⟨by show jY #[str (s.take (ew c s).toNat),str (s.drop<|s.idxOf c+1),.bool true]=_; unfold lM mY; rw [if_neg ab,if_neg ab,V.1,decide_eq_false ab]; rfl,Md.trans C (Md.refl _ _).drew⟩
 exact aR<|G<|ak fun q=>au (str s)<|p (cj (str s) aa)<|p aE<|p aE<|nl<|q<|rt<|f3 aa aa aa aa<|⟨by show jY #[str s,str [],.bool false]=_; unfold lM mY; rw [if_pos ab,if_pos ab,decide_eq_true ab]; rfl,C⟩
theorem Ox (s:List UInt8) (c:UInt8) (w:World) (hs:s.length≤1099511627776):
 bf ao 190 (ba [str s,str [c]]) w (fun v w'=>v= .tuple #[str (lM c s),str (mY c s),.bool (!decide (ew c s < 0))]∧Wk w w'):=by
 refine enter func190 aa ntmps190 aa<|ak fun a=>p aE<|p aE<|ay<|a<|az fun q=>rg aa<|au (str s)<|au (str [c])<|e<|cl L8 (Ou s c _ hs) aa fun v9 E C=> ?_
 obtain ⟨rfl,A⟩:=C
 exact p (xt aa aa)<|p (xt aa aa)<|p (xt aa aa)<|p aE<|p aE<|ay<|q<|rt<|f3 aa aa aa aa<|⟨aa,A⟩
end Go.Hb
end
section
namespace Go.Hb
open Go.Hb.dF
theorem RM (x:Nat) (w:World):
 bf ao 303 (ba [aX x]) w (fun v w'=>v= .bool false∧Wk w w'):=by
 exact enter func303 aa ntmps303 aa<|ak fun a=>ay<|a<|ak fun c=>au (aX x)<|au (aX x)<|p (gE aa aa)<|ay<|c<|rt<|bc aa<|⟨congrArg bU (decide_eq_false fun h=>h aa),Md.refl _ _⟩
theorem lg (x y:Nat) (w:World):
 bf ao 290 (ba [aX x,aX y]) w (fun v w'=>v= .bool (bM x y)∧Wk w w'):=by
 refine enter func290 aa ntmps290 aa<|ak fun a=>ay<|a<|ak fun c=>au (aX x)<|e<|cl Mz (RM x _) aa fun v6 C A=> ?_
 obtain ⟨rfl,q⟩:=A
 exact p mv<|aT aa<|aT aa<|aT aa<|p (bI aa)<|p mv<|aY aa (aJ (aX x) aa)<|aY aa (aJ (aX y) aa)<|aY aa (lt aa aa)<|p (bI aa)<|ay<|c<|rt<|bc aa<|⟨by show bU (decide ((x:Int) < (y:Int)))=_; unfold bM; exact congrArg bU (decide_eq_decide.2 ab),q⟩
theorem RL (d:Array Nat) (a b:Nat) (B n cp:Nat) (A:Option Addr) (w:World) (hO:w.ownsRow B 95 1 (.slice A n cp) n (LE aX d)) (a4:a≤b∧b≤n) (bb:n≤1099511627776):
 bf ao 284 (ba [.slice A n cp,aj a,aj b]) w (fun v w'=>v= .tuple #[]∧w'.ownsRow B 95 1 (.slice A n cp) n (LE aX<|Jr bM d a b)∧Md (fun q=>(bE A n cp).ownBlock=some q) w w'):=by
 have a7:=eT hO
 refine enter func284 aa ntmps284 aa<|ak fun ax=>au (aj a)<|p (bL ((a+1:Nat):Int) aa aa<|bm ab ab)<|ay<|ax<|aB<|lp (fun Z ad am=> ∃ (i:Nat) (Y:Array Nat),(a+1≤i∧i≤n+1)∧(Go.Sort.insOuter bM a b i Y=Jr bM d a b)∧(am.ownsRow B 95 1 (.slice A n cp) n<|LE aX Y)∧(Md (fun q=>(bE A n cp).ownBlock=some q) w am)∧(ad 0= .slice A n cp)∧(ad 1=aj a)∧(ad 2=aj b)∧(ad 6=aj i)∧(b - i=Z)) _ ⟨a+1,d,ab,aa,hO,(Md.refl _ _),aa,aa,aa,aa,aa⟩ ?_
 rintro Z ad am ⟨i,Y,hi,ai,av,aq,aU,aV,aW,aY,rfl⟩
 refine fx 0 aU<|fx 1 aV<|fx 2 aW<|fx 6 aY<|az fun aA=>ak fun aC=>au (aj i)<|au (aj b)<|p (lt aa aa)<|nl<|aC<|cd aa (fun aQ=> ?_) fun aQ=> ?_
 refine aR<|aA<|az fun an=>aB<|ak fun aD=>au (aj i)<|p (cj (aj i) aa)<|nl<|aD<|aB<|lp (fun Z V M=> ∃ (j:Nat) (E:Array Nat),(a≤j∧j≤i)∧(Jq bM a j E=Jq bM a i Y)∧(M.ownsRow B 95 1 (.slice A n cp) n<|LE aX E)∧(Md (fun q=>(bE A n cp).ownBlock=some q) w M)∧(V 0= .slice A n cp)∧(V 1=aj a)∧(V 2=aj b)∧(V 6=aj i)∧(V 7=aj j)∧(j=Z)) _ ⟨i,Y,ab,aa,av,aq,aa,aa,aa,aa,aa,aa⟩ ?_
 rintro Z V M ⟨j,E,a9,al,I,ae,aZ,a0,a1,a2,a3,rfl⟩
 refine fx 0 aZ<|fx 1 a0<|fx 2 a1<|fx 6 a2<|fx 7 a3<|az fun aF=>az fun ap=> ?_
 have a5:=eT I
 have c:(fun w'=>Wk M w') M.drew:=(Md.refl _ _).drew
 refine bT (fun w'=>Wk M w') aa wide c<|bQ 0 aa (aj j) c<|bQ 1 aa (aj a) c<|aH 2 aa (fun _ _=>gt aa aa) c<|aH 3 aa (fun _ _=>mv) c<|kz (t:=19) aa (fun aP=> ?_) fun aP=> ?_
 refine bz 4 aa (fun _ _=>aJ (.slice A n cp) aa) c<|bz 5 aa (fun _ _=>aJ (aj j) aa) c<|bz 6 aa (fun _ _=>bd bJ aa aa ab<|aG.ok ((a6 I).2)<|bN ab) c<|bz 7 aa (fun w' G=>ld bZ aa<|cU (i:=j) ((a6 I).2.wk G) ab) c<|bz 8 aa (fun _ _=>aJ (.slice A n cp) aa) c<|bz 9 aa (fun _ _=>aJ (aj j) aa) c<|bz 10 aa (fun _ _=>dt ((j - 1:Nat):Int) aa aa<|bm ab ab) c<|bz 11 aa (fun _ _=>bd bJ aa aa ab<|aG.ok ((a6 I).2)<|bN ab) c<|bz 12 aa (fun w' G=>ld bZ aa<|cU (i:=j - 1) ((a6 I).2.wk G) ab) c<|lR 13 aa ag aa aa aa<|cl k9 (lg E[j]! E[j - 1]! _) aa fun bc ac aO=> ?_
 obtain ⟨rfl,aK⟩:=aO
 have O:(fun w'=>Wk M w') ac:=Md.trans c aK
 refine ⟨O,?_⟩
 refine aH 14 aa (fun _ _=>bR aa) O<|hn ag<|ap<|cb aa (fun ah=> ?_) fun ah=> ?_
 refine aR<|aF<|az fun aI=>aB ?_
 have J:=a8 I O
 have C:(fun w'=>Wk ac w') ac.drew:=(Md.refl _ _).drew
 refine eL (fun w'=>Wk ac w') 15 aa wide C<|bw 0 aa (.slice A n cp) C<|bw 1 aa (aj j) C<|bw 2 aa (.slice A n cp) C<|bw 3 aa (aj j) C<|bG 4 aa (fun _=>dt ((j - 1:Nat):Int) aa aa<|bm ab ab) (fun _=>C)<|bw 5 aa (.slice A n cp) C<|bw 6 aa (aj j) C<|bG 7 aa (fun _=>dt ((j - 1:Nat):Int) aa aa<|bm ab ab) (fun _=>C)<|bG 8 aa (fun _=>bd bJ aa aa ab<|aG.ok ((a6 J).2)<|bN ab) (fun _=>C)<|ez 9 aa (fun w' G=>ld bZ aa<|cU (i:=j - 1) ((a6 J).2.wk G) ab) C<|bw 10 aa (.slice A n cp) C<|bw 11 aa (aj j) C<|bG 12 aa (fun _=>bd bJ aa aa ab<|aG.ok ((a6 J).2)<|bN ab) (fun _=>C)<|ez 13 aa (fun w' G=>ld bZ aa<|cU (i:=j) ((a6 J).2.wk G) ab) C<|bG 14 aa (fun _=>bd bJ aa aa ab<|aG.ok ((a6 J).2)<|bN ab) (fun _=>C) ?_
 refine dq 15 aa ag ag<|fD (u:=E[j - 1]!) (j) (a8 J C) fq aa aa aa ab fun bg aM aS=>bG 16 aa (fun _=>bd bJ aa aa ab<|aG.ok ((a6 J).2)<|bN ab) (fun h=>dv<|(show true =_ from by kernel_rfl).trans h)<|dq 17 aa ag ag<|fD (u:=E[j]!) (j - 1) aS fq aa aa aa ab fun aw aN aT=> ?_
 have G:aw.ownsRow B 95 1 (.slice A n cp) n (LE aX<|bV E (j)<|j - 1):=aT
 have aL:Md (fun q=>(bE A n cp).ownBlock=some q) ac aw:=Md.trans (C.mono fun _ _ h=>h.elim)<|Md.trans aM aN
 exact eK ag<|bn<|aI<|rg aa<|au (aj j)<|p (dt ((j - 1:Nat):Int) aa aa<|bm ab ab)<|p aE<|nl<|tn<|⟨_,ab,j - 1,bV E j (j - 1),ab,(by rw [← al,RI (show a < j by omega) ah]),G,(Md.trans ae<|Md.trans (O.mono fun _ _ h=>h.elim) aL),aa,aa,aa,aa,aa,aa⟩
 exact ext<|bh<|bh<|be<|bn<|an<|rg aa<|au (aj i)<|p (bL ((i+1:Nat):Int) aa aa<|bm ab ab)<|p aE<|nl<|tn<|⟨_,ab,i+1,E,ab,(by rw [← ai,F4 (show i < b by omega),← al,RJ (by simpa using ah)]),(a8 I O),(Md.trans ae<|O.mono fun _ _ h=>h.elim),aa,aa,aa,aa,aa⟩
 exact bo 4 aa c<|bo 5 aa c<|bo 6 aa c<|bo 7 aa c<|bo 8 aa c<|bo 9 aa c<|bo 10 aa c<|bo 11 aa c<|bo 12 aa c<|bo 13 aa c<|aH 14 aa (fun _ _=>bI aa) c<|hn ag<|ap<|cf aa<|ext<|bh<|bh<|be<|bn<|an<|rg aa<|au (aj i)<|p (bL ((i+1:Nat):Int) aa aa<|bm ab ab)<|p aE<|nl<|tn<|⟨_,ab,i+1,E,ab,(by rw [← ai,F4 (show i < b by omega),← al,RK ab]),(a8 I (Md.refl _ _).drew),ae.drew,aa,aa,aa,aa,aa⟩
 exact ext<|bh<|bh<|be<|f0 aa<|⟨aa,by rw [← ai,RH ab]; exact av,aq⟩
theorem Vj (d:Array Nat) (lo hi first :Nat) (B n cp:Nat) (C:Option Addr) (w:World) (hO:w.ownsRow B 95 1 (.slice C n cp) n (LE aX d)) (bc:lo≤hi∧first+hi≤n) (bi:n≤1099511627776):
 bf ao 300 (ba [.slice C n cp,aj lo,aj hi,aj first]) w (fun v w'=>v= .tuple #[]∧w'.ownsRow B 95 1 (.slice C n cp) n (LE aX<|qf bM hi first lo d)∧Md (fun q=>(bE C n cp).ownBlock=some q) w w'):=by
 refine enter func300 aa ntmps300 aa<|ak fun aA=>au (aj lo)<|p (cj (aj lo) aa)<|nl<|aA<|aB<|lp (fun aq ah Y=> ∃ (r:Nat) (E:Array Nat),(r≤hi)∧(qf bM hi first r E=qf bM hi first lo d)∧(Y.ownsRow B 95 1 (.slice C n cp) n<|LE aX E)∧(Md (fun q=>(bE C n cp).ownBlock=some q) w Y)∧(ah 0= .slice C n cp)∧(ah 2=aj hi)∧(ah 3=aj first)∧(ah 8=aj r)∧(hi - r=aq)) _ ⟨lo,d,ab,aa,hO,(Md.refl _ _),aa,aa,aa,aa,aa⟩ ?_
 rintro aq ah Y ⟨r,E,bj,ap,J,al,aZ,a0,a1,a2,rfl⟩
 refine fx 0 aZ<|fx 2 a0<|fx 3 a1<|fx 8 a2<|aB<|ak fun aC=>au (aj r)<|p (qN ((2 *r:Nat):Int) aa aa<|bm ab ab)<|p (bL ((2 *r+1:Nat):Int) aa aa<|bm ab ab)<|p aE<|nl<|aC<|az fun aD=>ak fun aF=>p mv<|au (aj hi)<|p (ge aa aa)<|nl<|aF<|cd aa (fun aT=> ?_) fun aT=> ?_
 exact ext<|bh<|mj aw<|bh<|be<|f0 aa<|⟨aa,by rw [← ap,Vh ab]; exact J,al⟩
 refine aR<|aD ?_
 refine e6 (fun ad V=> ∃ (c:Nat),(r < c∧c < hi)∧(qf bM hi first r E=if (!bM E[first+r]! E[first+c]!)=true then E else qf bM hi first c (bV E (first+r)<|first+c))∧(V.ownsRow B 95 1 (.slice C n cp) n<|LE aX E)∧(Md (fun q=>(bE C n cp).ownBlock=some q) w V)∧(ad 0= .slice C n cp)∧(ad 2=aj hi)∧(ad 3=aj first)∧(ad 8=aj r)∧(ad 9=aj c)) ?_ ?_
 refine az fun ai=> ?_
 have aU:=eT J
 have a:(fun w'=>Wk Y w') Y.drew:=(Md.refl _ _).drew
 refine bT (fun w'=>Wk Y w') aa wide a<|aH 0 aa (fun _ _=>mv) a<|aH 1 aa (fun _ _=>bL ((2 *r+1 +1:Nat):Int) aa aa<|bm ab ab) a<|bQ 2 aa (aj hi) a<|aH 3 aa (fun _ _=>lt aa aa) a<|aH 4 aa (fun _ _=>mv) a<|kz (t:=21) aa (fun aV=> ?_) fun aV=> ?_
 refine bz 5 aa (fun _ _=>aJ (.slice C n cp) aa) a<|bz 6 aa (fun _ _=>aJ (aj first) aa) a<|bz 7 aa (fun _ _=>mv) a<|bz 8 aa (fun _ _=>bL ((first+(2 *r+1):Nat):Int) aa aa<|bm ab ab) a<|bz 9 aa (fun _ _=>bd bJ aa aa ab<|aG.ok ((a6 J).2)<|bN ab) a<|bz 10 aa (fun w' I=>ld bZ aa<|cU (i:=first+(2 *r+1)) ((a6 J).2.wk I) ab) a<|bz 11 aa (fun _ _=>aJ (.slice C n cp) aa) a<|bz 12 aa (fun _ _=>aJ (aj first) aa) a<|bz 13 aa (fun _ _=>mv) a<|bz 14 aa (fun _ _=>bL ((first+(2 *r+1):Nat):Int) aa aa<|bm ab ab) a<|bz 15 aa (fun _ _=>bL ((first+(2 *r+1)+1:Nat):Int) aa aa<|bm ab ab) a<|bz 16 aa (fun _ _=>bd bJ aa aa ab<|aG.ok ((a6 J).2)<|bN ab) a<|bz 17 aa (fun w' I=>ld bZ aa<|cU (i:=first+(2 *r+1)+1) ((a6 J).2.wk I) ab) a<|lR 18 aa ag aa aa aa<|cl k9 (lg E[first+(2 *r+1)]! E[first+(2 *r+1)+1]! _) aa fun v35 bb aQ=> ?_
 obtain ⟨rfl,aL⟩:=aQ
 have Z:(fun w'=>Wk Y w') bb:=Md.trans a aL
 refine ⟨Z,?_⟩
 refine aH 19 aa (fun _ _=>bR aa) Z<|hn ag<|ai<|cb aa (fun am=> ?_) fun am=> ?_
 exact rg aa<|p mv<|p (bL ((2 *r+2:Nat):Int) aa aa<|bm ab ab)<|p aE<|nl<|tn<|⟨2 *r+2,ab,(Vi ab am),(a8 J Z),(Md.trans al<|Z.mono fun _ _ h=>h.elim),aa,aa,aa,aa,aa⟩
 exact aR<|tn<|⟨2 *r+1,ab,(HJ ab<|.inr am),(a8 J Z),(Md.trans al<|Z.mono fun _ _ h=>h.elim),aa,aa,aa,aa,aa⟩
 exact bo 5 aa a<|bo 6 aa a<|bo 7 aa a<|bo 8 aa a<|bo 9 aa a<|bo 10 aa a<|bo 11 aa a<|bo 12 aa a<|bo 13 aa a<|bo 14 aa a<|bo 15 aa a<|bo 16 aa a<|bo 17 aa a<|bo 18 aa a<|aH 19 aa (fun _ _=>bI aa) a<|hn ag<|ai<|cf aa<|aR<|tn<|⟨2 *r+1,ab,(HJ ab<|.inl ab),(a8 J (Md.refl _ _).drew),al.drew,aa,aa,aa,aa,aa⟩
 rintro ad V ⟨c,bg,ax,O,av,a3,a4,a5,a7,a9⟩
 refine fx 0 a3<|fx 2 a4<|fx 3 a5<|fx 8 a7<|fx 9 a9<|az fun ai=>az fun aI=> ?_
 have aU:=eT O
 have G:(fun w'=>Wk V w') V.drew:=(Md.refl _ _).drew
 refine bT (fun w'=>Wk V w') aa wide G<|bQ 0 aa (.slice C n cp) G<|bQ 1 aa (aj first) G<|bQ 2 aa (aj r) G<|aH 3 aa (fun _ _=>bL ((first+r:Nat):Int) aa aa<|bm ab ab) G<|aH 4 aa (fun _ _=>bd bJ aa aa ab<|aG.ok ((a6 O).2)<|bN ab) G<|aH 5 aa (fun w' I=>ld bZ aa<|cU (i:=first+r) ((a6 O).2.wk I) ab) G<|bQ 6 aa (.slice C n cp) G<|bQ 7 aa (aj first) G<|bQ 8 aa (aj c) G<|aH 9 aa (fun _ _=>bL ((first+c:Nat):Int) aa aa<|bm ab ab) G<|aH 10 aa (fun _ _=>bd bJ aa aa ab<|aG.ok ((a6 O).2)<|bN ab) G<|aH 11 aa (fun w' I=>ld bZ aa<|cU (i:=first+c) ((a6 O).2.wk I) ab) G<|he 12 aa ag<|cl k9 (lg E[first+r]! E[first+c]! _) aa fun v51 ae aS=> ?_
 obtain ⟨rfl,aM⟩:=aS
 have ac:(fun w'=>Wk V w') ae:=Md.trans G aM
 refine ⟨ac,?_⟩
 refine aH 13 aa (fun _ _=>no aa) ac<|hn ag<|aI<|cb aa (fun an=> ?_) fun an=> ?_
 exact rt<|tr<|br<|tr<|br<|vW aa<|⟨aa,by rw [← ap,ax,if_pos an]; exact a8 O ac,Md.trans av<|ac.mono fun _ _ h=>h.elim⟩
 refine aR<|ai<|az fun aK=> ?_
 have M:=a8 O ac
 have A:(fun w'=>Wk ae w') ae.drew:=(Md.refl _ _).drew
 refine eL (fun w'=>Wk ae w') 21 aa wide A<|bw 0 aa (.slice C n cp) A<|bw 1 aa (aj first) A<|bw 2 aa (aj r) A<|bG 3 aa (fun _=>bL ((first+r:Nat):Int) aa aa<|bm ab ab) (fun _=>A)<|bw 4 aa (.slice C n cp) A<|bw 5 aa (aj first) A<|bw 6 aa (aj c) A<|bG 7 aa (fun _=>bL ((first+c:Nat):Int) aa aa<|bm ab ab) (fun _=>A)<|bw 8 aa (.slice C n cp) A<|bw 9 aa (aj first) A<|bw 10 aa (aj c) A<|bG 11 aa (fun _=>bL ((first+c:Nat):Int) aa aa<|bm ab ab) (fun _=>A)<|bG 12 aa (fun _=>bd bJ aa aa ab<|aG.ok ((a6 M).2)<|bN ab) (fun _=>A)<|ez 13 aa (fun w' I=>ld bZ aa<|cU (i:=first+c) ((a6 M).2.wk I) ab) A<|bw 14 aa (.slice C n cp) A<|bw 15 aa (aj first) A<|bw 16 aa (aj r) A<|bG 17 aa (fun _=>bL ((first+r:Nat):Int) aa aa<|bm ab ab) (fun _=>A)<|bG 18 aa (fun _=>bd bJ aa aa ab<|aG.ok ((a6 M).2)<|bN ab) (fun _=>A)<|ez 19 aa (fun w' I=>ld bZ aa<|cU (i:=first+r) ((a6 M).2.wk I) ab) A<|bG 20 aa (fun _=>bd bJ aa aa ab<|aG.ok ((a6 M).2)<|bN ab) (fun _=>A)<|dq 21 aa ag ag<|fD (u:=E[first+c]!) (first+r) (a8 M A) fq aa aa aa ab fun bk aO aW=> ?_
 refine bG 22 aa (fun _=>bd bJ aa aa ab<|aG.ok ((a6 M).2)<|bN ab) (fun h=>dv<|(show true =_ from by kernel_rfl).trans h)<|dq 23 aa ag ag<|fD (u:=E[first+r]!) (first+c) aW fq aa aa aa ab fun ay aP aY=> ?_
 have I:ay.ownsRow B 95 1 (.slice C n cp) n (LE aX<|bV E (first+r)<|first+c):=aY
 have aN:Md (fun q=>(bE C n cp).ownBlock=some q) ae ay:=Md.trans (A.mono fun _ _ h=>h.elim)<|Md.trans aO aP
 exact eK ag<|aK<|rg aa<|au (aj c)<|p (cj (aj c) aa)<|nl<|bn<|tn<|⟨_,ab,c,bV E (first+r) (first+c),ab,(by rw [← ap,ax,if_neg (by rw [an]; exact dv)]),I,(Md.trans av<|Md.trans (ac.mono fun _ _ h=>h.elim) aN),aa,aa,aa,aa,aa⟩
theorem HK (d:Array Nat) (lo hi first :Nat) (A c:Int) (B n cp:Nat) (a:Option Addr) (w:World) (hO:w.ownsRow B 95 1 (.slice a n cp) n (LE aX d)) (C:lo≤hi∧first+hi≤n) (G:A=(lo:Nat)) (E:c=(hi:Nat)) (I:n≤1099511627776):
 bf ao 300 (ba [.slice a n cp,.int .i64 A,.int .i64 c,.int .i64 (first :Nat)]) w (fun v w'=>v= .tuple #[]∧w'.ownsRow B 95 1 (.slice a n cp) n (LE aX<|qf bM hi first lo d)∧Md (fun q=>(bE a n cp).ownBlock=some q) w w'):=by
 subst G E; exact Vj d lo hi first B n cp a w hO C I
theorem Rp (d:Array Nat) (a b:Nat) (B n cp:Nat) (c:Option Addr) (w:World) (hO:w.ownsRow B 95 1 (.slice c n cp) n (LE aX d)) (a4:a < b∧b≤n) (ad:n≤1099511627776):
 bf ao 285 (ba [.slice c n cp,aj a,aj b]) w (fun v w'=>v= .tuple #[]∧w'.ownsRow B 95 1 (.slice c n cp) n (LE aX<|Jp bM d a b)∧Md (fun q=>(bE c n cp).ownBlock=some q) w w'):=by
 refine enter func285 aa ntmps285 aa<|ak fun ai=>au (aj a)<|p (cj (aj a) aa)<|nl<|ai<|ak fun ap=>ay<|ap<|ak fun aq=>au (aj b)<|au (aj a)<|p (dt ((b - a:Nat):Int) aa aa<|bm ab ab)<|ay<|aq<|az fun av=>ak fun aw=>p mv<|p (dt ((b - a - 1:Nat):Int) aa aa<|bm ab ab)<|p (pS (((b - a - 1) / 2:Nat):Int) aa aa ab<|bm ab ab)<|ay<|aw<|aB<|lp (fun M I ac=> ∃ (k:Nat) (C:Array Nat),(k≤b - a)∧(Jo bM (b - a) a k C=Jo bM (b - a) a ((b - a - 1) / 2 +1) d)∧(ac.ownsRow B 95 1 (.slice c n cp) n<|LE aX C)∧(Md (fun q=>(bE c n cp).ownBlock=some q) w ac)∧(I 0= .slice c n cp)∧(I 6=aj a)∧(I 7= .int .i64 0)∧(I 8=aj (b - a))∧(I 9= .int .i64 ((k:Nat) - 1:Int))∧(k=M)) _ ⟨(b - a - 1) / 2 +1,d,ab,aa,hO,(Md.refl _ _),aa,aa,aa,aa,(iv ab),aa⟩ ?_
 rintro M I ac ⟨k,C,hk,Z,E,O,aT,aU,aV,aW,aY,rfl⟩
 refine fx 0 aT<|fx 6 aU<|fx 7 aV<|fx 8 aW<|fx 9 aY<|az fun ax=>ak fun aA=>au (.int .i64 ((k:Nat) - 1:Int))<|p (ge aa aa)<|nl<|aA<|cd aa (fun aO=> ?_) fun aO=> ?_
 refine aR<|ax<|az fun Y=>aB<|rg aa<|au (.slice c n cp)<|au (.int .i64 ((k:Nat) - 1:Int))<|au (aj<|b - a)<|au (aj a)<|e<|cl DG (HK C (k - 1) (b - a) a _ _ B n cp c _ E ab ab aa ad) aa fun v26 a9 aM=> ?_
 obtain ⟨rfl,aK,aD⟩:=aM
 exact nl<|bn<|Y<|rg aa<|au (.int .i64 ((k:Nat) - 1:Int))<|p (sb aa aa<|cC ab)<|p aE<|nl<|tn<|⟨_,ab,k - 1,qf bM (b - a) a (k - 1) C,ab,(by rw [← Z,Q1 (show 0 < k by omega)]),aK,(Md.trans O aD),aa,aa,aa,aa,(iv ab),aa⟩
 refine ext<|bh<|bh<|be<|av<|ak fun Y=>au (aj<|b - a)<|p (dt ((b - a - 1:Nat):Int) aa aa<|bm ab ab)<|ay<|Y<|aB<|lp (fun M J G=> ∃ (k:Nat) (C:Array Nat),(k≤b - a)∧(Go.Sort.heapPop bM a k C=Jp bM d a b)∧(G.ownsRow B 95 1 (.slice c n cp) n<|LE aX C)∧(Md (fun q=>(bE c n cp).ownBlock=some q) w G)∧(J 0= .slice c n cp)∧(J 6=aj a)∧(J 7= .int .i64 0)∧(J 8=aj (b - a))∧(J 10= .int .i64 ((k:Nat) - 1:Int))∧(k=M)) _ ⟨b - a,C,ab,(by rw [show k=0 by omega,Q2] at Z; rw [Z]; rfl),E,O,aa,aa,aa,aa,(iv ab),aa⟩ ?_
 rintro M J G ⟨k,C,a7,ae,E,O,aZ,a1,a2,a3,a0,rfl⟩
 refine fx 0 aZ<|fx 6 a1<|fx 7 a2<|fx 8 a3<|fx 10 a0<|az fun aC=>ak fun al=>au (.int .i64 ((k:Nat) - 1:Int))<|p (ge aa aa)<|nl<|al<|cd aa (fun aP=> ?_) fun aP=> ?_
 refine aR<|aC<|az fun am=>aB<|az fun an=> ?_
 have a5:=eT E
 have A:(fun w'=>Wk G w') G.drew:=(Md.refl _ _).drew
 refine eL (fun w'=>Wk G w') 17 aa wide A<|bw 0 aa (.slice c n cp) A<|bw 1 aa (aj a) A<|bw 2 aa (.slice c n cp) A<|bw 3 aa (aj a) A<|bw 4 aa (.int .i64 ((k:Nat) - 1:Int)) A<|bG 5 aa (fun _=>bL ((a+(k - 1):Nat):Int) aa aa<|bm ab ab) (fun _=>A)<|bw 6 aa (.slice c n cp) A<|bw 7 aa (aj a) A<|bw 8 aa (.int .i64 ((k:Nat) - 1:Int)) A<|bG 9 aa (fun _=>bL ((a+(k - 1):Nat):Int) aa aa<|bm ab ab) (fun _=>A)<|bG 10 aa (fun _=>bd bJ aa aa ab<|aG.ok ((a6 E).2)<|bN ab) (fun _=>A)<|ez 11 aa (fun w' V=>ld bZ aa<|cU (i:=a+(k - 1)) ((a6 E).2.wk V) ab) A<|bw 12 aa (.slice c n cp) A<|bw 13 aa (aj a) A<|bG 14 aa (fun _=>bd bJ aa aa ab<|aG.ok ((a6 E).2)<|bN ab) (fun _=>A) ?_
 refine ez 15 aa (fun w' V=>ld bZ aa<|cU (i:=a) ((a6 E).2.wk V) ab) A<|bG 16 aa (fun _=>bd bJ aa aa ab<|aG.ok ((a6 E).2)<|bN ab) (fun _=>A)<|dq 17 aa ag ag<|fD (u:=C[a+(k - 1)]!) (a) (a8 E A) fq aa aa aa ab fun bc aI aQ=>bG 18 aa (fun _=>bd bJ aa aa ab<|aG.ok ((a6 E).2)<|bN ab) (fun h=>dv<|(show true =_ from by kernel_rfl).trans h)<|dq 19 aa ag ag<|fD (u:=C[a]!) (a+(k - 1)) aQ fq aa aa aa ab fun ah aJ aS=> ?_
 have V:ah.ownsRow B 95 1 (.slice c n cp) n (LE aX<|bV C (a)<|a+(k - 1)):=aS
 have aH:Md (fun q=>(bE c n cp).ownBlock=some q) G ah:=Md.trans (A.mono fun _ _ h=>h.elim)<|Md.trans aI aJ
 refine eK ag<|an<|rg aa<|au (.slice c n cp)<|au (.int .i64 0)<|au (.int .i64 ((k:Nat) - 1:Int))<|au (aj a)<|e<|cl DG (HK (bV C a<|a+(k - 1)) 0 (k - 1) a _ _ B n cp c _ V ab aa ab ad) aa fun v55 bb aN=> ?_
 obtain ⟨rfl,aL,aF⟩:=aN
 exact nl<|bn<|am<|rg aa<|au (.int .i64 ((k:Nat) - 1:Int))<|p (sb aa aa<|cC ab)<|p aE<|nl<|tn<|⟨_,ab,k - 1,qf bM (k - 1) a 0 (bV C a<|a+(k - 1)),ab,(by rw [← ae,Rs (show 0 < k by omega)]),aL,(Md.trans O<|Md.trans aH aF),aa,aa,aa,aa,(iv ab),aa⟩
 exact ext<|bh<|bh<|be<|f0 aa<|⟨aa,by rw [← ae,show k=0 by omega]; exact E,O⟩
theorem UH (d:Array Nat) (a b:Nat) (B n cp:Nat) (A:Option Addr) (w:World) (hO:w.ownsRow B 95 1 (.slice A n cp) n (LE aX d)) (aC:a < b∧b≤n) (aF:n≤1099511627776):
 bf ao 288 (ba [.slice A n cp,aj a,aj b]) w (fun v w'=>v= .tuple #[]∧w'.ownsRow B 95 1 (.slice A n cp) n (LE aX<|Cn d a b)∧Md (fun q=>(bE A n cp).ownBlock=some q) w w'):=by
 refine enter func288 aa ntmps288 aa<|ak fun Z=>au (aj a)<|p (cj (aj a) aa)<|nl<|Z<|ak fun ac=>au (aj b)<|p (dt ((b - 1:Nat):Int) aa aa<|bm ab ab)<|ay<|ac<|aB<|lp (fun M J G=> ∃ (i j:Nat) (E:Array Nat),(i≤n∧j < n)∧(Go.Sort.reverseLoop i j E=Cn d a b)∧(G.ownsRow B 95 1 (.slice A n cp) n<|LE aX E)∧(Md (fun q=>(bE A n cp).ownBlock=some q) w G)∧(J 0= .slice A n cp)∧(J 6=aj i)∧(J 7=aj j)∧(j - i=M)) _ ⟨a,b - 1,d,ab,aa,hO,(Md.refl _ _),aa,aa,aa,aa⟩ ?_
 rintro M J G ⟨i,j,E,hi,V,C,O,aw,ax,aA,rfl⟩
 refine fx 0 aw<|fx 6 ax<|fx 7 aA<|az fun ad=>ak fun ae=>au (aj i)<|au (aj j)<|p (lt aa aa)<|nl<|ae<|cd aa (fun ap=> ?_) fun ap=> ?_
 refine aR<|ad<|aB<|az fun ah=> ?_
 have aD:=eT C
 have c:(fun w'=>Wk G w') G.drew:=(Md.refl _ _).drew
 refine eL (fun w'=>Wk G w') 13 aa wide c<|bw 0 aa (.slice A n cp) c<|bw 1 aa (aj i) c<|bw 2 aa (.slice A n cp) c<|bw 3 aa (aj j) c<|bw 4 aa (.slice A n cp) c<|bw 5 aa (aj j) c<|bG 6 aa (fun _=>bd bJ aa aa ab<|aG.ok ((a6 C).2)<|bN ab) (fun _=>c)<|ez 7 aa (fun w' I=>ld bZ aa<|cU (i:=j) ((a6 C).2.wk I) ab) c<|bw 8 aa (.slice A n cp) c<|bw 9 aa (aj i) c<|bG 10 aa (fun _=>bd bJ aa aa ab<|aG.ok ((a6 C).2)<|bN ab) (fun _=>c)<|ez 11 aa (fun w' I=>ld bZ aa<|cU (i:=i) ((a6 C).2.wk I) ab) c<|bG 12 aa (fun _=>bd bJ aa aa ab<|aG.ok ((a6 C).2)<|bN ab) (fun _=>c)<|dq 13 aa ag ag<|fD (u:=E[j]!) (i) (a8 C c) fq aa aa aa ab fun aH am aq=> ?_
 refine bG 14 aa (fun _=>bd bJ aa aa ab<|aG.ok ((a6 C).2)<|bN ab) (fun h=>dv<|(show true =_ from by kernel_rfl).trans h)<|dq 15 aa ag ag<|fD (u:=E[i]!) (j) aq fq aa aa aa ab fun Y an av=> ?_
 have I:Y.ownsRow B 95 1 (.slice A n cp) n (LE aX<|bV E (i)<|j):=av
 have al:Md (fun q=>(bE A n cp).ownBlock=some q) G Y:=Md.trans (c.mono fun _ _ h=>h.elim)<|Md.trans am an
 refine eK ag<|ah<|ak fun ai=>au (aj i)<|p (bL ((i+1:Nat):Int) aa aa<|bm ab ab)<|ay<|ai ?_
 exact rg aa<|au (aj j)<|p (dt ((j - 1:Nat):Int) aa aa<|bm ab ab)<|p aE<|nl<|bn<|tn<|⟨_,ab,i+1,j - 1,bV E i j,ab,(by rw [← V,UF (show i < j by omega)]),I,(Md.trans O al),aa,aa,aa,aa⟩
 exact ext<|bh<|bh<|be<|f0 aa<|⟨aa,by rw [← V,UG ab]; exact C,O⟩
end Go.Hb
end
section
namespace Go.Hb
open Go.Hb.dF
theorem Wt {n:Nat} {l:List UInt8} (h:n < 256) (a:∀ k:Fin 256,(l.getD k.val 0).toNat=ka k.val):IntKind.i64.wrap ((l.getD n 0).toNat:Int)=(ka n:Int):=by
 rw [a ⟨n,h⟩]; have :=wO h; exact cC<|by simp only; omega
theorem Vd {k:Nat} (h:k≤8):dO.wrap ((1:Int)*2 ^ min ((k:Nat):Int).toNat dO.bits)=((2 ^ k:Nat):Int):=by
 have h2:(dO.bits:Nat)=64:=rfl
 rw [Int.toNat_natCast,h2,Nat.min_eq_left ab,Int.one_mul]
 have h3:(2:Nat) ^ k≤2 ^ 8:=Nat.pow_le_pow_right aw h
 have h4:((2:Int) ^ k)=((2 ^ k:Nat):Int):=by simp
 rw [h4]
 obtain ⟨m,hm⟩:∃ m:Nat,2 ^ k=m:=⟨_,rfl⟩
 rw [hm] at h3 ⊢; exact oa ab
theorem T1 {d d1 d2:Array Nat} {a b i j:Nat} (h:nA a b d d1) (hi:a≤i∧i < b) (c:a≤j∧j < b) (q:b≤d1.size) (h2:d2=bV d1 i j):nA a b d d2:=by
 subst h2; exact rh _ _ _ a b h<|Go.Sort.swp_permIn d1 a b i j hi.1 hi.2 c.1 c.2 q
theorem A0 (d:Array Nat) (i j s lo hi C:Nat) (B n cp:Nat) (A:Option Addr) (w:World) (hO:w.ownsRow B 95 1 (.slice A n cp) n (LE aX d)) (M:bD w.heap C [aj s]) (am:(bE A n cp).ownBlock≠some C) (aw:lo≤i∧i < hi∧lo≤j∧j < hi∧hi≤n) (hs:s≤1000) (av:n≤1099511627776):
 bf ao 308 (ba [.slice A n cp,aj i,aj j,aU C]) w (fun v w'=> ∃ I J s1:Nat,v= .tuple #[aj I,aj J]∧(lo≤I∧I < hi)∧(lo≤J∧J < hi)∧s1≤s+1∧bD w'.heap C [aj s1]∧w'.ownsRow B 95 1 (.slice A n cp) n (LE aX d)∧Md (fun q=>q=C) w w'):=by
 refine enter func308 aa ntmps308 aa<|ak fun Y=>p aE<|ay<|Y<|az fun Z=>az fun ac=> ?_
 have aq:=eT hO
 have a:(fun w'=>Wk w w') w.drew:=(Md.refl _ _).drew
 refine bT (fun w'=>Wk w w') aa wide a<|bQ 0 aa (.slice A n cp) a<|bQ 1 aa (aj j) a<|aH 2 aa (fun _ _=>bd bJ aa aa ab<|aG.ok ((a6 hO).2)<|bN ab) a<|aH 3 aa (fun w' G=>ld bZ aa<|cU (i:=j) ((a6 hO).2.wk G) ab) a<|bQ 4 aa (.slice A n cp) a<|bQ 5 aa (aj i) a<|aH 6 aa (fun _ _=>bd bJ aa aa ab<|aG.ok ((a6 hO).2)<|bN ab) a<|aH 7 aa (fun w' G=>ld bZ aa<|cU (i:=i) ((a6 hO).2.wk G) ab) a<|he 8 aa ag<|cl k9 (lg d[j]! d[i]! _) aa fun ax ap al=> ?_
 obtain ⟨rfl,ah⟩:=al
 have c:(fun w'=>Wk w w') ap:=Md.trans a ah
 refine ⟨c,?_⟩
 refine hn ag<|ac<|cb aa (fun an=> ?_) fun an=> ?_
 have O:=c.B M
 have ai:=a8 hO c
 exact ak fun E=>au (aU C)<|p (nc aa)<|p (ld bO aa<|O.aM 0)<|p (bL ((s+1:Nat):Int) aa aa<|bm ab ab)<|p (nc aa)<|e<|st jN aa aa (aa) (O) (by simp) fun aA V ae=>nl<|E<|ak fun ad=>au (aj j)<|au (aj i)<|p (cj (aj j) aa)<|p (cj (aj i) aa)<|nl<|ad<|rt<|tr<|f2 aa aa aa<|⟨j,i,s+1,aa,ab,ab,ab,ae,cx ai V (fun k hk h=>am<|h ▸ hk),Md.trans (c.mono fun _ _ h=>h.elim) V⟩
 exact aR<|Z<|ak fun E=>au (aj i)<|au (aj j)<|p (cj (aj i) aa)<|p (cj (aj j) aa)<|nl<|E<|rt<|f2 aa aa aa<|⟨i,j,s,aa,ab,ab,ab,c.B M,a8 hO c,c.mono fun _ _ h=>h.elim⟩
theorem GH (d:Array Nat) (i j k s lo hi a:Nat) (B n cp:Nat) (c:Option Addr) (w:World) (hO:w.ownsRow B 95 1 (.slice c n cp) n (LE aX d)) (V:bD w.heap a [aj s]) (A:(bE c n cp).ownBlock≠some a) (aH:(lo≤i∧i < hi)∧(lo≤j∧j < hi)∧(lo≤k∧k < hi)∧hi≤n) (hs:s≤900) (C:n≤1099511627776):
 bf ao 302 (ba [.slice c n cp,aj i,aj j,aj k,aU a]) w (fun v w'=> ∃ E s1:Nat,v=aj E∧(lo≤E∧E < hi)∧s1≤s+3∧bD w'.heap a [aj s1]∧w'.ownsRow B 95 1 (.slice c n cp) n (LE aX d)∧Md (fun q=>q=a) w w'):=by
 refine enter func302 aa ntmps302 aa<|ak fun G=>ay<|G<|ak fun I=>au (.slice c n cp)<|au (aj i)<|au (aj j)<|au (aU a)<|e<|cl za (A0 d i j s lo hi a B n cp c _ hO V A ab ab C) aa fun aM aN am=> ?_
 obtain ⟨i1,av,s1,rfl,aB,aD,aI,Y,ah,ad⟩:=am
 refine p mv<|p (xt aa aa)<|p (xt aa aa)<|p aE<|ay<|I<|az fun J=>rg aa<|au (.slice c n cp)<|p mv<|au (aj k)<|au (aU a)<|e<|cl za (A0 d av k s1 lo hi a B n cp c _ ah Y A ab ab C) aa fun v24 aO an=> ?_
 obtain ⟨aw,aL,s2,rfl,aF,aG,aJ,Z,ai,ae⟩:=an
 refine p mv<|p (xt aa aa)<|p (xt aa aa)<|p aE<|ay<|J<|az fun M=>rg aa<|au (.slice c n cp)<|p mv<|p mv<|au (aU a)<|e<|cl za (A0 d i1 aw s2 lo hi a B n cp c _ ai Z A ab ab C) aa fun v32 aP ap=> ?_
 obtain ⟨i3,ax,aA,rfl,aC,aq,aK,ac,al,ag⟩:=ap
 exact p mv<|p (xt aa aa)<|p (xt aa aa)<|p aE<|ay<|M<|az fun O=>rg aa<|p mv<|ay<|O<|rt<|bc aa<|⟨ax,aA,aa,aq,ab,ac,al,Md.trans ad<|Md.trans ae ag⟩
theorem AD (d:Array Nat) (i s lo hi a:Nat) (B n cp:Nat) (c:Option Addr) (w:World) (hO:w.ownsRow B 95 1 (.slice c n cp) n (LE aX d)) (G:bD w.heap a [aj s]) (J:(bE c n cp).ownBlock≠some a) (O:lo+1≤i∧i+1 < hi∧hi≤n) (hs:s≤900) (M:n≤1099511627776):
 bf ao 301 (ba [.slice c n cp,aj i,aU a]) w (fun v w'=> ∃ A s1:Nat,v=aj A∧(lo≤A∧A < hi)∧s1≤s+3∧bD w'.heap a [aj s1]∧w'.ownsRow B 95 1 (.slice c n cp) n (LE aX d)∧Md (fun q=>q=a) w w'):=by
 exact enter func301 aa ntmps301 aa<|ak fun C=>ay<|C<|ak fun E=>au (.slice c n cp)<|au (aj i)<|p (dt ((i - 1:Nat):Int) aa aa<|bm ab ab)<|au (aj i)<|au (aj i)<|p (bL ((i+1:Nat):Int) aa aa<|bm ab ab)<|au (aU a)<|e<|cl DH (GH d (i - 1) i (i+1) s lo hi a B n cp c _ hO G J ab ab M) aa fun V Y I=>p aE<|nl<|E<|rt<|bc aa<|I
theorem Nd (d:Array Nat) (a b:Nat) (B n cp:Nat) (c:Option Addr) (w:World) (hO:w.ownsRow B 95 1 (.slice c n cp) n (LE aX d)) (bq:a+12 < b∧b≤n) (M:n≤1099511627776):
 bf ao 287 (ba [.slice c n cp,aj a,aj b]) w (fun v w'=> ∃ (am:Nat) (bk:Int),v= .tuple #[aj am,.int .i64 bk]∧(a≤am∧am < b)∧w'.ownsRow B 95 1 (.slice c n cp) n (LE aX d)∧Wk w w'):=by
 refine enter func287 aa ntmps287 aa<|ak fun aq=>p aE<|ay<|aq<|ak fun av=>au (aj b)<|au (aj a)<|p (dt ((b - a:Nat):Int) aa aa<|bm ab ab)<|ay<|av<|ak fun aw=>e<|al Xk fun A bM bs ae an=> ?_
 have ap:=a8 hO ae.md
 have J:(bE c n cp).ownBlock≠some A:=fun h=>by have :=cV hO h; omega
 refine nl<|aw<|ak fun ax=>au (aj a)<|p mv<|p (pS (((b - a) / 4:Nat):Int) aa aa ab<|bm ab ab)<|p (qN (((b - a) / 4:Nat):Int) aa aa<|bm ab ab)<|p (bL ((a+(b - a) / 4:Nat):Int) aa aa<|bm ab ab)<|ay<|ax<|ak fun aA=>au (aj a)<|p mv<|p (pS (((b - a) / 4:Nat):Int) aa aa ab<|bm ab ab)<|p (qN (((b - a) / 4 *2:Nat):Int) aa aa<|bm ab ab)<|p (bL ((a+(b - a) / 4 *2:Nat):Int) aa aa<|bm ab ab)<|ay<|aA<|ak fun aC=>au (aj a)<|p mv<|p (pS (((b - a) / 4:Nat):Int) aa aa ab<|bm ab ab)<|p (qN (((b - a) / 4 *3:Nat):Int) aa aa<|bm ab ab)<|p (bL ((a+(b - a) / 4 *3:Nat):Int) aa aa<|bm ab ab)<|ay<|aC ?_
 refine az fun aD=>ak fun aF=>p mv<|p (ge aa aa)<|nl<|aF<|cd aa (fun bt=> ?_) fun h=>absurd ab h
 refine e6 (fun q V=> ∃ (C E G O:Nat),(a≤C∧C < b)∧(a≤E∧E < b)∧(a≤G∧G < b)∧(O≤9)∧(bD V.heap A [aj O])∧(V.ownsRow B 95 1 (.slice c n cp) n<|LE aX d)∧(Wk w V)∧(q 0= .slice c n cp)∧(q 1=aj a)∧(q 2=aj b)∧(q 8=aj (b - a))∧(q 9=aU A)∧(q 10=aj C)∧(q 11=aj E)∧(q 12=aj G)) ?_ ?_
 refine ak fun ac=>p mv<|p (ge aa aa)<|nl<|ac<|cd aa (fun a2=> ?_) fun a2=> ?_
 refine ak fun Y=>au (.slice c n cp)<|p mv<|e<|cl y9 (AD d (a+(b - a) / 4) 0 a b A B n cp c _ ap an J ab ab M) aa fun v37 bI aY=> ?_
 obtain ⟨i1,s1,rfl,a5,bx,aG,aS,aN⟩:=aY
 refine ay<|Y<|ak fun I=>au (.slice c n cp)<|p mv<|e<|cl y9 (AD d (a+(b - a) / 4 *2) s1 a b A B n cp c _ aS aG J ab ab M) aa fun v40 bJ aZ=> ?_
 obtain ⟨bl,s2,rfl,a6,bz,aH,aT,aO⟩:=aZ
 refine ay<|I<|rg aa<|au (.slice c n cp)<|p mv<|e<|cl y9 (AD d (a+(b - a) / 4 *3) s2 a b A B n cp c _ aT aH J ab ab M) aa fun bG bK a0=> ?_
 obtain ⟨bn,bo,rfl,a7,bA,aI,aV,aP⟩:=a0
 exact p aE<|nl<|tn<|⟨i1,bl,bn,bo,a5,a6,a7,ab,aI,aV,(Md.trans' ae.md (Md.trans aN<|Md.trans aO aP) fun k hk h=>by omega),aa,aa,aa,aa,aa,aa,aa,aa⟩
 exact aR<|tn<|⟨a+(b - a) / 4,a+(b - a) / 4 *2,a+(b - a) / 4 *3,0,ab,ab,ab,ab,an,ap,ae.md,aa,aa,aa,aa,aa,aa,aa,aa⟩
 rintro q V ⟨C,E,G,O,bu,bv,bw,bC,aK,aW,aL,a9,bb,bh,bi,bj,bc,bd,bg⟩
 refine fx 0 a9<|fx 1 bb<|fx 2 bh<|fx 8 bi<|fx 9 bj<|fx 10 bc<|fx 11 bd<|fx 12 bg<|rg aa<|au (.slice c n cp)<|au (aj C)<|au (aj E)<|au (aj G)<|e<|cl DH (GH d C E G O a b A B n cp c _ aW aK J ab ab M) aa fun bH bp a1=> ?_
 obtain ⟨ai,bF,rfl,ah,bB,aJ,ag,aQ⟩:=a1
 have ad:Wk w bp:=Md.trans' aL aQ fun k hk h=>by omega
 refine ay<|aD<|ak fun ac=>p (ld bO aa<|aJ.aM 0)<|nl<|ac<|aB<|ak fun Y=>p (cw aa aa)<|ay<|Y<|cd aa (fun a3=> ?_) fun a3=> ?_
 exact ak fun I=>p mv<|p aE<|ay<|I<|rt<|br<|f2 aa aa aa<|⟨ai,_,aa,ah,ag,ad⟩
 refine ak fun I=>p (cw aa aa)<|ay<|I<|cd aa (fun a4=> ?_) fun a4=> ?_
 exact ak fun Z=>p mv<|p aE<|ay<|Z<|rt<|br<|f2 aa aa aa<|⟨ai,_,aa,ah,ag,ad⟩
 exact ak fun Z=>p mv<|p aE<|ay<|Z<|rt<|br<|f2 aa aa aa<|⟨ai,_,aa,ah,ag,ad⟩
theorem Ti (a:Nat) (r:Int) (w:World) (I:bD w.heap a [.int .u64 r]):
 bf ao 185 (ba [aU a]) w (fun v w'=> ∃ G:Int,v= .int .u64 G∧0≤G∧G < 18446744073709551616∧bD w'.heap a [.int .u64 G]∧Md (fun q=>q=a) w w'):=by
 refine enter func185 aa ntmps185 aa<|ak fun Z=>ay<|Z<|az fun ab=> ?_
 have A:(fun w'=>Wk w w') w.drew:=(Md.refl _ _).drew
 refine eL (fun w'=>Wk w w') 9 aa wide A<|lq 0 aa ag (fun _ _=>aJ (aU a) aa) A<|lq 1 aa ag (fun _ _=>nc aa) A<|lq 2 aa ag (fun w' c=>ld qs aa<|Wk.aM c<|I.aM 0) A<|lq 3 aa ag (fun _ _=>aJ (aU a) aa) A<|lq 4 aa ag (fun _ _=>nc aa) A<|lq 5 aa ag (fun w' c=>ld qs aa<|Wk.aM c<|I.aM 0) A<|lq 6 aa ag (fun _ _=>shl aa aa aw aa) A<|lq 7 aa ag (fun _ _=>yN aa aa aa) A<|lq 8 aa ag (fun _ _=>nc aa) A<|dq 9 aa ag ag<|st vM aa aa (aa) (A.B I) (by simp) fun O ah J=>eK ag<|ab<|az fun ac=> ?_
 have C:(fun w'=>Wk O w') O.drew:=(Md.refl _ _).drew
 refine eL (fun w'=>Wk O w') 9 aa wide C<|lq 0 aa ag (fun _ _=>aJ (aU a) aa) C<|lq 1 aa ag (fun _ _=>nc aa) C<|lq 2 aa ag (fun w' c=>ld qs aa<|Wk.aM c<|J.aM 0) C<|lq 3 aa ag (fun _ _=>aJ (aU a) aa) C<|lq 4 aa ag (fun _ _=>nc aa) C<|lq 5 aa ag (fun w' c=>ld qs aa<|Wk.aM c<|J.aM 0) C<|lq 6 aa ag (fun _ _=>shr aa aa aw aa) C<|lq 7 aa ag (fun _ _=>yN aa aa aa) C<|lq 8 aa ag (fun _ _=>nc aa) C<|dq 9 aa ag ag<|st vM aa aa (aa) (C.B J) (by simp) fun V ai M=>eK ag<|ac<|az fun ad=> ?_
 have E:(fun w'=>Wk V w') V.drew:=(Md.refl _ _).drew
 refine eL (fun w'=>Wk V w') 9 aa wide E<|lq 0 aa ag (fun _ _=>aJ (aU a) aa) E<|lq 1 aa ag (fun _ _=>nc aa) E<|lq 2 aa ag (fun w' c=>ld qs aa<|Wk.aM c<|M.aM 0) E<|lq 3 aa ag (fun _ _=>aJ (aU a) aa) E<|lq 4 aa ag (fun _ _=>nc aa) E<|lq 5 aa ag (fun w' c=>ld qs aa<|Wk.aM c<|M.aM 0) E<|lq 6 aa ag (fun _ _=>shl aa aa aw aa) E<|lq 7 aa ag (fun _ _=>yN aa aa aa) E<|lq 8 aa ag (fun _ _=>nc aa) E<|dq 9 aa ag ag<|st vM aa aa (aa) (E.B M) (by simp) fun al aj Y=>eK ag<|ad<|ak fun ae=>au (aU a)<|p (nc aa)<|p (ld qs aa<|Y.aM 0)<|p aE<|nl ?_
 refine ae<|rt<|bc aa ?_
 refine ⟨_,aa,(Ig _).1,(Ig _).2,Y,?_⟩
 exact Md.trans (Md.refl _ _).drew<|Md.trans ah<|Md.trans (Md.refl _ _).drew<|Md.trans ai<|Md.trans (Md.refl _ _).drew aj
theorem Sj (n:Nat) (w:World) (hn:n < 256):
 bf ao 124 (ba [.int .u64 (n:Nat)]) w (fun v w'=>v=aj (ka n)∧Wk w w'):=by
 have V:=wO hn
 refine enter func124 aa ntmps124 aa<|ak fun a=>ay<|a<|az fun c=>ak fun q=>au (.int .u64 (n:Nat))<|p (ge aa aa)<|nl<|q<|cd aa (fun h=>absurd h ab) fun M=>aR<|c<|az fun A=>ak fun C=>au (.int .u64 (n:Nat))<|p (ge aa aa)<|nl<|C<|cd aa (fun h=>absurd h ab) fun O=> ?_
 refine aR<|A<|az fun E=>ak fun G=>au (.int .u64 (n:Nat))<|p (ge aa aa)<|nl<|G<|cd aa (fun h=>absurd h ab) fun J=> ?_
 exact aR<|E<|ak fun I=>au (.int .i64 0)<|au (.int .u64 (n:Nat))<|p (zp u5 WB aa<|BR ab)<|p (j8 u9 aa aa (by have :n < 256:=hn; simpa using this))<|p (nQ u3 uC aa<|Wt hn<|by decide+kernel)<|p (bL ((ka n:Nat):Int) aa aa<|bm ab ab)<|ay<|I<|rt<|bc aa<|⟨aa,Md.refl _ _⟩
theorem Gp (n:Nat) (w:World) (hn:n < 256):
 bf ao 66 (ba [.int .u64 (n:Nat)]) w (fun v w'=>v=aj (ka n)∧Wk w w'):=by
 refine enter func66 aa ntmps66 aa<|ak fun a=>ay<|a<|az fun c=>cf aa<|aR<|c<|ak fun q=>au (.int .u64 (n:Nat))<|e<|cl Lz (Sj n _ hn) aa fun C E A=>ay<|q ?_
 exact rt<|bc aa<|A
theorem Tj (n:Nat) (w:World) (hn:n < 256):
 bf ao 184 (ba [aj n]) w (fun v w'=>v= .int .u64 (2 ^ ka n:Nat)∧Wk w w'):=by
 refine enter func184 aa ntmps184 aa<|ak fun a=>ay<|a<|ak fun c=>au (aj n)<|p (nQ Ic sE aa<|oa ab)<|e<|cl DP (Gp n _ hn) aa fun v5 E A=> ?_
 obtain ⟨rfl,q⟩:=A
 have C:=wO hn
 exact p (shl aa aa ab<|Vd C)<|ay<|c<|rt<|bc aa<|⟨aa,q⟩
theorem Lm (d:Array Nat) (a b:Nat) (B n cp:Nat) (A:Option Addr) (w:World) (hO:w.ownsRow B 95 1 (.slice A n cp) n (LE aX d)) (bt:a+12 < b∧b≤n) (bB:n≤255):
 bf ao 286 (ba [.slice A n cp,aj a,aj b]) w (fun v w'=> ∃ d1,v= .tuple #[]∧nA a b d d1∧w'.ownsRow B 95 1 (.slice A n cp) n (LE aX d1)∧Md (fun q=>(bE A n cp).ownBlock=some q) w w'):=by
 refine enter func286 aa ntmps286 aa<|ak fun ax=>au (aj b)<|au (aj a)<|p (dt ((b - a:Nat):Int) aa aa<|bm ab ab)<|ay<|ax<|ak fun aC=>p mv<|p (ge aa aa)<|nl<|aC<|cd aa (fun bv=> ?_) fun h=>absurd ab h
 refine ak fun aD=>p mv<|p (nQ Wq sE aa<|oa ab)<|e<|al Xj fun V bR bu aY aO=>e<|st vM aa aa (aa) (aO) (by simp) fun bs aS aN=> ?_
 have aq:Wk w bs:=Md.trans' aY.md aS fun k hk h=>by omega
 refine nl<|aD<|ak fun aF=>p mv<|e<|cl LU (Tj (b - a) _ ab) aa fun bM bP aZ=> ?_
 obtain ⟨rfl,ae⟩:=aZ
 have bA:=Sk (n:=b - a) ab ab
 refine ay<|aF<|ak fun aI=>au (aj a)<|p mv<|p (pS (((b - a) / 4:Nat):Int) aa aa ab<|bm ab ab)<|p (qN (((b - a) / 4 *2:Nat):Int) aa aa<|bm ab ab)<|p (bL ((a+(b - a) / 4 *2:Nat):Int) aa aa<|bm ab ab)<|p (dt ((a+(b - a) / 4 *2 - 1:Nat):Int) aa aa<|bm ab ab)<|ay<|aI<|aB ?_
 have Z:(bE A n cp).ownBlock≠some V:=fun h=>by have :=cV hO h; omega
 refine lp (fun an O ad=> ∃ (C:Nat) (r:Int) (G:Array Nat),(a+(b - a) / 4 *2 - 1≤C∧C≤a+(b - a) / 4 *2 +2)∧(nA a b d G)∧(bD ad.heap V [.int .u64 r])∧(ad.ownsRow B 95 1 (.slice A n cp) n<|LE aX G)∧(Md (fun q=>(bE A n cp).ownBlock=some q) w ad)∧(O 0= .slice A n cp)∧(O 1=aj a)∧(O 6=aj (b - a))∧(O 7=aU V)∧(O 8= .int .u64 (2 ^ ka (b - a):Nat))∧(O 9=aj C)∧(a+(b - a) / 4 *2 +3 - C=an)) _ ⟨a+(b - a) / 4 *2 - 1,(b - a:Nat),d,ab,(Js d a b),(ae.B aN),(a8 (a8 hO aq) ae),((Md.trans aq ae).mono fun _ _ h=>h.elim),aa,aa,aa,aa,aa,aa,aa⟩ ?_
 rintro an O ad ⟨C,r,G,bz,aH,aQ,ai,ah,a7,a9,bb,bc,bg,bi,rfl⟩
 refine fx 0 a7<|fx 1 a9<|fx 6 bb<|fx 7 bc<|fx 8 bg<|fx 9 bi<|az fun aJ=>ak fun aK=>au (aj C)<|au (aj a)<|au (aj<|b - a)<|p (pS (((b - a) / 4:Nat):Int) aa aa ab<|bm ab ab)<|p (qN (((b - a) / 4 *2:Nat):Int) aa aa<|bm ab ab)<|p (bL ((a+(b - a) / 4 *2:Nat):Int) aa aa<|bm ab ab)<|p (bL ((a+(b - a) / 4 *2 +1:Nat):Int) aa aa<|bm ab ab)<|p (le aa aa)<|nl<|aK<|cd aa (fun a1=> ?_) fun a1=> ?_
 refine aR<|aJ<|az fun aL=>aB<|ak fun aM=>e<|cl LV (Ti V r _ aQ) aa fun bO bQ a0=> ?_
 obtain ⟨am,rfl,bI,bK,ap,ac⟩:=a0
 obtain ⟨o,bF,a5⟩:=KO am (2 ^ ka (b - a)) ab
 have bC:=Z
 refine au (.int .u64 (2 ^ ka (b - a):Nat))<|p (sb aa aa<|oa ab)<|p (eH aa aa a5)<|p (zp u3 WA aa<|cC ab)<|ay<|aM ?_
 refine e6 (fun M J=> ∃ (E:Nat),(E < b - a)∧(bD J.heap V [.int .u64 am])∧(J.ownsRow B 95 1 (.slice A n cp) n<|LE aX G)∧(Md (fun q=>(bE A n cp).ownBlock=some q) w J)∧(M 0= .slice A n cp)∧(M 1=aj a)∧(M 6=aj (b - a))∧(M 7=aU V)∧(M 8= .int .u64 (2 ^ ka (b - a):Nat))∧(M 9=aj C)∧(M 10=aj E)) ?_ ?_
 refine ak fun aA=>p mv<|au (aj<|b - a)<|p (ge aa aa)<|nl<|aA<|cd aa (fun a2=> ?_) fun a2=> ?_
 exact rg aa<|p mv<|au (aj<|b - a)<|p (dt ((o - (b - a):Nat):Int) aa aa<|bm ab ab)<|p aE<|nl<|tn<|⟨o - (b - a),ab,ap,(cx ai ac fun k hk h=>Z<|h ▸ hk),(Md.trans' ah ac fun k hk h=>by omega),aa,aa,aa,aa,aa,aa,aa⟩
 exact aR<|tn<|⟨o,ab,ap,(cx ai ac fun k hk h=>Z<|h ▸ hk),(Md.trans' ah ac fun k hk h=>by omega),aa,aa,aa,aa,aa,aa,aa⟩
 rintro M J ⟨E,bH,aP,I,aW,bj,bk,bo,bp,bq,br,bl⟩
 refine fx 0 bj<|fx 1 bk<|fx 6 bo<|fx 7 bp<|fx 8 bq<|fx 9 br<|fx 10 bl ?_
 have bx:=eT I
 have c:(fun w'=>Wk J w') J.drew:=(Md.refl _ _).drew
 refine eL (fun w'=>Wk J w') 17 aa wide c<|bw 0 aa (.slice A n cp) c<|bw 1 aa (aj C) c<|bw 2 aa (.slice A n cp) c<|bw 3 aa (aj a) c<|bw 4 aa (aj E) c<|bG 5 aa (fun _=>bL ((a+E:Nat):Int) aa aa<|bm ab ab) (fun _=>c)<|bw 6 aa (.slice A n cp) c<|bw 7 aa (aj a) c<|bw 8 aa (aj E) c<|bG 9 aa (fun _=>bL ((a+E:Nat):Int) aa aa<|bm ab ab) (fun _=>c)<|bG 10 aa (fun _=>bd bJ aa aa ab<|aG.ok ((a6 I).2)<|bN ab) (fun _=>c)<|ez 11 aa (fun w' Y=>ld bZ aa<|cU (i:=a+E) ((a6 I).2.wk Y) ab) c<|bw 12 aa (.slice A n cp) c<|bw 13 aa (aj C) c<|bG 14 aa (fun _=>bd bJ aa aa ab<|aG.ok ((a6 I).2)<|bN ab) (fun _=>c)<|ez 15 aa (fun w' Y=>ld bZ aa<|cU (i:=C) ((a6 I).2.wk Y) ab) c<|bG 16 aa (fun _=>bd bJ aa aa ab<|aG.ok ((a6 I).2)<|bN ab) (fun _=>c)<|dq 17 aa ag ag<|fD (u:=G[a+E]!) (C) (a8 I c) fq aa aa aa ab fun bS aT a3=> ?_
 refine bG 18 aa (fun _=>bd bJ aa aa ab<|aG.ok ((a6 I).2)<|bN ab) (fun h=>dv<|(show true =_ from by kernel_rfl).trans h)<|dq 19 aa ag ag<|fD (u:=G[C]!) (a+E) a3 fq aa aa aa ab fun aw aV a4=> ?_
 have Y:aw.ownsRow B 95 1 (.slice A n cp) n (LE aX<|bV G (C)<|a+E):=a4
 have av:Md (fun q=>(bE A n cp).ownBlock=some q) J aw:=Md.trans (c.mono fun _ _ h=>h.elim)<|Md.trans aT aV
 exact eK ag<|bn<|aL<|rg aa<|au (aj C)<|p (bL ((C+1:Nat):Int) aa aa<|bm ab ab)<|p aE<|nl<|tn<|⟨_,ab,C+1,am,bV G C (a+E),ab,(T1 aH ab ab ab aa),(av.B aP fun h=>Z h),Y,(Md.trans aW av),aa,aa,aa,aa,aa,aa,aa⟩
 exact ext<|bh<|bh<|be<|f0 aa<|⟨G,aa,aH,ai,ah⟩
end Go.Hb
end
section
namespace Go.Hb
open Go.Hb.dF
theorem TT {d:Array Nat} {a b c i j:Nat} (h1:nC (fun x=>bM x (bV d a c)[a]!) (bV d a c) (b - 1) (a+1)=i) (h2:nB (fun x=> !bM x (bV d a c)[a]!) (bV d a c) i (b - 1)=j) (h:i > j):
 qe bM d a b c=(j,true,bV (bV d a c) j a):=by
 unfold qe; simp only [h1,h2,if_pos h]
theorem part_go {d:Array Nat} {a b c i j q:Nat} {A:Array Nat} (h1:nC (fun x=>bM x (bV d a c)[a]!) (bV d a c) (b - 1) (a+1)=i) (h2:nB (fun x=> !bM x (bV d a c)[a]!) (bV d a c) i (b - 1)=j) (h:¬i > j)
 (h3:Cm bM a (i+1) (j - 1) (bV (bV d a c) i j)=(q,A)):
 qe bM d a b c=(q,false,bV A q a):=by
 unfold qe; simp only [h1,h2,if_neg h,h3]
theorem TV (d:Array Nat) (a b A:Nat) (B n cp:Nat) (c:Option Addr) (w:World) (hO:w.ownsRow B 95 1 (.slice c n cp) n (LE aX d)) (dA:a≤A∧A < b∧b≤n) (dE:n≤1099511627776):
 bf ao 292 (ba [.slice c n cp,aj a,aj b,aj A]) w (fun v w'=>v= .tuple #[aj ((qe bM d a b A).1),.bool (qe bM d a b A).2.1]∧w'.ownsRow B 95 1 (.slice c n cp) n (LE aX (qe bM d a b A).2.2)∧Md (fun q=>(bE c n cp).ownBlock=some q) w w'):=by
 refine enter func292 aa ntmps292 aa<|ak fun bP=>p aE<|ay<|bP<|az fun bS=> ?_
 have dB:=eT hO
 have ae:(fun w'=>Wk w w') w.drew:=(Md.refl _ _).drew
 refine eL (fun w'=>Wk w w') 13 aa wide ae<|bw 0 aa (.slice c n cp) ae<|bw 1 aa (aj a) ae<|bw 2 aa (.slice c n cp) ae<|bw 3 aa (aj A) ae<|bw 4 aa (.slice c n cp) ae<|bw 5 aa (aj A) ae<|bG 6 aa (fun _=>bd bJ aa aa ab<|aG.ok ((a6 hO).2)<|bN ab) (fun _=>ae)<|ez 7 aa (fun w' E=>ld bZ aa<|cU (i:=A) ((a6 hO).2.wk E) ab) ae<|bw 8 aa (.slice c n cp) ae<|bw 9 aa (aj a) ae<|bG 10 aa (fun _=>bd bJ aa aa ab<|aG.ok ((a6 hO).2)<|bN ab) (fun _=>ae)<|ez 11 aa (fun w' E=>ld bZ aa<|cU (i:=a) ((a6 hO).2.wk E) ab) ae<|bG 12 aa (fun _=>bd bJ aa aa ab<|aG.ok ((a6 hO).2)<|bN ab) (fun _=>ae)<|dq 13 aa ag ag<|fD (u:=d[A]!) (a) (a8 hO ae) fq aa aa aa ab fun dH b5 cG=> ?_
 refine bG 14 aa (fun _=>bd bJ aa aa ab<|aG.ok ((a6 hO).2)<|bN ab) (fun h=>dv<|(show true =_ from by kernel_rfl).trans h)<|dq 15 aa ag ag<|fD (u:=d[a]!) (A) cG fq aa aa aa ab fun bD b6 cH=> ?_
 have cq:bD.ownsRow B 95 1 (.slice c n cp) n (LE aX<|bV d (a)<|A):=cH
 have b4:Md (fun q=>(bE c n cp).ownBlock=some q) w bD:=Md.trans (ae.mono fun _ _ h=>h.elim)<|Md.trans b5 b6
 refine eK ag<|bS<|ak fun bU=>au (aj a)<|p (bL ((a+1:Nat):Int) aa aa<|bm ab ab)<|au (aj b)<|p (dt ((b - 1:Nat):Int) aa aa<|bm ab ab)<|p aE ?_
 refine ay<|bU ?_
 refine e6 (fun aW br=> ∃ (J:Nat),(a+1≤J∧(J=a+1∨J≤b - 1 +1))∧(nC (fun x=>bM x (bV d a A)[a]!) (bV d a A) (b - 1) (a+1)=J)∧(br.ownsRow B 95 1 (.slice c n cp) n<|LE aX<|bV d a A)∧(Md (fun q=>(bE c n cp).ownBlock=some q) w br)∧(aW 0= .slice c n cp)∧(aW 1=aj a)∧(aW 10=aj J)∧(aW 11=aj (b - 1))) ?_ ?_
 refine aB<|lp (fun aq aY aL=> ∃ (q:Nat),(a+1≤q∧(q=a+1∨q≤b - 1 +1))∧(nC (fun x=>bM x (bV d a A)[a]!) (bV d a A) (b - 1) (q)=nC (fun x=>bM x (bV d a A)[a]!) (bV d a A) (b - 1) (a+1))∧(aL.ownsRow B 95 1 (.slice c n cp) n<|LE aX<|bV d a A)∧(Md (fun q=>(bE c n cp).ownBlock=some q) w aL)∧(aY 0= .slice c n cp)∧(aY 1=aj a)∧(aY 10=aj q)∧(aY 11=aj (b - 1))∧(b - 1 +1 - q=aq)) _ ⟨a+1,ab,aa,cq,b4,aa,aa,aa,aa,aa⟩ ?_
 rintro aq aY aL ⟨q,av,ap,C,an,cV,cW,cX,cY,rfl⟩
 refine fx 0 cV<|fx 1 cW<|fx 10 cX<|fx 11 cY<|az fun aT=>az fun aD=> ?_
 have aK:=eT C
 have Z:(fun w'=>Wk aL w') aL.drew:=(Md.refl _ _).drew
 refine bT (fun w'=>Wk aL w') aa wide Z<|bQ 0 aa (aj q) Z<|bQ 1 aa (aj<|b - 1) Z<|aH 2 aa (fun _ _=>le aa aa) Z<|aH 3 aa (fun _ _=>mv) Z<|kz (t:=33) aa (fun cE=> ?_) fun cE=> ?_
 refine bz 4 aa (fun _ _=>aJ (.slice c n cp) aa) Z<|bz 5 aa (fun _ _=>aJ (aj q) aa) Z<|bz 6 aa (fun _ _=>bd bJ aa aa ab<|aG.ok ((a6 C).2)<|bN ab) Z<|bz 7 aa (fun w' E=>ld bZ aa<|cU (i:=q) ((a6 C).2.wk E) ab) Z<|bz 8 aa (fun _ _=>aJ (.slice c n cp) aa) Z<|bz 9 aa (fun _ _=>aJ (aj a) aa) Z<|bz 10 aa (fun _ _=>bd bJ aa aa ab<|aG.ok ((a6 C).2)<|bN ab) Z<|bz 11 aa (fun w' E=>ld bZ aa<|cU (i:=a) ((a6 C).2.wk E) ab) Z<|lR 12 aa ag aa aa aa<|cl k9 (lg (bV d a A)[q]! (bV d a A)[a]! _) aa fun dG dy cy=> ?_
 obtain ⟨rfl,b1⟩:=cy
 have aQ:(fun w'=>Wk aL w') dy:=Md.trans Z b1
 refine ⟨aQ,?_⟩
 refine aH 13 aa (fun _ _=>bR aa) aQ<|hn ag<|aD<|cb aa (fun bl=> ?_) fun bl=> ?_
 exact aR<|aT<|aB<|rg aa<|au (aj q)<|p (bL ((q+1:Nat):Int) aa aa<|bm ab ab)<|p aE<|nl<|bn<|tn<|⟨_,ab,q+1,ab,(by rw [← ap,BK (show q≤b - 1 by omega) (by simpa using bl)]),(a8 C aQ),(Md.trans an<|aQ.mono fun _ _ h=>h.elim),aa,aa,aa,aa,aa⟩
 exact ext<|bh<|bh<|be<|tn<|⟨q,av,(by rw [← ap,sD (.inr<|by simpa using bl)]),(a8 C aQ),(Md.trans an<|aQ.mono fun _ _ h=>h.elim),aa,aa,aa,aa⟩
 exact bo 4 aa Z<|bo 5 aa Z<|bo 6 aa Z<|bo 7 aa Z<|bo 8 aa Z<|bo 9 aa Z<|bo 10 aa Z<|bo 11 aa Z<|bo 12 aa Z<|aH 13 aa (fun _ _=>bI aa) Z<|hn ag<|aD<|cf aa<|ext<|bh<|bh<|be<|tn<|⟨q,av,(by rw [← ap,sD (.inl ab)]),(a8 C (Md.refl _ _).drew),an.drew,aa,aa,aa,aa⟩
 rintro aW br ⟨J,dC,bB,bi,bg,cQ,cR,cS,cT⟩
 refine fx 0 cQ<|fx 1 cR<|fx 10 cS<|fx 11 cT ?_
 refine e6 (fun aZ ax=> ∃ (M:Nat),(a≤M∧M≤b - 1)∧(nB (fun x=> !bM x (bV d a A)[a]!) (bV d a A) (J) (b - 1)=M)∧(ax.ownsRow B 95 1 (.slice c n cp) n<|LE aX<|bV d a A)∧(Md (fun q=>(bE c n cp).ownBlock=some q) w ax)∧(aZ 0= .slice c n cp)∧(aZ 1=aj a)∧(aZ 10=aj J)∧(aZ 11=aj M)) ?_ ?_
 refine aB<|lp (fun aq a0 aN=> ∃ (q:Nat),(a≤q∧q≤b - 1)∧(nB (fun x=> !bM x (bV d a A)[a]!) (bV d a A) (J) (q)=nB (fun x=> !bM x (bV d a A)[a]!) (bV d a A) (J) (b - 1))∧(aN.ownsRow B 95 1 (.slice c n cp) n<|LE aX<|bV d a A)∧(Md (fun q=>(bE c n cp).ownBlock=some q) w aN)∧(a0 0= .slice c n cp)∧(a0 1=aj a)∧(a0 10=aj J)∧(a0 11=aj q)∧(q=aq)) _ ⟨b - 1,ab,aa,bi,bg,aa,aa,aa,aa,aa⟩ ?_
 rintro aq a0 aN ⟨q,av,ap,C,an,c3,c4,c5,c6,rfl⟩
 refine fx 0 c3<|fx 1 c4<|fx 10 c5<|fx 11 c6<|az fun aT=>az fun aD=> ?_
 have aK:=eT C
 have V:(fun w'=>Wk aN w') aN.drew:=(Md.refl _ _).drew
 refine bT (fun w'=>Wk aN w') aa wide V<|bQ 0 aa (aj J) V<|bQ 1 aa (aj q) V<|aH 2 aa (fun _ _=>le aa aa) V<|aH 3 aa (fun _ _=>mv) V<|kz (t:=49) aa (fun cF=> ?_) fun cF=> ?_
 refine bz 4 aa (fun _ _=>aJ (.slice c n cp) aa) V<|bz 5 aa (fun _ _=>aJ (aj q) aa) V<|bz 6 aa (fun _ _=>bd bJ aa aa ab<|aG.ok ((a6 C).2)<|bN ab) V<|bz 7 aa (fun w' E=>ld bZ aa<|cU (i:=q) ((a6 C).2.wk E) ab) V<|bz 8 aa (fun _ _=>aJ (.slice c n cp) aa) V<|bz 9 aa (fun _ _=>aJ (aj a) aa) V<|bz 10 aa (fun _ _=>bd bJ aa aa ab<|aG.ok ((a6 C).2)<|bN ab) V<|bz 11 aa (fun w' E=>ld bZ aa<|cU (i:=a) ((a6 C).2.wk E) ab) V<|lR 12 aa ag aa aa aa<|cl k9 (lg (bV d a A)[q]! (bV d a A)[a]! _) aa fun v58 dz cz=> ?_
 obtain ⟨rfl,b2⟩:=cz
 have aI:(fun w'=>Wk aN w') dz:=Md.trans V b2
 refine ⟨aI,?_⟩
 refine bz 13 aa (fun _ _=>no aa) aI<|aH 14 aa (fun _ _=>bR aa) aI<|hn ag<|aD<|cb aa (fun bp=> ?_) fun bp=> ?_
 exact aR<|aT<|aB<|rg aa<|au (aj q)<|p (dt ((q - 1:Nat):Int) aa aa<|bm ab ab)<|p aE<|nl<|bn<|tn<|⟨_,ab,q - 1,ab,(by rw [← ap,zw (show 0 < q by omega) (show J≤q by omega) (by simpa using bp)]),(a8 C aI),(Md.trans an<|aI.mono fun _ _ h=>h.elim),aa,aa,aa,aa,aa⟩
 exact ext<|bh<|bh<|be<|tn<|⟨q,av,(by rw [← ap,rT (.inr<|by simpa using bp)]),(a8 C aI),(Md.trans an<|aI.mono fun _ _ h=>h.elim),aa,aa,aa,aa⟩
 exact bo 4 aa V<|bo 5 aa V<|bo 6 aa V<|bo 7 aa V<|bo 8 aa V<|bo 9 aa V<|bo 10 aa V<|bo 11 aa V<|bo 12 aa V<|bo 13 aa V<|aH 14 aa (fun _ _=>bI aa) V<|hn ag<|aD<|cf aa<|ext<|bh<|bh<|be<|tn<|⟨q,av,(by rw [← ap,rT (.inl ab)]),(a8 C (Md.refl _ _).drew),an.drew,aa,aa,aa,aa⟩
 rintro aZ ax ⟨M,dD,bt,G,aU,cZ,c0,c1,c2⟩
 refine fx 0 cZ<|fx 1 c0<|fx 10 c1<|fx 11 c2<|az fun aT=>ak fun aD=>au (aj J)<|au (aj M)<|p (gt aa aa)<|nl<|aD<|cd aa (fun cB=> ?_) fun cB=> ?_
 refine az fun bb=> ?_
 have aK:=eT G
 have am:(fun w'=>Wk ax w') ax.drew:=(Md.refl _ _).drew
 refine eL (fun w'=>Wk ax w') 13 aa wide am<|bw 0 aa (.slice c n cp) am<|bw 1 aa (aj M) am<|bw 2 aa (.slice c n cp) am<|bw 3 aa (aj a) am<|bw 4 aa (.slice c n cp) am<|bw 5 aa (aj a) am<|bG 6 aa (fun _=>bd bJ aa aa ab<|aG.ok ((a6 G).2)<|bN ab) (fun _=>am)<|ez 7 aa (fun w' E=>ld bZ aa<|cU (i:=a) ((a6 G).2.wk E) ab) am<|bw 8 aa (.slice c n cp) am<|bw 9 aa (aj M) am<|bG 10 aa (fun _=>bd bJ aa aa ab<|aG.ok ((a6 G).2)<|bN ab) (fun _=>am)<|ez 11 aa (fun w' E=>ld bZ aa<|cU (i:=M) ((a6 G).2.wk E) ab) am<|bG 12 aa (fun _=>bd bJ aa aa ab<|aG.ok ((a6 G).2)<|bN ab) (fun _=>am)<|dq 13 aa ag ag<|fD (u:=(bV d a A)[a]!) (M) (a8 G am) fq aa aa aa ab fun dI b8 cI=> ?_
 refine bG 14 aa (fun _=>bd bJ aa aa ab<|aG.ok ((a6 G).2)<|bN ab) (fun h=>dv<|(show true =_ from by kernel_rfl).trans h)<|dq 15 aa ag ag<|fD (u:=(bV d a A)[M]!) (a) cI fq aa aa aa ab fun bF b9 cJ=> ?_
 have cs:bF.ownsRow B 95 1 (.slice c n cp) n (LE aX<|bV (bV d a A) (M)<|a):=cJ
 have b7:Md (fun q=>(bE c n cp).ownBlock=some q) ax bF:=Md.trans (am.mono fun _ _ h=>h.elim)<|Md.trans b8 b9
 refine eK ag<|bb<|ak fun bc=>au (aj M)<|p (cj (aj M) aa)<|ay<|bc ?_
 refine rt<|tr<|f2 aa aa aa ?_
 have aV:=TT bB bt ab
 exact ⟨by rw [aV]; rfl,by rw [aV]; exact cs,Md.trans aU b7⟩
 refine aR<|aT<|az fun bb=> ?_
 have aK:=eT G
 have ah:(fun w'=>Wk ax w') ax.drew:=(Md.refl _ _).drew
 refine eL (fun w'=>Wk ax w') 13 aa wide ah<|bw 0 aa (.slice c n cp) ah<|bw 1 aa (aj J) ah<|bw 2 aa (.slice c n cp) ah<|bw 3 aa (aj M) ah<|bw 4 aa (.slice c n cp) ah<|bw 5 aa (aj M) ah<|bG 6 aa (fun _=>bd bJ aa aa ab<|aG.ok ((a6 G).2)<|bN ab) (fun _=>ah)<|ez 7 aa (fun w' E=>ld bZ aa<|cU (i:=M) ((a6 G).2.wk E) ab) ah<|bw 8 aa (.slice c n cp) ah<|bw 9 aa (aj J) ah<|bG 10 aa (fun _=>bd bJ aa aa ab<|aG.ok ((a6 G).2)<|bN ab) (fun _=>ah)<|ez 11 aa (fun w' E=>ld bZ aa<|cU (i:=J) ((a6 G).2.wk E) ab) ah<|bG 12 aa (fun _=>bd bJ aa aa ab<|aG.ok ((a6 G).2)<|bN ab) (fun _=>ah)<|dq 13 aa ag ag<|fD (u:=(bV d a A)[M]!) (J) (a8 G ah) fq aa aa aa ab fun dJ cc cK=> ?_
 refine bG 14 aa (fun _=>bd bJ aa aa ab<|aG.ok ((a6 G).2)<|bN ab) (fun h=>dv<|(show true =_ from by kernel_rfl).trans h)<|dq 15 aa ag ag<|fD (u:=(bV d a A)[J]!) (M) cK fq aa aa aa ab fun bH ce cL=> ?_
 have ct:bH.ownsRow B 95 1 (.slice c n cp) n (LE aX<|bV (bV d a A) (J)<|M):=cL
 have ca:Md (fun q=>(bE c n cp).ownBlock=some q) ax bH:=Md.trans (ah.mono fun _ _ h=>h.elim)<|Md.trans cc ce
 refine eK ag<|bb<|ak fun bc=>au (aj J)<|p (bL ((J+1:Nat):Int) aa aa<|bm ab ab)<|ay<|bc ?_
 refine ak fun bW=>au (aj M)<|p (dt ((M - 1:Nat):Int) aa aa<|bm ab ab)<|ay<|bW<|az fun bX=>aB<|lp (fun aq a1 bq=> ∃ (i j:Nat) (I:Array Nat),(a+2≤i∧i≤b∧a≤j∧j < b∧i≤j+2)∧(Cm bM a i j I=Cm bM a (J+1) (M - 1) (bV (bV d a A) J M))∧(bq.ownsRow B 95 1 (.slice c n cp) n<|LE aX I)∧(Md (fun q=>(bE c n cp).ownBlock=some q) w bq)∧(a1 0= .slice c n cp)∧(a1 1=aj a)∧(a1 10=aj i)∧(a1 11=aj j)∧(j+1 - i=aq)) _ ⟨J+1,M - 1,bV (bV d a A) J M,ab,aa,ct,(Md.trans aU ca),aa,aa,aa,aa,aa⟩ ?_
 rintro aq a1 bq ⟨i,j,I,hi,bA,co,b3,c7,c8,c9,da,rfl⟩
 refine fx 0 c7<|fx 1 c8<|fx 10 c9<|fx 11 da<|aB ?_
 refine e6 (fun a2 bs=> ∃ (ac:Nat),(i≤ac∧(ac=i∨ac≤j+1))∧(nC (fun x=>bM x I[a]!) I (j) (i)=ac)∧(bs.ownsRow B 95 1 (.slice c n cp) n<|LE aX I)∧(Md (fun q=>(bE c n cp).ownBlock=some q) w bs)∧(a2 0= .slice c n cp)∧(a2 1=aj a)∧(a2 10=aj ac)∧(a2 11=aj j)) ?_ ?_
 refine aB<|lp (fun aq a3 aM=> ∃ (q:Nat),(i≤q∧(q=i∨q≤j+1))∧(nC (fun x=>bM x I[a]!) I (j) (q)=nC (fun x=>bM x I[a]!) I (j) (i))∧(aM.ownsRow B 95 1 (.slice c n cp) n<|LE aX I)∧(Md (fun q=>(bE c n cp).ownBlock=some q) w aM)∧(a3 0= .slice c n cp)∧(a3 1=aj a)∧(a3 10=aj q)∧(a3 11=aj j)∧(j+1 - q=aq)) _ ⟨i,ab,aa,co,b3,aa,aa,aa,aa,aa⟩ ?_
 rintro aq a3 aM ⟨q,av,ap,C,an,df,dg,dh,di,rfl⟩
 refine fx 0 df<|fx 1 dg<|fx 10 dh<|fx 11 di<|az fun aS=>az fun aC=> ?_
 have aK:=eT C
 have Y:(fun w'=>Wk aM w') aM.drew:=(Md.refl _ _).drew
 refine bT (fun w'=>Wk aM w') aa wide Y<|bQ 0 aa (aj q) Y<|bQ 1 aa (aj j) Y<|aH 2 aa (fun _ _=>le aa aa) Y<|aH 3 aa (fun _ _=>mv) Y<|kz (t:=102) aa (fun cC=> ?_) fun cC=> ?_
 refine bz 4 aa (fun _ _=>aJ (.slice c n cp) aa) Y<|bz 5 aa (fun _ _=>aJ (aj q) aa) Y<|bz 6 aa (fun _ _=>bd bJ aa aa ab<|aG.ok ((a6 C).2)<|bN ab) Y<|bz 7 aa (fun w' E=>ld bZ aa<|cU (i:=q) ((a6 C).2.wk E) ab) Y<|bz 8 aa (fun _ _=>aJ (.slice c n cp) aa) Y<|bz 9 aa (fun _ _=>aJ (aj a) aa) Y<|bz 10 aa (fun _ _=>bd bJ aa aa ab<|aG.ok ((a6 C).2)<|bN ab) Y<|bz 11 aa (fun w' E=>ld bZ aa<|cU (i:=a) ((a6 C).2.wk E) ab) Y<|lR 12 aa ag aa aa aa<|cl k9 (lg I[q]! I[a]! _) aa fun dF dw cw=> ?_
 obtain ⟨rfl,bY⟩:=cw
 have aP:(fun w'=>Wk aM w') dw:=Md.trans Y bY
 refine ⟨aP,?_⟩
 refine aH 13 aa (fun _ _=>bR aa) aP<|hn ag<|aC<|cb aa (fun bj=> ?_) fun bj=> ?_
 exact aR<|aS<|aB<|rg aa<|au (aj q)<|p (bL ((q+1:Nat):Int) aa aa<|bm ab ab)<|p aE<|nl<|bn<|tn<|⟨_,ab,q+1,ab,(by rw [← ap,BK (show q≤j by omega) (by simpa using bj)]),(a8 C aP),(Md.trans an<|aP.mono fun _ _ h=>h.elim),aa,aa,aa,aa,aa⟩
 exact ext<|bh<|bh<|be<|tn<|⟨q,av,(by rw [← ap,sD (.inr<|by simpa using bj)]),(a8 C aP),(Md.trans an<|aP.mono fun _ _ h=>h.elim),aa,aa,aa,aa⟩
 exact bo 4 aa Y<|bo 5 aa Y<|bo 6 aa Y<|bo 7 aa Y<|bo 8 aa Y<|bo 9 aa Y<|bo 10 aa Y<|bo 11 aa Y<|bo 12 aa Y<|aH 13 aa (fun _ _=>bI aa) Y<|hn ag<|aC<|cf aa<|ext<|bh<|bh<|be<|tn<|⟨q,av,(by rw [← ap,sD (.inl ab)]),(a8 C (Md.refl _ _).drew),an.drew,aa,aa,aa,aa⟩
 rintro a2 bs ⟨ac,bv,bC,bi,bg,db,dc,dd,de⟩
 refine fx 0 db<|fx 1 dc<|fx 10 dd<|fx 11 de ?_
 refine e6 (fun a4 aA=> ∃ (ad:Nat),(a≤ad∧ad≤j)∧(nB (fun x=> !bM x I[a]!) I (ac) (j)=ad)∧(aA.ownsRow B 95 1 (.slice c n cp) n<|LE aX I)∧(Md (fun q=>(bE c n cp).ownBlock=some q) w aA)∧(a4 0= .slice c n cp)∧(a4 1=aj a)∧(a4 10=aj ac)∧(a4 11=aj ad)) ?_ ?_
 refine aB<|lp (fun aq a5 aO=> ∃ (q:Nat),(a≤q∧q≤j)∧(nB (fun x=> !bM x I[a]!) I (ac) (q)=nB (fun x=> !bM x I[a]!) I (ac) (j))∧(aO.ownsRow B 95 1 (.slice c n cp) n<|LE aX I)∧(Md (fun q=>(bE c n cp).ownBlock=some q) w aO)∧(a5 0= .slice c n cp)∧(a5 1=aj a)∧(a5 10=aj ac)∧(a5 11=aj q)∧(q=aq)) _ ⟨j,ab,aa,bi,bg,aa,aa,aa,aa,aa⟩ ?_
 rintro aq a5 aO ⟨q,av,ap,C,an,dp,dr,ds,du,rfl⟩
 refine fx 0 dp<|fx 1 dr<|fx 10 ds<|fx 11 du<|az fun aS=>az fun aC=> ?_
 have aK:=eT C
 have O:(fun w'=>Wk aO w') aO.drew:=(Md.refl _ _).drew
 refine bT (fun w'=>Wk aO w') aa wide O<|bQ 0 aa (aj ac) O<|bQ 1 aa (aj q) O<|aH 2 aa (fun _ _=>le aa aa) O<|aH 3 aa (fun _ _=>mv) O<|kz (t:=118) aa (fun cD=> ?_) fun cD=> ?_
 refine bz 4 aa (fun _ _=>aJ (.slice c n cp) aa) O<|bz 5 aa (fun _ _=>aJ (aj q) aa) O<|bz 6 aa (fun _ _=>bd bJ aa aa ab<|aG.ok ((a6 C).2)<|bN ab) O<|bz 7 aa (fun w' E=>ld bZ aa<|cU (i:=q) ((a6 C).2.wk E) ab) O<|bz 8 aa (fun _ _=>aJ (.slice c n cp) aa) O<|bz 9 aa (fun _ _=>aJ (aj a) aa) O<|bz 10 aa (fun _ _=>bd bJ aa aa ab<|aG.ok ((a6 C).2)<|bN ab) O<|bz 11 aa (fun w' E=>ld bZ aa<|cU (i:=a) ((a6 C).2.wk E) ab) O<|lR 12 aa ag aa aa aa<|cl k9 (lg I[q]! I[a]! _) aa fun v127 dx cx=> ?_
 obtain ⟨rfl,b0⟩:=cx
 have aF:(fun w'=>Wk aO w') dx:=Md.trans O b0
 refine ⟨aF,?_⟩
 refine bz 13 aa (fun _ _=>no aa) aF<|aH 14 aa (fun _ _=>bR aa) aF<|hn ag<|aC<|cb aa (fun bk=> ?_) fun bk=> ?_
 exact aR<|aS<|aB<|rg aa<|au (aj q)<|p (dt ((q - 1:Nat):Int) aa aa<|bm ab ab)<|p aE<|nl<|bn<|tn<|⟨_,ab,q - 1,ab,(by rw [← ap,zw (show 0 < q by omega) (show ac≤q by omega) (by simpa using bk)]),(a8 C aF),(Md.trans an<|aF.mono fun _ _ h=>h.elim),aa,aa,aa,aa,aa⟩
 exact ext<|bh<|bh<|be<|tn<|⟨q,av,(by rw [← ap,rT (.inr<|by simpa using bk)]),(a8 C aF),(Md.trans an<|aF.mono fun _ _ h=>h.elim),aa,aa,aa,aa⟩
 exact bo 4 aa O<|bo 5 aa O<|bo 6 aa O<|bo 7 aa O<|bo 8 aa O<|bo 9 aa O<|bo 10 aa O<|bo 11 aa O<|bo 12 aa O<|bo 13 aa O<|aH 14 aa (fun _ _=>bI aa) O<|hn ag<|aC<|cf aa<|ext<|bh<|bh<|be<|tn<|⟨q,av,(by rw [← ap,rT (.inl ab)]),(a8 C (Md.refl _ _).drew),an.drew,aa,aa,aa,aa⟩
 rintro a4 aA ⟨ad,bx,bu,G,aU,dj,dk,dl,dn⟩
 refine fx 0 dj<|fx 1 dk<|fx 10 dl<|fx 11 dn<|az fun aS=>ak fun aC=>au (aj ac)<|au (aj ad)<|p (gt aa aa)<|nl<|aC<|cd aa (fun cA=> ?_) fun cA=> ?_
 refine ext<|bh<|mj aw<|bh<|be<|bX<|az fun a7=> ?_
 have aK:=eT G
 have al:(fun w'=>Wk aA w') aA.drew:=(Md.refl _ _).drew
 refine eL (fun w'=>Wk aA w') 13 aa wide al<|bw 0 aa (.slice c n cp) al<|bw 1 aa (aj ad) al<|bw 2 aa (.slice c n cp) al<|bw 3 aa (aj a) al<|bw 4 aa (.slice c n cp) al<|bw 5 aa (aj a) al<|bG 6 aa (fun _=>bd bJ aa aa ab<|aG.ok ((a6 G).2)<|bN ab) (fun _=>al)<|ez 7 aa (fun w' E=>ld bZ aa<|cU (i:=a) ((a6 G).2.wk E) ab) al<|bw 8 aa (.slice c n cp) al<|bw 9 aa (aj ad) al<|bG 10 aa (fun _=>bd bJ aa aa ab<|aG.ok ((a6 G).2)<|bN ab) (fun _=>al)<|ez 11 aa (fun w' E=>ld bZ aa<|cU (i:=ad) ((a6 G).2.wk E) ab) al<|bG 12 aa (fun _=>bd bJ aa aa ab<|aG.ok ((a6 G).2)<|bN ab) (fun _=>al)<|dq 13 aa ag ag<|fD (u:=I[a]!) (ad) (a8 G al) fq aa aa aa ab fun dL cm cO=> ?_
 refine bG 14 aa (fun _=>bd bJ aa aa ab<|aG.ok ((a6 G).2)<|bN ab) (fun h=>dv<|(show true =_ from by kernel_rfl).trans h)<|dq 15 aa ag ag<|fD (u:=I[ad]!) (a) cO fq aa aa aa ab fun bO cn cP=> ?_
 have cv:bO.ownsRow B 95 1 (.slice c n cp) n (LE aX<|bV I (ad)<|a):=cP
 have ck:Md (fun q=>(bE c n cp).ownBlock=some q) aA bO:=Md.trans (al.mono fun _ _ h=>h.elim)<|Md.trans cm cn
 refine eK ag<|a7<|ak fun a9=>au (aj ad)<|p (cj (aj ad) aa)<|ay<|a9 ?_
 refine rt<|f2 aa aa aa ?_
 have aV:=part_go bB bt ab<|bA.symm.trans<|by rw [Hd bC bu bv.1 bx.2,if_pos ab]
 exact ⟨by rw [aV]; rfl,by rw [aV]; exact cv,Md.trans aU ck⟩
 refine aR<|aS<|az fun a7=> ?_
 have aK:=eT G
 have ai:(fun w'=>Wk aA w') aA.drew:=(Md.refl _ _).drew
 refine eL (fun w'=>Wk aA w') 13 aa wide ai<|bw 0 aa (.slice c n cp) ai<|bw 1 aa (aj ac) ai<|bw 2 aa (.slice c n cp) ai<|bw 3 aa (aj ad) ai<|bw 4 aa (.slice c n cp) ai<|bw 5 aa (aj ad) ai<|bG 6 aa (fun _=>bd bJ aa aa ab<|aG.ok ((a6 G).2)<|bN ab) (fun _=>ai)<|ez 7 aa (fun w' E=>ld bZ aa<|cU (i:=ad) ((a6 G).2.wk E) ab) ai<|bw 8 aa (.slice c n cp) ai<|bw 9 aa (aj ac) ai<|bG 10 aa (fun _=>bd bJ aa aa ab<|aG.ok ((a6 G).2)<|bN ab) (fun _=>ai)<|ez 11 aa (fun w' E=>ld bZ aa<|cU (i:=ac) ((a6 G).2.wk E) ab) ai<|bG 12 aa (fun _=>bd bJ aa aa ab<|aG.ok ((a6 G).2)<|bN ab) (fun _=>ai)<|dq 13 aa ag ag<|fD (u:=I[ad]!) (ac) (a8 G ai) fq aa aa aa ab fun dK ch cM=> ?_
 refine bG 14 aa (fun _=>bd bJ aa aa ab<|aG.ok ((a6 G).2)<|bN ab) (fun h=>dv<|(show true =_ from by kernel_rfl).trans h)<|dq 15 aa ag ag<|fD (u:=I[ac]!) (ad) cM fq aa aa aa ab fun bK ci cN=> ?_
 have cu:bK.ownsRow B 95 1 (.slice c n cp) n (LE aX<|bV I (ac)<|ad):=cN
 have cg:Md (fun q=>(bE c n cp).ownBlock=some q) aA bK:=Md.trans (ai.mono fun _ _ h=>h.elim)<|Md.trans ch ci
 refine eK ag<|a7<|ak fun a9=>au (aj ac)<|p (bL ((ac+1:Nat):Int) aa aa<|bm ab ab)<|ay<|a9 ?_
 exact rg aa<|au (aj ad)<|p (dt ((ad - 1:Nat):Int) aa aa<|bm ab ab)<|p aE<|nl<|bn<|tn<|⟨_,ab,ac+1,ad - 1,bV I ac ad,ab,(by rw [← bA,Hd bC bu bv.1 bx.2,if_neg ab,if_pos ab]),cu,(Md.trans aU cg),aa,aa,aa,aa,aa⟩
theorem TX (d:Array Nat) (a b Y:Nat) (B n cp:Nat) (c:Option Addr) (w:World) (hO:w.ownsRow B 95 1 (.slice c n cp) n (LE aX d)) (ce:a≤Y∧Y < b∧b≤n) (ck:n≤1099511627776):
 bf ao 291 (ba [.slice c n cp,aj a,aj b,aj Y]) w (fun v w'=>v=aj ((uQ bM d a b Y).1)∧w'.ownsRow B 95 1 (.slice c n cp) n (LE aX (uQ bM d a b Y).2)∧Md (fun q=>(bE c n cp).ownBlock=some q) w w'):=by
 refine enter func291 aa ntmps291 aa<|ak fun aY=>ay<|aY<|az fun aZ=> ?_
 have cg:=eT hO
 have J:(fun w'=>Wk w w') w.drew:=(Md.refl _ _).drew
 refine eL (fun w'=>Wk w w') 13 aa wide J<|bw 0 aa (.slice c n cp) J<|bw 1 aa (aj a) J<|bw 2 aa (.slice c n cp) J<|bw 3 aa (aj Y) J<|bw 4 aa (.slice c n cp) J<|bw 5 aa (aj Y) J<|bG 6 aa (fun _=>bd bJ aa aa ab<|aG.ok ((a6 hO).2)<|bN ab) (fun _=>J)<|ez 7 aa (fun w' V=>ld bZ aa<|cU (i:=Y) ((a6 hO).2.wk V) ab) J<|bw 8 aa (.slice c n cp) J<|bw 9 aa (aj a) J<|bG 10 aa (fun _=>bd bJ aa aa ab<|aG.ok ((a6 hO).2)<|bN ab) (fun _=>J)<|ez 11 aa (fun w' V=>ld bZ aa<|cU (i:=a) ((a6 hO).2.wk V) ab) J<|bG 12 aa (fun _=>bd bJ aa aa ab<|aG.ok ((a6 hO).2)<|bN ab) (fun _=>J)<|dq 13 aa ag ag<|fD (u:=d[Y]!) (a) (a8 hO J) fq aa aa aa ab fun cm a9 bA=> ?_
 refine bG 14 aa (fun _=>bd bJ aa aa ab<|aG.ok ((a6 hO).2)<|bN ab) (fun h=>dv<|(show true =_ from by kernel_rfl).trans h)<|dq 15 aa ag ag<|fD (u:=d[a]!) (Y) bA fq aa aa aa ab fun aV bb bB=> ?_
 have bq:aV.ownsRow B 95 1 (.slice c n cp) n (LE aX<|bV d (a)<|Y):=bB
 have a7:Md (fun q=>(bE c n cp).ownBlock=some q) w aV:=Md.trans (J.mono fun _ _ h=>h.elim)<|Md.trans a9 bb
 refine eK ag<|aZ<|ak fun a0=>au (aj a)<|p (bL ((a+1:Nat):Int) aa aa<|bm ab ab)<|au (aj b)<|p (dt ((b - 1:Nat):Int) aa aa<|bm ab ab)<|p aE ?_
 refine ay<|a0<|az fun a1=>aB<|lp (fun ac ax aM=> ∃ (i j:Nat) (A:Array Nat),(a+1≤i∧i≤b∧a≤j∧j < b∧i≤j+2)∧(Go.Sort.partEqLoop bM a i j A=uQ bM d a b Y)∧(aM.ownsRow B 95 1 (.slice c n cp) n<|LE aX A)∧(Md (fun q=>(bE c n cp).ownBlock=some q) w aM)∧(ax 0= .slice c n cp)∧(ax 1=aj a)∧(ax 9=aj i)∧(ax 10=aj j)∧(j+1 - i=ac)) _ ⟨a+1,b - 1,(bV d a Y),ab,aa,bq,a7,aa,aa,aa,aa,aa⟩ ?_
 rintro ac ax aM ⟨i,j,A,hi,aS,bl,a5,bF,bH,bO,bK,rfl⟩
 refine fx 0 bF<|fx 1 bH<|fx 9 bO<|fx 10 bK<|aB ?_
 refine e6 (fun aA aN=> ∃ (C:Nat),(i≤C∧(C=i∨C≤j+1))∧(nC (fun x=> !bM A[a]! x) A (j) (i)=C)∧(aN.ownsRow B 95 1 (.slice c n cp) n<|LE aX A)∧(Md (fun q=>(bE c n cp).ownBlock=some q) w aN)∧(aA 0= .slice c n cp)∧(aA 1=aj a)∧(aA 9=aj C)∧(aA 10=aj j)) ?_ ?_
 refine aB<|lp (fun ac aC al=> ∃ (q:Nat),(i≤q∧(q=i∨q≤j+1))∧(nC (fun x=> !bM A[a]! x) A (j) (q)=nC (fun x=> !bM A[a]! x) A (j) (i))∧(al.ownsRow B 95 1 (.slice c n cp) n<|LE aX A)∧(Md (fun q=>(bE c n cp).ownBlock=some q) w al)∧(aC 0= .slice c n cp)∧(aC 1=aj a)∧(aC 9=aj q)∧(aC 10=aj j)∧(j+1 - q=ac)) _ ⟨i,ab,aa,bl,a5,aa,aa,aa,aa,aa⟩ ?_
 rintro ac aC al ⟨q,av,ai,I,ae,bX,bY,b1,b0,rfl⟩
 refine fx 0 bX<|fx 1 bY<|fx 9 b1<|fx 10 b0<|az fun aq=>az fun ad=> ?_
 have aP:=eT I
 have E:(fun w'=>Wk al w') al.drew:=(Md.refl _ _).drew
 refine bT (fun w'=>Wk al w') aa wide E<|bQ 0 aa (aj q) E<|bQ 1 aa (aj j) E<|aH 2 aa (fun _ _=>le aa aa) E<|aH 3 aa (fun _ _=>mv) E<|kz (t:=32) aa (fun bv=> ?_) fun bv=> ?_
 refine bz 4 aa (fun _ _=>aJ (.slice c n cp) aa) E<|bz 5 aa (fun _ _=>aJ (aj a) aa) E<|bz 6 aa (fun _ _=>bd bJ aa aa ab<|aG.ok ((a6 I).2)<|bN ab) E<|bz 7 aa (fun w' V=>ld bZ aa<|cU (i:=a) ((a6 I).2.wk V) ab) E<|bz 8 aa (fun _ _=>aJ (.slice c n cp) aa) E<|bz 9 aa (fun _ _=>aJ (aj q) aa) E<|bz 10 aa (fun _ _=>bd bJ aa aa ab<|aG.ok ((a6 I).2)<|bN ab) E<|bz 11 aa (fun w' V=>ld bZ aa<|cU (i:=q) ((a6 I).2.wk V) ab) E<|lR 12 aa ag aa aa aa<|cl k9 (lg A[a]! A[q]! _) aa fun v41 ca bs=> ?_
 obtain ⟨rfl,a3⟩:=bs
 have ah:(fun w'=>Wk al w') ca:=Md.trans E a3
 refine ⟨ah,?_⟩
 refine bz 13 aa (fun _ _=>no aa) ah<|aH 14 aa (fun _ _=>bR aa) ah<|hn ag<|ad<|cb aa (fun aK=> ?_) fun aK=> ?_
 exact aR<|aq<|aB<|rg aa<|au (aj q)<|p (bL ((q+1:Nat):Int) aa aa<|bm ab ab)<|p aE<|nl<|bn<|tn<|⟨_,ab,q+1,ab,(by rw [← ai,BK (show q≤j by omega) (by simpa using aK)]),(a8 I ah),(Md.trans ae<|ah.mono fun _ _ h=>h.elim),aa,aa,aa,aa,aa⟩
 exact ext<|bh<|bh<|be<|tn<|⟨q,av,(by rw [← ai,sD (.inr<|by simpa using aK)]),(a8 I ah),(Md.trans ae<|ah.mono fun _ _ h=>h.elim),aa,aa,aa,aa⟩
 exact bo 4 aa E<|bo 5 aa E<|bo 6 aa E<|bo 7 aa E<|bo 8 aa E<|bo 9 aa E<|bo 10 aa E<|bo 11 aa E<|bo 12 aa E<|bo 13 aa E<|aH 14 aa (fun _ _=>bI aa) E<|hn ag<|ad<|cf aa<|ext<|bh<|bh<|be<|tn<|⟨q,av,(by rw [← ai,sD (.inl ab)]),(a8 I (Md.refl _ _).drew),ae.drew,aa,aa,aa,aa⟩
 rintro aA aN ⟨C,ch,aT,bp,bk,bP,bS,bW,bU⟩
 refine fx 0 bP<|fx 1 bS<|fx 9 bW<|fx 10 bU ?_
 refine e6 (fun aD an=> ∃ (O:Nat),(a≤O∧O≤j)∧(nB (fun x=>bM A[a]! x) A (C) (j)=O)∧(an.ownsRow B 95 1 (.slice c n cp) n<|LE aX A)∧(Md (fun q=>(bE c n cp).ownBlock=some q) w an)∧(aD 0= .slice c n cp)∧(aD 1=aj a)∧(aD 9=aj C)∧(aD 10=aj O)) ?_ ?_
 refine aB<|lp (fun ac aF am=> ∃ (q:Nat),(a≤q∧q≤j)∧(nB (fun x=>bM A[a]! x) A (C) (q)=nB (fun x=>bM A[a]! x) A (C) (j))∧(am.ownsRow B 95 1 (.slice c n cp) n<|LE aX A)∧(Md (fun q=>(bE c n cp).ownBlock=some q) w am)∧(aF 0= .slice c n cp)∧(aF 1=aj a)∧(aF 9=aj C)∧(aF 10=aj q)∧(q=ac)) _ ⟨j,ab,aa,bp,bk,aa,aa,aa,aa,aa⟩ ?_
 rintro ac aF am ⟨q,av,ai,I,ae,b6,b7,b9,b8,rfl⟩
 refine fx 0 b6<|fx 1 b7<|fx 9 b9<|fx 10 b8<|az fun aq=>az fun ad=> ?_
 have aP:=eT I
 have G:(fun w'=>Wk am w') am.drew:=(Md.refl _ _).drew
 refine bT (fun w'=>Wk am w') aa wide G<|bQ 0 aa (aj C) G<|bQ 1 aa (aj q) G<|aH 2 aa (fun _ _=>le aa aa) G<|aH 3 aa (fun _ _=>mv) G<|kz (t:=49) aa (fun bx=> ?_) fun bx=> ?_
 refine bz 4 aa (fun _ _=>aJ (.slice c n cp) aa) G<|bz 5 aa (fun _ _=>aJ (aj a) aa) G<|bz 6 aa (fun _ _=>bd bJ aa aa ab<|aG.ok ((a6 I).2)<|bN ab) G<|bz 7 aa (fun w' V=>ld bZ aa<|cU (i:=a) ((a6 I).2.wk V) ab) G<|bz 8 aa (fun _ _=>aJ (.slice c n cp) aa) G<|bz 9 aa (fun _ _=>aJ (aj q) aa) G<|bz 10 aa (fun _ _=>bd bJ aa aa ab<|aG.ok ((a6 I).2)<|bN ab) G<|bz 11 aa (fun w' V=>ld bZ aa<|cU (i:=q) ((a6 I).2.wk V) ab) G<|lR 12 aa ag aa aa aa<|cl k9 (lg A[a]! A[q]! _) aa fun v58 cc bt=> ?_
 obtain ⟨rfl,a4⟩:=bt
 have ap:(fun w'=>Wk am w') cc:=Md.trans G a4
 refine ⟨ap,?_⟩
 refine aH 13 aa (fun _ _=>bR aa) ap<|hn ag<|ad<|cb aa (fun aL=> ?_) fun aL=> ?_
 exact aR<|aq<|aB<|rg aa<|au (aj q)<|p (dt ((q - 1:Nat):Int) aa aa<|bm ab ab)<|p aE<|nl<|bn<|tn<|⟨_,ab,q - 1,ab,(by rw [← ai,zw (show 0 < q by omega) (show C≤q by omega) (by simpa using aL)]),(a8 I ap),(Md.trans ae<|ap.mono fun _ _ h=>h.elim),aa,aa,aa,aa,aa⟩
 exact ext<|bh<|bh<|be<|tn<|⟨q,av,(by rw [← ai,rT (.inr<|by simpa using aL)]),(a8 I ap),(Md.trans ae<|ap.mono fun _ _ h=>h.elim),aa,aa,aa,aa⟩
 exact bo 4 aa G<|bo 5 aa G<|bo 6 aa G<|bo 7 aa G<|bo 8 aa G<|bo 9 aa G<|bo 10 aa G<|bo 11 aa G<|bo 12 aa G<|aH 13 aa (fun _ _=>bI aa) G<|hn ag<|ad<|cf aa<|ext<|bh<|bh<|be<|tn<|⟨q,av,(by rw [← ai,rT (.inl ab)]),(a8 I (Md.refl _ _).drew),ae.drew,aa,aa,aa,aa⟩
 rintro aD an ⟨O,ci,aQ,Z,aO,b2,b3,b5,b4⟩
 refine fx 0 b2<|fx 1 b3<|fx 9 b5<|fx 10 b4<|az fun aq=>ak fun ad=>au (aj C)<|au (aj O)<|p (gt aa aa)<|nl<|ad<|cd aa (fun bu=> ?_) fun bu=> ?_
 refine ext<|bh<|mj aw<|bh<|be<|a1<|ak fun aI=>au (aj C)<|p (cj (aj C) aa)<|nl<|aI<|rt<|bc aa ?_
 have aU:uQ bM d a b Y=(C,A):=by rw [← aS,G8 aT aQ,if_pos ab]
 exact ⟨by rw [aU]; rfl,by rw [aU]; exact Z,aO⟩
 refine aR<|aq<|az fun aI=> ?_
 have aP:=eT Z
 have M:(fun w'=>Wk an w') an.drew:=(Md.refl _ _).drew
 refine eL (fun w'=>Wk an w') 13 aa wide M<|bw 0 aa (.slice c n cp) M<|bw 1 aa (aj C) M<|bw 2 aa (.slice c n cp) M<|bw 3 aa (aj O) M<|bw 4 aa (.slice c n cp) M<|bw 5 aa (aj O) M<|bG 6 aa (fun _=>bd bJ aa aa ab<|aG.ok ((a6 Z).2)<|bN ab) (fun _=>M)<|ez 7 aa (fun w' V=>ld bZ aa<|cU (i:=O) ((a6 Z).2.wk V) ab) M<|bw 8 aa (.slice c n cp) M<|bw 9 aa (aj C) M<|bG 10 aa (fun _=>bd bJ aa aa ab<|aG.ok ((a6 Z).2)<|bN ab) (fun _=>M)<|ez 11 aa (fun w' V=>ld bZ aa<|cU (i:=C) ((a6 Z).2.wk V) ab) M<|bG 12 aa (fun _=>bd bJ aa aa ab<|aG.ok ((a6 Z).2)<|bN ab) (fun _=>M)<|dq 13 aa ag ag<|fD (u:=A[O]!) (C) (a8 Z M) fq aa aa aa ab fun cn bi bC=> ?_
 refine bG 14 aa (fun _=>bd bJ aa aa ab<|aG.ok ((a6 Z).2)<|bN ab) (fun h=>dv<|(show true =_ from by kernel_rfl).trans h)<|dq 15 aa ag ag<|fD (u:=A[C]!) (O) bC fq aa aa aa ab fun aW bj bD=> ?_
 have br:aW.ownsRow B 95 1 (.slice c n cp) n (LE aX<|bV A (C)<|O):=bD
 have bg:Md (fun q=>(bE c n cp).ownBlock=some q) an aW:=Md.trans (M.mono fun _ _ h=>h.elim)<|Md.trans bi bj
 refine eK ag<|aI<|ak fun a2=>au (aj C)<|p (bL ((C+1:Nat):Int) aa aa<|bm ab ab)<|ay<|a2 ?_
 exact rg aa<|au (aj O)<|p (dt ((O - 1:Nat):Int) aa aa<|bm ab ab)<|p aE<|nl<|bn<|tn<|⟨_,ab,C+1,O - 1,bV A C O,ab,(by rw [← aS,G8 aT aQ,if_neg ab,if_pos ab]),br,(Md.trans aO bg),aa,aa,aa,aa,aa⟩
end Go.Hb
end
section
namespace Go.Hb
open Go.Hb.dF
theorem T2 {d:Array Nat} {a b s i i2:Nat} (c:0 < s) (h:sS bM d b i=i2) (h1:i2=b):qd bM a b s i d=(d,true):=by
 cases s with
 | zero=>omega
 | succ s=>rw [qd]; simp only [h,if_pos h1]
theorem pi_short {d:Array Nat} {a b s i i2:Nat} (c:0 < s) (h:sS bM d b i=i2) (h1:¬i2=b) (h2:b - a < 50):qd bM a b s i d=(d,false):=by
 cases s with
 | zero=>omega
 | succ s=>rw [qd]; simp only [h,if_neg h1,if_pos h2]
theorem pi_go {d c q:Array Nat} {a b s i i2:Nat} (E:0 < s) (h:sS bM d b i=i2) (h1:¬i2=b) (h2:¬b - a < 50)
 (A:c=if i2 - a≥2 then x7 bM (i2 - 1) (bV d i2<|i2 - 1) else bV d i2 (i2 - 1)) (C:q=if b - i2≥2 then Co bM b (i2+1) c else c):
 qd bM a b s i d=qd bM a b (s - 1) i2 q:=by
 cases s with
 | zero=>omega
 | succ s=>rw [qd]; simp only [h,if_neg h1,if_neg h2]; rw [← A,← C]; rfl
theorem Uc (d:Array Nat) (a b:Nat) (B n cp:Nat) (c:Option Addr) (w:World) (hO:w.ownsRow B 95 1 (.slice c n cp) n (LE aX d)) (dc:a < b∧b≤n) (dg:n≤1099511627776):
 bf ao 289 (ba [.slice c n cp,aj a,aj b]) w (fun v w'=>v= .bool (sR bM d a b).2∧w'.ownsRow B 95 1 (.slice c n cp) n (LE aX (sR bM d a b).1)∧Md (fun q=>(bE c n cp).ownBlock=some q) w w'):=by
 refine enter func289 aa ntmps289 aa<|ak fun bS=>ay<|bS<|ak fun bW=>au (aj a)<|p (bL ((a+1:Nat):Int) aa aa<|bm ab ab)<|ay<|bW<|az fun bX=>ak fun bY=>p aE<|nl<|bY<|aB<|lp (fun V aL bv=> ∃ (s i:Nat) (E:Array Nat),(a+1≤i∧i≤b∧s≤5)∧(qd bM a b (5 - s) i E=(sR bM d a b))∧(bv.ownsRow B 95 1 (.slice c n cp) n<|LE aX E)∧(Md (fun q=>(bE c n cp).ownBlock=some q) w bv)∧(aL 0= .slice c n cp)∧(aL 1=aj a)∧(aL 2=aj b)∧(aL 7=aj i)∧(aL 8=aj s)∧(5 - s=V)) _ ⟨0,a+1,d,ab,aa,hO,(Md.refl _ _),aa,aa,aa,aa,aa,aa⟩ ?_
 rintro V aL bv ⟨s,i,E,hi,aK,bC,bx,cE,cF,cG,cH,cI,rfl⟩
 refine fx 0 cE<|fx 1 cF<|fx 2 cG<|fx 7 cH<|fx 8 cI<|az fun b0=>ak fun b1=>au (aj s)<|p (lt aa aa)<|nl<|b1<|cd aa (fun cn=> ?_) fun cn=> ?_
 refine aR<|b0<|az fun aP=>aB ?_
 refine e6 (fun aM aq=> ∃ (i2:Nat),(i≤i2∧i2≤b)∧(sS bM E b i=i2)∧(aq.ownsRow B 95 1 (.slice c n cp) n<|LE aX E)∧(Md (fun q=>(bE c n cp).ownBlock=some q) w aq)∧(aM 0= .slice c n cp)∧(aM 1=aj a)∧(aM 2=aj b)∧(aM 7=aj i2)∧(aM 8=aj s)) ?_ ?_
 refine aB<|lp (fun V aN aA=> ∃ (q:Nat),(i≤q∧q≤b)∧(sS bM E b q=sS bM E b i)∧(aA.ownsRow B 95 1 (.slice c n cp) n<|LE aX E)∧(Md (fun q=>(bE c n cp).ownBlock=some q) w aA)∧(aN 0= .slice c n cp)∧(aN 1=aj a)∧(aN 2=aj b)∧(aN 7=aj q)∧(aN 8=aj s)∧(b - q=V)) _ ⟨i,ab,aa,bC,bx,aa,aa,aa,aa,aa,aa⟩ ?_
 rintro V aN aA ⟨q,bH,bq,ad,bb,cO,cP,cQ,cR,cS,rfl⟩
 refine fx 0 cO<|fx 1 cP<|fx 2 cQ<|fx 7 cR<|fx 8 cS<|az fun a7=>az fun aU=> ?_
 have cv:=eT ad
 have A:(fun w'=>Wk aA w') aA.drew:=(Md.refl _ _).drew
 refine bT (fun w'=>Wk aA w') aa wide A<|bQ 0 aa (aj q) A<|bQ 1 aa (aj b) A<|aH 2 aa (fun _ _=>lt aa aa) A<|aH 3 aa (fun _ _=>mv) A<|kz (t:=20) aa (fun cx=> ?_) fun cx=> ?_
 refine bz 4 aa (fun _ _=>aJ (.slice c n cp) aa) A<|bz 5 aa (fun _ _=>aJ (aj q) aa) A<|bz 6 aa (fun _ _=>bd bJ aa aa ab<|aG.ok ((a6 ad).2)<|bN ab) A<|bz 7 aa (fun w' C=>ld bZ aa<|cU (i:=q) ((a6 ad).2.wk C) ab) A<|bz 8 aa (fun _ _=>aJ (.slice c n cp) aa) A<|bz 9 aa (fun _ _=>aJ (aj q) aa) A<|bz 10 aa (fun _ _=>dt ((q - 1:Nat):Int) aa aa<|bm ab ab) A<|bz 11 aa (fun _ _=>bd bJ aa aa ab<|aG.ok ((a6 ad).2)<|bN ab) A<|bz 12 aa (fun w' C=>ld bZ aa<|cU (i:=q - 1) ((a6 ad).2.wk C) ab) A<|lR 13 aa ag aa aa aa<|cl k9 (lg E[q]! E[q - 1]! _) aa fun v30 db cj=> ?_
 obtain ⟨rfl,b3⟩:=cj
 have ap:(fun w'=>Wk aA w') db:=Md.trans A b3
 refine ⟨ap,?_⟩
 refine bz 14 aa (fun _ _=>no aa) ap<|aH 15 aa (fun _ _=>bR aa) ap<|hn ag<|aU<|cb aa (fun bk=> ?_) fun bk=> ?_
 exact aR<|a7<|aB<|rg aa<|au (aj q)<|p (bL ((q+1:Nat):Int) aa aa<|bm ab ab)<|p aE<|nl<|bn<|tn<|⟨_,ab,q+1,ab,(by rw [← bq,Vy (show q < b by omega) (by simpa using bk)]),(a8 ad ap),(Md.trans bb<|ap.mono fun _ _ h=>h.elim),aa,aa,aa,aa,aa,aa⟩
 exact ext<|bh<|bh<|be<|tn<|⟨q,ab,(by rw [← bq,HQ (.inr<|by simpa using bk)]),(a8 ad ap),(Md.trans bb<|ap.mono fun _ _ h=>h.elim),aa,aa,aa,aa,aa⟩
 exact bo 4 aa A<|bo 5 aa A<|bo 6 aa A<|bo 7 aa A<|bo 8 aa A<|bo 9 aa A<|bo 10 aa A<|bo 11 aa A<|bo 12 aa A<|bo 13 aa A<|bo 14 aa A<|aH 15 aa (fun _ _=>bI aa) A<|hn ag<|aU<|cf aa<|ext<|bh<|bh<|be<|tn<|⟨q,ab,(by rw [← bq,HQ (.inl ab)]),(a8 ad (Md.refl _ _).drew),bb.drew,aa,aa,aa,aa,aa⟩
 rintro aM aq ⟨i2,df,aQ,ac,aV,cJ,cK,cL,cM,cN⟩
 refine fx 0 cJ<|fx 1 cK<|fx 2 cL<|fx 7 cM<|fx 8 cN<|az fun a7=>ak fun aU=>au (aj i2)<|au (aj b)<|p (cw aa aa)<|nl<|aU<|cd aa (fun co=> ?_) fun co=> ?_
 refine ak fun aW=>ay<|aW<|rt<|tr<|br<|tr<|tr<|br<|tr<|bc aa ?_
 have ai:(sR bM d a b)=(E,true):=by rw [← aK,T2 (show 0 < 5 - s by omega) aQ ab]
 exact ⟨by rw [ai]; rfl,by rw [ai]; exact ac,aV⟩
 have a9:¬i2=b:=ab
 refine aR<|a7<|az fun aW=>ak fun bU=>au (aj b)<|au (aj a)<|p (dt ((b - a:Nat):Int) aa aa<|bm ab ab)<|p (lt aa aa)<|nl<|bU<|cd aa (fun cq=> ?_) fun cq=> ?_
 refine ak fun aY=>ay<|aY<|rt<|tr<|br<|tr<|tr<|br<|tr<|bc aa ?_
 have ai:(sR bM d a b)=(E,false):=by rw [← aK,pi_short (show 0 < 5 - s by omega) aQ ab ab]
 exact ⟨by rw [ai]; rfl,by rw [ai]; exact ac,aV⟩
 refine aR<|aW<|az fun aY=> ?_
 have cv:=eT ac
 have G:(fun w'=>Wk aq w') aq.drew:=(Md.refl _ _).drew
 refine eL (fun w'=>Wk aq w') 15 aa wide G<|bw 0 aa (.slice c n cp) G<|bw 1 aa (aj i2) G<|bw 2 aa (.slice c n cp) G<|bw 3 aa (aj i2) G<|bG 4 aa (fun _=>dt ((i2 - 1:Nat):Int) aa aa<|bm ab ab) (fun _=>G)<|bw 5 aa (.slice c n cp) G<|bw 6 aa (aj i2) G<|bG 7 aa (fun _=>dt ((i2 - 1:Nat):Int) aa aa<|bm ab ab) (fun _=>G)<|bG 8 aa (fun _=>bd bJ aa aa ab<|aG.ok ((a6 ac).2)<|bN ab) (fun _=>G)<|ez 9 aa (fun w' C=>ld bZ aa<|cU (i:=i2 - 1) ((a6 ac).2.wk C) ab) G<|bw 10 aa (.slice c n cp) G<|bw 11 aa (aj i2) G<|bG 12 aa (fun _=>bd bJ aa aa ab<|aG.ok ((a6 ac).2)<|bN ab) (fun _=>G)<|ez 13 aa (fun w' C=>ld bZ aa<|cU (i:=i2) ((a6 ac).2.wk C) ab) G<|bG 14 aa (fun _=>bd bJ aa aa ab<|aG.ok ((a6 ac).2)<|bN ab) (fun _=>G) ?_
 refine dq 15 aa ag ag<|fD (u:=E[i2 - 1]!) (i2) (a8 ac G) fq aa aa aa ab fun di b5 cy=>bG 16 aa (fun _=>bd bJ aa aa ab<|aG.ok ((a6 ac).2)<|bN ab) (fun h=>dv<|(show true =_ from by kernel_rfl).trans h)<|dq 17 aa ag ag<|fD (u:=E[i2]!) (i2 - 1) cy fq aa aa aa ab fun bK b6 cz=> ?_
 have bF:bK.ownsRow B 95 1 (.slice c n cp) n (LE aX<|bV E (i2)<|i2 - 1):=cz
 have bA:Md (fun q=>(bE c n cp).ownBlock=some q) aq bK:=Md.trans (G.mono fun _ _ h=>h.elim)<|Md.trans b5 b6
 refine eK ag<|aY ?_
 refine e6 (fun aO bu=> ∃ (al:Array Nat),(al=if i2 - a≥2 then x7 bM (i2 - 1) (bV E i2<|i2 - 1) else (bV E i2<|i2 - 1))∧(bu.ownsRow B 95 1 (.slice c n cp) n<|LE aX al)∧(Md (fun q=>(bE c n cp).ownBlock=some q) w bu)∧(aO 0= .slice c n cp)∧(aO 1=aj a)∧(aO 2=aj b)∧(aO 7=aj i2)∧(aO 8=aj s)) ?_ ?_
 refine ak fun aZ=>au (aj i2)<|au (aj a)<|p (dt ((i2 - a:Nat):Int) aa aa<|bm ab ab)<|p (ge aa aa)<|nl<|aZ<|cd aa (fun cs=> ?_) fun cs=> ?_
 refine ak fun a0=>au (aj i2)<|p (dt ((i2 - 1:Nat):Int) aa aa<|bm ab ab)<|ay<|a0<|aB<|lp (fun V aC av=> ∃ (q:Nat) (O:Array Nat),(q≤i2 - 1)∧(x7 bM q O=x7 bM (i2 - 1) (bV E i2<|i2 - 1))∧(av.ownsRow B 95 1 (.slice c n cp) n<|LE aX O)∧(Md (fun q=>(bE c n cp).ownBlock=some q) w av)∧(aC 0= .slice c n cp)∧(aC 1=aj a)∧(aC 2=aj b)∧(aC 7=aj i2)∧(aC 8=aj s)∧(aC 9=aj q)∧(q=V)) _ ⟨i2 - 1,(bV E i2<|i2 - 1),ab,aa,bF,(Md.trans aV bA),aa,aa,aa,aa,aa,aa,aa⟩ ?_
 rintro V aC av ⟨q,O,bH,bs,ae,bg,cZ,c0,c1,c2,c3,c4,rfl⟩
 refine fx 0 cZ<|fx 1 c0<|fx 2 c1<|fx 7 c2<|fx 8 c3<|fx 9 c4<|az fun a1=>ak fun a2=>au (aj q)<|p (ge aa aa)<|nl<|a2<|cd aa (fun ct=> ?_) fun ct=> ?_
 refine aR<|a1<|az fun a3=>aB<|az fun a4=>az fun a5=> ?_
 have dd:=eT ae
 have Y:(fun w'=>Wk av w') av.drew:=(Md.refl _ _).drew
 refine bT (fun w'=>Wk av w') aa wide Y<|bQ 0 aa (.slice c n cp) Y<|bQ 1 aa (aj q) Y<|aH 2 aa (fun _ _=>bd bJ aa aa ab<|aG.ok ((a6 ae).2)<|bN ab) Y<|aH 3 aa (fun w' C=>ld bZ aa<|cU (i:=q) ((a6 ae).2.wk C) ab) Y<|bQ 4 aa (.slice c n cp) Y<|bQ 5 aa (aj q) Y<|aH 6 aa (fun _ _=>dt ((q - 1:Nat):Int) aa aa<|bm ab ab) Y<|aH 7 aa (fun _ _=>bd bJ aa aa ab<|aG.ok ((a6 ae).2)<|bN ab) Y<|aH 8 aa (fun w' C=>ld bZ aa<|cU (i:=q - 1) ((a6 ae).2.wk C) ab) Y<|he 9 aa ag<|cl k9 (lg O[q]! O[q - 1]! _) aa fun v77 aT ck=> ?_
 obtain ⟨rfl,b4⟩:=ck
 have aF:(fun w'=>Wk av w') aT:=Md.trans Y b4
 refine ⟨aF,?_⟩
 refine aH 10 aa (fun _ _=>no aa) aF<|hn ag<|a5<|cb aa (fun bl=> ?_) fun bl=> ?_
 exact ext<|bh<|mj aw<|bh<|bh<|be<|tn<|⟨O,(by rw [if_pos ab,← bs,Hz (.inr<|by simpa using bl)]),(a8 ae aF),(Md.trans bg<|aF.mono fun _ _ h=>h.elim),aa,aa,aa,aa,aa⟩
 refine aR<|a4 ?_
 have am:=a8 ae aF
 have I:(fun w'=>Wk aT w') aT.drew:=(Md.refl _ _).drew
 refine eL (fun w'=>Wk aT w') 15 aa wide I<|bw 0 aa (.slice c n cp) I<|bw 1 aa (aj q) I<|bw 2 aa (.slice c n cp) I<|bw 3 aa (aj q) I<|bG 4 aa (fun _=>dt ((q - 1:Nat):Int) aa aa<|bm ab ab) (fun _=>I)<|bw 5 aa (.slice c n cp) I<|bw 6 aa (aj q) I<|bG 7 aa (fun _=>dt ((q - 1:Nat):Int) aa aa<|bm ab ab) (fun _=>I)<|bG 8 aa (fun _=>bd bJ aa aa ab<|aG.ok ((a6 am).2)<|bN ab) (fun _=>I)<|ez 9 aa (fun w' C=>ld bZ aa<|cU (i:=q - 1) ((a6 am).2.wk C) ab) I<|bw 10 aa (.slice c n cp) I<|bw 11 aa (aj q) I<|bG 12 aa (fun _=>bd bJ aa aa ab<|aG.ok ((a6 am).2)<|bN ab) (fun _=>I)<|ez 13 aa (fun w' C=>ld bZ aa<|cU (i:=q) ((a6 am).2.wk C) ab) I<|bG 14 aa (fun _=>bd bJ aa aa ab<|aG.ok ((a6 am).2)<|bN ab) (fun _=>I) ?_
 refine dq 15 aa ag ag<|fD (u:=O[q - 1]!) (q) (a8 am I) fq aa aa aa ab fun dj b8 cA=>bG 16 aa (fun _=>bd bJ aa aa ab<|aG.ok ((a6 am).2)<|bN ab) (fun h=>dv<|(show true =_ from by kernel_rfl).trans h)<|dq 17 aa ag ag<|fD (u:=O[q]!) (q - 1) cA fq aa aa aa ab fun bO b9 cB=> ?_
 have cg:bO.ownsRow B 95 1 (.slice c n cp) n (LE aX<|bV O (q)<|q - 1):=cB
 have b7:Md (fun q=>(bE c n cp).ownBlock=some q) aT bO:=Md.trans (I.mono fun _ _ h=>h.elim)<|Md.trans b8 b9
 exact eK ag<|bn<|a3<|rg aa<|au (aj q)<|p (dt ((q - 1:Nat):Int) aa aa<|bm ab ab)<|p aE<|nl<|tn<|⟨_,ab,q - 1,bV O q (q - 1),ab,(by rw [← bs,U1 (show 0 < q by omega) (by simpa using bl)]),cg,(Md.trans bg<|Md.trans (aF.mono fun _ _ h=>h.elim) b7),aa,aa,aa,aa,aa,aa,aa⟩
 exact ext<|bh<|bh<|be<|tn<|⟨O,(by rw [if_pos ab,← bs,Hz (.inl ab)]),ae,bg,aa,aa,aa,aa,aa⟩
 exact aR<|tn<|⟨(bV E i2<|i2 - 1),(by rw [if_neg ab]),bF,(Md.trans aV bA),aa,aa,aa,aa,aa⟩
 rintro aO bu ⟨al,bp,bD,bB,cT,cV,cW,cX,cY⟩
 refine fx 0 cT<|fx 1 cV<|fx 2 cW<|fx 7 cX<|fx 8 cY<|ak fun aZ=>au (aj b)<|au (aj i2)<|p (dt ((b - i2:Nat):Int) aa aa<|bm ab ab)<|p (ge aa aa)<|nl<|aZ<|cd aa (fun cu=> ?_) fun cu=> ?_
 refine ak fun a0=>au (aj i2)<|p (bL ((i2+1:Nat):Int) aa aa<|bm ab ab)<|ay<|a0<|aB<|lp (fun V aD ax=> ∃ (q:Nat) (M:Array Nat),(i2+1≤q∧q≤b)∧(Co bM b q M=Co bM b (i2+1) al)∧(ax.ownsRow B 95 1 (.slice c n cp) n<|LE aX M)∧(Md (fun q=>(bE c n cp).ownBlock=some q) w ax)∧(aD 0= .slice c n cp)∧(aD 1=aj a)∧(aD 2=aj b)∧(aD 7=aj i2)∧(aD 8=aj s)∧(aD 10=aj q)∧(b - q=V)) _ ⟨i2+1,al,ab,aa,bD,bB,aa,aa,aa,aa,aa,aa,aa⟩ ?_
 rintro V aD ax ⟨q,M,bH,bt,ah,bi,c5,c6,c8,c9,da,c7,rfl⟩
 refine fx 0 c5<|fx 1 c6<|fx 2 c8<|fx 7 c9<|fx 8 da<|fx 10 c7<|az fun a1=>ak fun a2=>au (aj q)<|au (aj b)<|p (lt aa aa)<|nl<|a2<|cd aa (fun cm=> ?_) fun cm=> ?_
 refine aR<|a1<|az fun a3=>aB<|az fun a4=>az fun a5=> ?_
 have de:=eT ah
 have Z:(fun w'=>Wk ax w') ax.drew:=(Md.refl _ _).drew
 refine bT (fun w'=>Wk ax w') aa wide Z<|bQ 0 aa (.slice c n cp) Z<|bQ 1 aa (aj q) Z<|aH 2 aa (fun _ _=>bd bJ aa aa ab<|aG.ok ((a6 ah).2)<|bN ab) Z<|aH 3 aa (fun w' C=>ld bZ aa<|cU (i:=q) ((a6 ah).2.wk C) ab) Z<|bQ 4 aa (.slice c n cp) Z<|bQ 5 aa (aj q) Z<|aH 6 aa (fun _ _=>dt ((q - 1:Nat):Int) aa aa<|bm ab ab) Z<|aH 7 aa (fun _ _=>bd bJ aa aa ab<|aG.ok ((a6 ah).2)<|bN ab) Z<|aH 8 aa (fun w' C=>ld bZ aa<|cU (i:=q - 1) ((a6 ah).2.wk C) ab) Z<|he 9 aa ag<|cl k9 (lg M[q]! M[q - 1]! _) aa fun dh aS ci=> ?_
 obtain ⟨rfl,b2⟩:=ci
 have aI:(fun w'=>Wk ax w') aS:=Md.trans Z b2
 refine ⟨aI,?_⟩
 refine aH 10 aa (fun _ _=>no aa) aI<|hn ag<|a5<|cb aa (fun bj=> ?_) fun bj=> ?_
 exact ext<|bh<|mj aw<|bh<|bh<|be<|bn<|aP<|rg aa<|au (aj s)<|p (bL ((s+1:Nat):Int) aa aa<|bm ab ab)<|p aE<|nl<|tn<|⟨_,ab,s+1,i2,M,ab,(by rw [← aK,pi_go (show 0 < 5 - s by omega) aQ a9 ab bp (show M=_ by rw [if_pos ab,← bt,HT (.inr<|by simpa using bj)])]; rfl),(a8 ah aI),(Md.trans bi<|aI.mono fun _ _ h=>h.elim),aa,aa,aa,aa,aa,aa⟩
 refine aR<|a4 ?_
 have an:=a8 ah aI
 have J:(fun w'=>Wk aS w') aS.drew:=(Md.refl _ _).drew
 refine eL (fun w'=>Wk aS w') 15 aa wide J<|bw 0 aa (.slice c n cp) J<|bw 1 aa (aj q) J<|bw 2 aa (.slice c n cp) J<|bw 3 aa (aj q) J<|bG 4 aa (fun _=>dt ((q - 1:Nat):Int) aa aa<|bm ab ab) (fun _=>J)<|bw 5 aa (.slice c n cp) J<|bw 6 aa (aj q) J<|bG 7 aa (fun _=>dt ((q - 1:Nat):Int) aa aa<|bm ab ab) (fun _=>J)<|bG 8 aa (fun _=>bd bJ aa aa ab<|aG.ok ((a6 an).2)<|bN ab) (fun _=>J)<|ez 9 aa (fun w' C=>ld bZ aa<|cU (i:=q - 1) ((a6 an).2.wk C) ab) J<|bw 10 aa (.slice c n cp) J<|bw 11 aa (aj q) J<|bG 12 aa (fun _=>bd bJ aa aa ab<|aG.ok ((a6 an).2)<|bN ab) (fun _=>J)<|ez 13 aa (fun w' C=>ld bZ aa<|cU (i:=q) ((a6 an).2.wk C) ab) J<|bG 14 aa (fun _=>bd bJ aa aa ab<|aG.ok ((a6 an).2)<|bN ab) (fun _=>J) ?_
 refine dq 15 aa ag ag<|fD (u:=M[q - 1]!) (q) (a8 an J) fq aa aa aa ab fun dk cc cC=>bG 16 aa (fun _=>bd bJ aa aa ab<|aG.ok ((a6 an).2)<|bN ab) (fun h=>dv<|(show true =_ from by kernel_rfl).trans h)<|dq 17 aa ag ag<|fD (u:=M[q]!) (q - 1) cC fq aa aa aa ab fun bP ce cD=> ?_
 have ch:bP.ownsRow B 95 1 (.slice c n cp) n (LE aX<|bV M (q)<|q - 1):=cD
 have ca:Md (fun q=>(bE c n cp).ownBlock=some q) aS bP:=Md.trans (J.mono fun _ _ h=>h.elim)<|Md.trans cc ce
 exact eK ag<|bn<|a3<|rg aa<|au (aj q)<|p (bL ((q+1:Nat):Int) aa aa<|bm ab ab)<|p aE<|nl<|tn<|⟨_,ab,q+1,bV M q (q - 1),ab,(by rw [← bt,VQ (show q < b by omega) (by simpa using bj)]),ch,(Md.trans bi<|Md.trans (aI.mono fun _ _ h=>h.elim) ca),aa,aa,aa,aa,aa,aa,aa⟩
 exact ext<|bh<|bh<|be<|bn<|aP<|rg aa<|au (aj s)<|p (bL ((s+1:Nat):Int) aa aa<|bm ab ab)<|p aE<|nl<|tn<|⟨_,ab,s+1,i2,M,ab,(by rw [← aK,pi_go (show 0 < 5 - s by omega) aQ a9 ab bp (show M=_ by rw [if_pos ab,← bt,HT (.inl ab)])]; rfl),ah,bi,aa,aa,aa,aa,aa,aa⟩
 exact aR<|bn<|aP<|rg aa<|au (aj s)<|p (bL ((s+1:Nat):Int) aa aa<|bm ab ab)<|p aE<|nl<|tn<|⟨_,ab,s+1,i2,al,ab,(by rw [← aK,pi_go (show 0 < 5 - s by omega) aQ a9 ab bp (show al=_ by rw [if_neg ab])]; rfl),bD,bB,aa,aa,aa,aa,aa,aa⟩
 refine ext<|bh<|bh<|be<|bX<|ak fun aP=>p aE<|nl<|aP<|rt<|bc aa ?_
 have ai:(sR bM d a b)=(E,false):=by rw [← aK,show 5 - s=0 by omega]; rfl
 exact ⟨by rw [ai]; rfl,by rw [ai]; exact bC,bx⟩
end Go.Hb
end
section
namespace Go.Hb
open Go.Hb.dF
theorem TW (d:Array Nat) (a b A:Nat) (B n cp:Nat) (c:Option Addr) (w:World) (hO:w.ownsRow B 95 1 (.slice c n cp) n (LE aX d)) (E:a≤A∧A < b∧b≤n) (G:n≤1099511627776):bf ao 292 (ba [.slice c n cp,.int .i64 (a:Nat),.int .i64 (b:Nat),.int .i64 (A:Nat)]) w
 (fun v w'=> ∃ C ap d4,qe bM d a b A=(C,ap,d4)∧v= .tuple #[.int .i64 (C:Nat),.bool ap]∧w'.ownsRow B 95 1 (.slice c n cp) n (LE aX d4)∧Md (fun q=>(bE c n cp).ownBlock=some q) w w'):=
 (TV d a b A B n cp c w hO E G).mono fun _ _ h=>⟨_,_,_,rfl,h⟩
theorem TY (d:Array Nat) (a b A:Nat) (B n cp:Nat) (c:Option Addr) (w:World) (hO:w.ownsRow B 95 1 (.slice c n cp) n (LE aX d)) (E:a≤A∧A < b∧b≤n) (G:n≤1099511627776):bf ao 291 (ba [.slice c n cp,.int .i64 (a:Nat),.int .i64 (b:Nat),.int .i64 (A:Nat)]) w
 (fun v w'=> ∃ C d4,uQ bM d a b A=(C,d4)∧v= .int .i64 (C:Nat)∧w'.ownsRow B 95 1 (.slice c n cp) n (LE aX d4)∧Md (fun q=>(bE c n cp).ownBlock=some q) w w'):=
 (TX d a b A B n cp c w hO E G).mono fun _ _ h=>⟨_,_,rfl,h⟩
theorem TZ (m:Nat) (d:Array Nat) (a b lim:Nat) (B n cp:Nat) (C:Option Addr) (w:World) (hO:w.ownsRow B 95 1 (.slice C n cp) n (LE aX d)) (hm:b - a < m) (ds:a≤b∧b≤n) (cI:n≤255) (dz:lim≤64) (bV:Ck bM a b d):
 bf ao 268 (ba [.slice C n cp,aj a,aj b,aj lim]) w (fun v w'=> ∃ d1,v= .tuple #[]∧nA a b d d1∧sQ bM a b d1∧w'.ownsRow B 95 1 (.slice C n cp) n (LE aX d1)∧Md (fun q=>(bE C n cp).ownBlock=some q) w w'):=by
 have bC:True:=trivial
 induction m generalizing d a b lim w with
 | zero=>omega
 | succ m bC=>
   have bB:∀ (d:Array Nat) (a b lim:Nat) (w:World),w.ownsRow B 95 1 (.slice C n cp) n (LE aX d)→b - a < m→(a≤b∧b≤n)→lim≤64→Ck bM a b d→_:=fun d a b lim w h1 h2 h3 h4 h5=>bC d a b lim w h1 h2 h3 h4 h5
   have dy:=eT hO
   refine enter func268 aa ntmps268 aa<|ak fun bF=>ay<|bF<|ak fun bK=>p aE<|nl<|bK<|aB<|lp (fun bk am bj=> ∃ (c A ad:Nat) (wb wp:Bool) (G:Array Nat),(a≤c∧c≤A∧A≤b∧ad≤64)∧(Ck bM c A G)∧(∀ R,nA c A G R→sQ bM c A R→nA a b d R∧sQ bM a b R)∧(bj.ownsRow B 95 1 (.slice C n cp) n<|LE aX G)∧(Md (fun q=>(bE C n cp).ownBlock=some q) w bj)∧(am 0= .slice C n cp)∧(am 1=aj c)∧(am 2=aj A)∧(am 3=aj ad)∧(am 8= .bool wb)∧(am 9= .bool wp)∧(A - c=bk)) _ ⟨a,b,lim,true,true,d,ab,bV,(fun R h1 h2=>⟨h1,h2⟩),hO,(Md.refl _ _),aa,aa,aa,aa,aa,aa,aa⟩ ?_
   rintro bk am bj ⟨c,A,ad,wb,wp,G,dC,aS,an,aC,aL,cK,cL,cM,cN,cO,cP,rfl⟩
   refine fx 0 cK<|fx 1 cL<|fx 2 cM<|fx 3 cN<|fx 8 cO<|fx 9 cP ?_
   have dx:=eT aC
   refine aB<|ak fun bO=>au (aj A)<|au (aj c)<|p (dt ((A - c:Nat):Int) aa aa<|bm ab ab)<|p aE<|nl<|bO<|az fun bP=>ak fun bS=>p mv<|p (le aa aa)<|nl<|bS ?_
   refine cd aa (fun ct=> ?_) fun ct=> ?_
   refine ak fun aQ=>au (.slice C n cp)<|au (aj c)<|au (aj A)<|e<|cl Mo (RL G c A B n cp C _ aC ab ab) aa fun dF dK cg=> ?_
   obtain ⟨rfl,b5,bY⟩:=cg
   refine nl<|aQ<|rt<|tr<|br<|tr<|br<|vW aa ?_
   obtain ⟨h1,h2⟩:=Go.Sort.insertionSort_holds ua G c A ab ab
   obtain ⟨aI,aK⟩:=an _ (h1)<|h2
   exact ⟨_,aa,aI,aK,b5,Md.trans aL bY⟩
   refine aR<|bP<|az fun aQ=>ak fun bU=>au (aj ad)<|p (cw aa aa)<|nl<|bU<|cd aa (fun cu=> ?_) fun cu=> ?_
   refine ak fun aw=>au (.slice C n cp)<|au (aj c)<|au (aj A)<|e<|cl Mp (Rp G c A B n cp C _ aC ab ab) aa fun v33 dL ch=> ?_
   obtain ⟨rfl,b6,b0⟩:=ch
   refine nl<|aw<|rt<|tr<|br<|tr<|br<|vW aa ?_
   obtain ⟨h1,h2⟩:=Go.Sort.heapSort_holds ua G c A ab ab
   obtain ⟨aI,aK⟩:=an _ (h1)<|h2
   exact ⟨_,aa,aI,aK,b6,Md.trans aL b0⟩
   refine aR<|aQ ?_
   refine e6 (fun ae wB=> ∃ (I:Nat) (d1:Array Nat),(I≤64)∧(nA c A G d1)∧(wB.ownsRow B 95 1 (.slice C n cp) n<|LE aX d1)∧(Md (fun q=>(bE C n cp).ownBlock=some q) w wB)∧(ae 0= .slice C n cp)∧(ae 1=aj c)∧(ae 2=aj A)∧(ae 3=aj I)∧(ae 8= .bool wb)∧(ae 9= .bool wp)∧(ae 10=aj (A - c))) ?_ ?_
   refine ak fun aw=>au (.bool wb)<|p (no aa)<|nl<|aw<|cb aa (fun cv=> ?_) fun cv=> ?_
   refine ak fun M=>au (.slice C n cp)<|au (aj c)<|au (aj A)<|e<|cl Mq (Lm G c A B n cp C _ aC ab cI) aa fun v39 dM ci=> ?_
   obtain ⟨d1,rfl,cJ,b7,b1⟩:=ci
   exact nl<|M<|rg aa<|au (aj ad)<|p (dt ((ad - 1:Nat):Int) aa aa<|bm ab ab)<|p aE<|nl<|tn<|⟨ad - 1,d1,ab,cJ,b7,(Md.trans aL b1),aa,aa,aa,aa,aa,aa,aa⟩
   exact aR<|tn<|⟨ad,G,ab,(Js G c A),aC,aL,aa,aa,aa,aa,aa,aa,aa⟩
   rintro ae wB ⟨I,d1,dA,bA,ca,b4,cQ,cR,cT,cV,cW,cX,cS⟩
   refine fx 0 cQ<|fx 1 cR<|fx 2 cT<|fx 3 cV<|fx 8 cW<|fx 9 cX<|fx 10 cS<|ak fun aw=>au (.slice C n cp)<|au (aj c)<|au (aj A)<|e<|cl Mr (Nd d1 c A B n cp C _ ca ab ab) aa fun v46 dN cj=> ?_
   obtain ⟨aN,dq,rfl,dB,aW,bW⟩:=cj
   have bl:=Md.trans b4<|bW.mono fun _ _ h=>h.elim
   refine p mv<|p (xt aa aa)<|p (xt aa aa)<|p aE<|ay<|aw ?_
   refine e6 (fun V bg=> ∃ (J:Nat) (bb:Int) (d2:Array Nat),(c≤J∧J < A)∧(nA c A G d2)∧(bg.ownsRow B 95 1 (.slice C n cp) n<|LE aX d2)∧(Md (fun q=>(bE C n cp).ownBlock=some q) w bg)∧(V 0= .slice C n cp)∧(V 1=aj c)∧(V 2=aj A)∧(V 3=aj I)∧(V 8= .bool wb)∧(V 9= .bool wp)∧(V 10=aj (A - c))∧(V 11=aj J)∧(V 12= .int .i64 bb)) ?_ ?_
   refine ak fun M=>p mv<|p (cw aa aa)<|nl<|M<|cd aa (fun cx=> ?_) fun cx=> ?_
   refine ak fun ah=>au (.slice C n cp)<|au (aj c)<|au (aj A)<|e<|cl Ms (UH d1 c A B n cp C _ aW ab ab) aa fun v54 dO ck=> ?_
   obtain ⟨rfl,b8,b2⟩:=ck
   have du:=eT aW
   exact nl<|ah<|ak fun av=>au (aj A)<|p (dt ((A - 1:Nat):Int) aa aa<|bm ab ab)<|p mv<|au (aj c)<|p (dt ((aN - c:Nat):Int) aa aa<|bm ab ab)<|p (dt ((A - 1 - (aN - c):Nat):Int) aa aa<|bm ab ab)<|ay<|av<|rg aa<|p aE<|nl<|tn<|⟨A - 1 - (aN - c),1,Cn d1 c A,ab,(rh _ _ _ c A bA<|Go.Sort.reverseRange_holds d1 c A ab ab),b8,(Md.trans bl b2),aa,aa,aa,aa,aa,aa,aa,aa,aa⟩
   exact aR<|tn<|⟨aN,dq,d1,ab,bA,aW,bl,aa,aa,aa,aa,aa,aa,aa,aa,aa⟩
   rintro V bg ⟨J,bb,d2,aM,aq,aD,aA,cY,cZ,c3,c4,c5,c6,c0,c1,c2⟩
   refine fx 0 cY<|fx 1 cZ<|fx 2 c3<|fx 3 c4<|fx 8 c5<|fx 9 c6<|fx 10 c0<|fx 11 c1<|fx 12 c2 ?_
   refine e6 (fun Y al=> ∃ (d3:Array Nat),(nA c A G d3)∧(al.ownsRow B 95 1 (.slice C n cp) n<|LE aX d3)∧(Md (fun q=>(bE C n cp).ownBlock=some q) w al)∧(Y 0= .slice C n cp)∧(Y 1=aj c)∧(Y 2=aj A)∧(Y 3=aj I)∧(Y 8= .bool wb)∧(Y 9= .bool wp)∧(Y 10=aj (A - c))∧(Y 11=aj J)) ?_ ?_
   refine ak fun M=>au (.bool wb)<|au (.bool wb)<|gb (t:=62) aa (fun cA=> ?_) fun cA=> ?_
   refine aY aa (aJ (.bool wp) aa)<|p (bR aa)<|p mv<|gb (t:=65) aa (fun cB=> ?_) fun cB=> ?_
   refine aY aa (aJ (.int .i64 bb) aa)<|aY aa (cw aa aa)<|p (bR aa)<|nl<|M<|cd aa (fun cy=> ?_) fun cy=> ?_
   refine ak fun ah=>au (.slice C n cp)<|au (aj c)<|au (aj A)<|e<|cl Mt (Uc d2 c A B n cp C _ aD ab ab) aa fun v72 dP cm=> ?_
   obtain ⟨rfl,bt,bp⟩:=cm
   have dv:=eT aD
   obtain ⟨bx,cD⟩:=Go.Sort.partialInsertionSort_holds ua d2 c A ab ab<|Cl aS ab aq
   refine nl<|ah<|cb aa (fun bv=> ?_) fun bv=> ?_
   have dp:=cD bv
   refine rt<|tr<|br<|tr<|br<|vW aa ?_
   obtain ⟨aI,aK⟩:=an _ (rh _ _ _ c A aq bx)<|dp
   exact ⟨_,aa,aI,aK,bt,Md.trans aA bp⟩
   exact aR<|tn<|⟨_,(rh _ _ _ c A aq bx),bt,(Md.trans aA bp),aa,aa,aa,aa,aa,aa,aa,aa⟩
   exact aR<|tn<|⟨d2,aq,aD,aA,aa,aa,aa,aa,aa,aa,aa,aa⟩
   exact aT aa<|aT aa<|p (bI aa)<|nl<|M<|cf aa<|aR<|tn<|⟨d2,aq,aD,aA,aa,aa,aa,aa,aa,aa,aa,aa⟩
   exact aT aa<|p (bI aa)<|p mv<|aT aa<|aT aa<|p (bI aa)<|nl<|M<|cf aa<|aR<|tn<|⟨d2,aq,aD,aA,aa,aa,aa,aa,aa,aa,aa,aa⟩
   rintro Y al ⟨d3,aF,ac,aU,c7,c8,db,dc,dd,de,c9,da⟩
   refine fx 0 c7<|fx 1 c8<|fx 2 db<|fx 3 dc<|fx 8 dd<|fx 9 de<|fx 10 c9<|fx 11 da ?_
   refine e6 (fun Z bi=>(bi.ownsRow B 95 1 (.slice C n cp) n<|LE aX d3)∧(Md (fun q=>(bE C n cp).ownBlock=some q) w bi)∧(Z 0= .slice C n cp)∧(Z 1=aj c)∧(Z 2=aj A)∧(Z 3=aj I)∧(Z 8= .bool wb)∧(Z 9= .bool wp)∧(Z 10=aj (A - c))∧(Z 11=aj J)) ?_ ?_
   refine az fun M=> ?_
   have cz:=eT ac
   have E:(fun w'=>Wk al w') al.drew:=(Md.refl _ _).drew
   refine bT (fun w'=>Wk al w') aa wide E<|bQ 0 aa (aj c) E<|aH 1 aa (fun _ _=>gt aa aa) E<|aH 2 aa (fun _ _=>mv) E<|kz (t:=75) aa (fun cC=> ?_) fun cC=> ?_
   refine bz 3 aa (fun _ _=>aJ (.slice C n cp) aa) E<|bz 4 aa (fun _ _=>aJ (aj c) aa) E<|bz 5 aa (fun _ _=>dt ((c - 1:Nat):Int) aa aa<|bm ab ab) E<|bz 6 aa (fun _ _=>bd bJ aa aa ab<|aG.ok ((a6 ac).2)<|bN ab) E<|bz 7 aa (fun w' a1=>ld bZ aa<|cU (i:=c - 1) ((a6 ac).2.wk a1) ab) E<|bz 8 aa (fun _ _=>aJ (.slice C n cp) aa) E<|bz 9 aa (fun _ _=>aJ (aj J) aa) E<|bz 10 aa (fun _ _=>bd bJ aa aa ab<|aG.ok ((a6 ac).2)<|bN ab) E<|bz 11 aa (fun w' a1=>ld bZ aa<|cU (i:=J) ((a6 ac).2.wk a1) ab) E<|lR 12 aa ag aa aa aa<|cl k9 (lg d3[c - 1]! d3[J]! _) aa fun v85 dr cn=> ?_
   obtain ⟨rfl,bX⟩:=cn
   have ai:(fun w'=>Wk al w') dr:=Md.trans E bX
   refine ⟨ai,?_⟩
   refine bz 13 aa (fun _ _=>no aa) ai<|aH 14 aa (fun _ _=>bR aa) ai<|hn ag<|M<|cb aa (fun bw=> ?_) fun bw=> ?_
   refine ak fun ah=>au (.slice C n cp)<|au (aj c)<|au (aj A)<|au (aj J)<|e<|cl Mu (TY d3 c A J B n cp C _ (a8 ac ai) ab ab) aa fun dG dQ co=> ?_
   obtain ⟨O,d4,bc,rfl,b9,b3⟩:=co
   obtain ⟨bQ,cE,cF,a4,a5⟩:=Go.Sort.round_eq ua (Go.Sort.partitionEqual_holds bM) (show 0 < c by omega) aM.1 aM.2 ab (Cl aS ab aF) (by simpa using bw) bc
   exact ay<|ah<|ak fun av=>p mv<|p aE<|nl<|av<|ext<|bh<|be<|tn<|⟨_,ab,O,A,I,wb,wp,d4,ab,a4,(fun R h1 h2=>by obtain ⟨h3,h4⟩:=a5 R h1 h2; exact an R (rh _ _ _ c A aF h3) h4),b9,(Md.trans aU<|Md.trans (ai.mono fun _ _ h=>h.elim) b3),aa,aa,aa,aa,aa,aa,aa⟩
   exact aR<|tn<|⟨(a8 ac ai),(Md.trans aU<|ai.mono fun _ _ h=>h.elim),aa,aa,aa,aa,aa,aa,aa,aa⟩
   exact bo 3 aa E<|bo 4 aa E<|bo 5 aa E<|bo 6 aa E<|bo 7 aa E<|bo 8 aa E<|bo 9 aa E<|bo 10 aa E<|bo 11 aa E<|bo 12 aa E<|bo 13 aa E<|aH 14 aa (fun _ _=>bI aa) E<|hn ag<|M<|cf aa<|aR<|tn<|⟨(a8 ac (Md.refl _ _).drew),aU.drew,aa,aa,aa,aa,aa,aa,aa,aa⟩
   rintro Z bi ⟨bu,bs,df,dg,dj,dk,dl,dn,dh,di⟩
   refine fx 0 df<|fx 1 dg<|fx 2 dj<|fx 3 dk<|fx 8 dl<|fx 9 dn<|fx 10 dh<|fx 11 di<|ak fun M=>au (.slice C n cp)<|au (aj c)<|au (aj A)<|au (aj J)<|e<|cl Mv (TW d3 c A J B n cp C _ bu ab ab) aa fun dH bD cq=> ?_
   obtain ⟨O,ap,d4,bc,rfl,aZ,bq⟩:=cq
   have cz:=eT bu
   have dw:=eT aZ
   obtain ⟨bQ,cE,cF,a4,a5,cG,cH⟩:=Go.Sort.round_part ua (Go.Sort.partition_holds bM) aM.1 aM.2 ab (Cl aS ab aF) bc
   refine p mv<|p (xt aa aa)<|p (xt aa aa)<|p aE<|ay<|M<|az fun ah=>rg aa<|p mv<|ay<|ah<|ak fun av=>p mv<|au (aj c)<|p (dt ((O - c:Nat):Int) aa aa<|bm ab ab)<|au (aj A)<|p mv<|p (dt ((A - O:Nat):Int) aa aa<|bm ab ab)<|p aE<|p aE<|nl<|av<|ak fun bG=>au (aj<|A - c)<|p (pS (((A - c) / 8:Nat):Int) aa aa ab<|bm ab ab)<|ay<|bG ?_
   refine ak fun bH=>p mv<|p mv<|p (lt aa aa)<|nl<|bH<|cd aa (fun cs=> ?_) fun cs=> ?_
   refine ak fun aO=>p mv<|p mv<|p (ge aa aa)<|ay<|aO<|ak fun aP=>au (.slice C n cp)<|au (aj c)<|p mv<|au (aj I)<|e<|cl y7 (bB d4 c O I bD aZ ab ab ab a4) aa fun dD dI cc=> ?_
   obtain ⟨ax,rfl,a7,a9,a0,aV⟩:=cc
   obtain ⟨a2,a3⟩:=cG ax a7 a9
   exact nl<|aP<|rg aa<|p mv<|p (bL ((O+1:Nat):Int) aa aa<|bm ab ab)<|p aE<|nl<|bn<|tn<|⟨_,ab,O+1,A,I,decide (((O - c:Nat):Int)≥(((A - c) / 8:Nat):Int)),ap,ax,ab,a2,(fun R h1 h2=>by obtain ⟨h3,h4⟩:=a3 R h1 h2; exact an R (rh _ _ _ c A aF h3) h4),a0,(Md.trans bs<|Md.trans bq aV),aa,aa,aa,aa,aa,aa,aa⟩
   refine ak fun aO=>p mv<|p mv<|p (ge aa aa)<|ay<|aO<|ak fun aP=>au (.slice C n cp)<|p mv<|p (bL ((O+1:Nat):Int) aa aa<|bm ab ab)<|au (aj A)<|au (aj I)<|e<|cl y7 (bB d4 (O+1) A I bD aZ ab ab ab a5) aa fun dE dJ ce=> ?_
   obtain ⟨ax,rfl,a7,a9,a0,aV⟩:=ce
   obtain ⟨a2,a3⟩:=cH ax a7 a9
   exact nl<|aP<|rg aa<|p mv<|p aE<|nl<|bn<|tn<|⟨_,ab,c,O,I,decide (((A - O:Nat):Int)≥(((A - c) / 8:Nat):Int)),ap,ax,ab,a2,(fun R h1 h2=>by obtain ⟨h3,h4⟩:=a3 R h1 h2; exact an R (rh _ _ _ c A aF h3) h4),a0,(Md.trans bs<|Md.trans bq aV),aa,aa,aa,aa,aa,aa,aa⟩
theorem Vr (d:Array Nat) (B n cp:Nat) (a:Option Addr) (w:World) (hO:w.ownsRow B 95 1 (.slice a n cp) n (LE aX d)) (G:n≤255):
 bf ao 241 (ba [.slice a n cp]) w (fun v w'=> ∃ d1,v= .tuple #[]∧nA 0 n d d1∧sQ bM 0 n d1∧w'.ownsRow B 95 1 (.slice a n cp) n (LE aX d1)∧Md (fun q=>(bE a n cp).ownBlock=some q) w w'):=by
 refine enter func241 aa ntmps241 aa<|ak fun A=>au (.slice a n cp)<|p (bP n4 aa aa)<|ay<|A<|rg aa<|au (.slice a n cp)<|p mv<|p mv<|p (nQ Ic sE aa<|oa ab)<|e<|cl DP (Gp n _ ab) aa fun v9 M E=> ?_
 obtain ⟨rfl,c⟩:=E
 have I:=wO (n:=n) ab
 refine e<|cl y7 (TZ (n+1) d 0 n (ka n) B n cp a _ (a8 hO c) ab ab G ab<|.inl aa) aa fun v10 J C=> ?_
 obtain ⟨d1,rfl,h1,h2,h3,h4⟩:=C
 exact nl<|f0 aa<|⟨d1,aa,h1,h2,h3,Md.trans (c.mono fun _ _ h=>h.elim) h4⟩
end Go.Hb
end
section
namespace Go.Hb.fj
open Go.Hb.dF
theorem sx {w:World} {B e n cp i:Nat} {a:Option Addr} {d:Array Nat} (h:w.ownsRow B e 1 (.slice a n cp) n (LE aX d)):aG w.heap (fw a cp i 1) ((LE aX d).drop i):=by
 have :=(a6 h).2.drop (cap:=cp) (k:=i) (size:=1)<|by rw [tZ]; have h1:=eT h; have h2:=(a6 h).1; omega
 rwa [Nat.mul_one] at this
theorem SL (l:List Nat):l.map aX=LE aX l.toArray:=by simp [LE]
theorem rG (l:List Nat):(l.map aX).all eO=true :=by
 rw [List.all_eq_true]; intro v a; obtain ⟨x,_,rfl⟩:=List.mem_map.1 a; rfl
theorem V5 (d:Array Nat) (k:Nat):(LE aX d).take k=(d.toList.take k).map aX:=by simp [LE,List.map_take]
theorem ur (b:UInt8):iq b=decide ((b.toNat:Int) > 32∧(b.toNat:Int) < 127∧(b.toNat:Int)≠47∧(b.toNat:Int)≠44∧(b.toNat:Int)≠35):=by
 unfold iq; exact decide_eq_decide.2 ab
theorem A3 {w:World} {B e size n cp:Nat} {a:Option Addr} {xs:List Value} (h:w.ownsRow B e size (.slice a n cp) n xs) (hn:0 < n):a≠none:=by
 rintro rfl
 rcases h.2 with ⟨_,h5⟩ | ⟨g,cap,cur,h4,_⟩
 · omega
 · simp at h4
theorem rP (a:Option Addr) (n c:Nat) (xs:List Value) (w:World) (O:aG w.heap a xs) (ag:xs.length=n*1) (Z:a=none→n=0) (h1:xs.all eO=true) (hn:n≤1048576):
 bf ao 44 (ba [.slice a n c]) w (fun v w'=>bq w' w.heap.size 95 1 v n xs∧Wk w w'):=by
 refine enter func44 aa ntmps44 aa<|ak fun G=>ay<|G<|az fun I=>ak fun J=>au (.slice a n c)<|p (pK n4 aa aa)<|nl<|J<|cb aa (fun C=> ?_) fun C=> ?_
 have ac:a=none:=by simpa using C
 refine ak fun q=>ay<|q<|rt<|tr<|bc aa ?_
 have ad:=Z ac
 subst ad
 obtain rfl :=List.eq_nil_of_length_eq_zero (show xs.length=0 by omega)
 exact ⟨World.ownsRow_nil _ _ _ _,Md.refl _ _⟩
 refine aR<|I<|ak fun q=>e<|pF xv fun al av am A M=> ?_
 have E:=M w.heap.size ab
 refine au (.slice a n c)<|e<|ap xv (E) aa (by have :=A.size; omega) aa (O.wk A.md) (ag) (h1) ab ab fun ai aj ae Y aq an=> ?_
 have V:=Wk.own A.md E Y<|cz _
 refine ay<|q<|rt<|bc aa ?_
 have ah:bq aj w.heap.size 95 1 ai n xs:=by simpa using ae
 exact ⟨ah,V⟩
theorem N3 (d:Array Nat) (B n cp:Nat) (a:Option Addr) (w:World) (hO:w.ownsRow B 95 1 (.slice a n cp) n (LE aX d)) (bp:n≤1048576):
 bf ao 242 (ba [.slice a n cp]) w (fun v w'=> ∃ k,v= .slice a k cp∧k=(gz d.toList).length∧bq w' B 95 1 (.slice a k cp) k ((gz d.toList).map aX)∧Md (fun q=>(bE a n cp).ownBlock=some q) w w'):=by
 have bo:=eT hO
 have bk:=(a6 hO).1
 refine enter func242 aa ntmps242 aa<|ak fun ax=>ay<|ax<|az fun aK=>ak fun aL=>au (.slice a n cp)<|p (bP n4 aa aa)<|p (lt aa aa)<|nl<|aL<|cd aa (fun aZ=> ?_) fun aZ=> ?_
 refine ak fun am=>au (.slice a n cp)<|p (cj (.slice a n cp) aa)<|nl<|am<|rt<|tr<|bc aa ?_
 have ai:gz d.toList=d.toList:=by
  have aq:d.toList.length < 2:=by rw [sA]; omega
  revert aq
  generalize d.toList=l
  intro aq
  match l,aq with
  | [],_=>rfl
  | [x],_=>rfl
 exact ⟨n,aa,by rw [ai,sA]; omega,by rw [ai]; exact hO,Md.refl _ _⟩
 refine aR<|aK<|az fun am=>ak fun aN=>ay<|aN<|aB<|lp (fun O av Z=> ∃ (i:Nat),(1≤i∧i≤n∧2≤n)∧(gz (d.toList.take i)=d.toList.take i)∧(Wk w Z)∧(av 0= .slice a n cp)∧(av 3=aj i)∧(n - i=O)) _ ⟨1,ab,(by have h1:=xG (d:=d) (i:=0) ab; rw [h1]; rfl),(Md.refl _ _),aa,aa,aa⟩ ?_
 rintro O av Z ⟨i,hi,V,G,a7,a9,rfl⟩
 refine fx 0 a7<|fx 3 a9<|az fun aO=>ak fun aP=>au (aj i)<|au (.slice a n cp)<|p (bP n4 aa aa)<|p (lt aa aa)<|nl<|aP<|cd aa (fun aU=> ?_) fun aU=> ?_
 refine aR<|aO<|az fun an=>aB<|az fun aQ=> ?_
 have A:(fun w'=>Wk Z w') Z.drew:=(Md.refl _ _).drew
 refine bT (fun w'=>Wk Z w') aa wide A<|bQ 0 aa (.slice a n cp) A<|bQ 1 aa (aj i) A<|aH 2 aa (fun _ _=>bd bJ aa aa ab<|aG.ok ((a6 hO).2)<|bN ab) A<|aH 3 aa (fun w' I=>ld bZ aa<|Wk.aM I<|cU (i:=i) (a6<|a8 hO G).2 ab) A<|bQ 4 aa (.slice a n cp) A<|bQ 5 aa (aj i) A<|aH 6 aa (fun _ _=>dt ((i - 1:Nat):Int) aa aa<|bm ab ab) A<|aH 7 aa (fun _ _=>bd bJ aa aa ab<|aG.ok ((a6 hO).2)<|bN ab) A<|aH 8 aa (fun w' I=>ld bZ aa<|Wk.aM I<|cU (i:=i - 1) (a6<|a8 hO G).2 ab) A<|aH 9 aa (fun _ _=>cw aa aa) A<|hn ag<|aQ<|cd aa (fun aV=> ?_) fun aV=> ?_
 have heq:d[i - 1]! =d[i]! :=ab
 refine ak fun aA=>au (.slice a n cp)<|au (aj i)<|p (uu bJ aa aa ab)<|ay<|aA<|az fun aC=>ak fun aD=>ay<|aD<|aB<|lp (fun O ac M=> ∃ (k i2:Nat) (C:Array Nat),(1≤k∧k < i+i2∧1≤i2∧i2≤n - i)∧(C.toList.drop k=d.toList.drop k)∧(C.toList.take k=gz (d.toList.take<|i+i2))∧(M.ownsRow B 95 1 (.slice a n cp) n<|LE aX C)∧(Md (fun q=>(bE a n cp).ownBlock=some q) w M)∧(ac 0= .slice a n cp)∧(ac 3=aj k)∧(ac 4= .slice (fw a cp i 1) (n - i) (cp - i))∧(ac 5=aj i2)∧(n - i2=O)) _ ⟨i,1,d,ab,aa,(by rw [vN ab ab,if_pos heq,V]),(a8 hO<|Md.trans G (Md.refl _ _).drew),((Md.trans G (Md.refl _ _).drew).mono fun _ _ h=>h.elim),aa,aa,aa,aa,aa⟩ ?_
 rintro O ac M ⟨k,i2,C,hk,J,Y,E,ap,bb,bg,bi,bj,rfl⟩
 refine fx 0 bb<|fx 3 bg<|fx 4 bi<|fx 5 bj ?_
 have bl:=eT E
 refine az fun aF=>ak fun aI=>au (aj i2)<|au (.slice (fw a cp i 1) (n - i)<|cp - i)<|p (bP n4 aa aa)<|p (lt aa aa)<|nl<|aI<|cd aa (fun aW=> ?_) fun aW=> ?_
 refine aR<|aF<|az fun ae=>aB<|az fun al=> ?_
 have c:(fun w'=>Wk M w') M.drew:=(Md.refl _ _).drew
 refine bT (fun w'=>Wk M w') aa wide c<|bQ 0 aa (.slice (fw a cp i 1) (n - i)<|cp - i) c<|bQ 1 aa (aj i2) c<|aH 2 aa (fun _ _=>bd bJ aa aa ab<|aG.ok (sx E)<|Aw ab) c<|aH 3 aa (fun w' I=>ld bZ aa<|Wk.aM I<|Av (j:=i2) (sx E) ab) c<|bQ 4 aa (.slice (fw a cp i 1) (n - i)<|cp - i) c<|bQ 5 aa (aj i2) c<|aH 6 aa (fun _ _=>dt ((i2 - 1:Nat):Int) aa aa<|bm ab ab) c<|aH 7 aa (fun _ _=>bd bJ aa aa ab<|aG.ok (sx E)<|Aw ab) c<|aH 8 aa (fun w' I=>ld bZ aa<|Wk.aM I<|Av (j:=i2 - 1) (sx E) ab) c<|aH 9 aa (fun _ _=>gE aa aa) c<|hn ag<|al<|cd aa (fun aY=> ?_) fun aY=> ?_
 have ah:=a8 E c
 have g1:=vQ J (show k≤i+i2 by omega)
 have g2:=vQ J (show k≤i+(i2 - 1) by omega)
 have a2:¬d[i+i2 - 1]! =d[i+i2]! :=by rw [show i+i2 - 1=i+(i2 - 1) by omega,← g1,← g2]; omega
 exact ak fun aJ=>au (.slice a n cp)<|au (aj k)<|au (.slice (fw a cp i 1) (n - i)<|cp - i)<|au (aj i2)<|p (bd bJ aa aa ab<|aG.ok (sx ah)<|Aw ab)<|p (ld bZ aa<|Av (j:=i2) (sx ah) ab)<|p (bd bJ aa aa ab<|aG.ok ((a6 ah).2)<|bN ab)<|e<|fD (u:=C[i+i2]!) (k) ah fq aa aa aa ab fun bs aS a4=>nl<|aJ<|rg aa<|au (aj k)<|p (bL ((k+1:Nat):Int) aa aa<|bm ab ab)<|p aE<|nl<|bn<|ae<|rg aa<|au (aj i2)<|p (bL ((i2+1:Nat):Int) aa aa<|bm ab ab)<|p aE<|nl<|tn<|⟨_,ab,k+1,i2+1,C.setIfInBounds k C[i+i2]!,ab,(by rw [set_drop ab]; have h3:=congrArg (List.drop 1) J; rwa [yg,yg] at h3),(by rw [Bi ab,Y,show i+(i2+1)=i+i2+1 from aa,vN ab ab,if_neg a2,g1]),a4,(Md.trans ap<|Md.trans (c.mono fun _ _ h=>h.elim) aS),aa,aa,aa,aa,aa⟩
 have g1:=vQ J (show k≤i+i2 by omega)
 have g2:=vQ J (show k≤i+(i2 - 1) by omega)
 have a0:d[i+i2 - 1]! =d[i+i2]! :=by rw [show i+i2 - 1=i+(i2 - 1) by omega,← g1,← g2]; omega
 exact aR<|bn<|ae<|rg aa<|au (aj i2)<|p (bL ((i2+1:Nat):Int) aa aa<|bm ab ab)<|p aE<|nl<|tn<|⟨_,ab,k,i2+1,C,ab,J,(by rw [Y,show i+(i2+1)=i+i2+1 from aa,vN ab ab,if_pos a0]),(a8 E (Md.refl _ _).drew),ap.drew,aa,aa,aa,aa,aa⟩
 refine ext<|bh<|bh<|be<|aC<|ak fun ae=>au (.slice a n cp)<|au (aj k)<|p (uu bJ aa aa ab)<|e<|NI (k:=k) n4 Xt aa E aa aa ab fun bt aT a5=>nl<|ae<|ak fun al=>au (.slice a n cp)<|au (aj k)<|p (ss bJ aa aa ab)<|ay<|al<|rt<|br<|tr<|tr<|br<|tr<|bc aa ?_
 have ai:d.toList.take (i+i2)=d.toList:=e9<|by rw [sA]; omega
 rw [ai] at Y
 have a1:k=(gz d.toList).length:=by rw [← Y,ee,sA]; omega
 refine ⟨k,aa,a1,?_,Md.trans ap aT⟩
 have aw:=G7 a5 (show k≤n by omega)<|A3 hO ab
 rw [Nat.mul_one,List.take_append,e9 (l:=(LE aX C).take k) (by rw [ee]; omega),ee,tZ,show k - min k C.size=0 by omega,ph,List.append_nil,V5,Y] at aw
 exact aw
 have a3:¬d[i - 1]! =d[i]! :=ab
 exact aR<|bn<|an<|rg aa<|au (aj i)<|p (ad aa aa<|cC ab)<|p aE<|nl<|tn<|⟨_,ab,i+1,ab,(by rw [vN ab ab,if_neg a3,V,xG ab]),(Md.trans G (Md.refl _ _).drew),aa,aa,aa⟩
 refine ext<|bh<|bh<|be<|am<|ak fun an=>au (.slice a n cp)<|p (cj (.slice a n cp) aa)<|nl<|an<|rt<|bc aa ?_
 rw [show d.toList.take i=d.toList from e9 (by rw [sA]; omega)] at V
 exact ⟨n,aa,by rw [V,sA]; omega,by rw [V]; exact a8 hO G,G.mono fun _ _ h=>h.elim⟩
theorem xc (l:List Nat) (a:Option Addr) (c:Nat) (w:World) (V:aG w.heap a (l.map aX)) (ai:a=none→l.length=0) (aj:l.length≤255):
 bf ao 206 (ba [.slice a l.length c]) w (fun v w'=>bq w' w.heap.size 95 1 v (kT l).length ((kT l).map aX)∧Wk w w'):=by
 refine enter func206 aa ntmps206 aa<|ak fun I=>ay<|I<|ak fun J=>au (.slice a l.length c)<|e<|cl rN (rP a l.length c (l.map aX) _ V (by simp) ai (rG l) ab) aa fun v5 aq ae=> ?_
 obtain ⟨C,Y⟩:=ae
 obtain ⟨q,A,rfl⟩:=cT C
 rw [SL] at C
 refine ay<|J<|ak fun M=>au (.slice q l.length A)<|e<|cl Mf (Vr l.toArray w.heap.size l.length A q _ C aj) aa fun ap av ag=> ?_
 obtain ⟨d1,rfl,al,am,E,ac⟩:=ag
 refine nl<|M<|ak fun O=>au (.slice q l.length A)<|e<|cl Mg (N3 d1 w.heap.size l.length A q _ E ab) aa fun v9 an ah=> ?_
 obtain ⟨k,rfl,hk,G,ad⟩:=ah
 have Z:Wk w an:=Wk.own (Wk.own Y C ac<|cz _) E ad<|cz _
 refine ay<|O<|rt<|bc aa ?_
 rw [Vq al am] at hk G
 exact ⟨by rw [← hk]; exact G,Z⟩
theorem Bj (b:UInt8) (w:World):
 bf ao 265 (ba [.int .u8 b.toNat]) w (fun v w'=>v= .bool (iq b)∧Wk w w'):=by
 refine enter func265 aa ntmps265 aa<|ak fun c=>ay<|c<|ak fun a=>au (.int .u8 b.toNat)<|p (gt aa aa)<|p mv<|gs (t:=5) aa (fun C=> ?_) fun C=> ?_
 refine aY aa (aJ (.int .u8 b.toNat) aa)<|aY aa (lt aa aa)<|p (bR aa)<|p mv<|gs (t:=9) aa (fun E=> ?_) fun E=> ?_
 refine aY aa (aJ (.int .u8 b.toNat) aa)<|aY aa (gE aa aa)<|p (bR aa)<|p mv<|gs (t:=13) aa (fun q=> ?_) fun q=> ?_
 refine aY aa (aJ (.int .u8 b.toNat) aa)<|aY aa (gE aa aa)<|p (bR aa)<|p mv<|gs (t:=17) aa (fun A=> ?_) fun A=> ?_
 exact aY aa (aJ (.int .u8 b.toNat) aa)<|aY aa (gE aa aa)<|p (bR aa)<|ay<|a<|rt<|bc aa<|⟨by show bU (decide _)=_; rw [ur]; exact bv (by constructor <;> intro h <;> first | exact ⟨ab,ab,ab,ab,h⟩ | exact h.2.2.2.2),Md.refl _ _⟩
 exact aT aa<|aT aa<|p (bI aa)<|ay<|a<|rt<|bc aa<|⟨by show bU false =_; rw [ur,decide_eq_false ab],Md.refl _ _⟩
 exact aT aa<|aT aa<|p (bI aa)<|p mv<|aT aa<|aT aa<|p (bI aa)<|p aE<|nl<|a<|rt<|bc aa<|⟨by show bU false =_; rw [ur,decide_eq_false ab],Md.refl _ _⟩
 exact aT aa<|aT aa<|p (bI aa)<|p mv<|aT aa<|aT aa<|p (bI aa)<|p mv<|aT aa<|aT aa<|p (bI aa)<|ay<|a<|rt<|bc aa<|⟨by show bU false =_; rw [ur,decide_eq_false ab],Md.refl _ _⟩
 exact aT aa<|aT aa<|p (bI aa)<|p mv<|aT aa<|aT aa<|p (bI aa)<|p mv<|aT aa<|aT aa<|p (bI aa)<|p mv<|aT aa<|aT aa<|p (bI aa)<|p aE<|nl<|a<|rt<|bc aa<|⟨by show bU false =_; rw [ur,decide_eq_false ab],Md.refl _ _⟩
theorem Ge (k:Nat) (w:World):
 bf ao 236 (ba [aj k]) w (fun v w'=>v= .bool (decide (1≤k∧k≤3))∧Wk w w'):=by
 refine enter func236 aa ntmps236 aa<|ak fun c=>ay<|c<|ak fun a=>au (aj k)<|p (ge aa aa)<|p mv<|gs (t:=5) aa (fun q=> ?_) fun q=> ?_
 exact aY aa (aJ (aj k) aa)<|aY aa (le aa aa)<|p (bR aa)<|ay<|a<|rt<|bc aa<|⟨by show bU (decide _)=_; exact bv ab,Md.refl _ _⟩
 exact aT aa<|aT aa<|p (bI aa)<|ay<|a<|rt<|bc aa<|⟨by show bU false =_; rw [decide_eq_false ab],Md.refl _ _⟩
end Go.Hb.fj
end
